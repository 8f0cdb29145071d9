/-
  No cell of these rows narrows 'for every input' (looked for: loops, veiled, ifaces, maps, wideKeys, modest, calm, conditions, laid).
  DERIVED. THE GIVEN ROWS OF THIS SEAT. 5 by the template 'for every input the law returns true; each argument reads behind the call as it read before'; 0 by the template 'total and deterministic' (their statements: YtcikngokiodabaaTotals.lean).
  GIVEN WITH THE SEED: the statements are not yours to turn. If you find one false, say at which input.
  Laid BY PROGRAM, IN A SANDBOX (cutbox-rows.mjs): the forced cells as the released guide's own fill.sh prints them over the translation e2dcb675cf7908de… (all of the seat's roots in one cut). By AI agents, Wed Nov 11 2026. No macro, syntax, notation, axiom, sorry.
-/
import Derived.Test.YtcikngokiodabaaChecked
import GoSem.Claim
import GoSem.ClaimJoined
import GoSem.ClaimMapViews
import Derived.JoinedTies
import Derived.KernelRfl
namespace Go.Proofs.Ytcikngokiodabaa
/- THE CELL 'sum', in the pinned program and in every row, IS THE sha256 OF THE DUMP (.gsa) THAT YtcikngokiodabaaProg.lean LOADS. Nothing in Lean hashes anything: it is a label: what it is worth is what the hold of that sum in a sandbox is worth. -/
noncomputable def Try.pinned : Pinned := { name := "ytcikngokiodabaa", sum := "e2dcb675cf7908deade4a0ec079188919b2b45557bb072adc11131cd9964cbdc", checked := Try.checked }
namespace Rows
def none {H : Type} : Left H := { results := [], args := [] }

/-- 'manteletlaw13.RankTells': WHATEVER THE INPUT: true; the input reads as it did. -/
def rankTellsSpec : ChangeSpec := { name := "rankTells", fn := fun _ => fun
  | [d1, d2, d3] => { results := [.lit (.bool true)], args := [d1, d2, d3] }
  | _ => none }
def rankTellsRow : OpenClaim := { program := "ytcikngokiodabaa", sum := "e2dcb675cf7908deade4a0ec079188919b2b45557bb072adc11131cd9964cbdc", func := "mantelet/manteletlaw13.RankTells", spec := "rankTells", unfollowed := true, recurses := true, apart := false }
def RankTellsSaid : Prop := rankTellsRow.holds Try.pinned (OpenSpec.ofChange rankTellsSpec)

/-- ITS FALSE NEIGHBOUR: 'it returns false'. Refute it at one input. -/
def rankTellsWrong : ChangeSpec := { name := "rankTells", fn := fun _ => fun
  | [d1, d2, d3] => { results := [.lit (.bool false)], args := [d1, d2, d3] }
  | _ => none }
def RankTellsWrongFalsely : Prop := rankTellsRow.holds Try.pinned (OpenSpec.ofChange rankTellsWrong)

/-- 'manteletlaw13.RankOrder': WHATEVER THE INPUT: true; the input reads as it did. -/
def rankOrderSpec : ChangeSpec := { name := "rankOrder", fn := fun _ => fun
  | [d] => { results := [.lit (.bool true)], args := [d] }
  | _ => none }
def rankOrderRow : OpenClaim := { program := "ytcikngokiodabaa", sum := "e2dcb675cf7908deade4a0ec079188919b2b45557bb072adc11131cd9964cbdc", func := "mantelet/manteletlaw13.RankOrder", spec := "rankOrder", unfollowed := true, recurses := true, apart := false }
def RankOrderSaid : Prop := rankOrderRow.holds Try.pinned (OpenSpec.ofChange rankOrderSpec)

/-- ITS FALSE NEIGHBOUR: 'it returns false'. Refute it at one input. -/
def rankOrderWrong : ChangeSpec := { name := "rankOrder", fn := fun _ => fun
  | [d] => { results := [.lit (.bool false)], args := [d] }
  | _ => none }
def RankOrderWrongFalsely : Prop := rankOrderRow.holds Try.pinned (OpenSpec.ofChange rankOrderWrong)

/-- 'manteletlaw13.RankTwice': WHATEVER THE INPUT: true; the input reads as it did. -/
def rankTwiceSpec : ChangeSpec := { name := "rankTwice", fn := fun _ => fun
  | [d1, d2, d3] => { results := [.lit (.bool true)], args := [d1, d2, d3] }
  | _ => none }
def rankTwiceRow : OpenClaim := { program := "ytcikngokiodabaa", sum := "e2dcb675cf7908deade4a0ec079188919b2b45557bb072adc11131cd9964cbdc", func := "mantelet/manteletlaw13.RankTwice", spec := "rankTwice", unfollowed := true, recurses := true, apart := false }
def RankTwiceSaid : Prop := rankTwiceRow.holds Try.pinned (OpenSpec.ofChange rankTwiceSpec)

/-- ITS FALSE NEIGHBOUR: 'it returns false'. Refute it at one input. -/
def rankTwiceWrong : ChangeSpec := { name := "rankTwice", fn := fun _ => fun
  | [d1, d2, d3] => { results := [.lit (.bool false)], args := [d1, d2, d3] }
  | _ => none }
def RankTwiceWrongFalsely : Prop := rankTwiceRow.holds Try.pinned (OpenSpec.ofChange rankTwiceWrong)

/-- 'manteletlaw13.RankHalves': WHATEVER THE INPUT: true; the input reads as it did. -/
def rankHalvesSpec : ChangeSpec := { name := "rankHalves", fn := fun _ => fun
  | [d1, d2] => { results := [.lit (.bool true)], args := [d1, d2] }
  | _ => none }
def rankHalvesRow : OpenClaim := { program := "ytcikngokiodabaa", sum := "e2dcb675cf7908deade4a0ec079188919b2b45557bb072adc11131cd9964cbdc", func := "mantelet/manteletlaw13.RankHalves", spec := "rankHalves", unfollowed := true, recurses := true, apart := false }
def RankHalvesSaid : Prop := rankHalvesRow.holds Try.pinned (OpenSpec.ofChange rankHalvesSpec)

/-- ITS FALSE NEIGHBOUR: 'it returns false'. Refute it at one input. -/
def rankHalvesWrong : ChangeSpec := { name := "rankHalves", fn := fun _ => fun
  | [d1, d2] => { results := [.lit (.bool false)], args := [d1, d2] }
  | _ => none }
def RankHalvesWrongFalsely : Prop := rankHalvesRow.holds Try.pinned (OpenSpec.ofChange rankHalvesWrong)

/-- 'manteletlaw13.RankMoves': WHATEVER THE INPUT: true; the input reads as it did. -/
def rankMovesSpec : ChangeSpec := { name := "rankMoves", fn := fun _ => fun
  | [d1, d2, d3] => { results := [.lit (.bool true)], args := [d1, d2, d3] }
  | _ => none }
def rankMovesRow : OpenClaim := { program := "ytcikngokiodabaa", sum := "e2dcb675cf7908deade4a0ec079188919b2b45557bb072adc11131cd9964cbdc", func := "mantelet/manteletlaw13.RankMoves", spec := "rankMoves", unfollowed := true, recurses := true, apart := false }
def RankMovesSaid : Prop := rankMovesRow.holds Try.pinned (OpenSpec.ofChange rankMovesSpec)

/-- ITS FALSE NEIGHBOUR: 'it returns false'. Refute it at one input. -/
def rankMovesWrong : ChangeSpec := { name := "rankMoves", fn := fun _ => fun
  | [d1, d2, d3] => { results := [.lit (.bool false)], args := [d1, d2, d3] }
  | _ => none }
def RankMovesWrongFalsely : Prop := rankMovesRow.holds Try.pinned (OpenSpec.ofChange rankMovesWrong)

/- THE SECOND FORM. 'bulk': how many values and letters a reading holds, each counted each time it is reached (what is shared counts as often as it is met; a slice's spare places count too). A statement '..UptoSaid' is the law's where the arguments, and the package variables that the reading takes, are together of bulk at most 1048576: NARROWER than '..Said'. Prove '..Said' where nothing that the law and all that it calls make is longer than what came in: it says more and counts as full. Else prove '..UptoSaid'. A law counts once. -/
mutual
def uptoBulk {H : Type} : DataW H → Nat
  | .lit (.string bytes) => bytes.length + 1
  | .lit _ => 1
  | .nil => 1
  | .ptr d => uptoBulk d + 1
  | .slice elems spare => uptoBulkAll elems + uptoBulkAll spare + 1
  | .agg parts => uptoBulkAll parts + 1
  | .iface _ d => uptoBulk d + 1
  | .map entries => uptoBulkEntries entries + 1
  | .held _ => 1
def uptoBulkAll {H : Type} : List (DataW H) → Nat
  | [] => 0
  | d :: r => uptoBulk d + uptoBulkAll r
def uptoBulkEntries {H : Type} : List (Lit × DataW H) → Nat
  | [] => 0
  | x :: r => uptoBulkEntry x + uptoBulkEntries r
def uptoBulkEntry {H : Type} : Lit × DataW H → Nat
  | (.string bytes, d) => bytes.length + uptoBulk d + 1
  | (_, d) => uptoBulk d + 1
 end
def uptoSmall : (H : Type) → List (DataW H) → Bool := fun _ ds => decide (uptoBulkAll ds ≤ 1048576)
def OpenSpec.upto (s : _root_.Go.ChangeSpec) : _root_.Go.OpenSpec := { _root_.Go.OpenSpec.ofChange s with cond := some uptoSmall }

/-- 'manteletlaw13.RankTells', WHERE WHAT IT READS IS OF BULK AT MOST 1048576: true; the input reads as it did. -/
def rankTellsUptoRow : OpenClaim := { program := "ytcikngokiodabaa", sum := "e2dcb675cf7908deade4a0ec079188919b2b45557bb072adc11131cd9964cbdc", func := "mantelet/manteletlaw13.RankTells", spec := "rankTells", unfollowed := true, recurses := true, apart := false, narrowed := true }
def RankTellsUptoSaid : Prop := rankTellsUptoRow.holds Try.pinned (OpenSpec.upto rankTellsSpec)

/-- 'manteletlaw13.RankOrder', WHERE WHAT IT READS IS OF BULK AT MOST 1048576: true; the input reads as it did. -/
def rankOrderUptoRow : OpenClaim := { program := "ytcikngokiodabaa", sum := "e2dcb675cf7908deade4a0ec079188919b2b45557bb072adc11131cd9964cbdc", func := "mantelet/manteletlaw13.RankOrder", spec := "rankOrder", unfollowed := true, recurses := true, apart := false, narrowed := true }
def RankOrderUptoSaid : Prop := rankOrderUptoRow.holds Try.pinned (OpenSpec.upto rankOrderSpec)

/-- 'manteletlaw13.RankTwice', WHERE WHAT IT READS IS OF BULK AT MOST 1048576: true; the input reads as it did. -/
def rankTwiceUptoRow : OpenClaim := { program := "ytcikngokiodabaa", sum := "e2dcb675cf7908deade4a0ec079188919b2b45557bb072adc11131cd9964cbdc", func := "mantelet/manteletlaw13.RankTwice", spec := "rankTwice", unfollowed := true, recurses := true, apart := false, narrowed := true }
def RankTwiceUptoSaid : Prop := rankTwiceUptoRow.holds Try.pinned (OpenSpec.upto rankTwiceSpec)

/-- 'manteletlaw13.RankHalves', WHERE WHAT IT READS IS OF BULK AT MOST 1048576: true; the input reads as it did. -/
def rankHalvesUptoRow : OpenClaim := { program := "ytcikngokiodabaa", sum := "e2dcb675cf7908deade4a0ec079188919b2b45557bb072adc11131cd9964cbdc", func := "mantelet/manteletlaw13.RankHalves", spec := "rankHalves", unfollowed := true, recurses := true, apart := false, narrowed := true }
def RankHalvesUptoSaid : Prop := rankHalvesUptoRow.holds Try.pinned (OpenSpec.upto rankHalvesSpec)

/-- 'manteletlaw13.RankMoves', WHERE WHAT IT READS IS OF BULK AT MOST 1048576: true; the input reads as it did. -/
def rankMovesUptoRow : OpenClaim := { program := "ytcikngokiodabaa", sum := "e2dcb675cf7908deade4a0ec079188919b2b45557bb072adc11131cd9964cbdc", func := "mantelet/manteletlaw13.RankMoves", spec := "rankMoves", unfollowed := true, recurses := true, apart := false, narrowed := true }
def RankMovesUptoSaid : Prop := rankMovesUptoRow.holds Try.pinned (OpenSpec.upto rankMovesSpec)

end Rows
end Go.Proofs.Ytcikngokiodabaa
