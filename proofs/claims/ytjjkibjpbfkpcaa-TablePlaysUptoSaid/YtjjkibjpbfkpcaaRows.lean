/-
  No cell of these rows narrows 'for every input' (looked for: loops, veiled, ifaces, maps, wideKeys, modest, calm, conditions, laid).
  DERIVED. THE GIVEN ROWS OF THIS SEAT. 6 by the template 'for every input the law returns true; each argument reads behind the call as it read before'; 0 by the template 'total and deterministic' (their statements: YtjjkibjpbfkpcaaTotals.lean).
  GIVEN WITH THE SEED: the statements are not yours to turn. If you find one false, say at which input.
  Laid BY PROGRAM, IN A SANDBOX (cutbox-rows.mjs): the forced cells as the released guide's own fill.sh prints them over the translation 65720818ddcad541… (all of the seat's roots in one cut). By AI agents, Wed Nov 11 2026. No macro, syntax, notation, axiom, sorry.
-/
import Derived.Test.YtjjkibjpbfkpcaaChecked
import GoSem.Claim
import GoSem.ClaimJoined
import GoSem.ClaimMapViews
import Derived.JoinedTies
import Derived.KernelRfl
namespace Go.Proofs.Ytjjkibjpbfkpcaa
/- THE CELL 'sum', in the pinned program and in every row, IS THE sha256 OF THE DUMP (.gsa) THAT YtjjkibjpbfkpcaaProg.lean LOADS. Nothing in Lean hashes anything: it is a label: what it is worth is what the hold of that sum in a sandbox is worth. -/
noncomputable def Try.pinned : Pinned := { name := "ytjjkibjpbfkpcaa", sum := "65720818ddcad5411a31d051654ec1720c90affe26a5761ab8584f8d55c1d476", checked := Try.checked }
namespace Rows
def none {H : Type} : Left H := { results := [], args := [] }

/-- 'manteletlaw08.TableOrder': WHATEVER THE INPUT: true; the input reads as it did. -/
def tableOrderSpec : ChangeSpec := { name := "tableOrder", fn := fun _ => fun
  | [d1, d2] => { results := [.lit (.bool true)], args := [d1, d2] }
  | _ => none }
def tableOrderRow : OpenClaim := { program := "ytjjkibjpbfkpcaa", sum := "65720818ddcad5411a31d051654ec1720c90affe26a5761ab8584f8d55c1d476", func := "mantelet/manteletlaw08.TableOrder", spec := "tableOrder", inPlace := ["internal/bytealg.abigen_runtime_cmpstring"], unfollowed := true, recurses := true, apart := false }
def TableOrderSaid : Prop := tableOrderRow.holds Try.pinned (OpenSpec.ofChange tableOrderSpec)

/-- ITS FALSE NEIGHBOUR: 'it returns false'. Refute it at one input. -/
def tableOrderWrong : ChangeSpec := { name := "tableOrder", fn := fun _ => fun
  | [d1, d2] => { results := [.lit (.bool false)], args := [d1, d2] }
  | _ => none }
def TableOrderWrongFalsely : Prop := tableOrderRow.holds Try.pinned (OpenSpec.ofChange tableOrderWrong)

/-- 'manteletlaw08.TableCounts': WHATEVER THE INPUT: true; the input reads as it did. -/
def tableCountsSpec : ChangeSpec := { name := "tableCounts", fn := fun _ => fun
  | [d] => { results := [.lit (.bool true)], args := [d] }
  | _ => none }
def tableCountsRow : OpenClaim := { program := "ytjjkibjpbfkpcaa", sum := "65720818ddcad5411a31d051654ec1720c90affe26a5761ab8584f8d55c1d476", func := "mantelet/manteletlaw08.TableCounts", spec := "tableCounts", inPlace := ["internal/bytealg.abigen_runtime_cmpstring"], unfollowed := true, recurses := true, apart := false }
def TableCountsSaid : Prop := tableCountsRow.holds Try.pinned (OpenSpec.ofChange tableCountsSpec)

/-- ITS FALSE NEIGHBOUR: 'it returns false'. Refute it at one input. -/
def tableCountsWrong : ChangeSpec := { name := "tableCounts", fn := fun _ => fun
  | [d] => { results := [.lit (.bool false)], args := [d] }
  | _ => none }
def TableCountsWrongFalsely : Prop := tableCountsRow.holds Try.pinned (OpenSpec.ofChange tableCountsWrong)

/-- 'manteletlaw08.TablePlays': WHATEVER THE INPUT: true; the input reads as it did. -/
def tablePlaysSpec : ChangeSpec := { name := "tablePlays", fn := fun _ => fun
  | [d1, d2] => { results := [.lit (.bool true)], args := [d1, d2] }
  | _ => none }
def tablePlaysRow : OpenClaim := { program := "ytjjkibjpbfkpcaa", sum := "65720818ddcad5411a31d051654ec1720c90affe26a5761ab8584f8d55c1d476", func := "mantelet/manteletlaw08.TablePlays", spec := "tablePlays", inPlace := ["internal/bytealg.abigen_runtime_cmpstring"], unfollowed := true, recurses := true, apart := false }
def TablePlaysSaid : Prop := tablePlaysRow.holds Try.pinned (OpenSpec.ofChange tablePlaysSpec)

/-- ITS FALSE NEIGHBOUR: 'it returns false'. Refute it at one input. -/
def tablePlaysWrong : ChangeSpec := { name := "tablePlays", fn := fun _ => fun
  | [d1, d2] => { results := [.lit (.bool false)], args := [d1, d2] }
  | _ => none }
def TablePlaysWrongFalsely : Prop := tablePlaysRow.holds Try.pinned (OpenSpec.ofChange tablePlaysWrong)

/-- 'manteletlaw08.TableMost': WHATEVER THE INPUT: true; the input reads as it did. -/
def tableMostSpec : ChangeSpec := { name := "tableMost", fn := fun _ => fun
  | [d1, d2] => { results := [.lit (.bool true)], args := [d1, d2] }
  | _ => none }
def tableMostRow : OpenClaim := { program := "ytjjkibjpbfkpcaa", sum := "65720818ddcad5411a31d051654ec1720c90affe26a5761ab8584f8d55c1d476", func := "mantelet/manteletlaw08.TableMost", spec := "tableMost", inPlace := ["internal/bytealg.abigen_runtime_cmpstring"], unfollowed := true, recurses := true, apart := false }
def TableMostSaid : Prop := tableMostRow.holds Try.pinned (OpenSpec.ofChange tableMostSpec)

/-- ITS FALSE NEIGHBOUR: 'it returns false'. Refute it at one input. -/
def tableMostWrong : ChangeSpec := { name := "tableMost", fn := fun _ => fun
  | [d1, d2] => { results := [.lit (.bool false)], args := [d1, d2] }
  | _ => none }
def TableMostWrongFalsely : Prop := tableMostRow.holds Try.pinned (OpenSpec.ofChange tableMostWrong)

/-- 'manteletlaw08.TableNobody': WHATEVER THE INPUT: true; the input reads as it did. -/
def tableNobodySpec : ChangeSpec := { name := "tableNobody", fn := fun _ => fun
  | [d1, d2] => { results := [.lit (.bool true)], args := [d1, d2] }
  | _ => none }
def tableNobodyRow : OpenClaim := { program := "ytjjkibjpbfkpcaa", sum := "65720818ddcad5411a31d051654ec1720c90affe26a5761ab8584f8d55c1d476", func := "mantelet/manteletlaw08.TableNobody", spec := "tableNobody", inPlace := ["internal/bytealg.abigen_runtime_cmpstring"], unfollowed := true, recurses := true, apart := false }
def TableNobodySaid : Prop := tableNobodyRow.holds Try.pinned (OpenSpec.ofChange tableNobodySpec)

/-- ITS FALSE NEIGHBOUR: 'it returns false'. Refute it at one input. -/
def tableNobodyWrong : ChangeSpec := { name := "tableNobody", fn := fun _ => fun
  | [d1, d2] => { results := [.lit (.bool false)], args := [d1, d2] }
  | _ => none }
def TableNobodyWrongFalsely : Prop := tableNobodyRow.holds Try.pinned (OpenSpec.ofChange tableNobodyWrong)

/-- 'manteletlaw08.TableAgain': WHATEVER THE INPUT: true; the input reads as it did. -/
def tableAgainSpec : ChangeSpec := { name := "tableAgain", fn := fun _ => fun
  | [d] => { results := [.lit (.bool true)], args := [d] }
  | _ => none }
def tableAgainRow : OpenClaim := { program := "ytjjkibjpbfkpcaa", sum := "65720818ddcad5411a31d051654ec1720c90affe26a5761ab8584f8d55c1d476", func := "mantelet/manteletlaw08.TableAgain", spec := "tableAgain", inPlace := ["internal/bytealg.abigen_runtime_cmpstring"], unfollowed := true, recurses := true, apart := false }
def TableAgainSaid : Prop := tableAgainRow.holds Try.pinned (OpenSpec.ofChange tableAgainSpec)

/-- ITS FALSE NEIGHBOUR: 'it returns false'. Refute it at one input. -/
def tableAgainWrong : ChangeSpec := { name := "tableAgain", fn := fun _ => fun
  | [d] => { results := [.lit (.bool false)], args := [d] }
  | _ => none }
def TableAgainWrongFalsely : Prop := tableAgainRow.holds Try.pinned (OpenSpec.ofChange tableAgainWrong)

/- THE SECOND FORM. 'bulk': how many values and letters a reading holds, each counted each time it is reached (what is shared counts as often as it is met; a slice's spare places count too). A statement '..UptoSaid' is the law's where the arguments, and the package variables that the reading takes, are together of bulk at most 1048576: NARROWER than '..Said'. Prove '..Said' where nothing that the law and all that it calls make is longer than what came in: it says more and counts as full. Else prove '..UptoSaid'. A law counts once. -/
mutual
def uptoBulk {H : Type} : DataW H → Nat
  | .lit (.string bytes) => bytes.length + 1
  | .lit _ => 1
  | .nil => 1
  | .ptr d => uptoBulk d + 1
  | .slice elems spare => uptoBulkAll elems + uptoBulkAll spare + 1
  | .agg parts => uptoBulkAll parts + 1
  | .iface _ d => uptoBulk d + 1
  | .map entries => uptoBulkEntries entries + 1
  | .held _ => 1
def uptoBulkAll {H : Type} : List (DataW H) → Nat
  | [] => 0
  | d :: r => uptoBulk d + uptoBulkAll r
def uptoBulkEntries {H : Type} : List (Lit × DataW H) → Nat
  | [] => 0
  | x :: r => uptoBulkEntry x + uptoBulkEntries r
def uptoBulkEntry {H : Type} : Lit × DataW H → Nat
  | (.string bytes, d) => bytes.length + uptoBulk d + 1
  | (_, d) => uptoBulk d + 1
 end
def uptoSmall : (H : Type) → List (DataW H) → Bool := fun _ ds => decide (uptoBulkAll ds ≤ 1048576)
def OpenSpec.upto (s : _root_.Go.ChangeSpec) : _root_.Go.OpenSpec := { _root_.Go.OpenSpec.ofChange s with cond := some uptoSmall }

/-- 'manteletlaw08.TableOrder', WHERE WHAT IT READS IS OF BULK AT MOST 1048576: true; the input reads as it did. -/
def tableOrderUptoRow : OpenClaim := { program := "ytjjkibjpbfkpcaa", sum := "65720818ddcad5411a31d051654ec1720c90affe26a5761ab8584f8d55c1d476", func := "mantelet/manteletlaw08.TableOrder", spec := "tableOrder", inPlace := ["internal/bytealg.abigen_runtime_cmpstring"], unfollowed := true, recurses := true, apart := false, narrowed := true }
def TableOrderUptoSaid : Prop := tableOrderUptoRow.holds Try.pinned (OpenSpec.upto tableOrderSpec)

/-- 'manteletlaw08.TableCounts', WHERE WHAT IT READS IS OF BULK AT MOST 1048576: true; the input reads as it did. -/
def tableCountsUptoRow : OpenClaim := { program := "ytjjkibjpbfkpcaa", sum := "65720818ddcad5411a31d051654ec1720c90affe26a5761ab8584f8d55c1d476", func := "mantelet/manteletlaw08.TableCounts", spec := "tableCounts", inPlace := ["internal/bytealg.abigen_runtime_cmpstring"], unfollowed := true, recurses := true, apart := false, narrowed := true }
def TableCountsUptoSaid : Prop := tableCountsUptoRow.holds Try.pinned (OpenSpec.upto tableCountsSpec)

/-- 'manteletlaw08.TablePlays', WHERE WHAT IT READS IS OF BULK AT MOST 1048576: true; the input reads as it did. -/
def tablePlaysUptoRow : OpenClaim := { program := "ytjjkibjpbfkpcaa", sum := "65720818ddcad5411a31d051654ec1720c90affe26a5761ab8584f8d55c1d476", func := "mantelet/manteletlaw08.TablePlays", spec := "tablePlays", inPlace := ["internal/bytealg.abigen_runtime_cmpstring"], unfollowed := true, recurses := true, apart := false, narrowed := true }
def TablePlaysUptoSaid : Prop := tablePlaysUptoRow.holds Try.pinned (OpenSpec.upto tablePlaysSpec)

/-- 'manteletlaw08.TableMost', WHERE WHAT IT READS IS OF BULK AT MOST 1048576: true; the input reads as it did. -/
def tableMostUptoRow : OpenClaim := { program := "ytjjkibjpbfkpcaa", sum := "65720818ddcad5411a31d051654ec1720c90affe26a5761ab8584f8d55c1d476", func := "mantelet/manteletlaw08.TableMost", spec := "tableMost", inPlace := ["internal/bytealg.abigen_runtime_cmpstring"], unfollowed := true, recurses := true, apart := false, narrowed := true }
def TableMostUptoSaid : Prop := tableMostUptoRow.holds Try.pinned (OpenSpec.upto tableMostSpec)

/-- 'manteletlaw08.TableNobody', WHERE WHAT IT READS IS OF BULK AT MOST 1048576: true; the input reads as it did. -/
def tableNobodyUptoRow : OpenClaim := { program := "ytjjkibjpbfkpcaa", sum := "65720818ddcad5411a31d051654ec1720c90affe26a5761ab8584f8d55c1d476", func := "mantelet/manteletlaw08.TableNobody", spec := "tableNobody", inPlace := ["internal/bytealg.abigen_runtime_cmpstring"], unfollowed := true, recurses := true, apart := false, narrowed := true }
def TableNobodyUptoSaid : Prop := tableNobodyUptoRow.holds Try.pinned (OpenSpec.upto tableNobodySpec)

/-- 'manteletlaw08.TableAgain', WHERE WHAT IT READS IS OF BULK AT MOST 1048576: true; the input reads as it did. -/
def tableAgainUptoRow : OpenClaim := { program := "ytjjkibjpbfkpcaa", sum := "65720818ddcad5411a31d051654ec1720c90affe26a5761ab8584f8d55c1d476", func := "mantelet/manteletlaw08.TableAgain", spec := "tableAgain", inPlace := ["internal/bytealg.abigen_runtime_cmpstring"], unfollowed := true, recurses := true, apart := false, narrowed := true }
def TableAgainUptoSaid : Prop := tableAgainUptoRow.holds Try.pinned (OpenSpec.upto tableAgainSpec)

end Rows
end Go.Proofs.Ytjjkibjpbfkpcaa
