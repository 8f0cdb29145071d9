/-
  No cell of these rows narrows 'for every input' (looked for: loops, veiled, ifaces, maps, wideKeys, modest, calm, conditions, laid).
  DERIVED. THE GIVEN ROWS OF THIS SEAT. 8 by the template 'for every input the law returns true; each argument reads behind the call as it read before'; 0 by the template 'total and deterministic' (their statements: YthpemcchgebecaaTotals.lean).
  GIVEN WITH THE SEED: the statements are not yours to turn. If you find one false, say at which input.
  Laid BY PROGRAM, IN A SANDBOX (cutbox-rows.mjs): the forced cells as the released guide's own fill.sh prints them over the translation 3f86e32f3bf7ca91… (all of the seat's roots in one cut). By AI agents, Wed Nov 11 2026. No macro, syntax, notation, axiom, sorry.
-/
import Derived.Test.YthpemcchgebecaaChecked
import GoSem.Claim
import GoSem.ClaimJoined
import GoSem.ClaimMapViews
import Derived.JoinedTies
import Derived.KernelRfl
namespace Go.Proofs.Ythpemcchgebecaa
/- THE CELL 'sum', in the pinned program and in every row, IS THE sha256 OF THE DUMP (.gsa) THAT YthpemcchgebecaaProg.lean LOADS. Nothing in Lean hashes anything: it is a label: what it is worth is what the hold of that sum in a sandbox is worth. -/
noncomputable def Try.pinned : Pinned := { name := "ythpemcchgebecaa", sum := "3f86e32f3bf7ca912d2176c7559d06d6e7e753e146a9ba577ec31ea981cacf91", checked := Try.checked }
namespace Rows
def none {H : Type} : Left H := { results := [], args := [] }

/-- 'manteletlaw05.FoldTells': WHATEVER THE INPUT: true; the input reads as it did. -/
def foldTellsSpec : ChangeSpec := { name := "foldTells", fn := fun _ => fun
  | [d1, d2] => { results := [.lit (.bool true)], args := [d1, d2] }
  | _ => none }
def foldTellsRow : OpenClaim := { program := "ythpemcchgebecaa", sum := "3f86e32f3bf7ca912d2176c7559d06d6e7e753e146a9ba577ec31ea981cacf91", func := "mantelet/manteletlaw05.FoldTells", spec := "foldTells", inPlace := ["internal/abi.NoEscape"], unfollowed := true, recurses := true, apart := false }
def FoldTellsSaid : Prop := foldTellsRow.holds Try.pinned (OpenSpec.ofChange foldTellsSpec)

/-- ITS FALSE NEIGHBOUR: 'it returns false'. Refute it at one input. -/
def foldTellsWrong : ChangeSpec := { name := "foldTells", fn := fun _ => fun
  | [d1, d2] => { results := [.lit (.bool false)], args := [d1, d2] }
  | _ => none }
def FoldTellsWrongFalsely : Prop := foldTellsRow.holds Try.pinned (OpenSpec.ofChange foldTellsWrong)

/-- 'manteletlaw05.FoldAll': WHATEVER THE INPUT: true; the input reads as it did. -/
def foldAllSpec : ChangeSpec := { name := "foldAll", fn := fun _ => fun
  | [d] => { results := [.lit (.bool true)], args := [d] }
  | _ => none }
def foldAllRow : OpenClaim := { program := "ythpemcchgebecaa", sum := "3f86e32f3bf7ca912d2176c7559d06d6e7e753e146a9ba577ec31ea981cacf91", func := "mantelet/manteletlaw05.FoldAll", spec := "foldAll", inPlace := ["internal/abi.NoEscape"], unfollowed := true, recurses := true, apart := false }
def FoldAllSaid : Prop := foldAllRow.holds Try.pinned (OpenSpec.ofChange foldAllSpec)

/-- ITS FALSE NEIGHBOUR: 'it returns false'. Refute it at one input. -/
def foldAllWrong : ChangeSpec := { name := "foldAll", fn := fun _ => fun
  | [d] => { results := [.lit (.bool false)], args := [d] }
  | _ => none }
def FoldAllWrongFalsely : Prop := foldAllRow.holds Try.pinned (OpenSpec.ofChange foldAllWrong)

/-- 'manteletlaw05.FoldTwice': WHATEVER THE INPUT: true; the input reads as it did. -/
def foldTwiceSpec : ChangeSpec := { name := "foldTwice", fn := fun _ => fun
  | [d] => { results := [.lit (.bool true)], args := [d] }
  | _ => none }
def foldTwiceRow : OpenClaim := { program := "ythpemcchgebecaa", sum := "3f86e32f3bf7ca912d2176c7559d06d6e7e753e146a9ba577ec31ea981cacf91", func := "mantelet/manteletlaw05.FoldTwice", spec := "foldTwice", inPlace := ["internal/abi.NoEscape"], unfollowed := true, recurses := true, apart := false }
def FoldTwiceSaid : Prop := foldTwiceRow.holds Try.pinned (OpenSpec.ofChange foldTwiceSpec)

/-- ITS FALSE NEIGHBOUR: 'it returns false'. Refute it at one input. -/
def foldTwiceWrong : ChangeSpec := { name := "foldTwice", fn := fun _ => fun
  | [d] => { results := [.lit (.bool false)], args := [d] }
  | _ => none }
def FoldTwiceWrongFalsely : Prop := foldTwiceRow.holds Try.pinned (OpenSpec.ofChange foldTwiceWrong)

/-- 'manteletlaw05.FoldTexts': WHATEVER THE INPUT: true; the input reads as it did. -/
def foldTextsSpec : ChangeSpec := { name := "foldTexts", fn := fun _ => fun
  | [d1, d2] => { results := [.lit (.bool true)], args := [d1, d2] }
  | _ => none }
def foldTextsRow : OpenClaim := { program := "ythpemcchgebecaa", sum := "3f86e32f3bf7ca912d2176c7559d06d6e7e753e146a9ba577ec31ea981cacf91", func := "mantelet/manteletlaw05.FoldTexts", spec := "foldTexts", inPlace := ["internal/abi.NoEscape"], unfollowed := true, recurses := true, apart := false }
def FoldTextsSaid : Prop := foldTextsRow.holds Try.pinned (OpenSpec.ofChange foldTextsSpec)

/-- ITS FALSE NEIGHBOUR: 'it returns false'. Refute it at one input. -/
def foldTextsWrong : ChangeSpec := { name := "foldTexts", fn := fun _ => fun
  | [d1, d2] => { results := [.lit (.bool false)], args := [d1, d2] }
  | _ => none }
def FoldTextsWrongFalsely : Prop := foldTextsRow.holds Try.pinned (OpenSpec.ofChange foldTextsWrong)

/-- 'manteletlaw05.FoldPlain': WHATEVER THE INPUT: true; the input reads as it did. -/
def foldPlainSpec : ChangeSpec := { name := "foldPlain", fn := fun _ => fun
  | [d] => { results := [.lit (.bool true)], args := [d] }
  | _ => none }
def foldPlainRow : OpenClaim := { program := "ythpemcchgebecaa", sum := "3f86e32f3bf7ca912d2176c7559d06d6e7e753e146a9ba577ec31ea981cacf91", func := "mantelet/manteletlaw05.FoldPlain", spec := "foldPlain", inPlace := ["internal/abi.NoEscape"], unfollowed := true, recurses := true, apart := false }
def FoldPlainSaid : Prop := foldPlainRow.holds Try.pinned (OpenSpec.ofChange foldPlainSpec)

/-- ITS FALSE NEIGHBOUR: 'it returns false'. Refute it at one input. -/
def foldPlainWrong : ChangeSpec := { name := "foldPlain", fn := fun _ => fun
  | [d] => { results := [.lit (.bool false)], args := [d] }
  | _ => none }
def FoldPlainWrongFalsely : Prop := foldPlainRow.holds Try.pinned (OpenSpec.ofChange foldPlainWrong)

/-- 'manteletlaw07.TokenAll': WHATEVER THE INPUT: true; the input reads as it did. -/
def tokenAllSpec : ChangeSpec := { name := "tokenAll", fn := fun _ => fun
  | [d] => { results := [.lit (.bool true)], args := [d] }
  | _ => none }
def tokenAllRow : OpenClaim := { program := "ythpemcchgebecaa", sum := "3f86e32f3bf7ca912d2176c7559d06d6e7e753e146a9ba577ec31ea981cacf91", func := "mantelet/manteletlaw07.TokenAll", spec := "tokenAll", unfollowed := true, recurses := true, apart := false }
def TokenAllSaid : Prop := tokenAllRow.holds Try.pinned (OpenSpec.ofChange tokenAllSpec)

/-- ITS FALSE NEIGHBOUR: 'it returns false'. Refute it at one input. -/
def tokenAllWrong : ChangeSpec := { name := "tokenAll", fn := fun _ => fun
  | [d] => { results := [.lit (.bool false)], args := [d] }
  | _ => none }
def TokenAllWrongFalsely : Prop := tokenAllRow.holds Try.pinned (OpenSpec.ofChange tokenAllWrong)

/-- 'manteletlaw07.TokenMany': WHATEVER THE INPUT: true; the input reads as it did. -/
def tokenManySpec : ChangeSpec := { name := "tokenMany", fn := fun _ => fun
  | [d1, d2] => { results := [.lit (.bool true)], args := [d1, d2] }
  | _ => none }
def tokenManyRow : OpenClaim := { program := "ythpemcchgebecaa", sum := "3f86e32f3bf7ca912d2176c7559d06d6e7e753e146a9ba577ec31ea981cacf91", func := "mantelet/manteletlaw07.TokenMany", spec := "tokenMany", unfollowed := true, recurses := true, apart := false }
def TokenManySaid : Prop := tokenManyRow.holds Try.pinned (OpenSpec.ofChange tokenManySpec)

/-- ITS FALSE NEIGHBOUR: 'it returns false'. Refute it at one input. -/
def tokenManyWrong : ChangeSpec := { name := "tokenMany", fn := fun _ => fun
  | [d1, d2] => { results := [.lit (.bool false)], args := [d1, d2] }
  | _ => none }
def TokenManyWrongFalsely : Prop := tokenManyRow.holds Try.pinned (OpenSpec.ofChange tokenManyWrong)

/-- 'manteletlaw07.TokenJoins': WHATEVER THE INPUT: true; the input reads as it did. -/
def tokenJoinsSpec : ChangeSpec := { name := "tokenJoins", fn := fun _ => fun
  | [d1, d2] => { results := [.lit (.bool true)], args := [d1, d2] }
  | _ => none }
def tokenJoinsRow : OpenClaim := { program := "ythpemcchgebecaa", sum := "3f86e32f3bf7ca912d2176c7559d06d6e7e753e146a9ba577ec31ea981cacf91", func := "mantelet/manteletlaw07.TokenJoins", spec := "tokenJoins", unfollowed := true, recurses := true, apart := false }
def TokenJoinsSaid : Prop := tokenJoinsRow.holds Try.pinned (OpenSpec.ofChange tokenJoinsSpec)

/-- ITS FALSE NEIGHBOUR: 'it returns false'. Refute it at one input. -/
def tokenJoinsWrong : ChangeSpec := { name := "tokenJoins", fn := fun _ => fun
  | [d1, d2] => { results := [.lit (.bool false)], args := [d1, d2] }
  | _ => none }
def TokenJoinsWrongFalsely : Prop := tokenJoinsRow.holds Try.pinned (OpenSpec.ofChange tokenJoinsWrong)

/- THE SECOND FORM. 'bulk': how many values and letters a reading holds, each counted each time it is reached (what is shared counts as often as it is met; a slice's spare places count too). A statement '..UptoSaid' is the law's where the arguments, and the package variables that the reading takes, are together of bulk at most 1048576: NARROWER than '..Said'. Prove '..Said' where nothing that the law and all that it calls make is longer than what came in: it says more and counts as full. Else prove '..UptoSaid'. A law counts once. -/
mutual
def uptoBulk {H : Type} : DataW H → Nat
  | .lit (.string bytes) => bytes.length + 1
  | .lit _ => 1
  | .nil => 1
  | .ptr d => uptoBulk d + 1
  | .slice elems spare => uptoBulkAll elems + uptoBulkAll spare + 1
  | .agg parts => uptoBulkAll parts + 1
  | .iface _ d => uptoBulk d + 1
  | .map entries => uptoBulkEntries entries + 1
  | .held _ => 1
def uptoBulkAll {H : Type} : List (DataW H) → Nat
  | [] => 0
  | d :: r => uptoBulk d + uptoBulkAll r
def uptoBulkEntries {H : Type} : List (Lit × DataW H) → Nat
  | [] => 0
  | x :: r => uptoBulkEntry x + uptoBulkEntries r
def uptoBulkEntry {H : Type} : Lit × DataW H → Nat
  | (.string bytes, d) => bytes.length + uptoBulk d + 1
  | (_, d) => uptoBulk d + 1
 end
def uptoSmall : (H : Type) → List (DataW H) → Bool := fun _ ds => decide (uptoBulkAll ds ≤ 1048576)
def OpenSpec.upto (s : _root_.Go.ChangeSpec) : _root_.Go.OpenSpec := { _root_.Go.OpenSpec.ofChange s with cond := some uptoSmall }

/-- 'manteletlaw05.FoldTells', WHERE WHAT IT READS IS OF BULK AT MOST 1048576: true; the input reads as it did. -/
def foldTellsUptoRow : OpenClaim := { program := "ythpemcchgebecaa", sum := "3f86e32f3bf7ca912d2176c7559d06d6e7e753e146a9ba577ec31ea981cacf91", func := "mantelet/manteletlaw05.FoldTells", spec := "foldTells", inPlace := ["internal/abi.NoEscape"], unfollowed := true, recurses := true, apart := false, narrowed := true }
def FoldTellsUptoSaid : Prop := foldTellsUptoRow.holds Try.pinned (OpenSpec.upto foldTellsSpec)

/-- 'manteletlaw05.FoldAll', WHERE WHAT IT READS IS OF BULK AT MOST 1048576: true; the input reads as it did. -/
def foldAllUptoRow : OpenClaim := { program := "ythpemcchgebecaa", sum := "3f86e32f3bf7ca912d2176c7559d06d6e7e753e146a9ba577ec31ea981cacf91", func := "mantelet/manteletlaw05.FoldAll", spec := "foldAll", inPlace := ["internal/abi.NoEscape"], unfollowed := true, recurses := true, apart := false, narrowed := true }
def FoldAllUptoSaid : Prop := foldAllUptoRow.holds Try.pinned (OpenSpec.upto foldAllSpec)

/-- 'manteletlaw05.FoldTwice', WHERE WHAT IT READS IS OF BULK AT MOST 1048576: true; the input reads as it did. -/
def foldTwiceUptoRow : OpenClaim := { program := "ythpemcchgebecaa", sum := "3f86e32f3bf7ca912d2176c7559d06d6e7e753e146a9ba577ec31ea981cacf91", func := "mantelet/manteletlaw05.FoldTwice", spec := "foldTwice", inPlace := ["internal/abi.NoEscape"], unfollowed := true, recurses := true, apart := false, narrowed := true }
def FoldTwiceUptoSaid : Prop := foldTwiceUptoRow.holds Try.pinned (OpenSpec.upto foldTwiceSpec)

/-- 'manteletlaw05.FoldTexts', WHERE WHAT IT READS IS OF BULK AT MOST 1048576: true; the input reads as it did. -/
def foldTextsUptoRow : OpenClaim := { program := "ythpemcchgebecaa", sum := "3f86e32f3bf7ca912d2176c7559d06d6e7e753e146a9ba577ec31ea981cacf91", func := "mantelet/manteletlaw05.FoldTexts", spec := "foldTexts", inPlace := ["internal/abi.NoEscape"], unfollowed := true, recurses := true, apart := false, narrowed := true }
def FoldTextsUptoSaid : Prop := foldTextsUptoRow.holds Try.pinned (OpenSpec.upto foldTextsSpec)

/-- 'manteletlaw05.FoldPlain', WHERE WHAT IT READS IS OF BULK AT MOST 1048576: true; the input reads as it did. -/
def foldPlainUptoRow : OpenClaim := { program := "ythpemcchgebecaa", sum := "3f86e32f3bf7ca912d2176c7559d06d6e7e753e146a9ba577ec31ea981cacf91", func := "mantelet/manteletlaw05.FoldPlain", spec := "foldPlain", inPlace := ["internal/abi.NoEscape"], unfollowed := true, recurses := true, apart := false, narrowed := true }
def FoldPlainUptoSaid : Prop := foldPlainUptoRow.holds Try.pinned (OpenSpec.upto foldPlainSpec)

/-- 'manteletlaw07.TokenAll', WHERE WHAT IT READS IS OF BULK AT MOST 1048576: true; the input reads as it did. -/
def tokenAllUptoRow : OpenClaim := { program := "ythpemcchgebecaa", sum := "3f86e32f3bf7ca912d2176c7559d06d6e7e753e146a9ba577ec31ea981cacf91", func := "mantelet/manteletlaw07.TokenAll", spec := "tokenAll", unfollowed := true, recurses := true, apart := false, narrowed := true }
def TokenAllUptoSaid : Prop := tokenAllUptoRow.holds Try.pinned (OpenSpec.upto tokenAllSpec)

/-- 'manteletlaw07.TokenMany', WHERE WHAT IT READS IS OF BULK AT MOST 1048576: true; the input reads as it did. -/
def tokenManyUptoRow : OpenClaim := { program := "ythpemcchgebecaa", sum := "3f86e32f3bf7ca912d2176c7559d06d6e7e753e146a9ba577ec31ea981cacf91", func := "mantelet/manteletlaw07.TokenMany", spec := "tokenMany", unfollowed := true, recurses := true, apart := false, narrowed := true }
def TokenManyUptoSaid : Prop := tokenManyUptoRow.holds Try.pinned (OpenSpec.upto tokenManySpec)

/-- 'manteletlaw07.TokenJoins', WHERE WHAT IT READS IS OF BULK AT MOST 1048576: true; the input reads as it did. -/
def tokenJoinsUptoRow : OpenClaim := { program := "ythpemcchgebecaa", sum := "3f86e32f3bf7ca912d2176c7559d06d6e7e753e146a9ba577ec31ea981cacf91", func := "mantelet/manteletlaw07.TokenJoins", spec := "tokenJoins", unfollowed := true, recurses := true, apart := false, narrowed := true }
def TokenJoinsUptoSaid : Prop := tokenJoinsUptoRow.holds Try.pinned (OpenSpec.upto tokenJoinsSpec)

end Rows
end Go.Proofs.Ythpemcchgebecaa
