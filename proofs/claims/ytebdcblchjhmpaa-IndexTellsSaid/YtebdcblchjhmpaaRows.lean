/-
  No cell of these rows narrows 'for every input' (looked for: loops, veiled, ifaces, maps, wideKeys, modest, calm, conditions, laid).
  DERIVED. THE GIVEN ROWS OF THIS SEAT. 10 by the template 'for every input the law returns true; each argument reads behind the call as it read before'; 0 by the template 'total and deterministic' (their statements: YtebdcblchjhmpaaTotals.lean).
  GIVEN WITH THE SEED: the statements are not yours to turn. If you find one false, say at which input.
  Laid BY PROGRAM, IN A SANDBOX (cutbox-rows.mjs): the forced cells as the released guide's own fill.sh prints them over the translation ec73cbcfb01f9b64… (all of the seat's roots in one cut). By AI agents, Wed Nov 11 2026. No macro, syntax, notation, axiom, sorry.
-/
import Derived.Test.YtebdcblchjhmpaaChecked
import GoSem.Claim
import GoSem.ClaimJoined
import GoSem.ClaimMapViews
import Derived.JoinedTies
import Derived.KernelRfl
namespace Go.Proofs.Ytebdcblchjhmpaa
/- THE CELL 'sum', in the pinned program and in every row, IS THE sha256 OF THE DUMP (.gsa) THAT YtebdcblchjhmpaaProg.lean LOADS. Nothing in Lean hashes anything: it is a label: what it is worth is what the hold of that sum in a sandbox is worth. -/
noncomputable def Try.pinned : Pinned := { name := "ytebdcblchjhmpaa", sum := "ec73cbcfb01f9b6476c0f26069530655cdab2acf344ba9759d39dc35cb23e35e", checked := Try.checked }
namespace Rows
def none {H : Type} : Left H := { results := [], args := [] }

/-- 'manteletlaw14.DawLeast': WHATEVER THE INPUT: true; the input reads as it did. -/
def dawLeastSpec : ChangeSpec := { name := "dawLeast", fn := fun _ => fun
  | [d] => { results := [.lit (.bool true)], args := [d] }
  | _ => none }
def dawLeastRow : OpenClaim := { program := "ytebdcblchjhmpaa", sum := "ec73cbcfb01f9b6476c0f26069530655cdab2acf344ba9759d39dc35cb23e35e", func := "mantelet/manteletlaw14.DawLeast", spec := "dawLeast", apart := false }
def DawLeastSaid : Prop := dawLeastRow.holds Try.pinned (OpenSpec.ofChange dawLeastSpec)

/-- ITS FALSE NEIGHBOUR: 'it returns false'. Refute it at one input. -/
def dawLeastWrong : ChangeSpec := { name := "dawLeast", fn := fun _ => fun
  | [d] => { results := [.lit (.bool false)], args := [d] }
  | _ => none }
def DawLeastWrongFalsely : Prop := dawLeastRow.holds Try.pinned (OpenSpec.ofChange dawLeastWrong)

/-- 'manteletlaw14.DawEnds': WHATEVER THE INPUT: true; the input reads as it did. -/
def dawEndsSpec : ChangeSpec := { name := "dawEnds", fn := fun _ => fun
  | [d1, d2] => { results := [.lit (.bool true)], args := [d1, d2] }
  | _ => none }
def dawEndsRow : OpenClaim := { program := "ytebdcblchjhmpaa", sum := "ec73cbcfb01f9b6476c0f26069530655cdab2acf344ba9759d39dc35cb23e35e", func := "mantelet/manteletlaw14.DawEnds", spec := "dawEnds", apart := false }
def DawEndsSaid : Prop := dawEndsRow.holds Try.pinned (OpenSpec.ofChange dawEndsSpec)

/-- ITS FALSE NEIGHBOUR: 'it returns false'. Refute it at one input. -/
def dawEndsWrong : ChangeSpec := { name := "dawEnds", fn := fun _ => fun
  | [d1, d2] => { results := [.lit (.bool false)], args := [d1, d2] }
  | _ => none }
def DawEndsWrongFalsely : Prop := dawEndsRow.holds Try.pinned (OpenSpec.ofChange dawEndsWrong)

/-- 'manteletlaw14.DawBegins': WHATEVER THE INPUT: true; the input reads as it did. -/
def dawBeginsSpec : ChangeSpec := { name := "dawBegins", fn := fun _ => fun
  | [d1, d2, d3, d4] => { results := [.lit (.bool true)], args := [d1, d2, d3, d4] }
  | _ => none }
def dawBeginsRow : OpenClaim := { program := "ytebdcblchjhmpaa", sum := "ec73cbcfb01f9b6476c0f26069530655cdab2acf344ba9759d39dc35cb23e35e", func := "mantelet/manteletlaw14.DawBegins", spec := "dawBegins", unfollowed := true, recurses := true, apart := false }
def DawBeginsSaid : Prop := dawBeginsRow.holds Try.pinned (OpenSpec.ofChange dawBeginsSpec)

/-- ITS FALSE NEIGHBOUR: 'it returns false'. Refute it at one input. -/
def dawBeginsWrong : ChangeSpec := { name := "dawBegins", fn := fun _ => fun
  | [d1, d2, d3, d4] => { results := [.lit (.bool false)], args := [d1, d2, d3, d4] }
  | _ => none }
def DawBeginsWrongFalsely : Prop := dawBeginsRow.holds Try.pinned (OpenSpec.ofChange dawBeginsWrong)

/-- 'manteletlaw15.IndexTells': WHATEVER THE INPUT: true; the input reads as it did. -/
def indexTellsSpec : ChangeSpec := { name := "indexTells", fn := fun _ => fun
  | [d1, d2, d3] => { results := [.lit (.bool true)], args := [d1, d2, d3] }
  | _ => none }
def indexTellsRow : OpenClaim := { program := "ytebdcblchjhmpaa", sum := "ec73cbcfb01f9b6476c0f26069530655cdab2acf344ba9759d39dc35cb23e35e", func := "mantelet/manteletlaw15.IndexTells", spec := "indexTells", unfollowed := true, recurses := true, apart := false }
def IndexTellsSaid : Prop := indexTellsRow.holds Try.pinned (OpenSpec.ofChange indexTellsSpec)

/-- ITS FALSE NEIGHBOUR: 'it returns false'. Refute it at one input. -/
def indexTellsWrong : ChangeSpec := { name := "indexTells", fn := fun _ => fun
  | [d1, d2, d3] => { results := [.lit (.bool false)], args := [d1, d2, d3] }
  | _ => none }
def IndexTellsWrongFalsely : Prop := indexTellsRow.holds Try.pinned (OpenSpec.ofChange indexTellsWrong)

/-- 'manteletlaw15.IndexRefuses': WHATEVER THE INPUT: true; the input reads as it did. -/
def indexRefusesSpec : ChangeSpec := { name := "indexRefuses", fn := fun _ => fun
  | [d1, d2, d3] => { results := [.lit (.bool true)], args := [d1, d2, d3] }
  | _ => none }
def indexRefusesRow : OpenClaim := { program := "ytebdcblchjhmpaa", sum := "ec73cbcfb01f9b6476c0f26069530655cdab2acf344ba9759d39dc35cb23e35e", func := "mantelet/manteletlaw15.IndexRefuses", spec := "indexRefuses", unfollowed := true, recurses := true, apart := false }
def IndexRefusesSaid : Prop := indexRefusesRow.holds Try.pinned (OpenSpec.ofChange indexRefusesSpec)

/-- ITS FALSE NEIGHBOUR: 'it returns false'. Refute it at one input. -/
def indexRefusesWrong : ChangeSpec := { name := "indexRefuses", fn := fun _ => fun
  | [d1, d2, d3] => { results := [.lit (.bool false)], args := [d1, d2, d3] }
  | _ => none }
def IndexRefusesWrongFalsely : Prop := indexRefusesRow.holds Try.pinned (OpenSpec.ofChange indexRefusesWrong)

/-- 'manteletlaw15.IndexBack': WHATEVER THE INPUT: true; the input reads as it did. -/
def indexBackSpec : ChangeSpec := { name := "indexBack", fn := fun _ => fun
  | [d] => { results := [.lit (.bool true)], args := [d] }
  | _ => none }
def indexBackRow : OpenClaim := { program := "ytebdcblchjhmpaa", sum := "ec73cbcfb01f9b6476c0f26069530655cdab2acf344ba9759d39dc35cb23e35e", func := "mantelet/manteletlaw15.IndexBack", spec := "indexBack", unfollowed := true, recurses := true, apart := false }
def IndexBackSaid : Prop := indexBackRow.holds Try.pinned (OpenSpec.ofChange indexBackSpec)

/-- ITS FALSE NEIGHBOUR: 'it returns false'. Refute it at one input. -/
def indexBackWrong : ChangeSpec := { name := "indexBack", fn := fun _ => fun
  | [d] => { results := [.lit (.bool false)], args := [d] }
  | _ => none }
def IndexBackWrongFalsely : Prop := indexBackRow.holds Try.pinned (OpenSpec.ofChange indexBackWrong)

/-- 'manteletlaw15.IndexMany': WHATEVER THE INPUT: true; the input reads as it did. -/
def indexManySpec : ChangeSpec := { name := "indexMany", fn := fun _ => fun
  | [d1, d2] => { results := [.lit (.bool true)], args := [d1, d2] }
  | _ => none }
def indexManyRow : OpenClaim := { program := "ytebdcblchjhmpaa", sum := "ec73cbcfb01f9b6476c0f26069530655cdab2acf344ba9759d39dc35cb23e35e", func := "mantelet/manteletlaw15.IndexMany", spec := "indexMany", unfollowed := true, recurses := true, apart := false }
def IndexManySaid : Prop := indexManyRow.holds Try.pinned (OpenSpec.ofChange indexManySpec)

/-- ITS FALSE NEIGHBOUR: 'it returns false'. Refute it at one input. -/
def indexManyWrong : ChangeSpec := { name := "indexMany", fn := fun _ => fun
  | [d1, d2] => { results := [.lit (.bool false)], args := [d1, d2] }
  | _ => none }
def IndexManyWrongFalsely : Prop := indexManyRow.holds Try.pinned (OpenSpec.ofChange indexManyWrong)

/-- 'manteletlaw15.IndexRises': WHATEVER THE INPUT: true; the input reads as it did. -/
def indexRisesSpec : ChangeSpec := { name := "indexRises", fn := fun _ => fun
  | [d1, d2, d3] => { results := [.lit (.bool true)], args := [d1, d2, d3] }
  | _ => none }
def indexRisesRow : OpenClaim := { program := "ytebdcblchjhmpaa", sum := "ec73cbcfb01f9b6476c0f26069530655cdab2acf344ba9759d39dc35cb23e35e", func := "mantelet/manteletlaw15.IndexRises", spec := "indexRises", unfollowed := true, recurses := true, apart := false }
def IndexRisesSaid : Prop := indexRisesRow.holds Try.pinned (OpenSpec.ofChange indexRisesSpec)

/-- ITS FALSE NEIGHBOUR: 'it returns false'. Refute it at one input. -/
def indexRisesWrong : ChangeSpec := { name := "indexRises", fn := fun _ => fun
  | [d1, d2, d3] => { results := [.lit (.bool false)], args := [d1, d2, d3] }
  | _ => none }
def IndexRisesWrongFalsely : Prop := indexRisesRow.holds Try.pinned (OpenSpec.ofChange indexRisesWrong)

/-- 'manteletlaw15.IndexSums': WHATEVER THE INPUT: true; the input reads as it did. -/
def indexSumsSpec : ChangeSpec := { name := "indexSums", fn := fun _ => fun
  | [d] => { results := [.lit (.bool true)], args := [d] }
  | _ => none }
def indexSumsRow : OpenClaim := { program := "ytebdcblchjhmpaa", sum := "ec73cbcfb01f9b6476c0f26069530655cdab2acf344ba9759d39dc35cb23e35e", func := "mantelet/manteletlaw15.IndexSums", spec := "indexSums", unfollowed := true, recurses := true, apart := false }
def IndexSumsSaid : Prop := indexSumsRow.holds Try.pinned (OpenSpec.ofChange indexSumsSpec)

/-- ITS FALSE NEIGHBOUR: 'it returns false'. Refute it at one input. -/
def indexSumsWrong : ChangeSpec := { name := "indexSums", fn := fun _ => fun
  | [d] => { results := [.lit (.bool false)], args := [d] }
  | _ => none }
def IndexSumsWrongFalsely : Prop := indexSumsRow.holds Try.pinned (OpenSpec.ofChange indexSumsWrong)

/-- 'manteletlaw14.DawWords': WHATEVER THE INPUT: true; the input reads as it did. -/
def dawWordsSpec : ChangeSpec := { name := "dawWords", fn := fun _ => fun
  | [d1, d2, d3] => { results := [.lit (.bool true)], args := [d1, d2, d3] }
  | _ => none }
def dawWordsRow : OpenClaim := { program := "ytebdcblchjhmpaa", sum := "ec73cbcfb01f9b6476c0f26069530655cdab2acf344ba9759d39dc35cb23e35e", func := "mantelet/manteletlaw14.DawWords", spec := "dawWords", unfollowed := true, recurses := true, apart := false }
def DawWordsSaid : Prop := dawWordsRow.holds Try.pinned (OpenSpec.ofChange dawWordsSpec)

/-- ITS FALSE NEIGHBOUR: 'it returns false'. Refute it at one input. -/
def dawWordsWrong : ChangeSpec := { name := "dawWords", fn := fun _ => fun
  | [d1, d2, d3] => { results := [.lit (.bool false)], args := [d1, d2, d3] }
  | _ => none }
def DawWordsWrongFalsely : Prop := dawWordsRow.holds Try.pinned (OpenSpec.ofChange dawWordsWrong)

/- THE SECOND FORM. 'bulk': how many values and letters a reading holds, each counted each time it is reached (what is shared counts as often as it is met; a slice's spare places count too). A statement '..UptoSaid' is the law's where the arguments, and the package variables that the reading takes, are together of bulk at most 1048576: NARROWER than '..Said'. Prove '..Said' where nothing that the law and all that it calls make is longer than what came in: it says more and counts as full. Else prove '..UptoSaid'. A law counts once. -/
mutual
def uptoBulk {H : Type} : DataW H → Nat
  | .lit (.string bytes) => bytes.length + 1
  | .lit _ => 1
  | .nil => 1
  | .ptr d => uptoBulk d + 1
  | .slice elems spare => uptoBulkAll elems + uptoBulkAll spare + 1
  | .agg parts => uptoBulkAll parts + 1
  | .iface _ d => uptoBulk d + 1
  | .map entries => uptoBulkEntries entries + 1
  | .held _ => 1
def uptoBulkAll {H : Type} : List (DataW H) → Nat
  | [] => 0
  | d :: r => uptoBulk d + uptoBulkAll r
def uptoBulkEntries {H : Type} : List (Lit × DataW H) → Nat
  | [] => 0
  | x :: r => uptoBulkEntry x + uptoBulkEntries r
def uptoBulkEntry {H : Type} : Lit × DataW H → Nat
  | (.string bytes, d) => bytes.length + uptoBulk d + 1
  | (_, d) => uptoBulk d + 1
 end
def uptoSmall : (H : Type) → List (DataW H) → Bool := fun _ ds => decide (uptoBulkAll ds ≤ 1048576)
def OpenSpec.upto (s : _root_.Go.ChangeSpec) : _root_.Go.OpenSpec := { _root_.Go.OpenSpec.ofChange s with cond := some uptoSmall }

/-- 'manteletlaw14.DawLeast', WHERE WHAT IT READS IS OF BULK AT MOST 1048576: true; the input reads as it did. -/
def dawLeastUptoRow : OpenClaim := { program := "ytebdcblchjhmpaa", sum := "ec73cbcfb01f9b6476c0f26069530655cdab2acf344ba9759d39dc35cb23e35e", func := "mantelet/manteletlaw14.DawLeast", spec := "dawLeast", apart := false, narrowed := true }
def DawLeastUptoSaid : Prop := dawLeastUptoRow.holds Try.pinned (OpenSpec.upto dawLeastSpec)

/-- 'manteletlaw14.DawEnds', WHERE WHAT IT READS IS OF BULK AT MOST 1048576: true; the input reads as it did. -/
def dawEndsUptoRow : OpenClaim := { program := "ytebdcblchjhmpaa", sum := "ec73cbcfb01f9b6476c0f26069530655cdab2acf344ba9759d39dc35cb23e35e", func := "mantelet/manteletlaw14.DawEnds", spec := "dawEnds", apart := false, narrowed := true }
def DawEndsUptoSaid : Prop := dawEndsUptoRow.holds Try.pinned (OpenSpec.upto dawEndsSpec)

/-- 'manteletlaw14.DawBegins', WHERE WHAT IT READS IS OF BULK AT MOST 1048576: true; the input reads as it did. -/
def dawBeginsUptoRow : OpenClaim := { program := "ytebdcblchjhmpaa", sum := "ec73cbcfb01f9b6476c0f26069530655cdab2acf344ba9759d39dc35cb23e35e", func := "mantelet/manteletlaw14.DawBegins", spec := "dawBegins", unfollowed := true, recurses := true, apart := false, narrowed := true }
def DawBeginsUptoSaid : Prop := dawBeginsUptoRow.holds Try.pinned (OpenSpec.upto dawBeginsSpec)

/-- 'manteletlaw15.IndexTells', WHERE WHAT IT READS IS OF BULK AT MOST 1048576: true; the input reads as it did. -/
def indexTellsUptoRow : OpenClaim := { program := "ytebdcblchjhmpaa", sum := "ec73cbcfb01f9b6476c0f26069530655cdab2acf344ba9759d39dc35cb23e35e", func := "mantelet/manteletlaw15.IndexTells", spec := "indexTells", unfollowed := true, recurses := true, apart := false, narrowed := true }
def IndexTellsUptoSaid : Prop := indexTellsUptoRow.holds Try.pinned (OpenSpec.upto indexTellsSpec)

/-- 'manteletlaw15.IndexRefuses', WHERE WHAT IT READS IS OF BULK AT MOST 1048576: true; the input reads as it did. -/
def indexRefusesUptoRow : OpenClaim := { program := "ytebdcblchjhmpaa", sum := "ec73cbcfb01f9b6476c0f26069530655cdab2acf344ba9759d39dc35cb23e35e", func := "mantelet/manteletlaw15.IndexRefuses", spec := "indexRefuses", unfollowed := true, recurses := true, apart := false, narrowed := true }
def IndexRefusesUptoSaid : Prop := indexRefusesUptoRow.holds Try.pinned (OpenSpec.upto indexRefusesSpec)

/-- 'manteletlaw15.IndexBack', WHERE WHAT IT READS IS OF BULK AT MOST 1048576: true; the input reads as it did. -/
def indexBackUptoRow : OpenClaim := { program := "ytebdcblchjhmpaa", sum := "ec73cbcfb01f9b6476c0f26069530655cdab2acf344ba9759d39dc35cb23e35e", func := "mantelet/manteletlaw15.IndexBack", spec := "indexBack", unfollowed := true, recurses := true, apart := false, narrowed := true }
def IndexBackUptoSaid : Prop := indexBackUptoRow.holds Try.pinned (OpenSpec.upto indexBackSpec)

/-- 'manteletlaw15.IndexMany', WHERE WHAT IT READS IS OF BULK AT MOST 1048576: true; the input reads as it did. -/
def indexManyUptoRow : OpenClaim := { program := "ytebdcblchjhmpaa", sum := "ec73cbcfb01f9b6476c0f26069530655cdab2acf344ba9759d39dc35cb23e35e", func := "mantelet/manteletlaw15.IndexMany", spec := "indexMany", unfollowed := true, recurses := true, apart := false, narrowed := true }
def IndexManyUptoSaid : Prop := indexManyUptoRow.holds Try.pinned (OpenSpec.upto indexManySpec)

/-- 'manteletlaw15.IndexRises', WHERE WHAT IT READS IS OF BULK AT MOST 1048576: true; the input reads as it did. -/
def indexRisesUptoRow : OpenClaim := { program := "ytebdcblchjhmpaa", sum := "ec73cbcfb01f9b6476c0f26069530655cdab2acf344ba9759d39dc35cb23e35e", func := "mantelet/manteletlaw15.IndexRises", spec := "indexRises", unfollowed := true, recurses := true, apart := false, narrowed := true }
def IndexRisesUptoSaid : Prop := indexRisesUptoRow.holds Try.pinned (OpenSpec.upto indexRisesSpec)

/-- 'manteletlaw15.IndexSums', WHERE WHAT IT READS IS OF BULK AT MOST 1048576: true; the input reads as it did. -/
def indexSumsUptoRow : OpenClaim := { program := "ytebdcblchjhmpaa", sum := "ec73cbcfb01f9b6476c0f26069530655cdab2acf344ba9759d39dc35cb23e35e", func := "mantelet/manteletlaw15.IndexSums", spec := "indexSums", unfollowed := true, recurses := true, apart := false, narrowed := true }
def IndexSumsUptoSaid : Prop := indexSumsUptoRow.holds Try.pinned (OpenSpec.upto indexSumsSpec)

/-- 'manteletlaw14.DawWords', WHERE WHAT IT READS IS OF BULK AT MOST 1048576: true; the input reads as it did. -/
def dawWordsUptoRow : OpenClaim := { program := "ytebdcblchjhmpaa", sum := "ec73cbcfb01f9b6476c0f26069530655cdab2acf344ba9759d39dc35cb23e35e", func := "mantelet/manteletlaw14.DawWords", spec := "dawWords", unfollowed := true, recurses := true, apart := false, narrowed := true }
def DawWordsUptoSaid : Prop := dawWordsUptoRow.holds Try.pinned (OpenSpec.upto dawWordsSpec)

end Rows
end Go.Proofs.Ytebdcblchjhmpaa
