/-
  No cell of these rows narrows 'for every input' (looked for: loops, veiled, ifaces, maps, wideKeys, modest, calm, conditions, laid).
  DERIVED. THE GIVEN ROWS OF THIS SEAT. 10 by the template 'for every input the law returns true; each argument reads behind the call as it read before'; 0 by the template 'total and deterministic' (their statements: YtbnjakihgmhpdaaTotals.lean).
  GIVEN WITH THE SEED: the statements are not yours to turn. If you find one false, say at which input.
  Laid BY PROGRAM, IN A SANDBOX (cutbox-rows.mjs): the forced cells as the released guide's own fill.sh prints them over the translation 892f0c6a1c6a5535… (all of the seat's roots in one cut). By AI agents, Wed Nov 11 2026. No macro, syntax, notation, axiom, sorry.
-/
import Derived.Test.YtbnjakihgmhpdaaChecked
import GoSem.Claim
import GoSem.ClaimJoined
import GoSem.ClaimMapViews
import Derived.JoinedTies
import Derived.KernelRfl
namespace Go.Proofs.Ytbnjakihgmhpdaa
/- THE CELL 'sum', in the pinned program and in every row, IS THE sha256 OF THE DUMP (.gsa) THAT YtbnjakihgmhpdaaProg.lean LOADS. Nothing in Lean hashes anything: it is a label: what it is worth is what the hold of that sum in a sandbox is worth. -/
noncomputable def Try.pinned : Pinned := { name := "ytbnjakihgmhpdaa", sum := "892f0c6a1c6a553561b8f610bd3f74853358f485effffd6ff820cb6abca96fe0", checked := Try.checked }
namespace Rows
def none {H : Type} : Left H := { results := [], args := [] }

/-- 'manteletlaw04.UtfSplit': WHATEVER THE INPUT: true; the input reads as it did. -/
def utfSplitSpec : ChangeSpec := { name := "utfSplit", fn := fun _ => fun
  | [d1, d2] => { results := [.lit (.bool true)], args := [d1, d2] }
  | _ => none }
def utfSplitRow : OpenClaim := { program := "ytbnjakihgmhpdaa", sum := "892f0c6a1c6a553561b8f610bd3f74853358f485effffd6ff820cb6abca96fe0", func := "mantelet/manteletlaw04.UtfSplit", spec := "utfSplit", apart := false }
def UtfSplitSaid : Prop := utfSplitRow.holds Try.pinned (OpenSpec.ofChange utfSplitSpec)

/-- ITS FALSE NEIGHBOUR: 'it returns false'. Refute it at one input. -/
def utfSplitWrong : ChangeSpec := { name := "utfSplit", fn := fun _ => fun
  | [d1, d2] => { results := [.lit (.bool false)], args := [d1, d2] }
  | _ => none }
def UtfSplitWrongFalsely : Prop := utfSplitRow.holds Try.pinned (OpenSpec.ofChange utfSplitWrong)

/-- 'manteletlaw18.FuzzyDists': WHATEVER THE INPUT: true; the input reads as it did. -/
def fuzzyDistsSpec : ChangeSpec := { name := "fuzzyDists", fn := fun _ => fun
  | [d1, d2] => { results := [.lit (.bool true)], args := [d1, d2] }
  | _ => none }
def fuzzyDistsRow : OpenClaim := { program := "ytbnjakihgmhpdaa", sum := "892f0c6a1c6a553561b8f610bd3f74853358f485effffd6ff820cb6abca96fe0", func := "mantelet/manteletlaw18.FuzzyDists", spec := "fuzzyDists", apart := false }
def FuzzyDistsSaid : Prop := fuzzyDistsRow.holds Try.pinned (OpenSpec.ofChange fuzzyDistsSpec)

/-- ITS FALSE NEIGHBOUR: 'it returns false'. Refute it at one input. -/
def fuzzyDistsWrong : ChangeSpec := { name := "fuzzyDists", fn := fun _ => fun
  | [d1, d2] => { results := [.lit (.bool false)], args := [d1, d2] }
  | _ => none }
def FuzzyDistsWrongFalsely : Prop := fuzzyDistsRow.holds Try.pinned (OpenSpec.ofChange fuzzyDistsWrong)

/-- 'manteletlaw18.FuzzyMetric': WHATEVER THE INPUT: true; the input reads as it did. -/
def fuzzyMetricSpec : ChangeSpec := { name := "fuzzyMetric", fn := fun _ => fun
  | [d1, d2, d3] => { results := [.lit (.bool true)], args := [d1, d2, d3] }
  | _ => none }
def fuzzyMetricRow : OpenClaim := { program := "ytbnjakihgmhpdaa", sum := "892f0c6a1c6a553561b8f610bd3f74853358f485effffd6ff820cb6abca96fe0", func := "mantelet/manteletlaw18.FuzzyMetric", spec := "fuzzyMetric", apart := false }
def FuzzyMetricSaid : Prop := fuzzyMetricRow.holds Try.pinned (OpenSpec.ofChange fuzzyMetricSpec)

/-- ITS FALSE NEIGHBOUR: 'it returns false'. Refute it at one input. -/
def fuzzyMetricWrong : ChangeSpec := { name := "fuzzyMetric", fn := fun _ => fun
  | [d1, d2, d3] => { results := [.lit (.bool false)], args := [d1, d2, d3] }
  | _ => none }
def FuzzyMetricWrongFalsely : Prop := fuzzyMetricRow.holds Try.pinned (OpenSpec.ofChange fuzzyMetricWrong)

/-- 'manteletlaw18.FuzzySteps': WHATEVER THE INPUT: true; the input reads as it did. -/
def fuzzyStepsSpec : ChangeSpec := { name := "fuzzySteps", fn := fun _ => fun
  | [d1, d2, d3, d4] => { results := [.lit (.bool true)], args := [d1, d2, d3, d4] }
  | _ => none }
def fuzzyStepsRow : OpenClaim := { program := "ytbnjakihgmhpdaa", sum := "892f0c6a1c6a553561b8f610bd3f74853358f485effffd6ff820cb6abca96fe0", func := "mantelet/manteletlaw18.FuzzySteps", spec := "fuzzySteps", apart := false }
def FuzzyStepsSaid : Prop := fuzzyStepsRow.holds Try.pinned (OpenSpec.ofChange fuzzyStepsSpec)

/-- ITS FALSE NEIGHBOUR: 'it returns false'. Refute it at one input. -/
def fuzzyStepsWrong : ChangeSpec := { name := "fuzzySteps", fn := fun _ => fun
  | [d1, d2, d3, d4] => { results := [.lit (.bool false)], args := [d1, d2, d3, d4] }
  | _ => none }
def FuzzyStepsWrongFalsely : Prop := fuzzyStepsRow.holds Try.pinned (OpenSpec.ofChange fuzzyStepsWrong)

/-- 'manteletlaw18.FuzzyLengths': WHATEVER THE INPUT: true; the input reads as it did. -/
def fuzzyLengthsSpec : ChangeSpec := { name := "fuzzyLengths", fn := fun _ => fun
  | [d1, d2, d3, d4] => { results := [.lit (.bool true)], args := [d1, d2, d3, d4] }
  | _ => none }
def fuzzyLengthsRow : OpenClaim := { program := "ytbnjakihgmhpdaa", sum := "892f0c6a1c6a553561b8f610bd3f74853358f485effffd6ff820cb6abca96fe0", func := "mantelet/manteletlaw18.FuzzyLengths", spec := "fuzzyLengths", apart := false }
def FuzzyLengthsSaid : Prop := fuzzyLengthsRow.holds Try.pinned (OpenSpec.ofChange fuzzyLengthsSpec)

/-- ITS FALSE NEIGHBOUR: 'it returns false'. Refute it at one input. -/
def fuzzyLengthsWrong : ChangeSpec := { name := "fuzzyLengths", fn := fun _ => fun
  | [d1, d2, d3, d4] => { results := [.lit (.bool false)], args := [d1, d2, d3, d4] }
  | _ => none }
def FuzzyLengthsWrongFalsely : Prop := fuzzyLengthsRow.holds Try.pinned (OpenSpec.ofChange fuzzyLengthsWrong)

/-- 'manteletlaw04.UtfText': WHATEVER THE INPUT: true; the input reads as it did. -/
def utfTextSpec : ChangeSpec := { name := "utfText", fn := fun _ => fun
  | [d] => { results := [.lit (.bool true)], args := [d] }
  | _ => none }
def utfTextRow : OpenClaim := { program := "ytbnjakihgmhpdaa", sum := "892f0c6a1c6a553561b8f610bd3f74853358f485effffd6ff820cb6abca96fe0", func := "mantelet/manteletlaw04.UtfText", spec := "utfText", apart := false }
def UtfTextSaid : Prop := utfTextRow.holds Try.pinned (OpenSpec.ofChange utfTextSpec)

/-- ITS FALSE NEIGHBOUR: 'it returns false'. Refute it at one input. -/
def utfTextWrong : ChangeSpec := { name := "utfText", fn := fun _ => fun
  | [d] => { results := [.lit (.bool false)], args := [d] }
  | _ => none }
def UtfTextWrongFalsely : Prop := utfTextRow.holds Try.pinned (OpenSpec.ofChange utfTextWrong)

/-- 'manteletlaw04.UtfLetters': WHATEVER THE INPUT: true; the input reads as it did. -/
def utfLettersSpec : ChangeSpec := { name := "utfLetters", fn := fun _ => fun
  | [d1, d2] => { results := [.lit (.bool true)], args := [d1, d2] }
  | _ => none }
def utfLettersRow : OpenClaim := { program := "ytbnjakihgmhpdaa", sum := "892f0c6a1c6a553561b8f610bd3f74853358f485effffd6ff820cb6abca96fe0", func := "mantelet/manteletlaw04.UtfLetters", spec := "utfLetters", apart := false }
def UtfLettersSaid : Prop := utfLettersRow.holds Try.pinned (OpenSpec.ofChange utfLettersSpec)

/-- ITS FALSE NEIGHBOUR: 'it returns false'. Refute it at one input. -/
def utfLettersWrong : ChangeSpec := { name := "utfLetters", fn := fun _ => fun
  | [d1, d2] => { results := [.lit (.bool false)], args := [d1, d2] }
  | _ => none }
def UtfLettersWrongFalsely : Prop := utfLettersRow.holds Try.pinned (OpenSpec.ofChange utfLettersWrong)

/-- 'manteletlaw04.UtfTells': WHATEVER THE INPUT: true; the input reads as it did. -/
def utfTellsSpec : ChangeSpec := { name := "utfTells", fn := fun _ => fun
  | [d1, d2] => { results := [.lit (.bool true)], args := [d1, d2] }
  | _ => none }
def utfTellsRow : OpenClaim := { program := "ytbnjakihgmhpdaa", sum := "892f0c6a1c6a553561b8f610bd3f74853358f485effffd6ff820cb6abca96fe0", func := "mantelet/manteletlaw04.UtfTells", spec := "utfTells", apart := false }
def UtfTellsSaid : Prop := utfTellsRow.holds Try.pinned (OpenSpec.ofChange utfTellsSpec)

/-- ITS FALSE NEIGHBOUR: 'it returns false'. Refute it at one input. -/
def utfTellsWrong : ChangeSpec := { name := "utfTells", fn := fun _ => fun
  | [d1, d2] => { results := [.lit (.bool false)], args := [d1, d2] }
  | _ => none }
def UtfTellsWrongFalsely : Prop := utfTellsRow.holds Try.pinned (OpenSpec.ofChange utfTellsWrong)

/-- 'manteletlaw04.UtfChunks': WHATEVER THE INPUT: true; the input reads as it did. -/
def utfChunksSpec : ChangeSpec := { name := "utfChunks", fn := fun _ => fun
  | [d] => { results := [.lit (.bool true)], args := [d] }
  | _ => none }
def utfChunksRow : OpenClaim := { program := "ytbnjakihgmhpdaa", sum := "892f0c6a1c6a553561b8f610bd3f74853358f485effffd6ff820cb6abca96fe0", func := "mantelet/manteletlaw04.UtfChunks", spec := "utfChunks", apart := false }
def UtfChunksSaid : Prop := utfChunksRow.holds Try.pinned (OpenSpec.ofChange utfChunksSpec)

/-- ITS FALSE NEIGHBOUR: 'it returns false'. Refute it at one input. -/
def utfChunksWrong : ChangeSpec := { name := "utfChunks", fn := fun _ => fun
  | [d] => { results := [.lit (.bool false)], args := [d] }
  | _ => none }
def UtfChunksWrongFalsely : Prop := utfChunksRow.holds Try.pinned (OpenSpec.ofChange utfChunksWrong)

/-- 'manteletlaw04.UtfPends': WHATEVER THE INPUT: true; the input reads as it did. -/
def utfPendsSpec : ChangeSpec := { name := "utfPends", fn := fun _ => fun
  | [d] => { results := [.lit (.bool true)], args := [d] }
  | _ => none }
def utfPendsRow : OpenClaim := { program := "ytbnjakihgmhpdaa", sum := "892f0c6a1c6a553561b8f610bd3f74853358f485effffd6ff820cb6abca96fe0", func := "mantelet/manteletlaw04.UtfPends", spec := "utfPends", apart := false }
def UtfPendsSaid : Prop := utfPendsRow.holds Try.pinned (OpenSpec.ofChange utfPendsSpec)

/-- ITS FALSE NEIGHBOUR: 'it returns false'. Refute it at one input. -/
def utfPendsWrong : ChangeSpec := { name := "utfPends", fn := fun _ => fun
  | [d] => { results := [.lit (.bool false)], args := [d] }
  | _ => none }
def UtfPendsWrongFalsely : Prop := utfPendsRow.holds Try.pinned (OpenSpec.ofChange utfPendsWrong)

/- THE SECOND FORM. 'bulk': how many values and letters a reading holds, each counted each time it is reached (what is shared counts as often as it is met; a slice's spare places count too). A statement '..UptoSaid' is the law's where the arguments, and the package variables that the reading takes, are together of bulk at most 1048576: NARROWER than '..Said'. Prove '..Said' where nothing that the law and all that it calls make is longer than what came in: it says more and counts as full. Else prove '..UptoSaid'. A law counts once. -/
mutual
def uptoBulk {H : Type} : DataW H → Nat
  | .lit (.string bytes) => bytes.length + 1
  | .lit _ => 1
  | .nil => 1
  | .ptr d => uptoBulk d + 1
  | .slice elems spare => uptoBulkAll elems + uptoBulkAll spare + 1
  | .agg parts => uptoBulkAll parts + 1
  | .iface _ d => uptoBulk d + 1
  | .map entries => uptoBulkEntries entries + 1
  | .held _ => 1
def uptoBulkAll {H : Type} : List (DataW H) → Nat
  | [] => 0
  | d :: r => uptoBulk d + uptoBulkAll r
def uptoBulkEntries {H : Type} : List (Lit × DataW H) → Nat
  | [] => 0
  | x :: r => uptoBulkEntry x + uptoBulkEntries r
def uptoBulkEntry {H : Type} : Lit × DataW H → Nat
  | (.string bytes, d) => bytes.length + uptoBulk d + 1
  | (_, d) => uptoBulk d + 1
 end
def uptoSmall : (H : Type) → List (DataW H) → Bool := fun _ ds => decide (uptoBulkAll ds ≤ 1048576)
def OpenSpec.upto (s : _root_.Go.ChangeSpec) : _root_.Go.OpenSpec := { _root_.Go.OpenSpec.ofChange s with cond := some uptoSmall }

/-- 'manteletlaw04.UtfSplit', WHERE WHAT IT READS IS OF BULK AT MOST 1048576: true; the input reads as it did. -/
def utfSplitUptoRow : OpenClaim := { program := "ytbnjakihgmhpdaa", sum := "892f0c6a1c6a553561b8f610bd3f74853358f485effffd6ff820cb6abca96fe0", func := "mantelet/manteletlaw04.UtfSplit", spec := "utfSplit", apart := false, narrowed := true }
def UtfSplitUptoSaid : Prop := utfSplitUptoRow.holds Try.pinned (OpenSpec.upto utfSplitSpec)

/-- 'manteletlaw18.FuzzyDists', WHERE WHAT IT READS IS OF BULK AT MOST 1048576: true; the input reads as it did. -/
def fuzzyDistsUptoRow : OpenClaim := { program := "ytbnjakihgmhpdaa", sum := "892f0c6a1c6a553561b8f610bd3f74853358f485effffd6ff820cb6abca96fe0", func := "mantelet/manteletlaw18.FuzzyDists", spec := "fuzzyDists", apart := false, narrowed := true }
def FuzzyDistsUptoSaid : Prop := fuzzyDistsUptoRow.holds Try.pinned (OpenSpec.upto fuzzyDistsSpec)

/-- 'manteletlaw18.FuzzyMetric', WHERE WHAT IT READS IS OF BULK AT MOST 1048576: true; the input reads as it did. -/
def fuzzyMetricUptoRow : OpenClaim := { program := "ytbnjakihgmhpdaa", sum := "892f0c6a1c6a553561b8f610bd3f74853358f485effffd6ff820cb6abca96fe0", func := "mantelet/manteletlaw18.FuzzyMetric", spec := "fuzzyMetric", apart := false, narrowed := true }
def FuzzyMetricUptoSaid : Prop := fuzzyMetricUptoRow.holds Try.pinned (OpenSpec.upto fuzzyMetricSpec)

/-- 'manteletlaw18.FuzzySteps', WHERE WHAT IT READS IS OF BULK AT MOST 1048576: true; the input reads as it did. -/
def fuzzyStepsUptoRow : OpenClaim := { program := "ytbnjakihgmhpdaa", sum := "892f0c6a1c6a553561b8f610bd3f74853358f485effffd6ff820cb6abca96fe0", func := "mantelet/manteletlaw18.FuzzySteps", spec := "fuzzySteps", apart := false, narrowed := true }
def FuzzyStepsUptoSaid : Prop := fuzzyStepsUptoRow.holds Try.pinned (OpenSpec.upto fuzzyStepsSpec)

/-- 'manteletlaw18.FuzzyLengths', WHERE WHAT IT READS IS OF BULK AT MOST 1048576: true; the input reads as it did. -/
def fuzzyLengthsUptoRow : OpenClaim := { program := "ytbnjakihgmhpdaa", sum := "892f0c6a1c6a553561b8f610bd3f74853358f485effffd6ff820cb6abca96fe0", func := "mantelet/manteletlaw18.FuzzyLengths", spec := "fuzzyLengths", apart := false, narrowed := true }
def FuzzyLengthsUptoSaid : Prop := fuzzyLengthsUptoRow.holds Try.pinned (OpenSpec.upto fuzzyLengthsSpec)

/-- 'manteletlaw04.UtfText', WHERE WHAT IT READS IS OF BULK AT MOST 1048576: true; the input reads as it did. -/
def utfTextUptoRow : OpenClaim := { program := "ytbnjakihgmhpdaa", sum := "892f0c6a1c6a553561b8f610bd3f74853358f485effffd6ff820cb6abca96fe0", func := "mantelet/manteletlaw04.UtfText", spec := "utfText", apart := false, narrowed := true }
def UtfTextUptoSaid : Prop := utfTextUptoRow.holds Try.pinned (OpenSpec.upto utfTextSpec)

/-- 'manteletlaw04.UtfLetters', WHERE WHAT IT READS IS OF BULK AT MOST 1048576: true; the input reads as it did. -/
def utfLettersUptoRow : OpenClaim := { program := "ytbnjakihgmhpdaa", sum := "892f0c6a1c6a553561b8f610bd3f74853358f485effffd6ff820cb6abca96fe0", func := "mantelet/manteletlaw04.UtfLetters", spec := "utfLetters", apart := false, narrowed := true }
def UtfLettersUptoSaid : Prop := utfLettersUptoRow.holds Try.pinned (OpenSpec.upto utfLettersSpec)

/-- 'manteletlaw04.UtfTells', WHERE WHAT IT READS IS OF BULK AT MOST 1048576: true; the input reads as it did. -/
def utfTellsUptoRow : OpenClaim := { program := "ytbnjakihgmhpdaa", sum := "892f0c6a1c6a553561b8f610bd3f74853358f485effffd6ff820cb6abca96fe0", func := "mantelet/manteletlaw04.UtfTells", spec := "utfTells", apart := false, narrowed := true }
def UtfTellsUptoSaid : Prop := utfTellsUptoRow.holds Try.pinned (OpenSpec.upto utfTellsSpec)

/-- 'manteletlaw04.UtfChunks', WHERE WHAT IT READS IS OF BULK AT MOST 1048576: true; the input reads as it did. -/
def utfChunksUptoRow : OpenClaim := { program := "ytbnjakihgmhpdaa", sum := "892f0c6a1c6a553561b8f610bd3f74853358f485effffd6ff820cb6abca96fe0", func := "mantelet/manteletlaw04.UtfChunks", spec := "utfChunks", apart := false, narrowed := true }
def UtfChunksUptoSaid : Prop := utfChunksUptoRow.holds Try.pinned (OpenSpec.upto utfChunksSpec)

/-- 'manteletlaw04.UtfPends', WHERE WHAT IT READS IS OF BULK AT MOST 1048576: true; the input reads as it did. -/
def utfPendsUptoRow : OpenClaim := { program := "ytbnjakihgmhpdaa", sum := "892f0c6a1c6a553561b8f610bd3f74853358f485effffd6ff820cb6abca96fe0", func := "mantelet/manteletlaw04.UtfPends", spec := "utfPends", apart := false, narrowed := true }
def UtfPendsUptoSaid : Prop := utfPendsUptoRow.holds Try.pinned (OpenSpec.upto utfPendsSpec)

end Rows
end Go.Proofs.Ytbnjakihgmhpdaa
