/-
  No cell of these rows narrows 'for every input' (looked for: loops, veiled, ifaces, maps, wideKeys, modest, calm, conditions, laid).
  DERIVED. THE GIVEN ROWS OF THIS SEAT. 9 by the template 'for every input the law returns true; each argument reads behind the call as it read before'; 0 by the template 'total and deterministic' (their statements: YtgebhidpkcjpmaaTotals.lean).
  GIVEN WITH THE SEED: the statements are not yours to turn. If you find one false, say at which input.
  Laid BY PROGRAM, IN A SANDBOX (cutbox-rows.mjs): the forced cells as the released guide's own fill.sh prints them over the translation 6cdf76122bd13666… (all of the seat's roots in one cut). By AI agents, Wed Nov 11 2026. No macro, syntax, notation, axiom, sorry.
-/
import Derived.Test.YtgebhidpkcjpmaaChecked
import GoSem.Claim
import GoSem.ClaimJoined
import GoSem.ClaimMapViews
import Derived.JoinedTies
import Derived.KernelRfl
namespace Go.Proofs.Ytgebhidpkcjpmaa
/- THE CELL 'sum', in the pinned program and in every row, IS THE sha256 OF THE DUMP (.gsa) THAT YtgebhidpkcjpmaaProg.lean LOADS. Nothing in Lean hashes anything: it is a label: what it is worth is what the hold of that sum in a sandbox is worth. -/
noncomputable def Try.pinned : Pinned := { name := "ytgebhidpkcjpmaa", sum := "6cdf76122bd13666ce0377bb5480afefbec4dd28e64feed222eb9906b548458f", checked := Try.checked }
namespace Rows
def none {H : Type} : Left H := { results := [], args := [] }

/-- 'manteletlaw16.FileMakes': WHATEVER THE INPUT: true; the input reads as it did. -/
def fileMakesSpec : ChangeSpec := { name := "fileMakes", fn := fun _ => fun
  | [d] => { results := [.lit (.bool true)], args := [d] }
  | _ => none }
def fileMakesRow : OpenClaim := { program := "ytgebhidpkcjpmaa", sum := "6cdf76122bd13666ce0377bb5480afefbec4dd28e64feed222eb9906b548458f", func := "mantelet/manteletlaw16.FileMakes", spec := "fileMakes", unfollowed := true, recurses := true, apart := false }
def FileMakesSaid : Prop := fileMakesRow.holds Try.pinned (OpenSpec.ofChange fileMakesSpec)

/-- ITS FALSE NEIGHBOUR: 'it returns false'. Refute it at one input. -/
def fileMakesWrong : ChangeSpec := { name := "fileMakes", fn := fun _ => fun
  | [d] => { results := [.lit (.bool false)], args := [d] }
  | _ => none }
def FileMakesWrongFalsely : Prop := fileMakesRow.holds Try.pinned (OpenSpec.ofChange fileMakesWrong)

/-- 'manteletlaw16.FileEncodes': WHATEVER THE INPUT: true; the input reads as it did. -/
def fileEncodesSpec : ChangeSpec := { name := "fileEncodes", fn := fun _ => fun
  | [d] => { results := [.lit (.bool true)], args := [d] }
  | _ => none }
def fileEncodesRow : OpenClaim := { program := "ytgebhidpkcjpmaa", sum := "6cdf76122bd13666ce0377bb5480afefbec4dd28e64feed222eb9906b548458f", func := "mantelet/manteletlaw16.FileEncodes", spec := "fileEncodes", unfollowed := true, recurses := true, apart := false }
def FileEncodesSaid : Prop := fileEncodesRow.holds Try.pinned (OpenSpec.ofChange fileEncodesSpec)

/-- ITS FALSE NEIGHBOUR: 'it returns false'. Refute it at one input. -/
def fileEncodesWrong : ChangeSpec := { name := "fileEncodes", fn := fun _ => fun
  | [d] => { results := [.lit (.bool false)], args := [d] }
  | _ => none }
def FileEncodesWrongFalsely : Prop := fileEncodesRow.holds Try.pinned (OpenSpec.ofChange fileEncodesWrong)

/-- 'manteletlaw16.FileOnes': WHATEVER THE INPUT: true; the input reads as it did. -/
def fileOnesSpec : ChangeSpec := { name := "fileOnes", fn := fun _ => fun
  | [d1, d2] => { results := [.lit (.bool true)], args := [d1, d2] }
  | _ => none }
def fileOnesRow : OpenClaim := { program := "ytgebhidpkcjpmaa", sum := "6cdf76122bd13666ce0377bb5480afefbec4dd28e64feed222eb9906b548458f", func := "mantelet/manteletlaw16.FileOnes", spec := "fileOnes", unfollowed := true, recurses := true, apart := false }
def FileOnesSaid : Prop := fileOnesRow.holds Try.pinned (OpenSpec.ofChange fileOnesSpec)

/-- ITS FALSE NEIGHBOUR: 'it returns false'. Refute it at one input. -/
def fileOnesWrong : ChangeSpec := { name := "fileOnes", fn := fun _ => fun
  | [d1, d2] => { results := [.lit (.bool false)], args := [d1, d2] }
  | _ => none }
def FileOnesWrongFalsely : Prop := fileOnesRow.holds Try.pinned (OpenSpec.ofChange fileOnesWrong)

/-- 'manteletlaw16.FileBack': WHATEVER THE INPUT: true; the input reads as it did. -/
def fileBackSpec : ChangeSpec := { name := "fileBack", fn := fun _ => fun
  | [d1, d2, d3] => { results := [.lit (.bool true)], args := [d1, d2, d3] }
  | _ => none }
def fileBackRow : OpenClaim := { program := "ytgebhidpkcjpmaa", sum := "6cdf76122bd13666ce0377bb5480afefbec4dd28e64feed222eb9906b548458f", func := "mantelet/manteletlaw16.FileBack", spec := "fileBack", unfollowed := true, recurses := true, apart := false }
def FileBackSaid : Prop := fileBackRow.holds Try.pinned (OpenSpec.ofChange fileBackSpec)

/-- ITS FALSE NEIGHBOUR: 'it returns false'. Refute it at one input. -/
def fileBackWrong : ChangeSpec := { name := "fileBack", fn := fun _ => fun
  | [d1, d2, d3] => { results := [.lit (.bool false)], args := [d1, d2, d3] }
  | _ => none }
def FileBackWrongFalsely : Prop := fileBackRow.holds Try.pinned (OpenSpec.ofChange fileBackWrong)

/-- 'manteletlaw16.FileTurned': WHATEVER THE INPUT: true; the input reads as it did. -/
def fileTurnedSpec : ChangeSpec := { name := "fileTurned", fn := fun _ => fun
  | [d1, d2, d3] => { results := [.lit (.bool true)], args := [d1, d2, d3] }
  | _ => none }
def fileTurnedRow : OpenClaim := { program := "ytgebhidpkcjpmaa", sum := "6cdf76122bd13666ce0377bb5480afefbec4dd28e64feed222eb9906b548458f", func := "mantelet/manteletlaw16.FileTurned", spec := "fileTurned", unfollowed := true, recurses := true, apart := false }
def FileTurnedSaid : Prop := fileTurnedRow.holds Try.pinned (OpenSpec.ofChange fileTurnedSpec)

/-- ITS FALSE NEIGHBOUR: 'it returns false'. Refute it at one input. -/
def fileTurnedWrong : ChangeSpec := { name := "fileTurned", fn := fun _ => fun
  | [d1, d2, d3] => { results := [.lit (.bool false)], args := [d1, d2, d3] }
  | _ => none }
def FileTurnedWrongFalsely : Prop := fileTurnedRow.holds Try.pinned (OpenSpec.ofChange fileTurnedWrong)

/-- 'manteletlaw17.DictOthers': WHATEVER THE INPUT: true; the input reads as it did. -/
def dictOthersSpec : ChangeSpec := { name := "dictOthers", fn := fun _ => fun
  | [d1, d2] => { results := [.lit (.bool true)], args := [d1, d2] }
  | _ => none }
def dictOthersRow : OpenClaim := { program := "ytgebhidpkcjpmaa", sum := "6cdf76122bd13666ce0377bb5480afefbec4dd28e64feed222eb9906b548458f", func := "mantelet/manteletlaw17.DictOthers", spec := "dictOthers", unfollowed := true, recurses := true, apart := false }
def DictOthersSaid : Prop := dictOthersRow.holds Try.pinned (OpenSpec.ofChange dictOthersSpec)

/-- ITS FALSE NEIGHBOUR: 'it returns false'. Refute it at one input. -/
def dictOthersWrong : ChangeSpec := { name := "dictOthers", fn := fun _ => fun
  | [d1, d2] => { results := [.lit (.bool false)], args := [d1, d2] }
  | _ => none }
def DictOthersWrongFalsely : Prop := dictOthersRow.holds Try.pinned (OpenSpec.ofChange dictOthersWrong)

/-- 'manteletlaw17.DictAll': WHATEVER THE INPUT: true; the input reads as it did. -/
def dictAllSpec : ChangeSpec := { name := "dictAll", fn := fun _ => fun
  | [d] => { results := [.lit (.bool true)], args := [d] }
  | _ => none }
def dictAllRow : OpenClaim := { program := "ytgebhidpkcjpmaa", sum := "6cdf76122bd13666ce0377bb5480afefbec4dd28e64feed222eb9906b548458f", func := "mantelet/manteletlaw17.DictAll", spec := "dictAll", unfollowed := true, recurses := true, apart := false }
def DictAllSaid : Prop := dictAllRow.holds Try.pinned (OpenSpec.ofChange dictAllSpec)

/-- ITS FALSE NEIGHBOUR: 'it returns false'. Refute it at one input. -/
def dictAllWrong : ChangeSpec := { name := "dictAll", fn := fun _ => fun
  | [d] => { results := [.lit (.bool false)], args := [d] }
  | _ => none }
def DictAllWrongFalsely : Prop := dictAllRow.holds Try.pinned (OpenSpec.ofChange dictAllWrong)

/-- 'manteletlaw17.DictNobody': WHATEVER THE INPUT: true; the input reads as it did. -/
def dictNobodySpec : ChangeSpec := { name := "dictNobody", fn := fun _ => fun
  | [d1, d2] => { results := [.lit (.bool true)], args := [d1, d2] }
  | _ => none }
def dictNobodyRow : OpenClaim := { program := "ytgebhidpkcjpmaa", sum := "6cdf76122bd13666ce0377bb5480afefbec4dd28e64feed222eb9906b548458f", func := "mantelet/manteletlaw17.DictNobody", spec := "dictNobody", unfollowed := true, recurses := true, apart := false }
def DictNobodySaid : Prop := dictNobodyRow.holds Try.pinned (OpenSpec.ofChange dictNobodySpec)

/-- ITS FALSE NEIGHBOUR: 'it returns false'. Refute it at one input. -/
def dictNobodyWrong : ChangeSpec := { name := "dictNobody", fn := fun _ => fun
  | [d1, d2] => { results := [.lit (.bool false)], args := [d1, d2] }
  | _ => none }
def DictNobodyWrongFalsely : Prop := dictNobodyRow.holds Try.pinned (OpenSpec.ofChange dictNobodyWrong)

/-- 'manteletlaw17.DictPlaces': WHATEVER THE INPUT: true; the input reads as it did. -/
def dictPlacesSpec : ChangeSpec := { name := "dictPlaces", fn := fun _ => fun
  | [d] => { results := [.lit (.bool true)], args := [d] }
  | _ => none }
def dictPlacesRow : OpenClaim := { program := "ytgebhidpkcjpmaa", sum := "6cdf76122bd13666ce0377bb5480afefbec4dd28e64feed222eb9906b548458f", func := "mantelet/manteletlaw17.DictPlaces", spec := "dictPlaces", unfollowed := true, recurses := true, apart := false }
def DictPlacesSaid : Prop := dictPlacesRow.holds Try.pinned (OpenSpec.ofChange dictPlacesSpec)

/-- ITS FALSE NEIGHBOUR: 'it returns false'. Refute it at one input. -/
def dictPlacesWrong : ChangeSpec := { name := "dictPlaces", fn := fun _ => fun
  | [d] => { results := [.lit (.bool false)], args := [d] }
  | _ => none }
def DictPlacesWrongFalsely : Prop := dictPlacesRow.holds Try.pinned (OpenSpec.ofChange dictPlacesWrong)

/- THE SECOND FORM. 'bulk': how many values and letters a reading holds, each counted each time it is reached (what is shared counts as often as it is met; a slice's spare places count too). A statement '..UptoSaid' is the law's where the arguments, and the package variables that the reading takes, are together of bulk at most 1048576: NARROWER than '..Said'. Prove '..Said' where nothing that the law and all that it calls make is longer than what came in: it says more and counts as full. Else prove '..UptoSaid'. A law counts once. -/
mutual
def uptoBulk {H : Type} : DataW H → Nat
  | .lit (.string bytes) => bytes.length + 1
  | .lit _ => 1
  | .nil => 1
  | .ptr d => uptoBulk d + 1
  | .slice elems spare => uptoBulkAll elems + uptoBulkAll spare + 1
  | .agg parts => uptoBulkAll parts + 1
  | .iface _ d => uptoBulk d + 1
  | .map entries => uptoBulkEntries entries + 1
  | .held _ => 1
def uptoBulkAll {H : Type} : List (DataW H) → Nat
  | [] => 0
  | d :: r => uptoBulk d + uptoBulkAll r
def uptoBulkEntries {H : Type} : List (Lit × DataW H) → Nat
  | [] => 0
  | x :: r => uptoBulkEntry x + uptoBulkEntries r
def uptoBulkEntry {H : Type} : Lit × DataW H → Nat
  | (.string bytes, d) => bytes.length + uptoBulk d + 1
  | (_, d) => uptoBulk d + 1
 end
def uptoSmall : (H : Type) → List (DataW H) → Bool := fun _ ds => decide (uptoBulkAll ds ≤ 1048576)
def OpenSpec.upto (s : _root_.Go.ChangeSpec) : _root_.Go.OpenSpec := { _root_.Go.OpenSpec.ofChange s with cond := some uptoSmall }

/-- 'manteletlaw16.FileMakes', WHERE WHAT IT READS IS OF BULK AT MOST 1048576: true; the input reads as it did. -/
def fileMakesUptoRow : OpenClaim := { program := "ytgebhidpkcjpmaa", sum := "6cdf76122bd13666ce0377bb5480afefbec4dd28e64feed222eb9906b548458f", func := "mantelet/manteletlaw16.FileMakes", spec := "fileMakes", unfollowed := true, recurses := true, apart := false, narrowed := true }
def FileMakesUptoSaid : Prop := fileMakesUptoRow.holds Try.pinned (OpenSpec.upto fileMakesSpec)

/-- 'manteletlaw16.FileEncodes', WHERE WHAT IT READS IS OF BULK AT MOST 1048576: true; the input reads as it did. -/
def fileEncodesUptoRow : OpenClaim := { program := "ytgebhidpkcjpmaa", sum := "6cdf76122bd13666ce0377bb5480afefbec4dd28e64feed222eb9906b548458f", func := "mantelet/manteletlaw16.FileEncodes", spec := "fileEncodes", unfollowed := true, recurses := true, apart := false, narrowed := true }
def FileEncodesUptoSaid : Prop := fileEncodesUptoRow.holds Try.pinned (OpenSpec.upto fileEncodesSpec)

/-- 'manteletlaw16.FileOnes', WHERE WHAT IT READS IS OF BULK AT MOST 1048576: true; the input reads as it did. -/
def fileOnesUptoRow : OpenClaim := { program := "ytgebhidpkcjpmaa", sum := "6cdf76122bd13666ce0377bb5480afefbec4dd28e64feed222eb9906b548458f", func := "mantelet/manteletlaw16.FileOnes", spec := "fileOnes", unfollowed := true, recurses := true, apart := false, narrowed := true }
def FileOnesUptoSaid : Prop := fileOnesUptoRow.holds Try.pinned (OpenSpec.upto fileOnesSpec)

/-- 'manteletlaw16.FileBack', WHERE WHAT IT READS IS OF BULK AT MOST 1048576: true; the input reads as it did. -/
def fileBackUptoRow : OpenClaim := { program := "ytgebhidpkcjpmaa", sum := "6cdf76122bd13666ce0377bb5480afefbec4dd28e64feed222eb9906b548458f", func := "mantelet/manteletlaw16.FileBack", spec := "fileBack", unfollowed := true, recurses := true, apart := false, narrowed := true }
def FileBackUptoSaid : Prop := fileBackUptoRow.holds Try.pinned (OpenSpec.upto fileBackSpec)

/-- 'manteletlaw16.FileTurned', WHERE WHAT IT READS IS OF BULK AT MOST 1048576: true; the input reads as it did. -/
def fileTurnedUptoRow : OpenClaim := { program := "ytgebhidpkcjpmaa", sum := "6cdf76122bd13666ce0377bb5480afefbec4dd28e64feed222eb9906b548458f", func := "mantelet/manteletlaw16.FileTurned", spec := "fileTurned", unfollowed := true, recurses := true, apart := false, narrowed := true }
def FileTurnedUptoSaid : Prop := fileTurnedUptoRow.holds Try.pinned (OpenSpec.upto fileTurnedSpec)

/-- 'manteletlaw17.DictOthers', WHERE WHAT IT READS IS OF BULK AT MOST 1048576: true; the input reads as it did. -/
def dictOthersUptoRow : OpenClaim := { program := "ytgebhidpkcjpmaa", sum := "6cdf76122bd13666ce0377bb5480afefbec4dd28e64feed222eb9906b548458f", func := "mantelet/manteletlaw17.DictOthers", spec := "dictOthers", unfollowed := true, recurses := true, apart := false, narrowed := true }
def DictOthersUptoSaid : Prop := dictOthersUptoRow.holds Try.pinned (OpenSpec.upto dictOthersSpec)

/-- 'manteletlaw17.DictAll', WHERE WHAT IT READS IS OF BULK AT MOST 1048576: true; the input reads as it did. -/
def dictAllUptoRow : OpenClaim := { program := "ytgebhidpkcjpmaa", sum := "6cdf76122bd13666ce0377bb5480afefbec4dd28e64feed222eb9906b548458f", func := "mantelet/manteletlaw17.DictAll", spec := "dictAll", unfollowed := true, recurses := true, apart := false, narrowed := true }
def DictAllUptoSaid : Prop := dictAllUptoRow.holds Try.pinned (OpenSpec.upto dictAllSpec)

/-- 'manteletlaw17.DictNobody', WHERE WHAT IT READS IS OF BULK AT MOST 1048576: true; the input reads as it did. -/
def dictNobodyUptoRow : OpenClaim := { program := "ytgebhidpkcjpmaa", sum := "6cdf76122bd13666ce0377bb5480afefbec4dd28e64feed222eb9906b548458f", func := "mantelet/manteletlaw17.DictNobody", spec := "dictNobody", unfollowed := true, recurses := true, apart := false, narrowed := true }
def DictNobodyUptoSaid : Prop := dictNobodyUptoRow.holds Try.pinned (OpenSpec.upto dictNobodySpec)

/-- 'manteletlaw17.DictPlaces', WHERE WHAT IT READS IS OF BULK AT MOST 1048576: true; the input reads as it did. -/
def dictPlacesUptoRow : OpenClaim := { program := "ytgebhidpkcjpmaa", sum := "6cdf76122bd13666ce0377bb5480afefbec4dd28e64feed222eb9906b548458f", func := "mantelet/manteletlaw17.DictPlaces", spec := "dictPlaces", unfollowed := true, recurses := true, apart := false, narrowed := true }
def DictPlacesUptoSaid : Prop := dictPlacesUptoRow.holds Try.pinned (OpenSpec.upto dictPlacesSpec)

end Rows
end Go.Proofs.Ytgebhidpkcjpmaa
