/- UtfTells: whatever two byte strings, of 20000 bytes at most, what All, Pending, Feed and End tell is what the reference tells. -/
import Derived.Test.YtbnjakihgmhpdaaPUtfTellsx1
import Derived.Test.YtbnjakihgmhpdaaUtfL
namespace Go.Proofs.Ytbnjakihgmhpdaa.Pure
open Go.RowKit Go.Proofs.YtbnjakihgmhpdaaW.PrintWords Go.Proofs.YtbnjakihgmhpdaaW.PrintLast Go.Proofs.Ytbnjakihgmhpdaa.PUtfTells Go.Proofs.Ytbnjakihgmhpdaa.PRf04 Go.Proofs.Ytbnjakihgmhpdaa.K Go.Proofs.Ytbnjakihgmhpdaa
theorem UtfTells : manteletlaw04_UtfTells.Pure := by
  intro l0 l1 _ _ w0 _ _ w1
  have b0 := wf_u8 w0
  have b1 := wf_u8 w1
  refine ⟨20100, ?_⟩
  unfold manteletlaw04_UtfTells.f
  rw [shown04]; simp only [Option.bind_some]
  by_cases h1 : (l1.length : Int) > 20000
  · rw [if_pos h1]; simp [manteletlaw04_UtfTells.j0]
  rw [if_neg h1]
  by_cases h0 : (l0.length : Int) > 20000
  · rw [decide_eq_true h0]; simp [manteletlaw04_UtfTells.j0]
  rw [decide_eq_false h0, manteletlaw04_UtfTells.j0, if_neg (by simp)]
  have hb : ∀ x ∈ l0 ++ l1, 0 ≤ x ∧ x < 256 := by
    intro x hx
    rcases List.mem_append.1 hx with h | h
    · exact b0 x h
    · exact b1 x h
  have f1 : utf_Feed.f l0 l1 = some (utf_Feed.r (l0 ++ l1)) := by unfold utf_Feed.f; rw [if_pos (by omega)]
  have f2 : manteletref04_Feed.f l0 l1 = some (utf_Feed.r (l0 ++ l1)) := by
    unfold manteletref04_Feed.f; rw [if_pos (byt_iff.2 hb), if_pos (by rw [List.length_append]; omega)]
  have f3 : utf_All.f l1 = some (Utf.runesZ (strOfNums l1)) := by unfold utf_All.f; rw [if_pos (by omega)]
  have f4 : utf_End.f l0 = some (Utf.runesZ (strOfNums l0)) := by unfold utf_End.f utf_All.f; rw [if_pos (by omega)]
  have f5 := All_eq l1 b1 (by omega) 20099 (by omega)
  have f6 := All_eq l0 b0 (by omega) 20099 (by omega)
  have f7 : utf_Pending.f l0 = some (Utf.pend (toN l0)) := by unfold utf_Pending.f; rw [toN_str b0]
  have f8 : manteletref04_Pending.f 20099 l0 = some (Utf.pend (toN l0)) := Pending_eq 20091 l0 b0
  have f9 : ∀ l, manteletref04_Same.f l l = some true := fun l => by simp [manteletref04_Same.f]
  rw [f1]; simp only [Option.bind_some]
  rw [f2]; simp only [Option.bind_some, if_true]
  rw [f3]; simp only [Option.bind_some]
  rw [f5]; simp only [Option.bind_some]
  rw [f9]; simp only [Option.bind_some, if_true]
  rw [f7]; simp only [Option.bind_some]
  rw [f8]; simp only [Option.bind_some, beq_self_eq_true, if_true]
  rw [f9]; simp only [Option.bind_some, if_true]
  rw [f4]; simp only [Option.bind_some]
  rw [f6]; simp only [Option.bind_some]
  rw [f9]; simp only [Option.bind_some]
end Go.Proofs.Ytbnjakihgmhpdaa.Pure
