/- UtfPends: whatever bytes: what is pending is told by what may follow. -/
import Derived.Test.YtbnjakihgmhpdaaPUtfPendsx1
import Derived.Test.YtbnjakihgmhpdaaUtfL
namespace Go.Proofs.Ytbnjakihgmhpdaa.Pure
open Go.RowKit Go.Proofs.YtbnjakihgmhpdaaW.PrintWords Go.Proofs.YtbnjakihgmhpdaaW.PrintLast Go.Proofs.Ytbnjakihgmhpdaa.PUtfPends Go.Proofs.Ytbnjakihgmhpdaa.PRf04 Go.Proofs.Ytbnjakihgmhpdaa.K Go.Proofs.Ytbnjakihgmhpdaa
theorem pending_a {l : List Int} (hb : ∀ x ∈ l, 0 ≤ x ∧ x < 256) (hp : Utf.pend (toN l) = true) : utf_Pending.f (l ++ [97]) = some false := by
  unfold utf_Pending.f
  have hb' : ∀ x ∈ l ++ [97], 0 ≤ x ∧ x < 256 := by
    intro x hx
    rcases List.mem_append.1 hx with h | h
    · exact hb x h
    · simp at h; omega
  rw [toN_str hb', toN_append, show toN [97] = [97] from rfl, pend_a _ hp]
theorem l0_run (x : List Int) (hb : ∀ z ∈ x, 0 ≤ z ∧ z < 256) (hl : x.length ≤ 20000) (hp : Utf.pend (toN x) = true) (L : List Int) (hL : L = (List.replicate x.length (65533 : Int)) ++ [97]) :
    ∀ (d i k : Nat), d + i = x.length → manteletlaw04_UtfPends.l0 (k + 1 + d) x true L (i : Int) = some true := by
  have hLl : L.length = x.length + 1 := by rw [hL]; simp
  have hrd : ∀ i, i < x.length → rd L (i : Int) = 65533 := by
    intro i hi
    rw [rd_nat, hL, List.getD_eq_getElem?_getD, List.getElem?_append_left (by simpa using hi), List.getElem?_replicate]; simp [hi]
  have hrn : rd L (x.length : Int) = 97 := by
    rw [rd_nat, hL, List.getD_eq_getElem?_getD, List.getElem?_append_right (by simp)]; simp
  intro d
  induction d with
  | zero =>
    intro i k hi
    rw [manteletlaw04_UtfPends.l0, if_neg (by omega), if_pos rfl, if_pos (by omega), if_pos (by omega), hrn, if_pos rfl]
    simp only [Option.bind_some, List.nil_append, List.length_nil]
    by_cases h1 : (x.length : Int) = 1
    · rw [if_pos h1, if_pos (by omega), if_pos (by omega), pending_a hb hp]
      rfl
    · have h0 : x.length ≠ 0 := by
        intro h; rw [List.length_eq_zero_iff.1 h] at hp; simp [toN, Utf.pend] at hp
      rw [if_neg h1, show wrap64 ((x.length : Int) - 1) = (x.length : Int) - 1 by unfold wrap64; omega, if_pos (by omega), if_pos (by omega),
        show ((x.length : Int) - 1).toNat = x.length - 1 by omega]
      have h2 : utf_Pending.f (x.take (x.length - 1)) = some true := by
        unfold utf_Pending.f
        rw [toN_str (fun z hz => hb z (List.mem_of_mem_take hz)), toN_take]
        have := pend_take _ hp (by rw [toN_length]; omega)
        rw [toN_length] at this
        rw [this]
      rw [h2]
      simp only [Option.bind_some, if_true]
      rw [if_pos (by omega), if_pos (by omega), pending_a hb hp]
      rfl
  | succ d ih =>
    intro i k hi
    rw [show k + 1 + (d + 1) = (k + 1 + d) + 1 by omega, manteletlaw04_UtfPends.l0, if_pos (by omega), if_pos (by rw [hLl]; unfold wrap64; omega), if_pos (by omega), if_pos (by omega),
      hrd i (by omega), if_pos rfl, K.wrap_small _ (by omega) (by omega), show (i : Int) + 1 = ((i + 1 : Nat) : Int) by omega]
    exact ih (i + 1) k (by omega)
theorem UtfPends : manteletlaw04_UtfPends.Pure := by
  intro l0 _ _ w0
  have b0 := wf_u8 w0
  refine ⟨0 + 1 + l0.length, ?_⟩
  unfold manteletlaw04_UtfPends.f
  rw [shown04]; simp only [Option.bind_some]
  by_cases h0 : (l0.length : Int) > 20000
  · rw [if_pos h0]
  rw [if_neg h0]
  have hpf : utf_Pending.f l0 = some (Utf.pend (toN l0)) := by unfold utf_Pending.f; rw [toN_str b0]
  rw [hpf]; simp only [Option.bind_some, List.nil_append, List.length_nil, if_true]
  have hab : ∀ x ∈ l0 ++ [97], 0 ≤ x ∧ x < 256 := by
    intro x hx
    rcases List.mem_append.1 hx with h | h
    · exact b0 x h
    · simp at h; omega
  cases hp : Utf.pend (toN l0) with
  | true =>
    rw [if_pos rfl, if_pos (by omega), if_pos (by omega)]
    have hall : utf_All.f (l0 ++ [97]) = some (List.replicate l0.length (65533 : Int) ++ [97]) := by
      unfold utf_All.f
      rw [if_pos (by rw [List.length_append]; simp; omega), runes_toN hab, toN_append, show toN [97] = [97] from rfl, all_append_ascii _ _ (by simp), all_pend _ hp, toN_length]
      simp
    rw [hall]; simp only [Option.bind_some]
    exact l0_run l0 b0 (by omega) hp _ rfl l0.length 0 0 (by omega)
  | false =>
    rw [if_neg (by simp)]
    by_cases h1 : (l0.length : Int) = 0
    · rw [if_pos h1]
    rw [if_neg h1]
    by_cases h2 : (l0.length : Int) > 3
    · rw [if_pos h2]
    rw [if_neg h2]
    have hend : utf_End.f l0 = some ((Utf.all (toN l0)).map fun n : Nat => (n : Int)) := by
      unfold utf_End.f utf_All.f
      rw [if_pos (by omega), runes_toN b0]
    rw [hend]; simp only [Option.bind_some]
    rw [Utf.all_ne _ (by intro h; apply h1; have := congrArg List.length h; rw [toN_length] at this; simp at this; simp [this])]
    simp; omega
end Go.Proofs.Ytbnjakihgmhpdaa.Pure
