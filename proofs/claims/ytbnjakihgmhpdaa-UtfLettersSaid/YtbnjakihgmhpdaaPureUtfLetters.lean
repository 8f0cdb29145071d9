/- UtfLetters: whatever two byte strings: plain bytes behind any bytes are runes as they are. -/
import Derived.Test.YtbnjakihgmhpdaaPUtfLettersx1
import Derived.Test.YtbnjakihgmhpdaaUtfL
namespace Go.Proofs.Ytbnjakihgmhpdaa.Pure
open Go.RowKit Go.Proofs.YtbnjakihgmhpdaaW.PrintWords Go.Proofs.YtbnjakihgmhpdaaW.PrintLast Go.Proofs.Ytbnjakihgmhpdaa.PUtfLetters Go.Proofs.Ytbnjakihgmhpdaa.PRf04 Go.Proofs.Ytbnjakihgmhpdaa.K Go.Proofs.Ytbnjakihgmhpdaa
theorem l1_run (x0 L P : List Int) (hP : ∀ x ∈ P, 0 ≤ x ∧ x < 128) (hL : L.length + P.length < 1000000) (hA : ∃ A, utf_All.f x0 = some A ∧ A.length = L.length) :
    ∀ (d i k : Nat), d + i = P.length → manteletlaw04_UtfLetters.l1 (k + 1 + d) x0 true P (L ++ P) P (i : Int) = some true := by
  intro d
  induction d with
  | zero =>
    intro i k hi
    rw [manteletlaw04_UtfLetters.l1, if_neg (by omega), if_pos rfl]
    by_cases h0 : (P.length : Int) = 0
    · rw [if_pos h0]
    · rw [if_neg h0]
      obtain ⟨A, hA, hAl⟩ := hA
      rw [hA]
      simp only [Option.bind_some]
      rw [show wrap64 ((A.length : Int) + (P.length : Int)) = (A.length : Int) + (P.length : Int) by unfold wrap64; omega]
      simp [hAl]
  | succ d ih =>
    intro i k hi
    rw [show k + 1 + (d + 1) = (k + 1 + d) + 1 by omega, manteletlaw04_UtfLetters.l1, if_pos (by omega)]
    have e1 : wrap64 ((wrap64 (((L ++ P).length : Int) - (P.length : Int))) + (i : Int)) = ((L.length + i : Nat) : Int) := by
      rw [List.length_append]; unfold wrap64; omega
    rw [e1, if_pos (by omega), if_pos (by rw [List.length_append]; omega), if_pos (by omega)]
    have hlt : i < P.length := by omega
    have hb := hP _ (List.getElem_mem hlt)
    have e2 : rd P (i : Int) = P[i] := by rw [rd_nat, List.getD_eq_getElem?_getD, List.getElem?_eq_getElem hlt]; rfl
    have e3 : rd (L ++ P) ((L.length + i : Nat) : Int) = P[i] := by
      rw [rd_nat, List.getD_eq_getElem?_getD, List.getElem?_append_right (by omega), show L.length + i - L.length = i by omega, List.getElem?_eq_getElem hlt]; rfl
    have e4 : wrap32 P[i] = P[i] := wrap32_id _ (by omega) (by omega)
    rw [e2, e3, e4, if_pos rfl, if_pos (by omega), if_pos rfl, K.wrap_small _ (by omega) (by omega), show (i : Int) + 1 = ((i + 1 : Nat) : Int) by omega]
    exact ih (i + 1) k (by omega)
theorem l0_run (x0 x1 : List Int) (h0 : x0.length ≤ 2000) (h1 : x1.length ≤ 2000) (b0 : ∀ x ∈ x0, 0 ≤ x ∧ x < 256) (b1 : ∀ x ∈ x1, 0 ≤ x ∧ x < 256) :
    ∀ (d i k : Nat), d + i = x1.length → manteletlaw04_UtfLetters.l0 (k + 2003 + d) x0 x1 true ((x1.map fun x => x % 128).take i) (i : Int) = some true := by
  intro d
  induction d with
  | zero =>
    intro i k hi
    have hP : ∀ x ∈ (x1.map fun x => x % 128), 0 ≤ x ∧ x < 128 := by
      intro x hx
      obtain ⟨y, _, rfl⟩ := List.mem_map.1 hx
      constructor <;> omega
    have hl : (x1.map fun x => x % 128).length = x1.length := List.length_map ..
    rw [List.take_of_length_le (by omega)]
    generalize (x1.map fun x => x % 128) = P at hP hl
    have hPb : ∀ x ∈ P, 0 ≤ x ∧ x < 256 := fun x hx => ⟨(hP x hx).1, by have := (hP x hx).2; omega⟩
    have hb : ∀ x ∈ x0 ++ P, 0 ≤ x ∧ x < 256 := by
      intro x hx
      rcases List.mem_append.1 hx with h | h
      · exact b0 x h
      · exact hPb x h
    have hPn : ∀ b ∈ toN P, b < 128 := by
      intro b hb
      obtain ⟨y, hy, rfl⟩ := List.mem_map.1 hb
      have := hP y hy; omega
    have hcast : (toN P).map (fun n : Nat => (n : Int)) = P := by
      unfold toN; rw [List.map_map]
      conv => rhs; rw [← List.map_id P]
      exact List.map_congr_left fun x hx => by have := hP x hx; simp; omega
    rw [show k + 2003 + 0 = (k + 2002) + 1 by omega, manteletlaw04_UtfLetters.l0, if_neg (by omega)]
    simp only [Option.bind_some, List.nil_append, List.length_nil]
    rw [if_pos (by omega), if_pos (by omega)]
    have hall : utf_All.f (x0 ++ P) = some (((Utf.all (toN x0)).map fun n : Nat => (n : Int)) ++ P) := by
      unfold utf_All.f
      rw [if_pos (by rw [List.length_append]; omega), runes_toN hb, toN_append, all_append_ascii _ _ hPn, List.map_append, hcast]
    have hfeed : utf_Feed.f [] P = some (P, []) := by
      unfold utf_Feed.f
      rw [if_pos (by simp; omega), List.nil_append, feed_toN hPb, feed_ascii _ hPn, hcast]
      simp
    have h00 : utf_All.f x0 = some ((Utf.all (toN x0)).map fun n : Nat => (n : Int)) := by
      unfold utf_All.f
      rw [if_pos (by omega), runes_toN b0]
    have hlen := Utf.all_length (toN x0)
    rw [toN_length] at hlen
    have hlen' : ((Utf.all (toN x0)).map fun n : Nat => (n : Int)).length ≤ 2000 := by rw [List.length_map]; omega
    generalize ((Utf.all (toN x0)).map fun n : Nat => (n : Int)) = L at hall h00 hlen'
    rw [hall, hfeed]
    simp only [Option.bind_some]
    rw [if_neg (by rw [List.length_append]; omega), if_pos trivial]
    rw [show decide ((([] : List Int).length : Int) > 0) = false from rfl, show k + 2002 = (k + 2001) + 1 by omega, manteletlaw04_UtfLetters.j2, if_neg (by simp),
      show k + 2001 = (k + (2000 - P.length)) + 1 + P.length by omega]
    exact l1_run x0 L P hP (by omega) ⟨L, h00, rfl⟩ P.length 0 _ (by omega)
  | succ d ih =>
    intro i k hi
    have hlt : i < x1.length := by omega
    have hb := b1 _ (List.getElem_mem hlt)
    rw [show k + 2003 + (d + 1) = (k + 2003 + d) + 1 by omega, manteletlaw04_UtfLetters.l0, if_pos (by omega), if_pos (by omega), if_pos (by rw [List.length_take]; omega), K.wrap_small _ (by omega) (by omega),
      show (i : Int) + 1 = ((i + 1 : Nat) : Int) by omega]
    have e2 : rd x1 (i : Int) = x1[i] := by rw [rd_nat, List.getD_eq_getElem?_getD, List.getElem?_eq_getElem hlt]; rfl
    rw [e2, Int.tmod_eq_emod_of_nonneg hb.1]
    have e3 : (x1.map fun x => x % 128).take i ++ [x1[i] % 128] = (x1.map fun x => x % 128).take (i + 1) := by
      rw [List.take_succ_eq_append_getElem (by rw [List.length_map]; exact hlt), List.getElem_map]
    rw [e3]
    exact ih (i + 1) k (by omega)
theorem UtfLetters : manteletlaw04_UtfLetters.Pure := by
  intro l0 l1 _ _ w0 _ _ w1
  have b0 := wf_u8 w0
  have b1 := wf_u8 w1
  refine ⟨2004 + l1.length, ?_⟩
  unfold manteletlaw04_UtfLetters.f
  rw [shown04]; simp only [Option.bind_some]
  have hj : 2004 + l1.length = (0 + 2003 + l1.length) + 1 := by omega
  rw [hj]
  by_cases h0 : (l0.length : Int) > 2000
  · rw [if_pos h0]; simp [manteletlaw04_UtfLetters.j0]
  rw [if_neg h0]
  by_cases h1 : (l1.length : Int) > 2000
  · rw [decide_eq_true h1]; simp [manteletlaw04_UtfLetters.j0]
  rw [decide_eq_false h1, manteletlaw04_UtfLetters.j0, if_neg (by simp)]
  have := l0_run l0 l1 (by omega) (by omega) b0 b1 l1.length 0 0 (by omega)
  simpa using this
end Go.Proofs.Ytbnjakihgmhpdaa.Pure
