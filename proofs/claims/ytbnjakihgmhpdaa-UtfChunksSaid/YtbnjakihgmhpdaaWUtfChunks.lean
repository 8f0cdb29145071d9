/- UtfChunks: in whatever chunks bytes are fed, all runes told are the runes of the bytes; what is pending has three bytes at most. -/
import Derived.Test.YtbnjakihgmhpdaaPUtfChunksx1
import Derived.Test.YtbnjakihgmhpdaaUtfL
namespace Go.Proofs.Ytbnjakihgmhpdaa.K
open Go.RowKit Go.Proofs.YtbnjakihgmhpdaaW.PrintWords Go.Proofs.YtbnjakihgmhpdaaW.PrintLast Go.Proofs.Ytbnjakihgmhpdaa.PUtfChunks Go.Proofs.Ytbnjakihgmhpdaa.PRf04 Go.Proofs.Ytbnjakihgmhpdaa
set_option linter.unusedVariables false
set_option linter.unusedSimpArgs false
theorem castL (l : List Nat) : (l.map fun n : Nat => (n : Int)).length = l.length := by simp
theorem chunks_run (x0 : List (List Int)) (hx : ∀ x ∈ x0, ∀ n ∈ x, 0 ≤ n ∧ n < 256) :
    ∀ (d i k : Nat) (x4 x5 x6 : List Int), d + i = min 40 x0.length → x4.length ≤ 1000 * i → (∀ n ∈ x4, 0 ≤ n ∧ n < 256) → (∀ n ∈ x6, 0 ≤ n ∧ n < 256) →
      x5 = (Utf.feed (toN x4)).1.map (fun n : Nat => (n : Int)) → toN x6 = (Utf.feed (toN x4)).2 → manteletlaw04_UtfChunks.l0 (k + 2 + 2 * d) x0 true x4 x5 x6 (i : Int) = some true := by
  intro d
  induction d with
  | zero =>
    intro i k x4 x5 x6 hi h4 b4 b6 h5 h6
    have h6l : x6.length ≤ x4.length := by
      obtain ⟨z, hz⟩ := Utf.feed_suffix (toN x4)
      have := congrArg List.length hz
      rw [List.length_append, ← h6, toN_length, toN_length] at this
      omega
    have h5l : x5.length ≤ x4.length := by
      have h1 := Utf.all_feed (toN x4)
      have h2 := Utf.all_length (toN x4)
      rw [h1, List.length_append, toN_length] at h2
      rw [h5, castL]; omega
    have hend : manteletlaw04_UtfChunks.j1 (k + 1) x0 true x4 x5 x6 (i : Int) false = some true := by
      rw [manteletlaw04_UtfChunks.j1, if_neg (by simp)]
      have e1 : utf_End.f x6 = some ((Utf.all (toN x6)).map fun n : Nat => (n : Int)) := by
        unfold utf_End.f utf_All.f
        rw [if_pos (by omega), runes_toN b6]
      have e2 : utf_All.f x4 = some ((Utf.all (toN x4)).map fun n : Nat => (n : Int)) := by
        unfold utf_All.f
        rw [if_pos (by omega), runes_toN b4]
      have e3 : Utf.runesZ (strOfNums x4) = ((Utf.all (toN x4)).map fun n : Nat => (n : Int)) := runes_toN b4
      have e4 : x5 ++ ((Utf.all (toN x6)).map fun n : Nat => (n : Int)) = ((Utf.all (toN x4)).map fun n : Nat => (n : Int)) := by
        rw [Utf.all_feed (toN x4), List.map_append, h5, h6]
      have hl6 := Utf.all_length (toN x6)
      rw [toN_length] at hl6
      rw [e1]
      simp only [Option.bind_some, if_true]
      rw [if_pos (by rw [castL]; omega), e2, e3, e4]
      simp only [Option.bind_some]
      rw [show ∀ l : List Int, manteletref04_Same.f l l = some true from fun l => by simp [manteletref04_Same.f]]
      simp only [Option.bind_some, if_true]
      rw [if_pos (by rw [strOfNums_size]; omega)]
    rw [show k + 2 + 2 * 0 = (k + 1) + 1 by omega, manteletlaw04_UtfChunks.l0]
    by_cases hlt : (i : Int) < (x0.length : Int)
    · rw [if_pos hlt, decide_eq_false (by omega)]; exact hend
    · rw [if_neg hlt]; exact hend
  | succ d ih =>
    intro i k x4 x5 x6 hi h4 b4 b6 h5 h6
    have hlt : i < x0.length := by omega
    have h6l : x6.length ≤ x4.length := by
      obtain ⟨z, hz⟩ := Utf.feed_suffix (toN x4)
      have := congrArg List.length hz
      rw [List.length_append, ← h6, toN_length, toN_length] at this
      omega
    have h5l : x5.length ≤ x4.length := by
      have h1 := Utf.all_feed (toN x4)
      have h2 := Utf.all_length (toN x4)
      rw [h1, List.length_append, toN_length] at h2
      rw [h5, castL]; omega
    have hrd : rd_L1 x0 (i : Int) = x0[i] := by
      unfold rd_L1; rw [Int.toNat_natCast, List.getD_eq_getElem?_getD, List.getElem?_eq_getElem hlt]; rfl
    have bc := hx _ (List.getElem_mem hlt)
    rw [show k + 2 + 2 * (d + 1) = (k + 2 + 2 * d) + 1 + 1 by omega, manteletlaw04_UtfChunks.l0, if_pos (by omega), decide_eq_true (show (i : Int) < 40 by omega), manteletlaw04_UtfChunks.j1, if_pos rfl, if_pos (by omega), if_pos (by omega), hrd]
    generalize x0[i] = c at bc
    by_cases hc : (c.length : Int) > 1000
    · rw [if_pos hc]
    rw [if_neg hc, if_pos (by omega)]
    have bxc : ∀ n ∈ x6 ++ c, 0 ≤ n ∧ n < 256 := by
      intro n hn
      rcases List.mem_append.1 hn with h | h
      · exact b6 n h
      · exact bc n h
    have b4c : ∀ n ∈ x4 ++ c, 0 ≤ n ∧ n < 256 := by
      intro n hn
      rcases List.mem_append.1 hn with h | h
      · exact b4 n h
      · exact bc n h
    obtain ⟨m, p, hr⟩ : ∃ m p, utf_Feed.r (x6 ++ c) = (m, p) := ⟨_, _, rfl⟩
    have hf : utf_Feed.f x6 c = some (m, p) := by unfold utf_Feed.f; rw [if_pos (by omega), hr]
    rw [hf]
    simp only [Option.bind_some]
    rw [feed_toN bxc] at hr
    simp only [Prod.mk.injEq] at hr
    obtain ⟨e1, e2⟩ := hr
    have hp : toN p = (Utf.feed (toN (x6 ++ c))).2 := by rw [← e2]; exact feed_rest
    have bp : ∀ n ∈ p, 0 ≤ n ∧ n < 256 := fun n hn => bxc n (by rw [← e2] at hn; exact List.mem_of_mem_drop hn)
    have hs := Utf.feed_append (toN x4) (toN c)
    rw [← toN_append, ← h6, ← toN_append] at hs
    have hml : m.length ≤ x6.length + c.length := by
      have h1 := Utf.all_feed (toN (x6 ++ c))
      have h2 := Utf.all_length (toN (x6 ++ c))
      rw [h1, List.length_append, toN_length, List.length_append] at h2
      rw [← e1, castL]; omega
    have hgo := ih (i + 1) k (x4 ++ c) (x5 ++ m) p (by omega) (by rw [List.length_append]; omega) b4c bp (by rw [hs, List.map_append, h5, e1]) (by rw [hs, hp])
    rw [if_pos (by omega)]
    have hw : wrap64 ((i : Int) + 1) = ((i + 1 : Nat) : Int) := by rw [K.wrap_small _ (by omega) (by omega)]; omega
    have hpp := Utf.feed_pending (toN (x6 ++ c))
    rw [← hp] at hpp
    rw [hw]
    rcases hpp with h0 | h0
    · have hp0 : p.length = 0 := by rw [← toN_length, h0]; rfl
      rw [if_neg (by omega), if_neg (by omega)]; exact hgo
    · have h3 := Utf.pend_len _ h0
      rw [toN_length] at h3
      have hpf : utf_Pending.f p = some true := by unfold utf_Pending.f; rw [toN_str bp, h0]
      rw [if_neg (by omega), if_pos (by omega), hpf]
      simp only [Option.bind_some, if_true]
      exact hgo
theorem UtfChunks_walk (A0 : Option Addr) (c0 : Nat) (l0 : List (List Int)) (w : World) (hC : Kd.C (Kd.slice 5 (Kd.int .u8)) w A0 l0.length l0) (hc : l0.length ≤ c0) (hwf : ∀ x ∈ l0, x.length ≤ maxLen ∧ ∀ n ∈ x, (Lit.int .u8 n).wf = true) :
    Calls Try.prog 11 #[.slice A0 l0.length c0] w fun e w' => e = .returned (.bool true) ∧ Below w.heap.size w w' := by
  refine manteletlaw04_UtfChunks.calls (0 + 2 + 2 * min 40 l0.length) A0 c0 l0 true w hC hc ?_
  unfold manteletlaw04_UtfChunks.f
  rw [shown04]; simp only [Option.bind_some]
  have := chunks_run l0 (fun x hx => wf_u8 (hwf x hx).2) (min 40 l0.length) 0 0 [] [] [] (by omega) (by simp) (by simp) (by simp) (by simp [toN, Utf.feed_nil]) (by simp [toN, Utf.feed_nil])
  simpa using this
end Go.Proofs.Ytbnjakihgmhpdaa.K
