/- Plain laws of the decoder that the statements of layer 4 lean on. -/
import Derived.Test.YtbnjakihgmhpdaaRef04P
import Derived.Test.YtbnjakihgmhpdaaRef04F
import Derived.Test.YtbnjakihgmhpdaaUtfK
import Derived.Test.YtbnjakihgmhpdaaRef04K
import GoSem.Claim
namespace Go.Proofs.Ytbnjakihgmhpdaa.K
open Go.RowKit Go.Proofs.YtbnjakihgmhpdaaW.PrintWords Go.Proofs.YtbnjakihgmhpdaaW.PrintLast Go.Proofs.YtbnjakihgmhpdaaW.PrintMore Go.Proofs.Ytbnjakihgmhpdaa Go.Proofs.Ytbnjakihgmhpdaa.PRf04
set_option linter.unusedVariables false
set_option linter.unusedSimpArgs false
theorem wf_u8 {l : List Int} (h : ∀ x ∈ l, (Lit.int .u8 x).wf = true) : ∀ x ∈ l, 0 ≤ x ∧ x < 256 := by
  intro x hx
  have := h x hx
  simp only [Lit.wf, Bool.and_eq_true, decide_eq_true_eq] at this
  exact ⟨this.1, Int.lt_of_le_of_lt this.2 (by decide)⟩
theorem wf_i32 {l : List Int} (h : ∀ x ∈ l, (Lit.int .i32 x).wf = true) : ∀ x ∈ l, -2147483648 ≤ x ∧ x < 2147483648 := by
  intro x hx
  have := h x hx
  simp only [Lit.wf, Bool.and_eq_true, decide_eq_true_eq] at this
  exact ⟨this.1, Int.lt_of_le_of_lt this.2 (by decide)⟩
/-- Runes of bytes, over the numbers. -/
theorem runes_toN {l : List Int} (hb : ∀ x ∈ l, 0 ≤ x ∧ x < 256) : Utf.runesZ (strOfNums l) = (Utf.all (toN l)).map fun n : Nat => (n : Int) := by
  unfold Utf.runesZ Utf.runesFrom
  rw [List.drop_zero, toN_str hb]
theorem feed_toN {l : List Int} (hb : ∀ x ∈ l, 0 ≤ x ∧ x < 256) : utf_Feed.r l = ((Utf.feed (toN l)).1.map fun n : Nat => (n : Int), l.drop (l.length - (Utf.feed (toN l)).2.length)) := by
  unfold utf_Feed.r Utf.fedFrom
  rw [List.drop_zero, toN_str hb]
theorem toN_append (a b : List Int) : toN (a ++ b) = toN a ++ toN b := by simp [toN]
theorem toN_length (a : List Int) : (toN a).length = a.length := by simp [toN]
/-- What is pending, as the bytes themselves. -/
theorem feed_rest {l : List Int} : toN (l.drop (l.length - (Utf.feed (toN l)).2.length)) = (Utf.feed (toN l)).2 := by
  obtain ⟨z, hz⟩ := Utf.feed_suffix (toN l)
  have hl : l.length = z.length + (Utf.feed (toN l)).2.length := by
    rw [← toN_length l]
    conv => lhs; rw [hz]
    simp
  rw [toN_drop, show l.length - (Utf.feed (toN l)).2.length = z.length by omega]
  generalize (Utf.feed (toN l)).2 = q at hz
  rw [hz, List.drop_left]
theorem shown04 : manteletlaw04_shown.f = some true := by
  have h1 : utf_Feed.f [] [226] = some ([], [226]) := by
    unfold utf_Feed.f
    rw [if_pos (by simp), feed_toN (by simp)]
    rw [show toN ([] ++ [226]) = [226] from rfl, Utf.feed_pend _ (by decide)]
    rfl
  have h2 : utf_Feed.f [226] [130, 172] = some ([8364], []) := by
    unfold utf_Feed.f
    rw [if_pos (by simp), feed_toN (by simp)]
    rw [show toN ([226] ++ [130, 172]) = [226, 130, 172] from rfl, Utf.feed_step _ (by simp) (by decide)]
    rw [show (Utf.dec [226, 130, 172]) = (8364, 3) by decide]
    simp [Utf.feed_nil]
  unfold manteletlaw04_shown.f
  rw [h1]; simp only [Option.bind_some]
  rw [h2]; simp [rd]
theorem str_toN (l : List Int) : strOfNums l = ⟨((toN l).map UInt8.ofNat).toArray⟩ := by simp [strOfNums, toN]
theorem toN_take (l : List Int) (k : Nat) : toN (l.take k) = (toN l).take k := by simp [toN, List.map_take]
/-- Bytes cut anywhere. -/
theorem split_law (l : List Int) (k : Nat) (hk : k ≤ l.length) (hb : ∀ x ∈ l, 0 ≤ x ∧ x < 256) {r1 r2 m1 m2 n1 n2 : List Int}
    (h1 : utf_Feed.r (l.take k) = (r1, r2)) (h2 : utf_Feed.r (r2 ++ l.drop k) = (m1, m2)) (h3 : utf_Feed.r l = (n1, n2)) :
    r1 ++ m1 = n1 ∧ toN m2 = toN n2 ∧ (∀ x ∈ r2, 0 ≤ x ∧ x < 256) ∧ r2.length ≤ k ∧ r2 = (l.take k).drop (k - r2.length) ∧ m2.length = n2.length ∧ r1.length ≤ k ∧ m1.length ≤ l.length := by
  have hbt : ∀ x ∈ l.take k, 0 ≤ x ∧ x < 256 := fun x hx => hb x (List.mem_of_mem_take hx)
  rw [feed_toN hbt] at h1
  simp only [Prod.mk.injEq] at h1
  obtain ⟨e1, e2⟩ := h1
  have hkl : (l.take k).length = k := by rw [List.length_take]; omega
  have hr2b : ∀ x ∈ r2, 0 ≤ x ∧ x < 256 := fun x hx => hbt x (by rw [← e2] at hx; exact List.mem_of_mem_drop hx)
  have hr2n : toN r2 = (Utf.feed (toN (l.take k))).2 := by rw [← e2]; exact feed_rest
  have hr2l : r2.length = (Utf.feed (toN (l.take k))).2.length := by rw [← hr2n, toN_length]
  have hb2 : ∀ x ∈ r2 ++ l.drop k, 0 ≤ x ∧ x < 256 := by
    intro x hx
    rcases List.mem_append.1 hx with h | h
    · exact hr2b x h
    · exact hb x (List.mem_of_mem_drop h)
  rw [feed_toN hb2] at h2
  simp only [Prod.mk.injEq] at h2
  obtain ⟨e3, e4⟩ := h2
  rw [feed_toN hb] at h3
  simp only [Prod.mk.injEq] at h3
  obtain ⟨e5, e6⟩ := h3
  have hs := Utf.feed_append (toN (l.take k)) (toN (l.drop k))
  rw [← toN_append, List.take_append_drop, ← hr2n, ← toN_append] at hs
  have hm2 : toN m2 = (Utf.feed (toN (r2 ++ l.drop k))).2 := by rw [← e4]; exact feed_rest
  have hn2 : toN n2 = (Utf.feed (toN l)).2 := by rw [← e6]; exact feed_rest
  have hlen : (Utf.feed (toN (l.take k))).2.length ≤ k := by
    obtain ⟨z, hz⟩ := Utf.feed_suffix (toN (l.take k))
    have := congrArg List.length hz
    rw [toN_length, hkl, List.length_append] at this
    omega
  have hfl : ∀ q : List Nat, (Utf.feed q).1.length ≤ q.length := by
    intro q
    have h1 := Utf.all_feed q
    have h2 := Utf.all_length q
    rw [h1, List.length_append] at h2
    omega
  have hmn : toN m2 = toN n2 := by rw [hm2, hn2, hs]
  refine ⟨?_, hmn, hr2b, by omega, ?_, ?_, ?_, ?_⟩
  · rw [← e1, ← e3, ← e5, hs, List.map_append]
  · rw [hkl] at e2
    rw [hr2l]; exact e2.symm
  · have := congrArg List.length hmn
    rwa [toN_length, toN_length] at this
  · rw [← e1, List.length_map]
    have := hfl (toN (l.take k))
    rw [toN_length, hkl] at this
    exact this
  · rw [← e3, List.length_map]
    have := hfl (toN (r2 ++ l.drop k))
    rw [toN_length, List.length_append, List.length_drop] at this
    omega
/-! ### Plain bytes -/
theorem dec_ascii (x y : List Nat) (hx : x ≠ []) (hy : ∀ b ∈ y, b < 128) : Utf.dec (x ++ y) = Utf.dec x := by
  cases hp : Utf.pend x with
  | false => exact Utf.dec_append x y hx hp
  | true =>
    have hc : ∀ b ∈ y, Utf.cont b = false := by
      intro b hb; have := hy b hb
      cases h : Utf.cont b with
      | false => rfl
      | true => rw [Utf.cont_iff] at h; omega
    have hf : ∀ a, ∀ b ∈ y, Utf.fits a b = false := by
      intro a b hb; have := hy b hb
      cases h : Utf.fits a b with
      | false => rfl
      | true => rw [Utf.fits_iff] at h; omega
    match x with
    | [] => exact absurd rfl hx
    | [a] =>
      match y with
      | [] => simp
      | [b] => simp [Utf.dec, hc b (by simp)]
      | [b, c] => simp [Utf.dec, hc b (by simp), hf a b (by simp)]
      | b :: c :: d :: t => simp [Utf.dec, hc b (by simp), hf a b (by simp)]
    | [a, b] =>
      simp only [Utf.pend, Bool.and_eq_true, decide_eq_true_eq] at hp
      match y with
      | [] => simp
      | [c] => simp [Utf.dec, hc c (by simp)]
      | c :: d :: t => simp [Utf.dec, hc c (by simp)]
    | [a, b, c] =>
      simp only [Utf.pend, Bool.and_eq_true, decide_eq_true_eq] at hp
      match y with
      | [] => simp
      | d :: t => simp [Utf.dec, hc d (by simp)]
    | a :: b :: c :: d :: t => simp [Utf.pend] at hp
theorem all_ascii (y : List Nat) (hy : ∀ b ∈ y, b < 128) : Utf.all y = y := by
  induction y with
  | nil => exact Utf.all_nil
  | cons a t ih =>
    have ha := hy a (by simp)
    rw [Utf.all_ne _ (by simp), show Utf.dec (a :: t) = (a, 1) by simp [Utf.dec, ha]]
    simp [ih (fun b hb => hy b (by simp [hb]))]
theorem all_append_ascii (x y : List Nat) (hy : ∀ b ∈ y, b < 128) : Utf.all (x ++ y) = Utf.all x ++ y := by
  match h : x.length with
  | n =>
    induction n using Nat.strongRecOn generalizing x with
    | ind n ih =>
      by_cases hx : x = []
      · subst hx; simp [Utf.all_nil, all_ascii y hy]
      · have h1 := Utf.dec_pos x
        have h2 := Utf.dec_le x hx
        have h0 : 0 < x.length := List.length_pos_iff.2 hx
        have hlen : (x.drop (Utf.dec x).2).length < n := by simp; omega
        rw [Utf.all_ne _ (by simp [hx]), Utf.all_ne x hx, dec_ascii x y hx hy, Utf.drop_append_le x y _ h2, ih _ hlen _ rfl]
        simp
theorem feed_ascii (y : List Nat) (hy : ∀ b ∈ y, b < 128) : Utf.feed y = (y, []) := by
  induction y with
  | nil => exact Utf.feed_nil
  | cons a t ih =>
    have ha := hy a (by simp)
    have hp : Utf.pend (a :: t) = false := by
      match t with
      | [] => simp [Utf.pend]; omega
      | [b] => simp [Utf.pend]; omega
      | [b, c] => simp [Utf.pend]; omega
      | b :: c :: d :: _ => rfl
    rw [Utf.feed_step _ (by simp) hp, show Utf.dec (a :: t) = (a, 1) by simp [Utf.dec, ha]]
    simp [ih (fun b hb => hy b (by simp [hb]))]
theorem all_pend (b : List Nat) (h : Utf.pend b = true) : Utf.all b = List.replicate b.length 65533 := by
  match b with
  | [] => simp [Utf.pend] at h
  | [a] =>
    simp only [Utf.pend, Bool.and_eq_true, decide_eq_true_eq] at h
    have hd : Utf.dec [a] = (65533, 1) := by
      have : ¬ a < 128 := by omega
      simp [Utf.dec, this]
    rw [Utf.all_ne _ (by simp), hd]; simp [Utf.all_nil]
  | [a, b] =>
    simp only [Utf.pend, Bool.and_eq_true, decide_eq_true_eq] at h
    obtain ⟨⟨h1, h2⟩, hf⟩ := h
    rw [Utf.fits_iff] at hf
    have hd : Utf.dec [a, b] = (65533, 1) := by
      have e1 : ¬ a < 128 := by omega
      have e2 : ¬ a ≤ 0xDF := by omega
      simp [Utf.dec, e1, e2]
    have hd2 : Utf.dec [b] = (65533, 1) := by
      have e1 : ¬ b < 128 := by omega
      simp [Utf.dec, e1]
    rw [Utf.all_ne _ (by simp), hd]
    simp only [List.drop_succ_cons, List.drop_zero]
    rw [Utf.all_ne _ (by simp), hd2]; simp [Utf.all_nil]
  | [a, b, c] =>
    simp only [Utf.pend, Bool.and_eq_true, decide_eq_true_eq] at h
    obtain ⟨⟨⟨h1, h2⟩, hf⟩, hc⟩ := h
    rw [Utf.fits_iff] at hf
    rw [Utf.cont_iff] at hc
    have hd : Utf.dec [a, b, c] = (65533, 1) := by
      have e1 : ¬ a < 128 := by omega
      have e2 : ¬ a ≤ 0xDF := by omega
      have e3 : ¬ a ≤ 0xEF := by omega
      simp [Utf.dec, e1, e2, e3]
    have hd1 : Utf.dec [b, c] = (65533, 1) := by
      have e1 : ¬ b < 128 := by omega
      have e2 : ¬ (0xC2 ≤ b ∧ b ≤ 0xDF) := by omega
      simp [Utf.dec, e1, e2]
    have hd2 : Utf.dec [c] = (65533, 1) := by
      have e1 : ¬ c < 128 := by omega
      simp [Utf.dec, e1]
    rw [Utf.all_ne _ (by simp), hd]
    simp only [List.drop_succ_cons, List.drop_zero]
    rw [Utf.all_ne _ (by simp), hd1]
    simp only [List.drop_succ_cons, List.drop_zero]
    rw [Utf.all_ne _ (by simp), hd2]; simp [Utf.all_nil]
  | a :: b :: c :: d :: t => simp [Utf.pend] at h
theorem pend_a (b : List Nat) (h : Utf.pend b = true) : Utf.pend (b ++ [97]) = false := by
  match b with
  | [] => simp [Utf.pend] at h
  | [a] =>
    have : Utf.fits a 97 = false := by
      cases h : Utf.fits a 97 with
      | false => rfl
      | true => rw [Utf.fits_iff] at h; omega
    simp [Utf.pend, this]
  | [a, b] => simp [Utf.pend, show Utf.cont 97 = false from by decide]
  | [a, b, c] => rfl
  | a :: b :: c :: d :: t => rfl
theorem pend_take (b : List Nat) (h : Utf.pend b = true) (h1 : b.length ≠ 1) : Utf.pend (b.take (b.length - 1)) = true := by
  match b with
  | [] => simp [Utf.pend] at h
  | [a] => simp at h1
  | [a, b] =>
    simp only [Utf.pend, Bool.and_eq_true, decide_eq_true_eq] at h
    simp [Utf.pend]; omega
  | [a, b, c] =>
    simp only [Utf.pend, Bool.and_eq_true, decide_eq_true_eq] at h
    simp [Utf.pend, h.1.2]; omega
  | a :: b :: c :: d :: t => simp [Utf.pend] at h
end Go.Proofs.Ytbnjakihgmhpdaa.K
