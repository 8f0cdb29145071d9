/- What the printed functions of the reference of layer 4 come to: plain Lean. -/
import Derived.Test.YtbnjakihgmhpdaaPRf04x
import Derived.Test.YtbnjakihgmhpdaaHelp
namespace Go.Proofs.Ytbnjakihgmhpdaa.K
open Go.RowKit Go.Proofs.YtbnjakihgmhpdaaW.PrintWords Go.Proofs.YtbnjakihgmhpdaaW.PrintLast Go.Proofs.YtbnjakihgmhpdaaW.PrintMore Go.Proofs.Ytbnjakihgmhpdaa Go.Proofs.Ytbnjakihgmhpdaa.PRf04
set_option linter.unusedVariables false
set_option linter.unusedSimpArgs false
def szN (a : Int) : Int := if a < 128 then 1 else if 194 ≤ a ∧ a ≤ 223 then 2 else if 224 ≤ a ∧ a ≤ 239 then 3 else if 240 ≤ a ∧ a ≤ 244 then 4 else 0
theorem Size_eq (k : Nat) (a : Int) : manteletref04_Size.f (k + 2) a = some (szN a) := by
  unfold szN manteletref04_Size.f
  simp only [manteletref04_Size.j0, manteletref04_Size.j1, decide_eq_true_eq, Bool.false_eq_true, if_false, ge_iff_le]
  repeat' split
  all_goals first | rfl | (exfalso; omega)
/-- May a byte stand at a place? -/
def fitN (a at_ b : Int) : Bool := if at_ = 1 then Utf.fits a.toNat b.toNat else Utf.cont b.toNat
theorem fits_eq (k : Nat) (a i b : Int) (ha : 0 ≤ a) (hb : 0 ≤ b) : manteletref04_fits.f (k + 3) a i b = some (fitN a i b) := by
  unfold fitN manteletref04_fits.f
  simp only [manteletref04_fits.j0, manteletref04_fits.j1, manteletref04_fits.j2, beq_iff_eq, Bool.false_eq_true, if_false, ge_iff_le]
  by_cases hi : i = 1
  · simp only [hi, if_true]
    have key : ∀ x : Bool, (x = true ↔ Utf.fits a.toNat b.toNat = true) → some x = some (Utf.fits a.toNat b.toNat) := by
      intro x h; rw [Bool.eq_iff_iff.2 h]
    repeat' split
    all_goals (apply key; rw [Utf.fits_iff]; simp only [decide_eq_true_eq, Bool.false_eq_true, false_iff]; omega)
  · simp only [hi, if_false]
    have key : ∀ x : Bool, (x = true ↔ Utf.cont b.toNat = true) → some x = some (Utf.cont b.toNat) := by
      intro x h; rw [Bool.eq_iff_iff.2 h]
    split
    all_goals (apply key; rw [Utf.cont_iff]; simp only [decide_eq_true_eq, Bool.false_eq_true, false_iff]; omega)
theorem szN_le (a : Int) : szN a ≤ 4 := by unfold szN; repeat' split; all_goals omega
theorem wrap_small (i : Int) (h0 : 0 ≤ i) (h1 : i < 9223372036854775807) : wrap64 (i + 1) = i + 1 := by unfold wrap64; omega
theorem good_l0 (k : Nat) (l : List Int) (i : Int) (hne : 0 < l.length) (h0 : 0 ≤ i) (h4 : i < 5) (hb : ∀ j : Int, 0 ≤ rd l j) :
    manteletref04_good.l0 (k + 4) l i = if i < (l.length : Int) ∧ i < szN (rd l 0) ∧ fitN (rd l 0) i (rd l i) = true then manteletref04_good.l0 (k + 3) l (i + 1) else some i := by
  rw [manteletref04_good.l0, show k + 3 = (k + 1) + 2 from rfl, Size_eq, show (k + 1) + 2 = k + 3 from rfl, fits_eq _ _ _ _ (hb 0) (hb i)]
  simp only [Option.bind_some]
  by_cases h1 : i < (l.length : Int)
  · rw [if_pos h1, if_pos (by omega)]
    by_cases h2 : i < szN (rd l 0)
    · rw [if_pos h2, if_pos h0, wrap_small i h0 (by omega)]
      by_cases h3 : fitN (rd l 0) i (rd l i) = true
      · rw [if_pos h3, if_pos ⟨h1, h2, h3⟩]
      · rw [if_neg h3, if_neg (fun h => h3 h.2.2)]
    · rw [if_neg h2, if_neg (fun h => h2 h.2.1)]
  · rw [if_neg h1, if_neg (fun h => h1 h.1)]
def gv (l : List Int) : Int :=
  let s := szN (rd l 0)
  let ok (i : Int) : Prop := i < (l.length : Int) ∧ i < s ∧ fitN (rd l 0) i (rd l i) = true
  have : ∀ i, Decidable (ok i) := fun i => inferInstanceAs (Decidable (_ ∧ _))
  if s = 0 then 0 else if ok 1 then (if ok 2 then (if ok 3 then 4 else 3) else 2) else 1
theorem good_eq (k : Nat) (l : List Int) (hne : 0 < l.length) (hb : ∀ j : Int, 0 ≤ rd l j) : manteletref04_good.f (k + 8) l = some (gv l) := by
  unfold manteletref04_good.f
  rw [if_neg (by omega), if_pos (by omega), show k + 8 = (k + 6) + 2 from rfl, Size_eq]
  simp only [Option.bind_some, manteletref04_good.j0, beq_iff_eq]
  unfold gv
  simp only []
  by_cases hs : szN (rd l 0) = 0
  · rw [if_pos hs, if_pos hs]
  rw [if_neg hs, if_neg hs, show k + 6 + 1 = (k + 3) + 4 from rfl, good_l0 _ _ 1 hne (by omega) (by omega) hb]
  by_cases h1 : (1 : Int) < (l.length : Int) ∧ 1 < szN (rd l 0) ∧ fitN (rd l 0) 1 (rd l 1) = true
  · rw [if_pos h1, if_pos h1, show k + 3 + 3 = (k + 2) + 4 from rfl, show (1 : Int) + 1 = 2 from rfl, good_l0 _ _ 2 hne (by omega) (by omega) hb]
    by_cases h2 : (2 : Int) < (l.length : Int) ∧ 2 < szN (rd l 0) ∧ fitN (rd l 0) 2 (rd l 2) = true
    · rw [if_pos h2, if_pos h2, show k + 2 + 3 = (k + 1) + 4 from rfl, show (2 : Int) + 1 = 3 from rfl, good_l0 _ _ 3 hne (by omega) (by omega) hb]
      by_cases h3 : (3 : Int) < (l.length : Int) ∧ 3 < szN (rd l 0) ∧ fitN (rd l 0) 3 (rd l 3) = true
      · rw [if_pos h3, if_pos h3, show k + 1 + 3 = k + 4 from rfl, show (3 : Int) + 1 = 4 from rfl, good_l0 _ _ 4 hne (by omega) (by omega) hb]
        have := szN_le (rd l 0)
        rw [if_neg (by omega)]
      · rw [if_neg h3, if_neg h3]
    · rw [if_neg h2, if_neg h2]
  · rw [if_neg h1, if_neg h1]
def toN (l : List Int) : List Nat := l.map Int.toNat
theorem rd_cons0 (a : Int) (t : List Int) : rd (a :: t) 0 = a := rfl
theorem rd_cons1 (a b : Int) (t : List Int) : rd (a :: b :: t) 1 = b := rfl
theorem rd_cons2 (a b c : Int) (t : List Int) : rd (a :: b :: c :: t) 2 = c := rfl
theorem rd_cons3 (a b c d : Int) (t : List Int) : rd (a :: b :: c :: d :: t) 3 = d := rfl
theorem rd_nonneg (l : List Int) (hb : ∀ x ∈ l, 0 ≤ x ∧ x < 256) (j : Int) : 0 ≤ rd l j := by
  unfold rd
  rw [List.getD_eq_getElem?_getD]
  cases h : l[j.toNat]? with
  | none => simp
  | some x => exact (hb x (List.mem_of_getElem? h)).1
theorem gv_no {l : List Int} (hs : szN (rd l 0) ≠ 0) (h : ¬ ((1 : Int) < (l.length : Int) ∧ 1 < szN (rd l 0) ∧ fitN (rd l 0) 1 (rd l 1) = true)) : gv l = 1 := by
  unfold gv; simp only []; rw [if_neg hs, if_neg h]
theorem gv_1 {l : List Int} (hs : szN (rd l 0) ≠ 0) (h : (1 : Int) < (l.length : Int) ∧ 1 < szN (rd l 0) ∧ fitN (rd l 0) 1 (rd l 1) = true)
    (h2 : ¬ ((2 : Int) < (l.length : Int) ∧ 2 < szN (rd l 0) ∧ fitN (rd l 0) 2 (rd l 2) = true)) : gv l = 2 := by
  unfold gv; simp only []; rw [if_neg hs, if_pos h, if_neg h2]
theorem gv_2 {l : List Int} (hs : szN (rd l 0) ≠ 0) (h : (1 : Int) < (l.length : Int) ∧ 1 < szN (rd l 0) ∧ fitN (rd l 0) 1 (rd l 1) = true)
    (h2 : (2 : Int) < (l.length : Int) ∧ 2 < szN (rd l 0) ∧ fitN (rd l 0) 2 (rd l 2) = true)
    (h3 : ¬ ((3 : Int) < (l.length : Int) ∧ 3 < szN (rd l 0) ∧ fitN (rd l 0) 3 (rd l 3) = true)) : gv l = 3 := by
  unfold gv; simp only []; rw [if_neg hs, if_pos h, if_pos h2, if_neg h3]
theorem gv_3 {l : List Int} (hs : szN (rd l 0) ≠ 0) (h : (1 : Int) < (l.length : Int) ∧ 1 < szN (rd l 0) ∧ fitN (rd l 0) 1 (rd l 1) = true)
    (h2 : (2 : Int) < (l.length : Int) ∧ 2 < szN (rd l 0) ∧ fitN (rd l 0) 2 (rd l 2) = true)
    (h3 : (3 : Int) < (l.length : Int) ∧ 3 < szN (rd l 0) ∧ fitN (rd l 0) 3 (rd l 3) = true) : gv l = 4 := by
  unfold gv; simp only []; rw [if_neg hs, if_pos h, if_pos h2, if_pos h3]
theorem fitN_1 (a b : Int) : fitN a 1 b = Utf.fits a.toNat b.toNat := rfl
theorem fitN_2 (a b : Int) : fitN a 2 b = Utf.cont b.toNat := rfl
theorem fitN_3 (a b : Int) : fitN a 3 b = Utf.cont b.toNat := rfl
/-- What 'good' says of a list, with what 'dec' and 'pend' say. -/
def Spec (l : List Int) : Prop :=
    (szN (rd l 0) = 0 → Utf.dec (toN l) = (65533, 1) ∧ Utf.pend (toN l) = false) ∧
    (szN (rd l 0) ≠ 0 → gv l < szN (rd l 0) → Utf.dec (toN l) = (65533, 1) ∧ (gv l = l.length ↔ Utf.pend (toN l) = true)) ∧
    (szN (rd l 0) ≠ 0 → ¬ gv l < szN (rd l 0) → ((Utf.dec (toN l)).2 : Int) = szN (rd l 0) ∧ Utf.pend (toN l) = false ∧ Utf.dec (toN l) ≠ (65533, 1))
theorem spec_short {l : List Int} {g : Int} {s : Int} (hs : szN (rd l 0) = s) (h0 : s ≠ 0) (hg : gv l = g) (hl : g < s) (hd : Utf.dec (toN l) = (65533, 1)) (hp : g = l.length ↔ Utf.pend (toN l) = true) : Spec l :=
  ⟨fun h => absurd (hs.symm.trans h) h0, fun _ _ => ⟨hd, by rw [hg]; exact hp⟩, fun _ h => absurd (by rw [hg, hs]; exact hl) h⟩
theorem spec_whole {l : List Int} {g : Int} {s : Int} (hs : szN (rd l 0) = s) (h0 : s ≠ 0) (hg : gv l = g) (hl : ¬ g < s) (hd : ((Utf.dec (toN l)).2 : Int) = s) (hp : Utf.pend (toN l) = false) (hn : Utf.dec (toN l) ≠ (65533, 1)) : Spec l :=
  ⟨fun h => absurd (hs.symm.trans h) h0, fun _ h => absurd (by rw [hg, hs] at h; exact h) hl, fun _ _ => ⟨by rw [hs]; exact hd, hp, hn⟩⟩
theorem pend_false_3 (a b c : Nat) (h : a < 0xF0) : Utf.pend [a, b, c] = false := by simp [Utf.pend]; omega
theorem pend_false_2 (a b : Nat) (h : a < 0xE0) : Utf.pend [a, b] = false := by simp [Utf.pend]; omega
theorem gv_spec (l : List Int) (hne : l ≠ []) (hb : ∀ x ∈ l, 0 ≤ x ∧ x < 256) : Spec l := by
  match l, hne with
  | a :: t, _ =>
    have ha := hb a (by simp)
    obtain ⟨n, rfl⟩ := Int.eq_ofNat_of_zero_le ha.1
    have hN : toN ((n : Int) :: t) = n :: toN t := rfl
    by_cases c1 : n < 128
    · have hs : szN (rd ((n : Int) :: t) 0) = 1 := by rw [rd_cons0]; unfold szN; rw [if_pos (by omega)]
      have hd : Utf.dec (n :: toN t) = (n, 1) := by simp [Utf.dec, c1]
      refine spec_whole hs (by omega) (gv_no (by omega) (by omega)) (by omega) (by rw [hN, hd]; rfl) ?_ (by rw [hN, hd]; intro e; injection e; omega)
      rw [hN]
      match toN t with
      | [] => simp [Utf.pend]; omega
      | [b] => exact pend_false_2 _ _ (by omega)
      | [b, c] => exact pend_false_3 _ _ _ (by omega)
      | b :: c :: d :: _ => rfl
    by_cases c2 : 0xC2 ≤ n ∧ n ≤ 0xDF
    · have hs : szN (rd ((n : Int) :: t) 0) = 2 := by rw [rd_cons0]; unfold szN; rw [if_neg (by omega), if_pos (by omega)]
      match t with
      | [] => exact spec_short hs (by omega) (gv_no (by omega) (by simp)) (by omega) (by simp [toN, Utf.dec, c1, c2]) (by simp [toN, Utf.pend]; omega)
      | b :: t' =>
        have hb1 := hb b (by simp)
        obtain ⟨m, rfl⟩ := Int.eq_ofNat_of_zero_le hb1.1
        have hN2 : toN ((n : Int) :: (m : Int) :: t') = n :: m :: toN t' := rfl
        have hf : Utf.fits n m = Utf.cont m := by rw [Bool.eq_iff_iff, Utf.fits_iff, Utf.cont_iff]; omega
        have hp : Utf.pend (n :: m :: toN t') = false := by
          match toN t' with
          | [] => exact pend_false_2 _ _ (by omega)
          | [c] => exact pend_false_3 _ _ _ (by omega)
          | c :: d :: _ => rfl
        cases hc : Utf.cont m with
        | true =>
          have hd : Utf.dec (n :: m :: toN t') = (n % 32 * 64 + m % 64, 2) := by simp [Utf.dec, c1, c2, hc]
          exact spec_whole hs (by omega) (gv_1 (by omega) ⟨by simp; omega, by omega, by rw [rd_cons0, rd_cons1, fitN_1, Int.toNat_natCast, Int.toNat_natCast, hf, hc]⟩ (by omega)) (by omega) (by rw [hN2, hd]; rfl) (by rw [hN2]; exact hp) (by rw [hN2, hd]; intro e; injection e; omega)
        | false =>
          have hd : Utf.dec (n :: m :: toN t') = (65533, 1) := by simp [Utf.dec, c1, c2, hc]
          exact spec_short hs (by omega) (gv_no (by omega) (by rw [rd_cons0, rd_cons1, fitN_1, Int.toNat_natCast, Int.toNat_natCast, hf, hc]; simp)) (by omega) (by rw [hN2, hd]) (by rw [hN2, hp]; simp; omega)
    by_cases c3 : 0xE0 ≤ n ∧ n ≤ 0xEF
    · have hs : szN (rd ((n : Int) :: t) 0) = 3 := by rw [rd_cons0]; unfold szN; rw [if_neg (by omega), if_neg (by omega), if_pos (by omega)]
      match t with
      | [] => exact spec_short hs (by omega) (gv_no (by omega) (by simp)) (by omega) (by simp [toN, Utf.dec, c1, c2]) (by simp [toN, Utf.pend]; omega)
      | [b] =>
        have hb1 := hb b (by simp)
        obtain ⟨m, rfl⟩ := Int.eq_ofNat_of_zero_le hb1.1
        cases hc : Utf.fits n m with
        | true => exact spec_short hs (by omega) (gv_1 (by omega) ⟨by simp, by omega, by rw [rd_cons0, rd_cons1, fitN_1, Int.toNat_natCast, Int.toNat_natCast, hc]⟩ (by simp)) (by omega) (by simp [toN, Utf.dec, c1, c2]) (by simp [toN, Utf.pend, hc]; omega)
        | false => exact spec_short hs (by omega) (gv_no (by omega) (by rw [rd_cons0, rd_cons1, fitN_1, Int.toNat_natCast, Int.toNat_natCast, hc]; simp)) (by omega) (by simp [toN, Utf.dec, c1, c2]) (by simp [toN, Utf.pend, hc])
      | b :: c :: t' =>
        have hb1 := hb b (by simp)
        have hb2 := hb c (by simp)
        obtain ⟨m, rfl⟩ := Int.eq_ofNat_of_zero_le hb1.1
        obtain ⟨o, rfl⟩ := Int.eq_ofNat_of_zero_le hb2.1
        have hN2 : toN ((n : Int) :: (m : Int) :: (o : Int) :: t') = n :: m :: o :: toN t' := rfl
        have hp : Utf.pend (n :: m :: o :: toN t') = false := by
          match toN t' with
          | [] => exact pend_false_3 _ _ _ (by omega)
          | d :: _ => rfl
        cases hc : Utf.fits n m with
        | true =>
          have k1 : (1 : Int) < (((n : Int) :: (m : Int) :: (o : Int) :: t').length : Int) ∧ 1 < szN (rd ((n : Int) :: (m : Int) :: (o : Int) :: t') 0) ∧ fitN (rd ((n : Int) :: (m : Int) :: (o : Int) :: t') 0) 1 (rd ((n : Int) :: (m : Int) :: (o : Int) :: t') 1) = true := ⟨by simp; omega, by omega, by rw [rd_cons0, rd_cons1, fitN_1, Int.toNat_natCast, Int.toNat_natCast, hc]⟩
          cases hd' : Utf.cont o with
          | true =>
            have hd : Utf.dec (n :: m :: o :: toN t') = (n % 16 * 4096 + m % 64 * 64 + o % 64, 3) := by simp [Utf.dec, c1, c2, c3, hc, hd']
            exact spec_whole hs (by omega) (gv_2 (by omega) k1 ⟨by simp; omega, by omega, by rw [rd_cons0, rd_cons2, fitN_2, Int.toNat_natCast, hd']⟩ (by omega)) (by omega) (by rw [hN2, hd]; rfl) (by rw [hN2]; exact hp) (by rw [hN2, hd]; intro e; injection e; omega)
          | false =>
            have hd : Utf.dec (n :: m :: o :: toN t') = (65533, 1) := by simp [Utf.dec, c1, c2, c3, hc, hd']
            exact spec_short hs (by omega) (gv_1 (by omega) k1 (by rw [rd_cons0, rd_cons2, fitN_2, Int.toNat_natCast, hd']; simp)) (by omega) (by rw [hN2, hd]) (by rw [hN2, hp]; simp; omega)
        | false =>
          have hd : Utf.dec (n :: m :: o :: toN t') = (65533, 1) := by simp [Utf.dec, c1, c2, c3, hc]
          exact spec_short hs (by omega) (gv_no (by omega) (by rw [rd_cons0, rd_cons1, fitN_1, Int.toNat_natCast, Int.toNat_natCast, hc]; simp)) (by omega) (by rw [hN2, hd]) (by rw [hN2, hp]; simp; omega)
    by_cases c4 : 0xF0 ≤ n ∧ n ≤ 0xF4
    · have hs : szN (rd ((n : Int) :: t) 0) = 4 := by rw [rd_cons0]; unfold szN; rw [if_neg (by omega), if_neg (by omega), if_neg (by omega), if_pos (by omega)]
      match t with
      | [] => exact spec_short hs (by omega) (gv_no (by omega) (by simp)) (by omega) (by simp [toN, Utf.dec, c1, c2, c3]) (by simp [toN, Utf.pend]; omega)
      | [b] =>
        have hb1 := hb b (by simp)
        obtain ⟨m, rfl⟩ := Int.eq_ofNat_of_zero_le hb1.1
        cases hc : Utf.fits n m with
        | true => exact spec_short hs (by omega) (gv_1 (by omega) ⟨by simp, by omega, by rw [rd_cons0, rd_cons1, fitN_1, Int.toNat_natCast, Int.toNat_natCast, hc]⟩ (by simp)) (by omega) (by simp [toN, Utf.dec, c1, c2, c3]) (by simp [toN, Utf.pend, hc]; omega)
        | false => exact spec_short hs (by omega) (gv_no (by omega) (by rw [rd_cons0, rd_cons1, fitN_1, Int.toNat_natCast, Int.toNat_natCast, hc]; simp)) (by omega) (by simp [toN, Utf.dec, c1, c2, c3]) (by simp [toN, Utf.pend, hc])
      | [b, c] =>
        have hb1 := hb b (by simp)
        have hb2 := hb c (by simp)
        obtain ⟨m, rfl⟩ := Int.eq_ofNat_of_zero_le hb1.1
        obtain ⟨o, rfl⟩ := Int.eq_ofNat_of_zero_le hb2.1
        cases hc : Utf.fits n m with
        | true =>
          have k1 : (1 : Int) < (([(n : Int), (m : Int), (o : Int)]).length : Int) ∧ 1 < szN (rd [(n : Int), (m : Int), (o : Int)] 0) ∧ fitN (rd [(n : Int), (m : Int), (o : Int)] 0) 1 (rd [(n : Int), (m : Int), (o : Int)] 1) = true := ⟨by simp, by omega, by rw [rd_cons0, rd_cons1, fitN_1, Int.toNat_natCast, Int.toNat_natCast, hc]⟩
          cases hd' : Utf.cont o with
          | true => exact spec_short hs (by omega) (gv_2 (by omega) k1 ⟨by simp, by omega, by rw [rd_cons0, rd_cons2, fitN_2, Int.toNat_natCast, hd']⟩ (by simp)) (by omega) (by simp [toN, Utf.dec, c1, c2, c3]) (by simp [toN, Utf.pend, hc, hd']; omega)
          | false => exact spec_short hs (by omega) (gv_1 (by omega) k1 (by rw [rd_cons0, rd_cons2, fitN_2, Int.toNat_natCast, hd']; simp)) (by omega) (by simp [toN, Utf.dec, c1, c2, c3]) (by simp [toN, Utf.pend, hd'])
        | false => exact spec_short hs (by omega) (gv_no (by omega) (by rw [rd_cons0, rd_cons1, fitN_1, Int.toNat_natCast, Int.toNat_natCast, hc]; simp)) (by omega) (by simp [toN, Utf.dec, c1, c2, c3]) (by simp [toN, Utf.pend, hc])
      | b :: c :: d :: t' =>
        have hb1 := hb b (by simp)
        have hb2 := hb c (by simp)
        have hb3 := hb d (by simp)
        obtain ⟨m, rfl⟩ := Int.eq_ofNat_of_zero_le hb1.1
        obtain ⟨o, rfl⟩ := Int.eq_ofNat_of_zero_le hb2.1
        obtain ⟨q, rfl⟩ := Int.eq_ofNat_of_zero_le hb3.1
        have hN2 : toN ((n : Int) :: (m : Int) :: (o : Int) :: (q : Int) :: t') = n :: m :: o :: q :: toN t' := rfl
        have hp : Utf.pend (n :: m :: o :: q :: toN t') = false := rfl
        have hl : 4 ≤ ((n : Int) :: (m : Int) :: (o : Int) :: (q : Int) :: t').length := by simp
        generalize hL : ((n : Int) :: (m : Int) :: (o : Int) :: (q : Int) :: t') = L at *
        have r0 : rd L 0 = n := by rw [← hL]; rfl
        have r1 : rd L 1 = m := by rw [← hL]; rfl
        have r2 : rd L 2 = o := by rw [← hL]; rfl
        have r3 : rd L 3 = q := by rw [← hL]; rfl
        cases hc : Utf.fits n m with
        | true =>
          have k1 : (1 : Int) < (L.length : Int) ∧ 1 < szN (rd L 0) ∧ fitN (rd L 0) 1 (rd L 1) = true := ⟨by omega, by omega, by rw [r0, r1, fitN_1, Int.toNat_natCast, Int.toNat_natCast, hc]⟩
          cases hd' : Utf.cont o with
          | true =>
            have k2 : (2 : Int) < (L.length : Int) ∧ 2 < szN (rd L 0) ∧ fitN (rd L 0) 2 (rd L 2) = true := ⟨by omega, by omega, by rw [r2, fitN_2, Int.toNat_natCast, hd']⟩
            cases he' : Utf.cont q with
            | true =>
              have hd : Utf.dec (n :: m :: o :: q :: toN t') = (n % 8 * 262144 + m % 64 * 4096 + o % 64 * 64 + q % 64, 4) := by simp [Utf.dec, c1, c2, c3, c4, hc, hd', he']
              exact spec_whole hs (by omega) (gv_3 (by omega) k1 k2 ⟨by omega, by omega, by rw [r3, fitN_3, Int.toNat_natCast, he']⟩) (by omega) (by rw [hN2, hd]; rfl) (by rw [hN2]; exact hp) (by rw [hN2, hd]; intro e; injection e; omega)
            | false =>
              have hd : Utf.dec (n :: m :: o :: q :: toN t') = (65533, 1) := by simp [Utf.dec, c1, c2, c3, hc, hd', he']
              exact spec_short hs (by omega) (gv_2 (by omega) k1 k2 (by rw [r3, fitN_3, Int.toNat_natCast, he']; simp)) (by omega) (by rw [hN2, hd]) (by rw [hN2, hp]; simp; omega)
          | false =>
            have hd : Utf.dec (n :: m :: o :: q :: toN t') = (65533, 1) := by simp [Utf.dec, c1, c2, c3, hc, hd']
            exact spec_short hs (by omega) (gv_1 (by omega) k1 (by rw [r2, fitN_2, Int.toNat_natCast, hd']; simp)) (by omega) (by rw [hN2, hd]) (by rw [hN2, hp]; simp; omega)
        | false =>
          have hd : Utf.dec (n :: m :: o :: q :: toN t') = (65533, 1) := by simp [Utf.dec, c1, c2, c3, hc]
          exact spec_short hs (by omega) (gv_no (by omega) (by rw [r0, r1, fitN_1, Int.toNat_natCast, Int.toNat_natCast, hc]; simp)) (by omega) (by rw [hN2, hd]) (by rw [hN2, hp]; simp; omega)
    · have hs : szN (rd ((n : Int) :: t) 0) = 0 := by rw [rd_cons0]; unfold szN; rw [if_neg (by omega), if_neg (by omega), if_neg (by omega), if_neg (by omega)]
      refine ⟨fun _ => ⟨?_, ?_⟩, fun h => absurd hs h, fun h => absurd hs h⟩
      · rw [hN]; simp [Utf.dec, c1, c2, c3, c4]
      · rw [hN]
        match toN t with
        | [] => simp [Utf.pend]; omega
        | [b] => simp [Utf.pend]; omega
        | [b, c] => simp [Utf.pend]; omega
        | b :: c :: d :: _ => rfl

theorem one_l0 (k : Nat) (l : List Int) (s x i : Int) (h0 : 0 ≤ i) (h4 : i < 5) (hl : s ≤ l.length) :
    manteletref04_one.l0 (k + 1) l s x i = if i < s then manteletref04_one.l0 k l s (wrap32 ((wrap32 ((wrap32 (x * 64)) + (wrap32 (rd l i)))) - 128)) (i + 1) else some (x, s) := by
  rw [manteletref04_one.l0]
  by_cases h : i < s
  · rw [if_pos h, if_pos h, if_pos h0, if_pos (by omega), wrap_small i h0 (by omega)]
  · rw [if_neg h, if_neg h]
theorem dec_val (l : List Int) (hne : l ≠ []) (hb : ∀ x ∈ l, 0 ≤ x ∧ x < 256) (hs : szN (rd l 0) ≠ 0) (hn : Utf.dec (toN l) ≠ (65533, 1)) :
    (rd l 0 < 128 ∧ Utf.dec (toN l) = ((rd l 0).toNat, 1) ∧ 1 ≤ l.length) ∨
    (194 ≤ rd l 0 ∧ rd l 0 ≤ 223 ∧ 128 ≤ rd l 1 ∧ rd l 1 ≤ 191 ∧ Utf.dec (toN l) = ((rd l 0).toNat % 32 * 64 + (rd l 1).toNat % 64, 2) ∧ 2 ≤ l.length) ∨
    (224 ≤ rd l 0 ∧ rd l 0 ≤ 239 ∧ 128 ≤ rd l 1 ∧ rd l 1 ≤ 191 ∧ 128 ≤ rd l 2 ∧ rd l 2 ≤ 191 ∧ Utf.dec (toN l) = ((rd l 0).toNat % 16 * 4096 + (rd l 1).toNat % 64 * 64 + (rd l 2).toNat % 64, 3) ∧ 3 ≤ l.length) ∨
    (240 ≤ rd l 0 ∧ rd l 0 ≤ 244 ∧ 128 ≤ rd l 1 ∧ rd l 1 ≤ 191 ∧ 128 ≤ rd l 2 ∧ rd l 2 ≤ 191 ∧ 128 ≤ rd l 3 ∧ rd l 3 ≤ 191 ∧ Utf.dec (toN l) = ((rd l 0).toNat % 8 * 262144 + (rd l 1).toNat % 64 * 4096 + (rd l 2).toNat % 64 * 64 + (rd l 3).toNat % 64, 4) ∧ 4 ≤ l.length) := by
  have hne' : toN l ≠ [] := by intro e; apply hne; cases l with | nil => rfl | cons a t => simp [toN] at e
  have hb' : ∀ x ∈ toN l, x < 256 := by
    intro x hx
    simp only [toN, List.mem_map] at hx
    obtain ⟨y, hy, rfl⟩ := hx
    have := hb y hy; omega
  have hr : ∀ j : Nat, (rd l j).toNat = (toN l).getD j 0 := by
    intro j
    unfold rd toN
    simp only [Int.toNat_natCast, List.getD_eq_getElem?_getD, List.getElem?_map]
    cases l[j]? <;> rfl
  have hg := rd_nonneg l hb
  have hlen : l.length = (toN l).length := by simp [toN]
  have r0 : (rd l 0).toNat = (toN l).getD 0 0 := hr 0
  have r1 : (rd l 1).toNat = (toN l).getD 1 0 := hr 1
  have r2 : (rd l 2).toNat = (toN l).getD 2 0 := hr 2
  have r3 : (rd l 3).toNat = (toN l).getD 3 0 := hr 3
  have g0 := hg 0; have g1 := hg 1; have g2 := hg 2; have g3 := hg 3
  rcases Utf.dec_classes (toN l) hne' hb' with ⟨a, t, e, h1, hd⟩ | ⟨a, b, t, e, h1, h2, h3, h4, hd⟩ | ⟨a, b, c, t, e, h1, h2, h3, h4, h5, hd⟩ | ⟨a, b, c, d, t, e, h1, h2, h3, h4, h5, h6, h7, hd⟩ | hd
  · left
    rw [hd]; rw [e] at r0 hlen; simp at r0 hlen
    exact ⟨by omega, by rw [r0], by omega⟩
  · right; left
    rw [hd]; rw [e] at r0 r1 hlen; simp at r0 r1 hlen
    exact ⟨by omega, by omega, by omega, by omega, by rw [r0, r1], by omega⟩
  · right; right; left
    rw [Utf.fits_iff] at h3
    rw [hd]; rw [e] at r0 r1 r2 hlen; simp at r0 r1 r2 hlen
    exact ⟨by omega, by omega, by omega, by omega, by omega, by omega, by rw [r0, r1, r2], by omega⟩
  · right; right; right
    rw [Utf.fits_iff] at h3
    rw [hd]; rw [e] at r0 r1 r2 r3 hlen; simp at r0 r1 r2 r3 hlen
    exact ⟨by omega, by omega, by omega, by omega, by omega, by omega, by omega, by omega, by rw [r0, r1, r2, r3], by omega⟩
  · exact absurd hd hn
theorem wrap32_id (x : Int) (h0 : -2147483648 ≤ x) (h1 : x < 2147483648) : wrap32 x = x := by unfold wrap32; omega
theorem one_eq (k : Nat) (l : List Int) (hne : l ≠ []) (hb : ∀ x ∈ l, 0 ≤ x ∧ x < 256) : manteletref04_one.f (k + 12) l = some (((Utf.dec (toN l)).1 : Int), ((Utf.dec (toN l)).2 : Int)) := by
  have hlen : 0 < l.length := List.length_pos_iff.2 hne
  have hg := rd_nonneg l hb
  obtain ⟨s1, s2, s3⟩ := gv_spec l hne hb
  unfold manteletref04_one.f
  rw [if_pos (by omega), show k + 12 = (k + 10) + 2 from rfl, Size_eq]
  simp only [Option.bind_some]
  by_cases h0 : szN (rd l 0) = 0
  · rw [if_pos h0]
    obtain ⟨hd, _⟩ := s1 h0
    rw [hd]
    simp [manteletref04_one.j0]
  rw [if_neg h0, show k + 10 + 2 = (k + 4) + 8 from rfl, good_eq _ l hlen hg]
  simp only [Option.bind_some]
  by_cases h1 : gv l < szN (rd l 0)
  · obtain ⟨hd, _⟩ := s2 h0 h1
    rw [hd]
    simp [manteletref04_one.j0, h1]
  obtain ⟨hw, _, hn⟩ := s3 h0 h1
  rw [show k + 4 + 8 = k + 7 + 5 from rfl]
  simp only [manteletref04_one.j0, h1, decide_false, Bool.false_eq_true, if_false]
  rw [if_pos (show (0 : Int) < (l.length : Int) by omega)]
  rcases dec_val l hne hb h0 hn with ⟨a1, hd, hl⟩ | ⟨a1, a2, b1, b2, hd, hl⟩ | ⟨a1, a2, b1, b2, c1, c2, hd, hl⟩ | ⟨a1, a2, b1, b2, c1, c2, d1, d2, hd, hl⟩
  · have g0 := hg 0
    have hs : szN (rd l 0) = 1 := by rw [hd] at hw; simpa using hw.symm
    rw [hs, hd]
    simp only [manteletref04_one.j1, manteletref04_one.j2, manteletref04_one.j3]
    rw [if_neg (by omega), if_neg (by omega), if_neg (by omega), one_l0 _ _ _ _ _ (by omega) (by omega) (by omega), if_neg (by omega), wrap32_id _ (by omega) (by omega)]
    simp only [Option.some.injEq, Prod.mk.injEq]
    omega
  · have hs : szN (rd l 0) = 2 := by rw [hd] at hw; simpa using hw.symm
    rw [hs, hd]
    simp only [manteletref04_one.j1, manteletref04_one.j2, manteletref04_one.j3]
    rw [if_pos trivial, if_neg (by omega), if_neg (by omega), one_l0 _ _ _ _ _ (by omega) (by omega) (by omega), if_pos (by omega), one_l0 _ _ _ _ _ (by omega) (by omega) (by omega), if_neg (by omega)]
    simp only [Option.some.injEq, Prod.mk.injEq]
    unfold wrap32
    omega
  · have hs : szN (rd l 0) = 3 := by rw [hd] at hw; simpa using hw.symm
    rw [hs, hd]
    simp only [manteletref04_one.j1, manteletref04_one.j2, manteletref04_one.j3]
    rw [if_neg (by omega), if_pos trivial, if_neg (by omega), one_l0 _ _ _ _ _ (by omega) (by omega) (by omega), if_pos (by omega), one_l0 _ _ _ _ _ (by omega) (by omega) (by omega), if_pos (by omega), one_l0 _ _ _ _ _ (by omega) (by omega) (by omega), if_neg (by omega)]
    have e1 : wrap32 (wrap32 (rd l 0) - 224) = rd l 0 - 224 := by unfold wrap32; omega
    have e2 : wrap32 (wrap32 (wrap32 ((rd l 0 - 224) * 64) + wrap32 (rd l 1)) - 128) = (rd l 0 - 224) * 64 + rd l 1 - 128 := by unfold wrap32; omega
    rw [e1, e2]
    simp only [Option.some.injEq, Prod.mk.injEq]
    rw [show (1 : Int) + 1 = 2 from rfl]
    unfold wrap32
    omega
  · have hs : szN (rd l 0) = 4 := by rw [hd] at hw; simpa using hw.symm
    rw [hs, hd]
    simp only [manteletref04_one.j1, manteletref04_one.j2, manteletref04_one.j3]
    rw [if_neg (by omega), if_neg (by omega), if_pos trivial, one_l0 _ _ _ _ _ (by omega) (by omega) (by omega), if_pos (by omega), one_l0 _ _ _ _ _ (by omega) (by omega) (by omega), if_pos (by omega), one_l0 _ _ _ _ _ (by omega) (by omega) (by omega), if_pos (by omega), one_l0 _ _ _ _ _ (by omega) (by omega) (by omega), if_neg (by omega)]
    have e1 : wrap32 (wrap32 (rd l 0) - 240) = rd l 0 - 240 := by unfold wrap32; omega
    have e2 : wrap32 (wrap32 (wrap32 ((rd l 0 - 240) * 64) + wrap32 (rd l 1)) - 128) = (rd l 0 - 240) * 64 + rd l 1 - 128 := by unfold wrap32; omega
    rw [show (1 : Int) + 1 = 2 from rfl, show (2 : Int) + 1 = 3 from rfl]
    rw [e1, e2]
    have e3 : wrap32 (wrap32 (wrap32 (((rd l 0 - 240) * 64 + rd l 1 - 128) * 64) + wrap32 (rd l 2)) - 128) = ((rd l 0 - 240) * 64 + rd l 1 - 128) * 64 + rd l 2 - 128 := by unfold wrap32; omega
    rw [e3]
    simp only [Option.some.injEq, Prod.mk.injEq]
    unfold wrap32
    omega
theorem Pending_eq (k : Nat) (l : List Int) (hb : ∀ x ∈ l, 0 ≤ x ∧ x < 256) : manteletref04_Pending.f (k + 8) l = some (Utf.pend (toN l)) := by
  have hg := rd_nonneg l hb
  have hln : (toN l).length = l.length := by simp [toN]
  unfold manteletref04_Pending.f
  by_cases h1 : (l.length : Int) ≥ 1
  · rw [if_pos h1]
    have hne : l ≠ [] := by rintro rfl; simp at h1
    by_cases h3 : (l.length : Int) ≤ 3
    · rw [if_pos h3, good_eq _ l (by omega) hg]
      simp only [Option.bind_some]
      obtain ⟨s1, s2, s3⟩ := gv_spec l hne hb
      by_cases h4 : gv l = (l.length : Int)
      · rw [if_pos h4, if_pos (by omega), show k + 8 = (k + 6) + 2 from rfl, Size_eq]
        simp only [Option.bind_some, Option.some.injEq]
        by_cases h0 : szN (rd l 0) = 0
        · rw [(s1 h0).2, h0]; simp
        by_cases h5 : gv l < szN (rd l 0)
        · rw [((s2 h0 h5).2).1 h4]; simp; omega
        · rw [(s3 h0 h5).2.1]; simp; omega
      · rw [if_neg h4]
        simp only [Option.some.injEq]
        by_cases h0 : szN (rd l 0) = 0
        · rw [(s1 h0).2]
        by_cases h5 : gv l < szN (rd l 0)
        · cases hp : Utf.pend (toN l) with
          | false => rfl
          | true => exact absurd (((s2 h0 h5).2).2 hp) h4
        · rw [(s3 h0 h5).2.1]
    · rw [if_neg h3]
      cases hp : Utf.pend (toN l) with
      | false => rfl
      | true => have := Utf.pend_len _ hp; omega
  · rw [if_neg h1]
    cases hp : Utf.pend (toN l) with
    | false => rfl
    | true => have := Utf.pend_len _ hp; omega

def byt (l : List Int) : Bool := l.all fun x => decide (0 ≤ x) && decide (x < 256)
theorem byt_iff {l : List Int} : byt l = true ↔ ∀ x ∈ l, 0 ≤ x ∧ x < 256 := by simp [byt]
theorem toN_str {l : List Int} (hb : ∀ x ∈ l, 0 ≤ x ∧ x < 256) : Utf.nats (strOfNums l) = toN l := by
  rw [nats_str]
  unfold toN
  apply List.map_congr_left
  intro x hx
  have := hb x hx; omega
theorem toN_drop (l : List Int) (k : Nat) : toN (l.drop k) = (toN l).drop k := by simp [toN, List.map_drop]
theorem byt_drop {l : List Int} (hb : ∀ x ∈ l, 0 ≤ x ∧ x < 256) (k : Nat) : ∀ x ∈ l.drop k, 0 ≤ x ∧ x < 256 := fun x hx => hb x (List.mem_of_mem_drop hx)
theorem All_l0 (l : List Int) (hb : ∀ x ∈ l, 0 ≤ x ∧ x < 256) (hl : l.length < 35184372088832) (d : Nat) : ∀ (k pos : Nat) (acc : List Int), pos ≤ l.length → l.length - pos ≤ d → acc.length ≤ pos → d + 13 ≤ k →
    manteletref04_All.l0 k l acc (pos : Int) = some (acc ++ (Utf.all ((toN l).drop pos)).map fun n : Nat => (n : Int)) := by
  have hln : (toN l).length = l.length := by simp [toN]
  induction d with
  | zero =>
    intro k pos acc h1 h2 h3 h4
    obtain ⟨k, rfl⟩ : ∃ m, k = m + 1 := ⟨k - 1, by omega⟩
    rw [manteletref04_All.l0, if_neg (by omega), List.drop_of_length_le (by omega), Utf.all_nil]
    simp
  | succ d ih =>
    intro k pos acc h1 h2 h3 h4
    obtain ⟨k, rfl⟩ : ∃ m, k = m + 1 := ⟨k - 1, by omega⟩
    by_cases hp : pos < l.length
    · have hne : l.drop pos ≠ [] := by intro e; have := congrArg List.length e; simp at this; omega
      have hne' : (toN l).drop pos ≠ [] := by intro e; have := congrArg List.length e; simp at this; omega
      have hd := Utf.dec_le _ hne'
      have hd1 := Utf.dec_pos ((toN l).drop pos)
      rw [List.length_drop, hln] at hd
      rw [manteletref04_All.l0, if_pos (by omega), if_pos (by omega), if_pos (by omega), Int.toNat_natCast]
      obtain ⟨m, rfl⟩ : ∃ m, k = m + 12 := ⟨k - 12, by omega⟩
      rw [one_eq _ _ hne (byt_drop hb pos), toN_drop]
      simp only [Option.bind_some]
      rw [if_pos (by omega), show wrap64 ((pos : Int) + ((Utf.dec ((toN l).drop pos)).2 : Int)) = ((pos + (Utf.dec ((toN l).drop pos)).2 : Nat) : Int) by unfold wrap64; omega]
      rw [ih (m + 12) (pos + (Utf.dec ((toN l).drop pos)).2) _ (by omega) (by omega) (by simp; omega) (by omega)]
      conv => rhs; rw [Utf.all_ne _ hne', List.drop_drop]
      simp
    · rw [manteletref04_All.l0, if_neg (by omega), List.drop_of_length_le (by omega), Utf.all_nil]
      simp
theorem All_eq (l : List Int) (hb : ∀ x ∈ l, 0 ≤ x ∧ x < 256) (hl : l.length < 35184372088832) (k : Nat) (hk : l.length + 13 ≤ k) : manteletref04_All.f k l = some (Utf.runesZ (strOfNums l)) := by
  have h := All_l0 l hb hl l.length k 0 [] (by omega) (by omega) (by simp) hk
  simp only [List.nil_append, List.drop_zero] at h
  unfold manteletref04_All.f
  rw [show ((0 : Nat) : Int) = 0 from rfl] at h
  rw [h]
  unfold Utf.runesZ Utf.runesFrom
  rw [List.drop_zero, toN_str hb]
end Go.Proofs.Ytbnjakihgmhpdaa.K
