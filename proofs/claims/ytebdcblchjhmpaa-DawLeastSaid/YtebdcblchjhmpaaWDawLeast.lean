/- DawLeast: of what was built of any words (60 of 20 bytes at most) no two states are alike, each ends or leads on, to lower ones, by rising bytes, and there are no more than bytes, and one. -/
import Derived.Test.YtebdcblchjhmpaaPDawLeastx1
import Derived.Test.YtebdcblchjhmpaaDawL
namespace Go.Proofs.Ytebdcblchjhmpaa.K
open Go.RowKit Go.Proofs.YtebdcblchjhmpaaW.PrintWords Go.Proofs.YtebdcblchjhmpaaW.PrintLast Go.Proofs.Ytebdcblchjhmpaa.PDawLeast Go.Proofs.Ytebdcblchjhmpaa.PDk Go.Proofs.Ytebdcblchjhmpaa.PSh14 Go.Proofs.Ytebdcblchjhmpaa.Daw Go.Proofs.Ytebdcblchjhmpaa
set_option linter.unusedSimpArgs false
set_option linter.unusedVariables false
open Classical
/-- What the statement asks of the states. -/
structure Least (L : List ByteArray) (R : List S31) : Prop where
  some_ : ∀ i (h : i < R.length), (R[i].f0 = true ∨ R[i].f1 ≠ [] ∨ L = []) ∧ R[i].f1.length ≤ 256
  low : ∀ i (h : i < R.length), ∀ j (hj : j < R[i].f1.length), 0 ≤ (R[i].f1[j]).f1 ∧ (R[i].f1[j]).f1 < (i : Int)
  rise : ∀ i (h : i < R.length), ∀ j (hj : j + 1 < R[i].f1.length), (R[i].f1[j]'(by omega)).f0 < (R[i].f1[j + 1]).f0
  diff : ∀ i (h : i < R.length), ∀ k (hk : k < i), R[i] ≠ R[k]'(by omega)
  small : R.length ≤ 1000000
theorem rising_at : ∀ (l : List DE) (j : Nat) (h : j + 1 < l.length), Rising l → (l[j]'(by omega)).1 < (l[j + 1]).1
  | e :: f :: r, 0, h, hr => hr.1 f (by simp)
  | e :: r, j + 1, h, hr => by
    have := rising_at r j (by simpa using h) hr.2
    simpa using this
theorem toS_inj {s t : DS} (h : toS s = toS t) : s = t := by
  obtain ⟨a, b⟩ := s
  obtain ⟨c, d⟩ := t
  simp only [toS, S31.mk.injEq] at h
  obtain ⟨rfl, h2⟩ := h
  have hinj : ∀ x y : DE, toE x = toE y → x = y := by
    rintro ⟨a, b⟩ ⟨c, d⟩ h
    simp only [toE, S33.mk.injEq] at h
    obtain ⟨h1, h2⟩ := h
    exact Prod.ext (Int.ofNat.inj h1) (Int.ofNat.inj h2)
  rw [List.map_inj_right hinj] at h2
  rw [h2]
theorem least_of (l : List ByteArray) (h0 : [] ∉ wordsN l) (h : (wordsN l).Pairwise (· < ·)) (hs : 1 + (l.map ByteArray.size).sum ≤ 1000000) : Least l ((build (wordsN l)).map toS) ∧ 1 ≤ ((build (wordsN l)).map toS).length ∧ ((build (wordsN l)).map toS).length ≤ 1 + (l.map ByteArray.size).sum := by
  obtain ⟨g1, g2, g3, g4⟩ := build_good l h0 h
  generalize build (wordsN l) = b at g1 g2 g3 g4
  have hl : (b.map toS).length = b.length := List.length_map ..
  have at_ : ∀ i (h : i < (b.map toS).length), (b.map toS)[i] = toS (b[i]'(by rw [← hl]; exact h)) := fun i h => List.getElem_map ..
  refine ⟨⟨fun i h => ?_, fun i h j hj => ?_, fun i h j hj => ?_, fun i h k hk he => ?_, by omega⟩, by omega, by omega⟩
  · rw [at_ i h]
    obtain ⟨k1, k2, k3, _⟩ := g2 i _ (List.getElem?_eq_getElem (by omega))
    refine ⟨?_, by simpa [toS] using k3⟩
    by_cases hl : l = []
    · exact Or.inr (Or.inr hl)
    · rcases k2 hl with h | h
      · exact Or.inl h
      · exact Or.inr (Or.inl (by simpa [toS] using h))
  · simp only [at_ i h] at hj ⊢
    obtain ⟨k1, _⟩ := g2 i _ (List.getElem?_eq_getElem (by omega))
    have := k1.1 _ (List.getElem_mem (by simpa [toS] using hj))
    simp only [toS, List.getElem_map, toE]
    omega
  · simp only [at_ i h] at hj ⊢
    obtain ⟨k1, _⟩ := g2 i _ (List.getElem?_eq_getElem (by omega))
    have := rising_at _ j (by simpa [toS] using hj) k1.2
    simp only [toS, List.getElem_map, toE]
    omega
  · rw [at_ i h, at_ k (by omega)] at he
    have := toS_inj he
    exact absurd ((List.getElem_inj g1).1 this) (by omega)
section
variable {L : List ByteArray} {R : List S31} {x6 : Int}
theorem least_l3 (hR : Least L R) (i : Nat) (hi : i < R.length) (hn : Ev (fun k => manteletlaw14_DawLeast.l1 k L true R x6 ((i + 1 : Nat) : Int)) true) : ∀ (d j : Nat), j + d = i → Ev (fun k => manteletlaw14_DawLeast.l3 k L true R x6 (i : Int) (j : Int)) true
  | 0, j, hd => by
    have := hR.small
    refine Ev.step (fun k => ?_) hn
    simp only [manteletlaw14_DawLeast.l3]
    rw [if_neg (by omega), w64 (by omega) (by omega), show ((i : Int) + 1) = ((i + 1 : Nat) : Int) from by omega]
  | d + 1, j, hd => by
    have := hR.small
    have ih := least_l3 hR i hi hn d (j + 1) (by omega)
    have e : ∀ m, m < R.length → (R.take (((m : Int) + 1).toNat)).drop ((m : Int).toNat) = [R.getD m ⟨false, []⟩] := fun m hm => by
      rw [show ((m : Int) + 1).toNat = m + 1 from by omega, Int.toNat_natCast, List.take_succ_eq_append_getElem hm, List.drop_append_of_le_length (by rw [List.length_take]; omega), List.drop_eq_nil_of_le (by rw [List.length_take]; omega), List.nil_append, List.getD_eq_getElem?_getD, List.getElem?_eq_getElem hm]; rfl
    have gi : R.getD i ⟨false, []⟩ = R[i] := by rw [List.getD_eq_getElem?_getD, List.getElem?_eq_getElem hi]; rfl
    have gj : R.getD j ⟨false, []⟩ = R[j]'(by omega) := by rw [List.getD_eq_getElem?_getD, List.getElem?_eq_getElem (by omega)]; rfl
    have hs := Same14 [R.getD i ⟨false, []⟩] [R.getD j ⟨false, []⟩] ⟨by simp, by rw [gi]; have := (hR.some_ i hi).2; simp; omega⟩
    have hne : ¬ [R.getD i ⟨false, []⟩] = [R.getD j ⟨false, []⟩] := by
      rw [gi, gj]; intro h; exact hR.diff i hi j (by omega) (List.cons.inj h).1
    rw [decide_eq_false hne] at hs
    refine Ev.step (f := fun k => (manteletref14_Same.f k [R.getD i ⟨false, []⟩] [R.getD j ⟨false, []⟩]).bind fun t => if t = true then some false else manteletlaw14_DawLeast.l3 k L true R x6 (i : Int) ((j + 1 : Nat) : Int)) (fun k => ?_) (Ev.bind hs (Ev.congr (fun k => ?_) ih))
    · simp only [manteletlaw14_DawLeast.l3]
      rw [if_pos (by omega), if_pos (by omega), w64 (x := (i : Int) + 1) (by omega) (by omega), w64 (x := (j : Int) + 1) (by omega) (by omega), if_pos (by omega), if_pos (by omega), if_pos (by omega), if_pos (by omega), if_pos (by omega), e i hi, e j (by omega), show ((j : Int) + 1) = ((j + 1 : Nat) : Int) from by omega]
    · rw [if_neg (by decide)]
theorem least_l2 (hR : Least L R) (i : Nat) (hi : i < R.length) (hn : Ev (fun k => manteletlaw14_DawLeast.l3 k L true R x6 (i : Int) ((0 : Nat) : Int)) true) : ∀ (d j : Nat), j + d = R[i].f1.length → Ev (fun k => manteletlaw14_DawLeast.l2 k L true R x6 (i : Int) (j : Int)) true
  | 0, j, hd => by
    refine Ev.step (fun k => ?_) hn
    simp only [manteletlaw14_DawLeast.l2]
    rw [if_pos (by omega), if_pos (by omega), rd31 R i hi, if_neg (by omega)]
    rfl
  | d + 1, j, hd => by
    have h256 := (hR.some_ i hi).2
    have ih := least_l2 hR i hi hn d (j + 1) (by omega)
    have hj : j < R[i].f1.length := by omega
    obtain ⟨q1, q2⟩ := hR.low i hi j hj
    refine Ev.step (fun k => ?_) ih
    simp only [manteletlaw14_DawLeast.l2]
    rw [if_pos (by omega), if_pos (by omega), rd31 R i hi, if_pos (by omega), if_pos (by omega), rd33 _ j hj, if_neg (by omega), if_neg (by omega)]
    have hw : Go.RowKit.wrap64 ((j : Int) + 1) = ((j + 1 : Nat) : Int) := by rw [w64 (by omega) (by omega)]; omega
    by_cases h0 : (j : Int) > 0
    · obtain ⟨m, rfl⟩ : ∃ m, j = m + 1 := ⟨j - 1, by omega⟩
      have hw2 : Go.RowKit.wrap64 (((m + 1 : Nat) : Int) - 1) = (m : Int) := by rw [w64 (by omega) (by omega)]; omega
      have hr := hR.rise i hi m (by omega)
      rw [if_pos h0, hw2, if_pos (by omega), if_pos (by omega), rd33 _ m (by omega), if_neg (by omega), hw]
    · rw [if_neg h0, hw]
theorem least_l1 (hR : Least L R) (h1 : 1 ≤ R.length) (h2 : (R.length : Int) ≤ x6) : ∀ (d i : Nat), i + d = R.length → Ev (fun k => manteletlaw14_DawLeast.l1 k L true R x6 (i : Int)) true
  | 0, i, hd => by
    refine Ev.step (f := fun _ => some true) (fun k => ?_) (Ev.now true)
    simp only [manteletlaw14_DawLeast.l1]
    rw [if_neg (by omega), if_pos trivial, if_pos (by omega), decide_eq_true h2]
  | d + 1, i, hd => by
    have hi : i < R.length := by omega
    have ih := least_l1 hR h1 h2 d (i + 1) (by omega)
    have e3 := least_l3 hR i hi ih i 0 (by omega)
    have e2 := least_l2 hR i hi e3 R[i].f1.length 0 (by omega)
    refine Ev.step (f := fun k => manteletlaw14_DawLeast.j2 k L true R x6 (i : Int) false) (fun k => ?_) (Ev.step (fun k => ?_) e2)
    · simp only [manteletlaw14_DawLeast.l1]
      rw [if_pos (by omega), if_pos (by omega), rd31 R i hi]
      by_cases c0 : R[i].f0 = true
      · rw [if_pos c0]
      · rw [if_neg c0]
        by_cases c1 : ((R[i].f1.length : Nat) : Int) = 0
        · rw [if_pos c1]
          have hL : L = [] := by
            rcases (hR.some_ i hi).1 with h | h | h
            · exact absurd h c0
            · exact absurd (List.eq_nil_of_length_eq_zero (by omega)) h
            · exact h
          rw [hL]; rfl
        · rw [if_neg c1]
    · simp only [manteletlaw14_DawLeast.j2]
      rw [if_neg (by decide)]
      rfl
theorem sum_take (L : List ByteArray) (i : Nat) (h : i < L.length) : ((L.take (i + 1)).map ByteArray.size).sum = ((L.take i).map ByteArray.size).sum + L[i].size := by
  rw [List.take_succ_eq_append_getElem h, List.map_append, List.sum_append]; simp
theorem sum_le (L : List ByteArray) (i : Nat) : ((L.take i).map ByteArray.size).sum ≤ (L.map ByteArray.size).sum := by
  have e : L = L.take i ++ L.drop i := (List.take_append_drop i L).symm
  conv => rhs; rw [e]
  rw [List.map_append, List.sum_append]; omega
theorem least_l0 (hR : Least L R) (h1 : 1 ≤ R.length) (hL : L.length ≤ 60) (hs : (L.map ByteArray.size).sum ≤ 1000000) (h2 : R.length ≤ 1 + (L.map ByteArray.size).sum) : ∀ (d i : Nat), i + d = L.length → Ev (fun k => manteletlaw14_DawLeast.l0 k L true R ((1 + ((L.take i).map ByteArray.size).sum : Nat) : Int) (i : Int)) true
  | 0, i, hd => by
    have hi : L.take i = L := List.take_of_length_le (by omega)
    rw [hi]
    refine Ev.step (fun k => ?_) (least_l1 hR h1 (x6 := ((1 + (L.map ByteArray.size).sum : Nat) : Int)) (by omega) R.length 0 (by omega))
    simp only [manteletlaw14_DawLeast.l0]
    rw [if_neg (by omega)]
    rfl
  | d + 1, i, hd => by
    have hi : i < L.length := by omega
    have ih := least_l0 hR h1 hL hs h2 d (i + 1) (by omega)
    have e1 := sum_take L i hi
    have e2 := sum_le L (i + 1)
    refine Ev.step (fun k => ?_) ih
    simp only [manteletlaw14_DawLeast.l0]
    rw [if_pos (by omega), if_pos (by omega), rdS L i hi, w64 (x := (i : Int) + 1) (by omega) (by omega), w64 (by omega) (by omega), e1,
      show ((i : Int) + 1) = ((i + 1 : Nat) : Int) from by omega, show (((1 + ((L.take i).map ByteArray.size).sum : Nat) : Int) + (L[i].size : Int)) = ((1 + (((L.take i).map ByteArray.size).sum + L[i].size) : Nat) : Int) from by omega]
end
theorem few_bytes (L : List ByteArray) (h1 : L.length ≤ 60) (h2 : ∀ x ∈ L, x.size ≤ 20) : (L.map ByteArray.size).sum ≤ 1200 ∧ bytesAll L ≤ 2000 := by
  have : ∀ L : List ByteArray, (∀ x ∈ L, x.size ≤ 20) → (L.map ByteArray.size).sum ≤ 20 * L.length ∧ bytesAll L ≤ 1 + 21 * L.length := by
    intro L
    induction L with
    | nil => intro _; simp [bytesAll]
    | cons a l ih =>
      intro h
      have h3 := h a (by simp)
      obtain ⟨i1, i2⟩ := ih (fun x hx => h x (by simp [hx]))
      unfold bytesAll at i2 ⊢
      simp; omega
  obtain ⟨i1, i2⟩ := this L h2
  omega
theorem DawLeast_walk (A0 : Option Addr) (c0 : Nat) (l0 : List ByteArray) (w : World) (hC : Kd.C Kd.string w A0 l0.length l0) (hc : l0.length ≤ c0) (hwf : ∀ x ∈ l0, x.size ≤ maxLen) :
    Calls Try.prog 3 #[.slice A0 l0.length c0] w fun e w' => e = .returned (.bool true) ∧ Below w.heap.size w w' := by
  obtain ⟨b, hb1, hb2⟩ := few14 l0
  have hEv : Ev (fun k => manteletlaw14_DawLeast.f k l0) true := by
    unfold manteletlaw14_DawLeast.f
    refine Ev.bind shown14 (Ev.bind hb1 ?_)
    cases b with
    | false => exact Ev.congr (fun k => by rw [if_neg (by decide)]) (Ev.now true)
    | true =>
      obtain ⟨f1, f2⟩ := hb2 rfl
      obtain ⟨f3, f4⟩ := few_bytes l0 f1 f2
      have hb : daw_Build.f l0 = some (buildR l0) := by unfold daw_Build.f; rw [if_pos (by omega)]
      by_cases c1 : [] ∈ wordsN l0
      · have hr : buildR l0 = ([], 1) := by unfold buildR; rw [if_pos c1]
        refine Ev.congr (fun k => ?_) (Ev.now true)
        rw [if_pos rfl, hb, hr, Option.bind_some, if_neg (by decide)]
      · by_cases c2 : (wordsN l0).Pairwise (· < ·)
        · have hr : buildR l0 = ((build (wordsN l0)).map toS, 0) := by unfold buildR; rw [if_neg c1, if_pos c2]
          obtain ⟨g1, g2, g3⟩ := least_of l0 c1 c2 (by omega)
          generalize (build (wordsN l0)).map toS = R at hr g1 g2 g3
          refine Ev.congr (fun k => ?_) (least_l0 g1 g2 f1 (by omega) g3 l0.length 0 (by omega))
          rw [if_pos rfl, hb, hr, Option.bind_some, if_pos rfl]
          rfl
        · have hr : buildR l0 = ([], 9) := by unfold buildR; rw [if_neg c1, if_neg c2]
          refine Ev.congr (fun k => ?_) (Ev.now true)
          rw [if_pos rfl, hb, hr, Option.bind_some, if_neg (by decide)]
  obtain ⟨k, hk⟩ := hEv.rounds
  exact manteletlaw14_DawLeast.calls k A0 c0 l0 true w hC hc hk
end Go.Proofs.Ytebdcblchjhmpaa.K
