/- What the reference's table of distances comes to. -/
import Derived.Test.YtbnjakihgmhpdaaPFrx
import Derived.Test.YtbnjakihgmhpdaaLev
import Derived.Test.YtbnjakihgmhpdaaFuzP
namespace Go.Proofs.Ytbnjakihgmhpdaa.K
open Go.RowKit Go.Proofs.YtbnjakihgmhpdaaW.PrintWords Go.Proofs.YtbnjakihgmhpdaaW.PrintLast Go.Proofs.YtbnjakihgmhpdaaW.PrintMore Go.Proofs.Ytbnjakihgmhpdaa Go.Proofs.Ytbnjakihgmhpdaa.PFr
set_option linter.unusedVariables false
set_option linter.unusedSimpArgs false
def trow (x y : List Int) (i : Nat) : List Int := (List.range (y.length + 1)).map fun j => ((Lev.dist (x.take i) (y.take j) : Nat) : Int)
theorem trow_length (x y : List Int) (i : Nat) : (trow x y i).length = y.length + 1 := by simp [trow]
theorem trow_get (x y : List Int) (i j : Nat) (h : j ≤ y.length) : rd (trow x y i) (j : Int) = ((Lev.dist (x.take i) (y.take j) : Nat) : Int) := by
  rw [rd_nat, List.getD_eq_getElem?_getD]
  simp [trow, List.getElem?_map, List.getElem?_range (show j < y.length + 1 by omega)]
theorem trow_take_succ (x y : List Int) (i j : Nat) (h : j ≤ y.length) : (trow x y i).take (j + 1) = (trow x y i).take j ++ [((Lev.dist (x.take i) (y.take j) : Nat) : Int)] := by
  rw [List.take_succ_eq_append_getElem (by rw [trow_length]; omega)]
  simp [trow]
def tab (x y : List Int) (i : Nat) : List (List Int) := (List.range i).map (trow x y)
theorem tab_length (x y : List Int) (i : Nat) : (tab x y i).length = i := by simp [tab]
theorem tab_succ (x y : List Int) (i : Nat) : tab x y (i + 1) = tab x y i ++ [trow x y i] := by simp [tab, List.range_succ]
theorem tab_get (x y : List Int) (n i : Nat) (h : i < n) : rd_L1 (tab x y n) (i : Int) = trow x y i := by
  unfold rd_L1 tab
  rw [Int.toNat_natCast, List.getD_eq_getElem?_getD]
  simp [List.getElem?_map, List.getElem?_range h]
theorem dist_bd (x y : List Int) (i j : Nat) (hx : x.length < 1099511627776) (hy : y.length < 1099511627776) : Lev.dist (x.take i) (y.take j) < 1099511627776 := by
  have := Lev.dist_max (x.take i) (y.take j)
  rw [List.length_take, List.length_take] at this
  omega
theorem l1_run (x y : List Int) (hx : x.length < 1099511627776) (hy : y.length < 1099511627776) (i : Nat) (hi : i ≤ x.length) :
    ∀ (d j kf : Nat), d + j = y.length + 1 → manteletref18_Dist.l1 (kf + 1 + 2 * d) x y (tab x y i) (i : Int) ((trow x y i).take j) (j : Int) = manteletref18_Dist.l0 kf x y (tab x y (i + 1)) ((i + 1 : Nat) : Int) := by
  intro d
  induction d with
  | zero =>
    intro j kf hj
    have htl := tab_length x y i
    rw [show kf + 1 + 2 * 0 = kf + 1 by omega, manteletref18_Dist.l1, if_neg (by omega), if_pos (by omega), List.take_of_length_le (by rw [trow_length]; omega), ← tab_succ,
      w64 _ (by omega) (by omega)]
    rfl
  | succ d ih =>
    intro j kf hj
    have hgo := ih (j + 1) kf (by omega)
    rw [trow_take_succ x y i j (by omega)] at hgo
    have hgo := Aside0.mk hgo
    clear ih
    have htl := tab_length x y i
    rw [show kf + 1 + 2 * (d + 1) = (kf + 1 + 2 * d) + 1 + 1 by omega, manteletref18_Dist.l1, if_pos (by omega)]
    have hsum : wrap64 ((i : Int) + (j : Int)) = (i : Int) + (j : Int) := w64 _ (by omega) (by omega)
    have hj1 : wrap64 ((j : Int) + 1) = ((j + 1 : Nat) : Int) := by rw [w64 _ (by omega) (by omega)]; omega
    have hxl : ((trow x y i).take j).length = j := by rw [List.length_take, trow_length]; omega
    rw [hsum]
    by_cases h0 : i = 0 ∨ j = 0
    · have hd : ((Lev.dist (x.take i) (y.take j) : Nat) : Int) = (i : Int) + (j : Int) := by
        rcases h0 with h0 | h0
        · subst h0; rw [List.take_zero, Lev.dist_nil_left, List.length_take]; omega
        · subst h0; rw [List.take_zero, Lev.dist_nil_right, List.length_take]; omega
      have hj2 : ∀ b : Bool, b = false → manteletref18_Dist.j2 (kf + 1 + 2 * d + 1) x y (tab x y i) (i : Int) ((trow x y i).take j) (j : Int) ((i : Int) + (j : Int)) b = manteletref18_Dist.l0 kf x y (tab x y (i + 1)) ((i + 1 : Nat) : Int) := by
        intro b hb
        subst hb
        rw [manteletref18_Dist.j2, if_neg (by simp), if_pos (by omega), hj1, ← hd]
        exact hgo.out
      by_cases hi0 : (i : Int) > 0
      · rw [if_pos hi0]; exact hj2 _ (decide_eq_false (by omega))
      · rw [if_neg hi0]; exact hj2 _ rfl
    · obtain ⟨i', rfl⟩ : ∃ i', i = i' + 1 := ⟨i - 1, by omega⟩
      obtain ⟨j', rfl⟩ : ∃ j', j = j' + 1 := ⟨j - 1, by omega⟩
      have hxi : i' < x.length := by omega
      have hyj : j' < y.length := by omega
      rw [if_pos (by omega), decide_eq_true (show ((j' + 1 : Nat) : Int) > 0 by omega), manteletref18_Dist.j2, if_pos rfl]
      have hi1 : wrap64 (((i' + 1 : Nat) : Int) - 1) = (i' : Int) := by rw [w64 _ (by omega) (by omega)]; omega
      have hj0 : wrap64 (((j' + 1 : Nat) : Int) - 1) = (j' : Int) := by rw [w64 _ (by omega) (by omega)]; omega
      have hrow : Aside0 (rd_L1 (tab x y (i' + 1)) (i' : Int) = trow x y i') := ⟨tab_get x y (i' + 1) i' (by omega)⟩
      have hrl := trow_length x y i'
      obtain ⟨D1, hD1⟩ : ∃ D, Lev.dist (x.take i') (y.take (j' + 1)) = D := ⟨_, rfl⟩
      obtain ⟨D2, hD2⟩ : ∃ D, Lev.dist (x.take (i' + 1)) (y.take j') = D := ⟨_, rfl⟩
      obtain ⟨D3, hD3⟩ : ∃ D, Lev.dist (x.take i') (y.take j') = D := ⟨_, rfl⟩
      have b1 : D1 < 1099511627776 := by rw [← hD1]; exact dist_bd x y _ _ hx hy
      have b2 : D2 < 1099511627776 := by rw [← hD2]; exact dist_bd x y _ _ hx hy
      have b3 : D3 < 1099511627776 := by rw [← hD3]; exact dist_bd x y _ _ hx hy
      have e1 : Aside0 (rd (trow x y i') ((j' + 1 : Nat) : Int) = (D1 : Int)) := ⟨by rw [← hD1]; exact trow_get x y i' (j' + 1) (by omega)⟩
      have e2 : Aside0 (rd ((trow x y (i' + 1)).take (j' + 1)) (j' : Int) = (D2 : Int)) := ⟨by rw [rd_take _ _ _ (by omega), ← hD2]; exact trow_get x y (i' + 1) j' (by omega)⟩
      have e3 : Aside0 (rd (trow x y i') (j' : Int) = (D3 : Int)) := ⟨by rw [← hD3]; exact trow_get x y i' j' (by omega)⟩
      have ex : Aside0 (rd x (i' : Int) = x[i']) := ⟨by rw [rd_nat, List.getD_eq_getElem?_getD, List.getElem?_eq_getElem hxi]; rfl⟩
      have ey : Aside0 (rd y (j' : Int) = y[j']) := ⟨by rw [rd_nat, List.getD_eq_getElem?_getD, List.getElem?_eq_getElem hyj]; rfl⟩
      have hs : Aside0 (Lev.dist (x.take (i' + 1)) (y.take (j' + 1)) = min (min D1 D2 + 1) (D3 + Lev.ne x[i'] y[j'])) := by
        refine ⟨?_⟩
        rw [← hD1, ← hD2, ← hD3, List.take_succ_eq_append_getElem hxi, List.take_succ_eq_append_getElem hyj]
        exact Lev.dist_snoc _ _ _ _
      clear hD1 hD2 hD3
      have hgo := hgo.out
      rw [hs.out] at hgo
      have hgo := Aside0.mk hgo
      clear hs
      rw [hi1, hrow.out, hj0, e1.out, e2.out, e3.out, ex.out, ey.out, hj1]
      generalize (trow x y (i' + 1)).take (j' + 1) = X at *
      generalize trow x y i' = R at *
      rw [if_pos (by omega), if_pos (by omega), if_pos (by omega), if_pos (by omega), if_pos (by omega), if_pos (by omega), if_pos (by omega), if_pos (by omega), if_pos (by omega)]
      have em : mn (D1 : Int) (D2 : Int) = ((min D1 D2 : Nat) : Int) := mn_nat D1 D2
      rw [em, w64 (((min D1 D2 : Nat) : Int) + 1) (by omega) (by omega), w64 ((D3 : Int) + 1) (by omega) (by omega)]
      by_cases hc : x[i'] = y[j']
      · have hn : Lev.ne x[i'] y[j'] = 0 := by simp [Lev.ne, hc]
        rw [if_pos hc, if_pos (by omega)]
        have hgo := hgo.out
        rw [hn] at hgo
        have : mn (((min D1 D2 : Nat) : Int) + 1) (D3 : Int) = ((min (min D1 D2 + 1) (D3 + 0) : Nat) : Int) := by
          clear hgo em; unfold mn; split <;> omega
        rw [this]
        with_reducible exact hgo
      · have hn : Lev.ne x[i'] y[j'] = 1 := by simp [Lev.ne, hc]
        rw [if_neg hc, if_pos (by omega)]
        have hgo := hgo.out
        rw [hn] at hgo
        have : mn (((min D1 D2 : Nat) : Int) + 1) ((D3 : Int) + 1) = ((min (min D1 D2 + 1) (D3 + 1) : Nat) : Int) := by
          clear hgo em; unfold mn; split <;> omega
        rw [this]
        with_reducible exact hgo
theorem l0_run (x y : List Int) (hx : x.length < 1099511627776) (hy : y.length < 1099511627776) :
    ∀ (d i kf : Nat), d + i = x.length + 1 → manteletref18_Dist.l0 (kf + 1 + d * (2 * y.length + 4)) x y (tab x y i) (i : Int) = some ((Lev.dist x y : Nat) : Int) := by
  intro d
  induction d with
  | zero =>
    intro i kf hi
    have htl := tab_length x y i
    have hi' : i = x.length + 1 := by omega
    subst hi'
    rw [show kf + 1 + 0 * (2 * y.length + 4) = kf + 1 by omega, manteletref18_Dist.l0, if_neg (by omega), if_pos (by omega), if_pos (by omega), if_pos (by omega), tab_get x y _ x.length (by omega), if_pos (by rw [trow_length]; omega),
      trow_get x y x.length y.length (Nat.le_refl _), List.take_length, List.take_length]
  | succ d ih =>
    intro i kf hi
    have h1 := l1_run x y hx hy i (by omega) (y.length + 1) 0 (kf + 1 + d * (2 * y.length + 4)) (by omega)
    have h2 := ih (i + 1) kf (by omega)
    rw [h2, List.take_zero] at h1
    rw [show kf + 1 + (d + 1) * (2 * y.length + 4) = (kf + 1 + d * (2 * y.length + 4) + 1 + 2 * (y.length + 1)) + 1 by rw [Nat.add_mul]; omega, manteletref18_Dist.l0, if_pos (by omega)]
    exact h1
theorem refDist_eq (a b : ByteArray) (ha : a.size < 1000000000) (hb : b.size < 1000000000) : ∃ k0, ∀ k, k0 ≤ k → manteletref18_Dist.f k a b = some ((Lev.dist (Utf.runesZ a) (Utf.runesZ b) : Nat) : Int) := by
  have hl : ∀ s : ByteArray, (Utf.runesZ s).length ≤ s.size := fun s => by
    unfold Utf.runesZ Utf.runesFrom
    rw [List.length_map, List.drop_zero]
    exact Nat.le_trans (Utf.all_length _) (by simp [Utf.nats])
  have ha' := hl a
  have hb' := hl b
  refine ⟨1 + ((Utf.runesZ a).length + 1) * (2 * (Utf.runesZ b).length + 4), fun k hk => ?_⟩
  unfold manteletref18_Dist.f
  rw [if_pos (by omega), if_pos (by omega)]
  have := l0_run (Utf.runesZ a) (Utf.runesZ b) (by omega) (by omega) ((Utf.runesZ a).length + 1) 0 (k - (1 + ((Utf.runesZ a).length + 1) * (2 * (Utf.runesZ b).length + 4))) (by omega)
  rw [show k - (1 + ((Utf.runesZ a).length + 1) * (2 * (Utf.runesZ b).length + 4)) + 1 + ((Utf.runesZ a).length + 1) * (2 * (Utf.runesZ b).length + 4) = k by omega] at this
  exact this
end Go.Proofs.Ytbnjakihgmhpdaa.K
