/- What fuzzy.row comes to: the next row of the table of distances. -/
import Derived.Test.YtbnjakihgmhpdaaPFzx
import Derived.Test.YtbnjakihgmhpdaaLev
import Derived.Test.YtbnjakihgmhpdaaHelp
namespace Go.Proofs.Ytbnjakihgmhpdaa.K
open Go.RowKit Go.Proofs.YtbnjakihgmhpdaaW.PrintWords Go.Proofs.YtbnjakihgmhpdaaW.PrintLast Go.Proofs.YtbnjakihgmhpdaaW.PrintMore Go.Proofs.Ytbnjakihgmhpdaa Go.Proofs.Ytbnjakihgmhpdaa.PFz
set_option linter.unusedVariables false
set_option linter.unusedSimpArgs false
/-- The distances of p from each begin of text. -/
def drow (text p : List Int) : List Int := (List.range (text.length + 1)).map fun i => ((Lev.dist (text.take i) p : Nat) : Int)
theorem drow_length (text p : List Int) : (drow text p).length = text.length + 1 := by simp [drow]
theorem drow_get (text p : List Int) (i : Nat) (h : i ≤ text.length) : rd (drow text p) (i : Int) = ((Lev.dist (text.take i) p : Nat) : Int) := by
  rw [rd_nat, List.getD_eq_getElem?_getD]
  simp [drow, List.getElem?_map, List.getElem?_range (show i < text.length + 1 by omega)]
theorem drow_take_succ (text p : List Int) (i : Nat) (h : i ≤ text.length) : (drow text p).take (i + 1) = (drow text p).take i ++ [((Lev.dist (text.take i) p : Nat) : Int)] := by
  rw [List.take_succ_eq_append_getElem (by rw [drow_length]; omega)]
  simp [drow]
theorem rd_take (l : List Int) (m i : Nat) (h : i < m) : rd (l.take m) (i : Int) = rd l (i : Int) := by
  rw [rd_nat, rd_nat, List.getD_eq_getElem?_getD, List.getD_eq_getElem?_getD, List.getElem?_take, if_pos h]
theorem mn_nat (a b : Nat) : mn (a : Int) (b : Int) = ((min a b : Nat) : Int) := by unfold mn; split <;> omega
theorem w64 (x : Int) (h0 : 0 ≤ x) (h1 : x < 9223372036854775808) : wrap64 x = x := by unfold wrap64; omega
theorem dist_bound (text p : List Int) (i : Nat) (h : i ≤ text.length) (ht : text.length < 1099511627776) (hp : p.length < 1099511627776) : Lev.dist (text.take i) p < 1099511627776 := by
  have := Lev.dist_max (text.take i) p
  rw [List.length_take] at this
  omega
theorem row_run (text p : List Int) (c : Int) (ht : text.length < 1099511627776) (hp : p.length + 1 < 1099511627776) :
    ∀ (d i k : Nat), d + i = text.length → fuzzy_row.l0 (k + 1 + d) (drow text p) c ((drow text (p ++ [c])).take (i + 1)) text (text.length : Int) (i : Int) = some (drow text (p ++ [c])) := by
  intro d
  induction d with
  | zero =>
    intro i k hi
    rw [fuzzy_row.l0, if_neg (by omega), List.take_of_length_le (by rw [drow_length]; omega)]
  | succ d ih =>
    intro i k hi
    have hlt : i < text.length := by omega
    have hl2 := drow_length text p
    have hl3 := drow_length text (p ++ [c])
    obtain ⟨D1, hD1⟩ : ∃ D, Lev.dist (text.take i) p = D := ⟨_, rfl⟩
    obtain ⟨D2, hD2⟩ : ∃ D, Lev.dist (text.take (i + 1)) p = D := ⟨_, rfl⟩
    obtain ⟨D3, hD3⟩ : ∃ D, Lev.dist (text.take i) (p ++ [c]) = D := ⟨_, rfl⟩
    have b1 : D1 < 1099511627776 := by rw [← hD1]; exact dist_bound text p i (by omega) ht (by omega)
    have b2 : D2 < 1099511627776 := by rw [← hD2]; exact dist_bound text p (i + 1) (by omega) ht (by omega)
    have b3 : D3 < 1099511627776 := by rw [← hD3]; exact dist_bound text (p ++ [c]) i (by omega) ht (by simp; omega)
    have e1 : Aside0 (rd (drow text p) (i : Int) = (D1 : Int)) := ⟨by rw [← hD1]; exact drow_get text p i (by omega)⟩
    have e2 : Aside0 (rd (drow text p) ((i + 1 : Nat) : Int) = (D2 : Int)) := ⟨by rw [← hD2]; exact drow_get text p (i + 1) (by omega)⟩
    have e3 : Aside0 (rd (drow text (p ++ [c])) (i : Int) = (D3 : Int)) := ⟨by rw [← hD3]; exact drow_get text (p ++ [c]) i (by omega)⟩
    have et : Aside0 (rd text (i : Int) = text[i]) := ⟨by rw [rd_nat, List.getD_eq_getElem?_getD, List.getElem?_eq_getElem hlt]; rfl⟩
    have hs : Aside0 (Lev.dist (text.take (i + 1)) (p ++ [c]) = min (min D3 D2 + 1) (D1 + Lev.ne text[i] c)) := by
      refine ⟨?_⟩
      rw [← hD1, ← hD2, ← hD3, List.take_succ_eq_append_getElem hlt]
      exact Lev.dist_snoc _ _ _ _
    clear hD1 hD2 hD3
    have hi1 : wrap64 ((i : Int) + 1) = ((i + 1 : Nat) : Int) := by rw [w64 _ (by omega) (by omega)]; omega
    have hgo := ih (i + 1) k (by omega)
    rw [drow_take_succ _ _ (i + 1) (by omega), hs.out] at hgo
    have hgo := Aside0.mk hgo
    clear hs
    generalize hL : drow text (p ++ [c]) = L at *
    generalize hM : drow text p = M at *
    clear hL hM
    have hlen : (L.take (i + 1)).length = i + 1 := by rw [List.length_take]; omega
    have e4 : Aside0 (rd (L.take (i + 1)) (i : Int) = (D3 : Int)) := ⟨by rw [rd_take _ _ _ (by omega), e3.out]⟩
    generalize L.take (i + 1) = X at *
    clear ih e3
    rw [show k + 1 + (d + 1) = (k + 1 + d) + 1 by omega, fuzzy_row.l0, if_pos (by omega), if_pos (by omega), if_pos (by omega), if_pos (by omega), et.out, hi1]
    rw [e4.out, e1.out, e2.out]
    rw [w64 ((D2 : Int) + 1) (by omega) (by omega), w64 ((D3 : Int) + 1) (by omega) (by omega), w64 ((D1 : Int) + 1) (by omega) (by omega)]
    by_cases hc : text[i] = c
    · have hn : Lev.ne text[i] c = 0 := by simp [Lev.ne, hc]
      rw [if_pos hc, if_pos (by omega), if_pos (by omega), if_pos (by omega), if_pos (by omega)]
      have hgo := hgo.out
      rw [hn] at hgo
      have : mn (mn (D1 : Int) ((D2 : Int) + 1)) ((D3 : Int) + 1) = ((min (min D3 D2 + 1) (D1 + 0) : Nat) : Int) := by
        clear hgo; unfold mn; split <;> split <;> omega
      rw [this]
      with_reducible exact hgo
    · have hn : Lev.ne text[i] c = 1 := by simp [Lev.ne, hc]
      rw [if_neg hc, if_pos (by omega), if_pos (by omega), if_pos (by omega), if_pos (by omega)]
      have hgo := hgo.out
      rw [hn] at hgo
      have : mn (mn ((D1 : Int) + 1) ((D2 : Int) + 1)) ((D3 : Int) + 1) = ((min (min D3 D2 + 1) (D1 + 1) : Nat) : Int) := by
        clear hgo; unfold mn; split <;> split <;> omega
      rw [this]
      with_reducible exact hgo
theorem row_eq (text p : List Int) (c : Int) (ht : text.length < 1099511627776) (hp : p.length + 1 < 1099511627776) (k : Nat) (hk : text.length + 1 ≤ k) :
    fuzzy_row.f k (drow text p) text c = some (drow text (p ++ [c])) := by
  unfold fuzzy_row.f
  have hl := drow_length text p
  rw [if_pos (by omega)]
  have e0 := drow_get text p 0 (by omega)
  rw [show ((0 : Nat) : Int) = 0 from rfl] at e0
  rw [e0, List.take_zero, Lev.dist_nil_left, w64 _ (by omega) (by omega)]
  have := row_run text p c ht hp text.length 0 (k - (text.length + 1)) (by omega)
  rw [drow_take_succ _ _ 0 (by omega), List.take_zero, List.take_zero, Lev.dist_nil_left, List.nil_append] at this
  rw [show k = k - (text.length + 1) + 1 + text.length by omega]
  simpa using this
end Go.Proofs.Ytbnjakihgmhpdaa.K
