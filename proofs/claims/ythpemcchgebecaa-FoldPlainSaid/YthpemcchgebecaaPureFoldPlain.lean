/- FoldPlain: whatever bytes (2000 at most), each taken below 128: great plain letters are folded to the ones 32 behind, all else to itself. -/
import Derived.Test.YthpemcchgebecaaPFoldPlainx1
import Derived.Test.YthpemcchgebecaaFoldL
namespace Go.Proofs.Ythpemcchgebecaa.Pure
open Go.RowKit Go.Proofs.YthpemcchgebecaaW.PrintWords Go.Proofs.YthpemcchgebecaaW.PrintLast Go.Proofs.Ythpemcchgebecaa.PFoldPlain Go.Proofs.Ythpemcchgebecaa.PFold Go.Proofs.Ythpemcchgebecaa.PSh05 Go.Proofs.Ythpemcchgebecaa.K Go.Proofs.Ythpemcchgebecaa
def low (c : Int) : Int := Int.tmod c 128
def up (c : Int) : Int := if 65 ≤ c ∧ c ≤ 90 then c + 32 else c
theorem wf_bytes {l : List Int} (h : ∀ x ∈ l, (Lit.int .u8 x).wf = true) : ∀ x ∈ l, 0 ≤ x ∧ x < 256 := by
  intro x hx
  have := h x hx
  simp [Lit.wf, IntKind.min, IntKind.max, IntKind.signed, IntKind.bits] at this
  omega
theorem encode_low (x : Int) (h : 0 ≤ x ∧ x < 128) : (Utf8.encode x).data.toList = [UInt8.ofNat x.toNat] := by
  rw [← encode_bytes, Lib.encodeRune, Lib.encodeRuneZ_one h.1 (by omega)]
  rfl
theorem str_low : ∀ l : List Int, (∀ x ∈ l, 0 ≤ x ∧ x < 128) → strOfNums l = runesBytes l
  | [], _ => rfl
  | x :: l, h => by
    rw [Utf.runesBytes_cons, ← str_low l (fun y hy => h y (by simp [hy]))]
    apply ByteArray.ext
    apply Array.toList_inj.1
    rw [ByteArray.data_append, Array.toList_append, encode_low x (h x (by simp))]
    simp [strOfNums]
theorem run (x0 : List Int) (hl : x0.length ≤ 2000) (hb : ∀ x ∈ x0, 0 ≤ x ∧ x < 256) : ∀ (d i k : Nat), d + i = x0.length →
    manteletlaw05_FoldPlain.l0 (k + 20 + d) x0 true ((x0.take i).map low) ((x0.take i).map fun c => up (low c)) (i : Int) = some true := by
  intro d
  induction d with
  | zero =>
    intro i k hi
    rw [manteletlaw05_FoldPlain.l0, if_neg (by omega), if_pos rfl, List.take_of_length_le (by omega)]
    have hlow : ∀ y ∈ x0.map low, 0 ≤ y ∧ y < 128 := by
      intro y hy
      obtain ⟨x, hx, rfl⟩ := List.mem_map.1 hy
      have := hb x hx
      unfold low
      rw [Int.tmod_eq_emod_of_nonneg this.1]
      omega
    have hup : ∀ y ∈ x0.map (fun c => up (low c)), 0 ≤ y ∧ y < 128 := by
      intro y hy
      obtain ⟨x, hx, rfl⟩ := List.mem_map.1 hy
      have := hlow _ (List.mem_map_of_mem hx)
      show 0 ≤ up (low x) ∧ up (low x) < 128
      unfold up
      split <;> omega
    have hs : ((x0.map low).map Utf.sane).map foldZ = x0.map (fun c => up (low c)) := by
      simp only [List.map_map]
      apply List.map_congr_left
      intro x hx
      have hx2 := hlow _ (List.mem_map_of_mem hx)
      simp only [Function.comp]
      generalize low x = y at hx2
      obtain ⟨n, rfl⟩ := Int.eq_ofNat_of_zero_le hx2.1
      rw [Utf.sane_of n (Or.inl (by omega))]
      exact (fold_facts (n : Int) (by omega) (by omega)).2.2.2.2.2 (by omega)
    rw [str_low _ hlow, text_runes _ (by simp; omega), hs, str_low _ hup]
    simp
  | succ d ih =>
    intro i k hi
    have hlt : i < x0.length := by omega
    have hx := hb _ (List.getElem_mem hlt)
    rw [show k + 20 + (d + 1) = (k + 20 + d) + 1 by omega, manteletlaw05_FoldPlain.l0, if_pos (by omega), if_pos (by omega), if_pos (by simp; omega)]
    have e2 : rd x0 (i : Int) = x0[i] := by rw [rd_nat, List.getD_eq_getElem?_getD, List.getElem?_eq_getElem hlt]; rfl
    have e3 : (x0.take (i + 1)).map low = (x0.take i).map low ++ [low x0[i]] := by
      rw [List.take_succ_eq_append_getElem hlt, List.map_append]; rfl
    have e4 : (x0.take (i + 1)).map (fun c => up (low c)) = (x0.take i).map (fun c => up (low c)) ++ [up (low x0[i])] := by
      rw [List.take_succ_eq_append_getElem hlt, List.map_append]; rfl
    have e5 : wrap64 ((i : Int) + 1) = ((i + 1 : Nat) : Int) := by unfold wrap64; omega
    have ih := ih (i + 1) k (by omega)
    rw [e3, e4] at ih
    simp only [Option.bind_some]
    rw [e2, e5]
    have hlw : 0 ≤ low x0[i] ∧ low x0[i] < 128 := by
      unfold low
      rw [Int.tmod_eq_emod_of_nonneg hx.1]
      omega
    have hlo : Int.tmod x0[i] 128 = low x0[i] := rfl
    rw [hlo]
    generalize low x0[i] = y at ih hlw
    unfold up at ih
    by_cases h1 : 65 ≤ y
    · rw [if_pos h1]
      by_cases h2 : y ≤ 90
      · rw [if_pos h2, if_pos (by simp; omega), show (y + 32) % 256 = y + 32 by omega]
        rw [if_pos ⟨h1, h2⟩] at ih
        exact ih
      · rw [if_neg h2, if_pos (by simp; omega)]
        rw [if_neg (fun h => h2 h.2)] at ih
        exact ih
    · rw [if_neg h1, if_pos (by simp; omega)]
      rw [if_neg (fun h => h1 h.1)] at ih
      exact ih
theorem fin (K : Nat) (l0 : List Int) (hK : 14 < K) (h : ¬ (l0.length : Int) > 2000 → manteletlaw05_FoldPlain.l0 K l0 true [] [] ((0 : Nat) : Int) = some true) : manteletlaw05_FoldPlain.f K l0 = some true := by
  unfold manteletlaw05_FoldPlain.f
  rw [shown_true K hK]
  by_cases hl : (l0.length : Int) > 2000
  · show (if (l0.length : Int) > 2000 then some true else _) = _
    rw [if_pos hl]
  · show (if (l0.length : Int) > 2000 then some true else _) = _
    rw [if_neg hl]
    exact h hl
theorem FoldPlain : manteletlaw05_FoldPlain.Pure := by
  intro l0 _ _ hw
  refine ⟨0 + 20 + l0.length, fin _ l0 (by omega) (fun hl => ?_)⟩
  have := run l0 (by omega) (wf_bytes hw) l0.length 0 0 (by omega)
  simpa using this
end Go.Proofs.Ythpemcchgebecaa.Pure
