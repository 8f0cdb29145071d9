/- DictNobody. (The texts that the proof is made of, one behind the other: part 16 of 18.) -/
import Derived.Test.YtgebhidpkcjpmaaProg
import Derived.Below
import Derived.Deep.Draws
import Derived.Deep.AppendLies
import Derived.Maps.AppendAt
import Derived.OwnWalk
import Derived.Laws.BytesArg
import Derived.Laws.MakeOwn
import Derived.Laws.OwnMore
import Derived.Deep.OwnRows
import Derived.Tactics
import Derived.Lib.ConvBytes
import Derived.Laws.Slices
import Derived.WalkKit
import Derived.KernelRfl
import Derived.RowKit3
import Derived.Deep.LoopGhost
import Derived.Deep.QuietTactic
import Derived.BigQuiet
import Derived.WideLaws
import Derived.Deep.DeepCutAuto
import Derived.Deep.CutBlock
import Derived.Deep.RegionHeld3
import Derived.Laws.Rows
import Derived.Lib.AppendStr
import Derived.ArgAppend
import Derived.Laws.IdiomCopy
import Derived.OrdersHeld
import Derived.Laws.BitsLemmas
import Derived.RowKit
import Derived.Lib.OthersKept
import Derived.WalkSmall
import Derived.Deep.RegionLaw
import Derived.BigRegion
import Derived.Test.YtgebhidpkcjpmaaZDictNobodya
import Derived.Test.YtgebhidpkcjpmaaZDictNobodyb
import Derived.Test.YtgebhidpkcjpmaaZDictNobodyc
import Derived.Test.YtgebhidpkcjpmaaZDictNobodyd
import Derived.Test.YtgebhidpkcjpmaaZDictNobodye
import Derived.Test.YtgebhidpkcjpmaaZDictNobodyf
import Derived.Test.YtgebhidpkcjpmaaZDictNobodyg
import Derived.Test.YtgebhidpkcjpmaaZDictNobodyh
import Derived.Test.YtgebhidpkcjpmaaZDictNobodyi
import Derived.Test.YtgebhidpkcjpmaaZDictNobodyj
import Derived.Test.YtgebhidpkcjpmaaZDictNobodyk
import Derived.Test.YtgebhidpkcjpmaaZDictNobodyl
import Derived.Test.YtgebhidpkcjpmaaZDictNobodym
import Derived.Test.YtgebhidpkcjpmaaZDictNobodyn
import Derived.Test.YtgebhidpkcjpmaaZDictNobodyo
namespace Go.Proofs.Ytgebhidpkcjpmaa.K
open Go.RowKit Go.Proofs.YtgebhidpkcjpmaaW.PrintWords Go.Proofs.YtgebhidpkcjpmaaW.PrintLast Go.Proofs.YtgebhidpkcjpmaaW.PrintMore Go.Proofs.Ytgebhidpkcjpmaa
attribute [local go_sem] max2_int min2_int max_two min_two max_three min_three max_four min_four
set_option linter.unusedVariables false
set_option linter.unusedSimpArgs false
open Go Go.Proofs.Ytgebhidpkcjpmaa.PDk
/-- So many edges of state i read. -/
def stR (i : Int) : Nat → List Int → Bool → List S84 → List S84 × List Int × Bool
  | 0, l, b, es => (es, l, b)
  | n + 1, l, b, es => stR i n (numR (oneR l b).2.1 (oneR l b).2.2 i).2.1 (numR (oneR l b).2.1 (oneR l b).2.2 i).2.2 (es ++ [⟨(oneR l b).1, i - (numR (oneR l b).2.1 (oneR l b).2.2 i).1⟩])
/-- A state read behind those that were. -/
def stateR (l : List Int) (b : Bool) (sts : List S82) : List Int × Bool × List S82 :=
  let x := numR l b 513
  let y := stR (sts.length : Int) (x.1 / 2).toNat x.2.1 x.2.2 []
  (y.2.1, y.2.2, sts ++ [⟨decide (x.1 % 2 = 1), y.1⟩])
theorem Rd.only {w1 w w' : World} {g : Nat} {l : List Int} {b : Bool} {vS vC vK : Value} (h : Rd w1 w g l b vS vC vK) (hb : Below w.heap.size w w') : Rd w1 w' g l b vS vC vK := by
  obtain ⟨A, c, h1, h2, h3, h4, h5, h6⟩ := h
  exact ⟨A, c, (hb.block g (blk_lt h1)).trans h1, h2, h3, h4, h5, h6.trans (hb.mono h6.size)⟩
theorem Rd.grown {w1 w w' : World} {g : Nat} {l : List Int} {b : Bool} {vS vC vK : Value} {row : Option Nat} (h : Rd w1 w g l b vS vC vK) (hg : w.grownBy w' row) (hr : ∀ k, row = some k → w1.heap.size ≤ k) (hne : some g ≠ row) : Rd w1 w' g l b vS vC vK := by
  obtain ⟨A, c, h1, h2, h3, h4, h5, h6⟩ := h
  exact ⟨A, c, (hg.block g (blk_lt h1) hne).trans h1, h2, h3, h4, h5, h6.grown hg h6.size hr⟩
theorem Only.grown {g : Nat} {a w w' : World} {row : Option Nat} (h : Only g a w) (hg : w.grownBy w' row) (hr : ∀ k, row = some k → a.heap.size ≤ k) : Only g a w' :=
  ⟨Nat.le_trans h.1 hg.size, fun k hk hkg => (hg.block k (Nat.lt_of_lt_of_le hk h.1) (fun e => by have := hr k e.symm; omega)).trans (h.2 k hk hkg)⟩
theorem Rd.set {w1 w : World} {g h i : Nat} {l : List Int} {b : Bool} {vS vC vK : Value} (hR : Rd w1 w g l b vS vC vK) (hh : w1.heap.size ≤ h) (hne : g ≠ h) (v : Value) : Rd w1 (w.setCell ⟨h, i, none⟩ v) g l b vS vC vK := by
  obtain ⟨A, c, h1, h2, h3, h4, h5, h6⟩ := hR
  exact ⟨A, c, (Below.heap_setCell w ⟨h, i, none⟩ v g hne).trans h1, h2, h3, h4, h5, h6.setCell (p := ⟨h, i, none⟩) hh v⟩
theorem Rd.putS {w1 w : World} {g : Nat} {l : List Int} {b : Bool} {vS vC vK : Value} (hR : Rd w1 w g l b vS vC vK) (v : Value) : Rd w1 (w.setCell ⟨g, 2, none⟩ v) g l b v vC vK := by
  obtain ⟨A, c, h1, h2, h3, h4, h5, h6⟩ := hR
  exact ⟨A, c, blk_put h1 2 v rfl, h2, h3, h4, h5, h6.setCell (p := ⟨g, 2, none⟩) h5 v⟩
theorem blk_cell_alloc {w : World} {p : Addr} {v : Value} {o : Obj} (h : w.cell? p = some v) : (w.alloc o).cell? p = some v := ((Below.refl w.heap.size w).alloc (Nat.le_refl _) o |>.cell (World.block_lt_of_cell? w _ h)).trans h
theorem Only.fresh {g h i : Nat} {a w : World} (hO : Only g a w) (hh : a.heap.size ≤ h) (v : Value) : Only g a (w.setCell ⟨h, i, none⟩ v) :=
  ⟨Nat.le_trans hO.1 (Nat.le_of_eq (by simp [World.setCell])), fun k hk hkg => (Below.heap_setCell w ⟨h, i, none⟩ v k (by show k ≠ h; omega)).trans (hO.2 k hk hkg)⟩
set_option maxHeartbeats 8000000 in
set_option maxRecDepth 100000 in
theorem rstate_k {w1 w : World} {g : Nat} {l : List Int} {bad : Bool} {vS vC vK : Value} {sts : List S82} (h : Rd w1 w g l bad vS vC vK) (hS : Kd.S k82 82 w w1.heap.size (fun k => k ≠ g) vS sts) (hl : sts.length < 1000000000) :
    Calls Try.prog 48 #[.pointer (some ⟨g, 0, none⟩)] w fun e w' => e = .returned (.tuple #[]) ∧ ∃ vS', Rd w1 w' g (stateR l bad sts).1 (stateR l bad sts).2.1 vS' vC vK ∧ Kd.S k82 82 w' w1.heap.size (fun k => k ≠ g) vS' (stateR l bad sts).2.2 ∧ w.heap.size ≤ w'.heap.size ∧ ∀ k, k < w.heap.size → k ≠ g → some k ≠ vS.ownBlock → w'.heap[k]? = w.heap[k]? := by
  obtain ⟨AS, cS, eS⟩ := Kd.S_slice hS
  subst eS
  have hg0 := h
  obtain ⟨A, c, hg, _, _, _, hsz, hB⟩ := hg0
  have hS' := Kd.S_mono (Kd.S_bound hS) (ok' := fun k => k ≠ g ∧ k < w.heap.size) (fun k hk => ⟨hk.1, hk.2.2.1⟩)
  obtain ⟨n0, n1⟩ := numR_bounds l bad 513 (by decide)
  have HR := Aside0.mk h; have HS := Aside0.mk hS'; have HLS := Aside0.mk hl; have HSZ := Aside0.mk hsz; have HGL := Aside0.mk (blk_lt hg)
  have HW1 := Aside0.mk (Nat.le_trans hB.size (Nat.le_refl w.heap.size))
  obtain ⟨⟨n, l1, b1⟩, hN⟩ : ∃ R, numR l bad 513 = R := ⟨_, rfl⟩
  have hst : ∀ y, stR (sts.length : Int) (n / 2).toNat l1 b1 [] = y → stateR l bad sts = (y.2.1, y.2.2, sts ++ [⟨decide (n % 2 = 1), y.1⟩]) := fun y hy => by unfold stateR; rw [hN]; dsimp only; rw [hy]
  have HST := Aside0.mk hst
  have HNUM := Aside0.mk (rnum_k h 513)
  rw [hN] at n0 n1 HNUM
  dsimp only at n0 n1 HNUM
  obtain ⟨n, rfl⟩ := Int.eq_ofNat_of_zero_le n0
  have huR := Try.underlying92
  have huT := Try.underlying94
  have huD := Try.underlying29
  have huS := Try.underlying82
  have huE := Try.underlying84
  have e2 : w.cell? ⟨g, 2, none⟩ = some (.slice AS sts.length cS) := (blk_cell hg 2).trans rfl
  clear h hS hS' hl hsz hB hg hst hN n0
  go_enter Try.func48, Try.ntmps48
  go_wp2_with (first | (go_at_call 50; (with_reducible refine (HNUM.out).mono ?_)))
  (first | rintro x w2 rfl hR2 hO2 | rintro x w2 ⟨rfl, hR2, hO2⟩)
  have HR2 := Aside0.mk hR2; have HO2 := Aside0.mk hO2
  clear hR2 hO2 HNUM e2
  go_wp2
  obtain ⟨fin, hfin⟩ : ∃ fin, fin = ((n : Int) % 2 == 1) := ⟨_, rfl⟩
  rw [← hfin]
  have HFIN := Aside0.mk (show fin = decide ((n : Int) % 2 = 1) from hfin)
  clear hfin
  obtain ⟨h, hh⟩ : ∃ h, h = w2.heap.size := ⟨_, rfl⟩
  rw [← hh]
  obtain ⟨w3, hw3⟩ : ∃ w3, w3 = w2.alloc (.cells #[.bool fin, .slice none 0 0] 82 (0, 0)) := ⟨_, rfl⟩
  rw [← hw3]
  have hb3 : Below w2.heap.size w2 w3 := by rw [hw3]; exact below_alloc (Below.refl _ _) _
  have HH3 := Aside0.mk (show w3.heap[h]? = some (.cells #[.bool fin, .slice none 0 0] 82 (0, 0)) by rw [hw3, hh]; exact heap_alloc_new w2 _)
  have HR3 := Aside0.mk (HR2.out.only hb3)
  have HO3 := Aside0.mk (HO2.out.trans (Only.below (g := g) hb3))
  have HHB := Aside0.mk (show w.heap.size ≤ h ∧ h ≠ g by have := HO2.out.1; have := HGL.out; omega)
  clear hh hw3 hb3 HR2 HO2
  have hn2 : (n : Int) / 2 = ((n / 2 : Nat) : Int) := by omega
  have hm2 : n / 2 ≤ 256 := by omega
  rw [hn2] at HST ⊢
  rw [Int.toNat_natCast] at HST
  clear hn2
  generalize n / 2 = m at HST hm2 ⊢
  go_loopg [22] m (fun gg v22 wr => ∃ (i : Nat) (l2 : List Int) (b2 : Bool) (es : List S84) (vE : Value), v22 = .int .u64 i ∧ Aside0 (i + gg = m) ∧ Aside0 (Rd w1 wr g l2 b2 (.slice AS sts.length cS) vC vK) ∧ Aside0 (wr.heap[h]? = some (.cells #[.bool fin, vE] 82 (0, 0))) ∧
    Aside0 (Kd.R k84 84 wr w.heap.size (fun _ => True) vE es) ∧ Aside0 (es.length ≤ i) ∧ Aside0 (Only g w wr) ∧ Aside0 (stR (sts.length : Int) m l1 b1 [] = stR (sts.length : Int) gg l2 b2 es))
  case atStart => exact ⟨0, l1, b1, [], _, rfl, ⟨by omega⟩, HR3, HH3, ⟨Kd.R_nil _ _ _ _ _⟩, ⟨Nat.le_refl _⟩, HO3, ⟨rfl⟩⟩
  case round =>
    clear HR3 HH3 HO3
    obtain ⟨i, l2, b2, es, vE, rfl, hi, hR, hH, hE, hes, hO, hA⟩ := hrel
    obtain ⟨AE, cE, eE⟩ := Kd.R_slice hE.out
    subst eE
    cases gk with
    | zero =>
      obtain rfl : i = m := by have := hi.out; omega
      have hcb : decide ((i : Int) < (i : Int)) = false := decide_eq_false (by omega)
      go_wp2
      have HEL := Aside0.mk hes.out
      have HY := Aside0.mk (HST.out _ (show stR (sts.length : Int) i l1 b1 [] = (es, l2, b2) from hA.out))
      refine start_ (n := 13) (S := fun w' => w'.cell? ⟨g, 2, none⟩ = some (.slice AS sts.length cS) ∧ w'.cell? ⟨h, 0, none⟩ = some (.bool fin) ∧ w'.cell? ⟨h, 1, none⟩ = some (.slice AE es.length cE)) (ds := [8, 12]) #[false, false, false, false, false, false, false, false, false, false, false, false, false] (by kernel_rfl) rfl rfl (by obtain ⟨A, c, h1, _⟩ := hR.out; exact ⟨(blk_cell (blk_drew h1) 2).trans rfl, (blk_cell (blk_drew hH.out) 0).trans rfl, (blk_cell (blk_drew hH.out) 1).trans rfl⟩) (fun hHeld => ?_)
      have HR5 := Aside0.mk (hR.out.only (below_drew (Below.refl _ _)))
      have HE5 := Aside0.mk (Kd.R_drew hE.out)
      have HO5 := Aside0.mk (hO.out.trans (Only.below (g := g) (below_drew (Below.refl wr.heap.size wr))))
      clear hR hH hE hO hA hes hi
      generalize wr.drew = w5 at HR5 HE5 HO5 hHeld ⊢
      (refine pure_ (i := 0) (N := some 45) (v := ?_) (a' := ?_) #[true, false, false, false, false, false, false, false, false, false, false, false, false] rfl rfl (by kernel_rfl) (fun _ _ _ h => h) (Or.inl ⟨by rfl, ?_⟩) ?_ ?_; rotate_left; (intro w'; go_simp; with_reducible rfl); rotate_left; (simp only [Act.put, List.setIfInBounds_toArray, List.set_cons_zero, List.set_cons_succ, i64_w, i32_w]; rfl)); (refine pure_ (i := 1) (N := some 46) (v := ?_) (a' := ?_) #[true, true, false, false, false, false, false, false, false, false, false, false, false] rfl rfl (by kernel_rfl) (fun _ _ _ h => h) (Or.inl ⟨by rfl, ?_⟩) ?_ ?_; rotate_left; (intro w'; go_simp; with_reducible rfl); rotate_left; (simp only [Act.put, List.setIfInBounds_toArray, List.set_cons_zero, List.set_cons_succ, i64_w, i32_w]; rfl)); (refine pure_ (i := 2) (N := some 47) (v := ?_) (a' := ?_) #[true, true, true, false, false, false, false, false, false, false, false, false, false] rfl rfl (by kernel_rfl) (fun _ _ _ h => h) (Or.inl ⟨by rfl, ?_⟩) ?_ ?_; rotate_left; (intro w'; go_simp; with_reducible rfl); rotate_left; (simp only [Act.put, List.setIfInBounds_toArray, List.set_cons_zero, List.set_cons_succ, i64_w, i32_w]; rfl)); (refine pure_ (i := 3) (N := some 48) (v := ?_) (a' := ?_) #[true, true, true, true, false, false, false, false, false, false, false, false, false] rfl rfl (by kernel_rfl) (fun _ _ _ h => h) (Or.inl ⟨by rfl, ?_⟩) ?_ ?_; rotate_left; (intro w'; go_simp; with_reducible rfl); rotate_left; (simp only [Act.put, List.setIfInBounds_toArray, List.set_cons_zero, List.set_cons_succ, i64_w, i32_w]; rfl)); (refine pure_ (i := 4) (N := some 49) (v := ?_) (a' := ?_) #[true, true, true, true, true, false, false, false, false, false, false, false, false] rfl rfl (by kernel_rfl) (fun _ _ _ h => h) (Or.inl ⟨by rfl, ?_⟩) ?_ ?_; rotate_left; (intro w'; go_simp; with_reducible rfl); rotate_left; (simp only [Act.put, List.setIfInBounds_toArray, List.set_cons_zero, List.set_cons_succ, i64_w, i32_w]; rfl))
      (refine take_ (i := 5) (N := some 50) (v := ?_) (a' := ?_) #[true, true, true, true, true, true, false, false, false, false, false, false, false] rfl rfl (by kernel_rfl) (fun _ _ _ h => h) (Or.inl ⟨by rfl, ?_⟩) hHeld ?_ ?_; rotate_left; (rintro w' ⟨s0, s1, s2⟩; go_simp; with_reducible rfl); rotate_left; (simp only [Act.put, List.setIfInBounds_toArray, List.set_cons_zero, List.set_cons_succ, i64_w, i32_w]; rfl)); (refine take_ (i := 6) (N := some 51) (v := ?_) (a' := ?_) #[true, true, true, true, true, true, true, false, false, false, false, false, false] rfl rfl (by kernel_rfl) (fun _ _ _ h => h) (Or.inl ⟨by rfl, ?_⟩) hHeld ?_ ?_; rotate_left; (rintro w' ⟨s0, s1, s2⟩; go_simp; with_reducible rfl); rotate_left; (simp only [Act.put, List.setIfInBounds_toArray, List.set_cons_zero, List.set_cons_succ, i64_w, i32_w]; rfl))
      refine one_ (i := 7) (N := some 52) #[true, true, true, true, true, true, true, true, false, false, false, false, false] rfl rfl (by kernel_rfl) (by decide) (fun K hK => ?_)
      (refine value_ (w1 := ?_) (v := ?_) (by rfl) rfl ?_ ?_; rotate_left 2; (go_simp; constructor; rfl; rfl))
      refine hK.out _ _ ⟨(blk_cell_alloc hHeld.1), (blk_cell_alloc hHeld.2.1), (blk_cell_alloc hHeld.2.2)⟩ (fun hHeld => ?_)
      (clear hK K; refine norm_ (a' := ?_) ?_ ?_; rotate_left; (show Act.put _ (some 52) _ = _; simp only [Act.put, List.setIfInBounds_toArray, List.set_cons_zero, List.set_cons_succ, i64_w, i32_w]; rfl))
      have hSW := Kd.S_step HS.out (w1 := w5) (fun k hk _ => HO5.out.2 k hk.2 hk.1)
      have HSW := Aside0.mk hSW
      clear hSW
      refine last_ (i := 8) (N := some 53) #[true, true, true, true, true, true, true, true, true, false, false, false, false] rfl rfl (by kernel_rfl) (by decide) (fun K hK => ?_)
      refine Kd.S_append_step (k82) (w0 := w5) (w1.heap.size) (by rfl) (.tmp 50) (.tmp 52) 25 82 (.agg #[(.bool false), (.slice none 0 0)]) 32 rfl Try.underlying25 info82 rfl (by decide) (by omega) (.slice AS sts.length cS) sts (⟨fin, es⟩ : S82) [.bool fin, .slice AE es.length cE] (fun k => k ≠ g) (fun k => w.heap.size ≤ k) rfl rfl ?aP ?aK ?aF ?aO ?aB ?aS ?aL ?_
      (case aP => exact k82_mkM _ _ _ (⟨fin, es⟩ : S82) (Kd.R_lower (Kd.R_mono (Kd.R_bound HE5.out) (fun k hk => hk.2.1)) HW1.out))
      (case aK => exact fun k hk => ⟨by have := HGL.out; omega, fun e => by have := ((Kd.S_R HS.out).1 k e.symm).2; omega⟩)
      (case aF => exact fun k hk => by have := HGL.out; have := HO5.out.1; omega)
      (case aO => exact Kd.S_mono HSW.out (fun k hk => ⟨hk.1, by omega⟩))
      (case aB => exact Below.refl _ _)
      (case aS => exact Nat.le_trans HW1.out HO5.out.1)
      (case aL => have := HLS.out; omega)
      intro v8 w8 hS8 _ hg8 _
      have hown : ∀ k, (Value.slice AS sts.length cS).ownBlock = some k → w1.heap.size ≤ k := Kd.R_base (Kd.S_R HSW.out)
      have hgne : some g ≠ (Value.slice AS sts.length cS).ownBlock := fun e => ((Kd.S_R HS.out).1 g e.symm).1 rfl
      have HR8 := Aside0.mk (HR5.out.grown hg8 hown hgne)
      have HF8 := Aside0.mk (show ∀ k, k < w.heap.size → k ≠ g → some k ≠ (Value.slice AS sts.length cS).ownBlock → w8.heap[k]? = w.heap[k]? from fun k hk hkg hne => (hg8.block k (Nat.lt_of_lt_of_le hk HO5.out.1) hne).trans (HO5.out.2 k hk hkg))
      have HZ8 := Aside0.mk (Nat.le_trans HO5.out.1 hg8.size)
      obtain ⟨A8, c8, e8⟩ := Kd.S_slice hS8
      subst e8
      have HS8 := Aside0.mk hS8
      refine hK.out _ _ ?_
      clear hS8 hg8 hown hgne HR5 HE5 HO5 HSW HEL
      (clear hK K; refine norm_ (a' := ?_) ?_ ?_; rotate_left; (show Act.put _ (some 53) _ = _; simp only [Act.put, List.setIfInBounds_toArray, List.set_cons_zero, List.set_cons_succ, i64_w, i32_w]; rfl))
      (refine pure_ (i := 9) (N := some 54) (v := ?_) (a' := ?_) #[true, true, true, true, true, true, true, true, true, true, false, false, false] rfl rfl (by kernel_rfl) (fun _ _ _ h => h) (Or.inl ⟨by rfl, ?_⟩) ?_ ?_; rotate_left; (intro w'; go_simp; with_reducible rfl); rotate_left; (simp only [Act.put, List.setIfInBounds_toArray, List.set_cons_zero, List.set_cons_succ, i64_w, i32_w]; rfl)); (refine pure_ (i := 10) (N := some 55) (v := ?_) (a' := ?_) #[true, true, true, true, true, true, true, true, true, true, true, false, false] rfl rfl (by kernel_rfl) (fun _ _ _ h => h) (Or.inl ⟨by rfl, ?_⟩) ?_ ?_; rotate_left; (intro w'; go_simp; with_reducible rfl); rotate_left; (simp only [Act.put, List.setIfInBounds_toArray, List.set_cons_zero, List.set_cons_succ, i64_w, i32_w]; rfl)); (refine pure_ (i := 11) (N := some 56) (v := ?_) (a' := ?_) #[true, true, true, true, true, true, true, true, true, true, true, true, false] rfl rfl (by kernel_rfl) (fun _ _ _ h => h) (Or.inl ⟨by rfl, ?_⟩) ?_ ?_; rotate_left; (intro w'; go_simp; with_reducible rfl); rotate_left; (simp only [Act.put, List.setIfInBounds_toArray, List.set_cons_zero, List.set_cons_succ, i64_w, i32_w]; rfl))
      refine last_ (i := 12) (N := none) #[true, true, true, true, true, true, true, true, true, true, true, true, true] rfl rfl (by kernel_rfl) (by decide) (fun K hK => ?_)
      obtain ⟨A9, c9, hg9, _⟩ := HR8.out
      have c2 : w8.cell? ⟨g, 2, none⟩ = some (.slice AS sts.length cS) := (blk_cell hg9 2).trans rfl
      have f2 := blk_frozen hg9 2
      have HG9 := Aside0.mk hg9
      clear hg9
      refine skip_ (w1 := ?_) (by rfl) rfl ?_ ?_
      rotate_left
      · go_simp
        rfl
      refine hK.out _ _ ?_
      clear hK K
      refine done_ (by kernel_rfl) ?_
      have hS9 := Kd.S_set HS8.out HG9.out (by decide) 2 (.slice A8 (sts.length + 1) c8)
      have hR9 := HR8.out.putS (.slice A8 (sts.length + 1) c8)
      have hF9 : ∀ k, k < w.heap.size → k ≠ g → some k ≠ (Value.slice AS sts.length cS).ownBlock → (w8.setCell ⟨g, 2, none⟩ (.slice A8 (sts.length + 1) c8)).heap[k]? = w.heap[k]? := fun k hk hkg hne => (Below.heap_setCell w8 ⟨g, 2, none⟩ (.slice A8 (sts.length + 1) c8) k hkg).trans (HF8.out k hk hkg hne)
      have hZ9 : w.heap.size ≤ (w8.setCell ⟨g, 2, none⟩ (.slice A8 (sts.length + 1) c8)).heap.size := by simpa [World.setCell] using HZ8.out
      have hlen : (sts ++ [(⟨fin, es⟩ : S82)]).length = sts.length + 1 := by rw [List.length_append]; rfl
      rw [hlen] at hS9
      have HRES := Aside0.mk (show ∃ vS', Rd w1 (w8.setCell ⟨g, 2, none⟩ (.slice A8 (sts.length + 1) c8)) g (stateR l bad sts).1 (stateR l bad sts).2.1 vS' vC vK ∧ Kd.S k82 82 (w8.setCell ⟨g, 2, none⟩ (.slice A8 (sts.length + 1) c8)) w1.heap.size (fun k => k ≠ g) vS' (stateR l bad sts).2.2 ∧ w.heap.size ≤ (w8.setCell ⟨g, 2, none⟩ (.slice A8 (sts.length + 1) c8)).heap.size ∧ ∀ k, k < w.heap.size → k ≠ g → some k ≠ (Value.slice AS sts.length cS).ownBlock → (w8.setCell ⟨g, 2, none⟩ (.slice A8 (sts.length + 1) c8)).heap[k]? = w.heap[k]? by
        rw [HY.out, ← HFIN.out]
        exact ⟨_, hR9, hS9, hZ9, hF9⟩)
      clear hS9 hR9 hF9 hZ9 hlen HR8 HS8 HG9 HF8 HZ8 c2 f2
      generalize w8.setCell ⟨g, 2, none⟩ (.slice A8 (sts.length + 1) c8) = wz at HRES ⊢
      try go_wp2
      go_end0
      exact ⟨rfl, HRES.out⟩
    | succ gg =>
      have hlt : i < m := by have := hi.out; omega
      have hcb : decide ((i : Int) < (m : Int)) = true := decide_eq_true (by omega)
      have HONE := Aside0.mk (rone_k hR.out)
      obtain ⟨⟨y, l3, b3⟩, hY⟩ : ∃ Y, oneR l2 b2 = Y := ⟨_, rfl⟩
      have hstep : stR (sts.length : Int) (gg + 1) l2 b2 es = stR (sts.length : Int) gg (numR l3 b3 (sts.length : Int)).2.1 (numR l3 b3 (sts.length : Int)).2.2 (es ++ [⟨y, (sts.length : Int) - (numR l3 b3 (sts.length : Int)).1⟩]) := by
        show stR _ gg _ _ _ = _
        rw [hY]
      have HSTEP := Aside0.mk hstep
      rw [hY] at HONE
      dsimp only at HONE
      clear hstep hY
      go_wp2_with (first | (go_at_call 79; (with_reducible refine (HONE.out).mono ?_)))
      (first | rintro x w4 rfl hR4 hO4 | rintro x w4 ⟨rfl, hR4, hO4⟩)
      have HR4 := Aside0.mk hR4
      have HH4 := Aside0.mk ((hO4.2 h (blk_lt hH.out) HHB.out.2).trans hH.out)
      have HE4 := Aside0.mk (Kd.R_step (Kd.R_mono (Kd.R_bound hE.out) (ok' := fun k => w.heap.size ≤ k ∧ k < wr.heap.size) (fun k hk => ⟨hk.2.1, hk.2.2.1⟩)) (w1 := w4) (fun k hk _ => hO4.2 k hk.2 (by have := HGL.out; have := hk.1; omega)))
      have HO4 := Aside0.mk (hO.out.trans hO4)
      have hO4sz := hO4.1
      clear hR4 hO4 HONE hR hH hE hO
      go_wp2
      refine start_ (n := 17) (S := fun w' => w'.cell? ⟨h, 1, none⟩ = some (.slice AE es.length cE)) (ds := [14, 16]) #[false, false, false, false, false, false, false, false, false, false, false, false, false, false, false, false, false] (by kernel_rfl) rfl rfl (by exact (blk_cell (blk_drew HH4.out) 1).trans rfl) (fun hHeld => ?_)
      have HR5 := Aside0.mk (HR4.out.only (below_drew (Below.refl _ _)))
      have HH5 := Aside0.mk (blk_drew HH4.out)
      have HE5 := Aside0.mk (Kd.R_drew HE4.out)
      have HO5 := Aside0.mk (HO4.out.trans (Only.below (g := g) (below_drew (Below.refl w4.heap.size w4))))
      have HWR := Aside0.mk (show wr.heap.size ≤ w4.drew.heap.size from hO4sz)
      clear HR4 HH4 HE4 HO4 hO4sz
      generalize w4.drew = w5 at HR5 HH5 HE5 HO5 HWR hHeld ⊢
      obtain ⟨q0, q1⟩ := numR_bounds l3 b3 (sts.length : Int) (by omega)
      have hls := HLS.out
      have hui : IntKind.u64.wrap (sts.length : Int) = (sts.length : Int) := by simp [IntKind.wrap, IntKind.bits, IntKind.signed]; omega
      have HNUM := Aside0.mk (rnum_k HR5.out (sts.length : Int))
      obtain ⟨⟨v, l4, b4⟩, hV⟩ : ∃ V, numR l3 b3 (sts.length : Int) = V := ⟨_, rfl⟩
      rw [hV] at HNUM HSTEP q0 q1
      dsimp only at HNUM HSTEP q0 q1
      have hwi : IntKind.i64.wrap v = v := by rw [IntKind.wrap_i64]; omega
      have hws : wrap64 ((sts.length : Int) - v) = (sts.length : Int) - v := by unfold wrap64; omega
      clear hV
      (refine pure_ (i := 0) (N := some 28) (v := ?_) (a' := ?_) #[true, false, false, false, false, false, false, false, false, false, false, false, false, false, false, false, false] rfl rfl (by kernel_rfl) (fun _ _ _ h => h) (Or.inl ⟨by rfl, ?_⟩) ?_ ?_; rotate_left; (intro w'; go_simp; with_reducible rfl); rotate_left; (simp only [Act.put, List.setIfInBounds_toArray, List.set_cons_zero, List.set_cons_succ, i64_w, i32_w]; rfl)); (refine pure_ (i := 2) (N := some 30) (v := ?_) (a' := ?_) #[true, false, true, false, false, false, false, false, false, false, false, false, false, false, false, false, false] rfl rfl (by kernel_rfl) (fun _ _ _ h => h) (Or.inl ⟨by rfl, ?_⟩) ?_ ?_; rotate_left; (intro w'; go_simp; with_reducible rfl); rotate_left; (simp only [Act.put, List.setIfInBounds_toArray, List.set_cons_zero, List.set_cons_succ, i64_w, i32_w]; rfl)); (refine pure_ (i := 3) (N := some 31) (v := ?_) (a' := ?_) #[true, false, true, true, false, false, false, false, false, false, false, false, false, false, false, false, false] rfl rfl (by kernel_rfl) (fun _ _ _ h => h) (Or.inl ⟨by rfl, ?_⟩) ?_ ?_; rotate_left; (intro w'; go_simp; with_reducible rfl); rotate_left; (simp only [Act.put, List.setIfInBounds_toArray, List.set_cons_zero, List.set_cons_succ, i64_w, i32_w]; rfl)); (refine pure_ (i := 4) (N := some 32) (v := ?_) (a' := ?_) #[true, false, true, true, true, false, false, false, false, false, false, false, false, false, false, false, false] rfl rfl (by kernel_rfl) (fun _ _ _ h => h) (Or.inl ⟨by rfl, ?_⟩) ?_ ?_; rotate_left; (intro w'; go_simp; with_reducible rfl); rotate_left; (simp only [Act.put, List.setIfInBounds_toArray, List.set_cons_zero, List.set_cons_succ, i64_w, i32_w]; rfl)); (refine pure_ (i := 5) (N := some 33) (v := ?_) (a' := ?_) #[true, false, true, true, true, true, false, false, false, false, false, false, false, false, false, false, false] rfl rfl (by kernel_rfl) (fun _ _ _ h => h) (Or.inl ⟨by rfl, ?_⟩) ?_ ?_; rotate_left; (intro w'; go_simp; with_reducible rfl); rotate_left; (simp only [Act.put, List.setIfInBounds_toArray, List.set_cons_zero, List.set_cons_succ, i64_w, i32_w]; rfl)); (refine pure_ (i := 6) (N := some 34) (v := ?_) (a' := ?_) #[true, false, true, true, true, true, true, false, false, false, false, false, false, false, false, false, false] rfl rfl (by kernel_rfl) (fun _ _ _ h => h) (Or.inl ⟨by rfl, ?_⟩) ?_ ?_; rotate_left; (intro w'; go_simp; with_reducible rfl); rotate_left; (simp only [Act.put, List.setIfInBounds_toArray, List.set_cons_zero, List.set_cons_succ, i64_w, i32_w]; rfl)); (refine pure_ (i := 7) (N := some 35) (v := ?_) (a' := ?_) #[true, false, true, true, true, true, true, true, false, false, false, false, false, false, false, false, false] rfl rfl (by kernel_rfl) (fun _ _ _ h => h) (Or.inl ⟨by rfl, ?_⟩) ?_ ?_; rotate_left; (intro w'; go_simp; with_reducible rfl); rotate_left; (simp only [Act.put, List.setIfInBounds_toArray, List.set_cons_zero, List.set_cons_succ, i64_w, i32_w]; rfl)); (refine pure_ (i := 8) (N := some 36) (v := ?_) (a' := ?_) #[true, false, true, true, true, true, true, true, true, false, false, false, false, false, false, false, false] rfl rfl (by kernel_rfl) (fun _ _ _ h => h) (Or.inl ⟨by rfl, ?_⟩) ?_ ?_; rotate_left; (intro w'; go_simp; with_reducible rfl); rotate_left; (simp only [Act.put, List.setIfInBounds_toArray, List.set_cons_zero, List.set_cons_succ, i64_w, i32_w]; rfl))
      (refine take_ (i := 1) (N := some 29) (v := ?_) (a' := ?_) #[true, true, true, true, true, true, true, true, true, false, false, false, false, false, false, false, false] rfl rfl (by kernel_rfl) (fun _ _ _ h => h) (Or.inl ⟨by rfl, ?_⟩) hHeld ?_ ?_; rotate_left; (rintro w' s0; go_simp; with_reducible rfl); rotate_left; (simp only [Act.put, List.setIfInBounds_toArray, List.set_cons_zero, List.set_cons_succ, i64_w, i32_w]; rfl))
      refine one_ (i := 9) (N := some 37) #[true, true, true, true, true, true, true, true, true, true, false, false, false, false, false, false, false] rfl rfl (by kernel_rfl) (by decide) (fun K hK => ?_)
      (refine goes_ Try.func50 (by kernel_rfl) rfl #[.pointer (some ⟨g, 0, none⟩), .int .u64 (sts.length : Int)] (by rfl) rfl rfl (by first | rfl | (simp only [List.map_toArray, List.map_cons, List.map_nil]; rfl)) ?_; with_reducible refine (HNUM.out).mono ?_)
      rintro x w6 ⟨rfl, hR6, hO6⟩
      refine ⟨_, rfl, ?_⟩
      have HR6 := Aside0.mk hR6
      have HH6 := Aside0.mk ((hO6.2 h (blk_lt HH5.out) HHB.out.2).trans HH5.out)
      have HE6 := Aside0.mk (Kd.R_step (Kd.R_mono (Kd.R_bound HE5.out) (ok' := fun k => w.heap.size ≤ k ∧ k < w5.heap.size) (fun k hk => ⟨hk.2.1, hk.2.2.1⟩)) (w1 := w6) (fun k hk _ => hO6.2 k hk.2 (by have := HGL.out; have := hk.1; omega)))
      have HO6 := Aside0.mk (HO5.out.trans hO6)
      refine hK.out _ _ ((blk_cell HH6.out 1).trans rfl) (fun hHeld => ?_)
      clear hR6 hO6 HR5 HH5 HE5 HO5 HNUM
      (clear hK K; refine norm_ (a' := ?_) ?_ ?_; rotate_left; (show Act.put _ (some 37) _ = _; simp only [Act.put, List.setIfInBounds_toArray, List.set_cons_zero, List.set_cons_succ, i64_w, i32_w]; rfl))
      (refine pure_ (i := 10) (N := some 38) (v := ?_) (a' := ?_) #[true, true, true, true, true, true, true, true, true, true, true, false, false, false, false, false, false] rfl rfl (by kernel_rfl) (fun _ _ _ h => h) (Or.inl ⟨by rfl, ?_⟩) ?_ ?_; rotate_left; (intro w'; go_simp; with_reducible rfl); rotate_left; (simp only [Act.put, List.setIfInBounds_toArray, List.set_cons_zero, List.set_cons_succ, i64_w, i32_w]; rfl)); (refine pure_ (i := 11) (N := some 39) (v := ?_) (a' := ?_) #[true, true, true, true, true, true, true, true, true, true, true, true, false, false, false, false, false] rfl rfl (by kernel_rfl) (fun _ _ _ h => h) (Or.inl ⟨by rfl, ?_⟩) ?_ ?_; rotate_left; (intro w'; go_simp; with_reducible rfl); rotate_left; (simp only [Act.put, List.setIfInBounds_toArray, List.set_cons_zero, List.set_cons_succ, i64_w, i32_w]; rfl)); (refine pure_ (i := 12) (N := some 40) (v := ?_) (a' := ?_) #[true, true, true, true, true, true, true, true, true, true, true, true, true, false, false, false, false] rfl rfl (by kernel_rfl) (fun _ _ _ h => h) (Or.inl ⟨by rfl, ?_⟩) ?_ ?_; rotate_left; (intro w'; go_simp; with_reducible rfl); rotate_left; (simp only [Act.put, List.setIfInBounds_toArray, List.set_cons_zero, List.set_cons_succ, i64_w, i32_w]; rfl))
      refine one_ (i := 13) (N := some 41) #[true, true, true, true, true, true, true, true, true, true, true, true, true, true, false, false, false] rfl rfl (by kernel_rfl) (by decide) (fun K hK => ?_)
      (refine value_ (w1 := ?_) (v := ?_) (by rfl) rfl ?_ ?_; rotate_left 2; (go_simp; constructor; rfl; rfl))
      have hba : Below w6.heap.size w6 (w6.alloc (.cells #[.int .u8 y, .int .i64 ((sts.length : Int) - v)] 84 (0, 0))) := below_alloc (Below.refl _ _) _
      refine hK.out _ _ ((blk_cell (blk_alloc HH6.out _) 1).trans rfl) (fun hHeld => ?_)
      clear hba
      (clear hK K; refine norm_ (a' := ?_) ?_ ?_; rotate_left; (show Act.put _ (some 41) _ = _; simp only [Act.put, List.setIfInBounds_toArray, List.set_cons_zero, List.set_cons_succ, i64_w, i32_w]; rfl))
      refine last_ (i := 14) (N := some 42) #[true, true, true, true, true, true, true, true, true, true, true, true, true, true, true, false, false] rfl rfl (by kernel_rfl) (by decide) (fun K hK => ?_)
      refine Kd.R_append_step (k84) (w0 := w6) (w.heap.size) (by rfl) (.tmp 29) (.tmp 41) 80 84 (.agg #[(.int .u8 0), (.int .i64 0)]) 16 rfl Try.underlying80 info84 rfl (by decide) (by omega) (.slice AE es.length cE) es (⟨y, (sts.length : Int) - v⟩ : S84) [.int .u8 y, .int .i64 ((sts.length : Int) - v)] (fun _ => True) (fun _ => False) rfl rfl ?aP ?aK ?aF ?aO ?aB ?aS ?aL ?_
      (case aP => exact k84_mkM _ _ _ _)
      (case aK => exact fun _ hk => hk.elim)
      (case aF => exact fun _ _ => trivial)
      (case aO => exact Kd.R_mono HE6.out (fun _ _ => trivial))
      (case aB => exact Below.refl _ _)
      (case aS => exact HO6.out.1)
      (case aL => have := hes.out; have := hi.out; omega)
      intro v8 w8 hE8 _ hg8 _
      have hown : ∀ k, (Value.slice AE es.length cE).ownBlock = some k → w.heap.size ≤ k := Kd.R_base HE6.out
      have hgne : some g ≠ (Value.slice AE es.length cE).ownBlock := fun e => by have := hown g e.symm; have := HGL.out; omega
      have HR8 := Aside0.mk (HR6.out.grown hg8 (fun k hk => Nat.le_trans HW1.out (hown k hk)) hgne)
      have HH8 := Aside0.mk ((hg8.block h (blk_lt HH6.out) (Kd.R_ne HE6.out HH6.out (by decide))).trans HH6.out)
      have HO8 := Aside0.mk (HO6.out.grown hg8 hown)
      obtain ⟨A8, c8, e8⟩ := Kd.R_slice hE8
      subst e8
      have HE8 := Aside0.mk hE8
      refine hK.out _ _ ?_
      clear hE8 hg8 hown hgne HR6 HH6 HE6 HO6
      (clear hK K; refine norm_ (a' := ?_) ?_ ?_; rotate_left; (show Act.put _ (some 42) _ = _; simp only [Act.put, List.setIfInBounds_toArray, List.set_cons_zero, List.set_cons_succ, i64_w, i32_w]; rfl))
      (refine pure_ (i := 15) (N := some 43) (v := ?_) (a' := ?_) #[true, true, true, true, true, true, true, true, true, true, true, true, true, true, true, true, false] rfl rfl (by kernel_rfl) (fun _ _ _ h => h) (Or.inl ⟨by rfl, ?_⟩) ?_ ?_; rotate_left; (intro w'; go_simp; with_reducible rfl); rotate_left; (simp only [Act.put, List.setIfInBounds_toArray, List.set_cons_zero, List.set_cons_succ, i64_w, i32_w]; rfl))
      refine last_ (i := 16) (N := none) #[true, true, true, true, true, true, true, true, true, true, true, true, true, true, true, true, true] rfl rfl (by kernel_rfl) (by decide) (fun K hK => ?_)
      have d1 : w8.cell? ⟨h, 1, none⟩ = some (.slice AE es.length cE) := (blk_cell HH8.out 1).trans rfl
      have f1 := blk_frozen HH8.out 1
      refine skip_ (w1 := ?_) (by rfl) rfl ?_ ?_
      rotate_left
      · go_simp
        rfl
      refine hK.out _ _ ?_
      clear hK K
      refine done_ (by kernel_rfl) ?_
      have hR9 := HR8.out.set (i := 1) (h := h) (Nat.le_trans HW1.out HHB.out.1) (Ne.symm HHB.out.2) (.slice A8 (es.length + 1) c8)
      have hH9 := blk_put HH8.out 1 (.slice A8 (es.length + 1) c8) rfl
      have hE9 := Kd.R_far (p := ⟨h, 1, none⟩) (Kd.R_types HE8.out HH8.out (by decide)) (fun _ hk => hk.2) (.slice A8 (es.length + 1) c8)
      have hO9 := HO8.out.fresh (i := 1) HHB.out.1 (.slice A8 (es.length + 1) c8)
      have HR9 := Aside0.mk hR9; have HH9 := Aside0.mk hH9; have HE9 := Aside0.mk (Kd.R_mono hE9 (fun _ _ => trivial)); have HO9 := Aside0.mk hO9
      clear hR9 hH9 hE9 hO9 HR8 HH8 HE8 HO8 d1 f1
      generalize w8.setCell ⟨h, 1, none⟩ (.slice A8 (es.length + 1) c8) = w9 at HR9 HH9 HE9 HO9 ⊢
      have hlen : (es ++ [(⟨y, (sts.length : Int) - v⟩ : S84)]).length = es.length + 1 := by rw [List.length_append]; rfl
      have HLEN := Aside0.mk hlen
      clear hlen
      go_wp2
      go_roundg gg
      case measure => omega
      case rel => exact ⟨i + 1, l4, b4, es ++ [⟨y, (sts.length : Int) - v⟩], _, congrArg (Value.int .u64) (by omega), ⟨by have := hi.out; omega⟩, HR9, HH9, ⟨by have := HE9.out; rw [HLEN.out] at this; exact this⟩, ⟨by rw [HLEN.out]; have := hes.out; omega⟩, HO9, ⟨by rw [hA.out, HSTEP.out]⟩⟩
end Go.Proofs.Ytgebhidpkcjpmaa.K

namespace Go.Proofs.Ytgebhidpkcjpmaa.K
open Go.RowKit Go.Proofs.YtgebhidpkcjpmaaW.PrintWords Go.Proofs.YtgebhidpkcjpmaaW.PrintLast Go.Proofs.YtgebhidpkcjpmaaW.PrintMore Go.Proofs.Ytgebhidpkcjpmaa
attribute [local go_sem] max2_int min2_int max_two min_two max_three min_three max_four min_four
set_option linter.unusedVariables false
set_option linter.unusedSimpArgs false
open Go Go.Proofs.Ytgebhidpkcjpmaa.PDk
def cntR (l : List Int) (cs : List Int) : List Int × Bool × List Int := ((numR l false 4611686018427387904).2.1, (numR l false 4611686018427387904).2.2, cs ++ [(numR l false 4611686018427387904).1])
theorem Rd.putC {w1 w : World} {g : Nat} {l : List Int} {b : Bool} {vS vC vK : Value} (hR : Rd w1 w g l b vS vC vK) (v : Value) : Rd w1 (w.setCell ⟨g, 3, none⟩ v) g l b vS v vK := by
  obtain ⟨A, c, h1, h2, h3, h4, h5, h6⟩ := hR
  exact ⟨A, c, blk_put h1 3 v rfl, h2, h3, h4, h5, h6.setCell (p := ⟨g, 3, none⟩) h5 v⟩
set_option maxHeartbeats 8000000 in
set_option maxRecDepth 100000 in
theorem count1_k {w1 w : World} {g gr base : Nat} {l : List Int} {vS vC vK : Value} {cs : List Int} (h : Rd w1 w g l false vS vC vK) (hgr : w.heap[gr]? = some (.cells #[.pointer (some ⟨g, 0, none⟩)] 90 (0, 0))) (hC : Kd.R (Kd.int .u64) 47 w base (fun _ => True) vC cs) (hb1 : w1.heap.size ≤ base) (hbg : g < base) (hbw : base ≤ w.heap.size) (hl : cs.length < 1000000000) :
    Calls Try.prog 49 #[.pointer (some ⟨gr, 0, none⟩)] w fun e w' => e = .returned (.tuple #[]) ∧ ∃ vC', Rd w1 w' g (cntR l cs).1 (cntR l cs).2.1 vS vC' vK ∧ Kd.R (Kd.int .u64) 47 w' base (fun _ => True) vC' (cntR l cs).2.2 ∧ w.heap.size ≤ w'.heap.size ∧ ∀ k, k < w.heap.size → k ≠ g → some k ≠ vC.ownBlock → w'.heap[k]? = w.heap[k]? := by
  obtain ⟨AC, cC, eC⟩ := Kd.R_slice hC
  subst eC
  have HR := Aside0.mk h; have HGR := Aside0.mk hgr; have HC := Aside0.mk hC; have HL := Aside0.mk hl; have HB1 := Aside0.mk hb1; have HBG := Aside0.mk hbg; have HBW := Aside0.mk hbw
  have hne : gr ≠ g := by
    rintro rfl
    obtain ⟨A, c, h1, _⟩ := h
    rw [h1] at hgr; injection hgr with hgr; injection hgr with _ hgr; exact absurd hgr (by decide)
  have HNE := Aside0.mk hne
  clear h hgr hC hl hb1 hbg hbw hne
  have huR := Try.underlying92
  have huT := Try.underlying94
  have huD := Try.underlying29
  go_enter Try.func49, Try.ntmps49
  go_wp2
  refine start_ (n := 16) (S := fun w' => w'.cell? ⟨gr, 0, none⟩ = some (.pointer (some ⟨g, 0, none⟩)) ∧ w'.cell? ⟨g, 3, none⟩ = some (.slice AC cs.length cC)) (ds := [15]) #[false, false, false, false, false, false, false, false, false, false, false, false, false, false, false, false] (by kernel_rfl) rfl rfl (by obtain ⟨A, c, h1, _⟩ := HR.out; exact ⟨(blk_cell (blk_drew HGR.out) 0).trans rfl, (blk_cell (blk_drew h1) 3).trans rfl⟩) (fun hHeld => ?_)
  have HR2 := Aside0.mk (HR.out.only (below_drew (Below.refl _ _)))
  have HGR2 := Aside0.mk (blk_drew HGR.out)
  have HC2 := Aside0.mk (Kd.R_drew HC.out)
  have HO2 := Aside0.mk (Only.below (g := g) (below_drew (Below.refl w.heap.size w)))
  clear HR HGR HC
  generalize w.drew = w2 at HR2 HGR2 HC2 HO2 hHeld ⊢
  (refine take_ (i := 0) (N := some 1) (v := ?_) (a' := ?_) #[true, false, false, false, false, false, false, false, false, false, false, false, false, false, false, false] rfl rfl (by kernel_rfl) (fun _ _ _ h => h) (Or.inl ⟨by rfl, ?_⟩) hHeld ?_ ?_; rotate_left; (rintro w' ⟨s0, s1⟩; go_simp; with_reducible rfl); rotate_left; (simp only [Act.put, List.setIfInBounds_toArray, List.set_cons_zero, List.set_cons_succ, i64_w, i32_w]; rfl)); (refine take_ (i := 1) (N := some 2) (v := ?_) (a' := ?_) #[true, true, false, false, false, false, false, false, false, false, false, false, false, false, false, false] rfl rfl (by kernel_rfl) (fun _ _ _ h => h) (Or.inl ⟨by rfl, ?_⟩) hHeld ?_ ?_; rotate_left; (rintro w' ⟨s0, s1⟩; go_simp; with_reducible rfl); rotate_left; (simp only [Act.put, List.setIfInBounds_toArray, List.set_cons_zero, List.set_cons_succ, i64_w, i32_w]; rfl))
  (refine pure_ (i := 2) (N := some 3) (v := ?_) (a' := ?_) #[true, true, true, false, false, false, false, false, false, false, false, false, false, false, false, false] rfl rfl (by kernel_rfl) (fun _ _ _ h => h) (Or.inl ⟨by rfl, ?_⟩) ?_ ?_; rotate_left; (intro w'; go_simp; with_reducible rfl); rotate_left; (simp only [Act.put, List.setIfInBounds_toArray, List.set_cons_zero, List.set_cons_succ, i64_w, i32_w]; rfl)); (refine pure_ (i := 3) (N := some 4) (v := ?_) (a' := ?_) #[true, true, true, true, false, false, false, false, false, false, false, false, false, false, false, false] rfl rfl (by kernel_rfl) (fun _ _ _ h => h) (Or.inl ⟨by rfl, ?_⟩) ?_ ?_; rotate_left; (intro w'; go_simp; with_reducible rfl); rotate_left; (simp only [Act.put, List.setIfInBounds_toArray, List.set_cons_zero, List.set_cons_succ, i64_w, i32_w]; rfl)); (refine pure_ (i := 4) (N := some 5) (v := ?_) (a' := ?_) #[true, true, true, true, true, false, false, false, false, false, false, false, false, false, false, false] rfl rfl (by kernel_rfl) (fun _ _ _ h => h) (Or.inl ⟨by rfl, ?_⟩) ?_ ?_; rotate_left; (intro w'; go_simp; with_reducible rfl); rotate_left; (simp only [Act.put, List.setIfInBounds_toArray, List.set_cons_zero, List.set_cons_succ, i64_w, i32_w]; rfl))
  (refine take_ (i := 5) (N := some 6) (v := ?_) (a' := ?_) #[true, true, true, true, true, true, false, false, false, false, false, false, false, false, false, false] rfl rfl (by kernel_rfl) (fun _ _ _ h => h) (Or.inl ⟨by rfl, ?_⟩) hHeld ?_ ?_; rotate_left; (rintro w' ⟨s0, s1⟩; go_simp; with_reducible rfl); rotate_left; (simp only [Act.put, List.setIfInBounds_toArray, List.set_cons_zero, List.set_cons_succ, i64_w, i32_w]; rfl)); (refine take_ (i := 6) (N := some 7) (v := ?_) (a' := ?_) #[true, true, true, true, true, true, true, false, false, false, false, false, false, false, false, false] rfl rfl (by kernel_rfl) (fun _ _ _ h => h) (Or.inl ⟨by rfl, ?_⟩) hHeld ?_ ?_; rotate_left; (rintro w' ⟨s0, s1⟩; go_simp; with_reducible rfl); rotate_left; (simp only [Act.put, List.setIfInBounds_toArray, List.set_cons_zero, List.set_cons_succ, i64_w, i32_w]; rfl))
  (refine pure_ (i := 7) (N := some 8) (v := ?_) (a' := ?_) #[true, true, true, true, true, true, true, true, false, false, false, false, false, false, false, false] rfl rfl (by kernel_rfl) (fun _ _ _ h => h) (Or.inl ⟨by rfl, ?_⟩) ?_ ?_; rotate_left; (intro w'; go_simp; with_reducible rfl); rotate_left; (simp only [Act.put, List.setIfInBounds_toArray, List.set_cons_zero, List.set_cons_succ, i64_w, i32_w]; rfl)); (refine pure_ (i := 8) (N := some 9) (v := ?_) (a' := ?_) #[true, true, true, true, true, true, true, true, true, false, false, false, false, false, false, false] rfl rfl (by kernel_rfl) (fun _ _ _ h => h) (Or.inl ⟨by rfl, ?_⟩) ?_ ?_; rotate_left; (intro w'; go_simp; with_reducible rfl); rotate_left; (simp only [Act.put, List.setIfInBounds_toArray, List.set_cons_zero, List.set_cons_succ, i64_w, i32_w]; rfl))
  have HNUM := Aside0.mk (rnum_k HR2.out 4611686018427387904)
  obtain ⟨⟨n, l1, b1⟩, hN⟩ : ∃ R, numR l false 4611686018427387904 = R := ⟨_, rfl⟩
  have HY := Aside0.mk (show cntR l cs = (l1, b1, cs ++ [n]) by unfold cntR; rw [hN])
  rw [hN] at HNUM
  dsimp only at HNUM
  clear hN
  refine one_ (i := 9) (N := some 10) #[true, true, true, true, true, true, true, true, true, true, false, false, false, false, false, false] rfl rfl (by kernel_rfl) (by decide) (fun K hK => ?_)
  (refine goes_ Try.func50 (by kernel_rfl) rfl #[.pointer (some ⟨g, 0, none⟩), .int .u64 4611686018427387904] (by rfl) rfl rfl (by first | rfl | (simp only [List.map_toArray, List.map_cons, List.map_nil]; rfl)) ?_; with_reducible refine (HNUM.out).mono ?_)
  rintro x w3 ⟨rfl, hR3, hO3⟩
  refine ⟨_, rfl, ?_⟩
  have HR3 := Aside0.mk hR3
  have HGR3 := Aside0.mk ((hO3.2 gr (blk_lt HGR2.out) HNE.out).trans HGR2.out)
  have HC3 := Aside0.mk (Kd.R_step (Kd.R_mono (Kd.R_bound HC2.out) (ok' := fun k => base ≤ k ∧ k < w2.heap.size) (fun k hk => ⟨hk.2.1, hk.2.2.1⟩)) (w1 := w3) (fun k hk _ => hO3.2 k hk.2 (by have := HBG.out; have := hk.1; omega)))
  have HO3 := Aside0.mk (HO2.out.trans hO3)
  refine hK.out _ _ (by obtain ⟨A, c, h1, _⟩ := HR3.out; exact ⟨(blk_cell HGR3.out 0).trans rfl, (blk_cell h1 3).trans rfl⟩) (fun hHeld => ?_)
  clear hR3 hO3 HR2 HGR2 HC2 HO2 HNUM
  (clear hK K; refine norm_ (a' := ?_) ?_ ?_; rotate_left; (show Act.put _ (some 10) _ = _; simp only [Act.put, List.setIfInBounds_toArray, List.set_cons_zero, List.set_cons_succ, i64_w, i32_w]; rfl))
  refine one_ (i := 10) (N := some 11) #[true, true, true, true, true, true, true, true, true, true, true, false, false, false, false, false] rfl rfl (by kernel_rfl) (by decide) (fun K hK => ?_)
  (refine value_ (w1 := ?_) (v := ?_) (by rfl) rfl ?_ ?_; rotate_left 2; (go_simp; constructor; rfl; rfl))
  refine hK.out _ _ ⟨blk_cell_alloc hHeld.1, blk_cell_alloc hHeld.2⟩ (fun hHeld => ?_)
  (clear hK K; refine norm_ (a' := ?_) ?_ ?_; rotate_left; (show Act.put _ (some 11) _ = _; simp only [Act.put, List.setIfInBounds_toArray, List.set_cons_zero, List.set_cons_succ, i64_w, i32_w]; rfl))
  refine one_ (i := 11) (N := some 12) #[true, true, true, true, true, true, true, true, true, true, true, true, false, false, false, false] rfl rfl (by kernel_rfl) (by decide) (fun K hK => ?_)
  refine Kd.R_append_step (Kd.int .u64) (w0 := w3) (base) (by rfl) (.tmp 6) (.tmp 11) 26 47 (.int .u64 0) 8 rfl Try.underlying26 info47 rfl (by decide) (by omega) (.slice AC cs.length cC) cs n [.int .u64 n] (fun _ => True) (fun _ => False) rfl rfl ?aP ?aK ?aF ?aO ?aB ?aS ?aL ?_
  (case aP => exact rfl)
  (case aK => exact fun _ hk => hk.elim)
  (case aF => exact fun _ _ => trivial)
  (case aO => exact Kd.R_mono HC3.out (fun _ _ => trivial))
  (case aB => exact Below.refl _ _)
  (case aS => exact Nat.le_trans HBW.out HO3.out.1)
  (case aL => have := HL.out; omega)
  intro v8 w8 hE8 _ hg8 _
  have hown : ∀ k, (Value.slice AC cs.length cC).ownBlock = some k → base ≤ k := Kd.R_base HC3.out
  have hgne : some g ≠ (Value.slice AC cs.length cC).ownBlock := fun e => by have := hown g e.symm; have := HBG.out; omega
  have HR8 := Aside0.mk (HR3.out.grown hg8 (fun k hk => Nat.le_trans HB1.out (hown k hk)) hgne)
  have HF8 := Aside0.mk (show ∀ k, k < w.heap.size → k ≠ g → some k ≠ (Value.slice AC cs.length cC).ownBlock → w8.heap[k]? = w.heap[k]? from fun k hk hkg hne => (hg8.block k (Nat.lt_of_lt_of_le hk HO3.out.1) hne).trans (HO3.out.2 k hk hkg))
  have HZ8 := Aside0.mk (Nat.le_trans HO3.out.1 hg8.size)
  obtain ⟨A8, c8, e8⟩ := Kd.R_slice hE8
  subst e8
  have HE8 := Aside0.mk hE8
  have hGR8 := (hg8.block gr (blk_lt HGR3.out) (Kd.R_ne HC3.out HGR3.out (by decide))).trans HGR3.out
  refine hK.out _ _ (by obtain ⟨A, c, h1, _⟩ := HR8.out; exact ⟨(blk_cell hGR8 0).trans rfl, (blk_cell h1 3).trans rfl⟩) (fun hHeld => ?_)
  clear hE8 hg8 hown hgne HR3 HGR3 HC3 HO3 hGR8
  (clear hK K; refine norm_ (a' := ?_) ?_ ?_; rotate_left; (show Act.put _ (some 12) _ = _; simp only [Act.put, List.setIfInBounds_toArray, List.set_cons_zero, List.set_cons_succ, i64_w, i32_w]; rfl))
  (refine pure_ (i := 12) (N := some 13) (v := ?_) (a' := ?_) #[true, true, true, true, true, true, true, true, true, true, true, true, true, false, false, false] rfl rfl (by kernel_rfl) (fun _ _ _ h => h) (Or.inl ⟨by rfl, ?_⟩) ?_ ?_; rotate_left; (intro w'; go_simp; with_reducible rfl); rotate_left; (simp only [Act.put, List.setIfInBounds_toArray, List.set_cons_zero, List.set_cons_succ, i64_w, i32_w]; rfl)); (refine pure_ (i := 13) (N := some 14) (v := ?_) (a' := ?_) #[true, true, true, true, true, true, true, true, true, true, true, true, true, true, false, false] rfl rfl (by kernel_rfl) (fun _ _ _ h => h) (Or.inl ⟨by rfl, ?_⟩) ?_ ?_; rotate_left; (intro w'; go_simp; with_reducible rfl); rotate_left; (simp only [Act.put, List.setIfInBounds_toArray, List.set_cons_zero, List.set_cons_succ, i64_w, i32_w]; rfl)); (refine pure_ (i := 14) (N := some 15) (v := ?_) (a' := ?_) #[true, true, true, true, true, true, true, true, true, true, true, true, true, true, true, false] rfl rfl (by kernel_rfl) (fun _ _ _ h => h) (Or.inl ⟨by rfl, ?_⟩) ?_ ?_; rotate_left; (intro w'; go_simp; with_reducible rfl); rotate_left; (simp only [Act.put, List.setIfInBounds_toArray, List.set_cons_zero, List.set_cons_succ, i64_w, i32_w]; rfl))
  refine last_ (i := 15) (N := none) #[true, true, true, true, true, true, true, true, true, true, true, true, true, true, true, true] rfl rfl (by kernel_rfl) (by decide) (fun K hK => ?_)
  obtain ⟨A9, c9, hg9, _⟩ := HR8.out
  have c3 : w8.cell? ⟨g, 3, none⟩ = some (.slice AC cs.length cC) := (blk_cell hg9 3).trans rfl
  have f3 := blk_frozen hg9 3
  have HG9 := Aside0.mk hg9
  clear hg9
  refine skip_ (w1 := ?_) (by rfl) rfl ?_ ?_
  rotate_left
  · go_simp
    rfl
  refine hK.out _ _ ?_
  clear hK K
  refine done_ (by kernel_rfl) ?_
  have hlen : (cs ++ [n]).length = cs.length + 1 := by rw [List.length_append]; rfl
  have hE9 := Kd.R_set HE8.out HG9.out (by decide) 3 (.slice A8 (cs.length + 1) c8)
  rw [hlen] at hE9
  have hR9 := HR8.out.putC (.slice A8 (cs.length + 1) c8)
  have hF9 : ∀ k, k < w.heap.size → k ≠ g → some k ≠ (Value.slice AC cs.length cC).ownBlock → (w8.setCell ⟨g, 3, none⟩ (.slice A8 (cs.length + 1) c8)).heap[k]? = w.heap[k]? := fun k hk hkg hne => (Below.heap_setCell w8 ⟨g, 3, none⟩ (.slice A8 (cs.length + 1) c8) k hkg).trans (HF8.out k hk hkg hne)
  have hZ9 : w.heap.size ≤ (w8.setCell ⟨g, 3, none⟩ (.slice A8 (cs.length + 1) c8)).heap.size := by simpa [World.setCell] using HZ8.out
  have HRES := Aside0.mk (show ∃ vC', Rd w1 (w8.setCell ⟨g, 3, none⟩ (.slice A8 (cs.length + 1) c8)) g (cntR l cs).1 (cntR l cs).2.1 vS vC' vK ∧ Kd.R (Kd.int .u64) 47 (w8.setCell ⟨g, 3, none⟩ (.slice A8 (cs.length + 1) c8)) base (fun _ => True) vC' (cntR l cs).2.2 ∧ w.heap.size ≤ (w8.setCell ⟨g, 3, none⟩ (.slice A8 (cs.length + 1) c8)).heap.size ∧ ∀ k, k < w.heap.size → k ≠ g → some k ≠ (Value.slice AC cs.length cC).ownBlock → (w8.setCell ⟨g, 3, none⟩ (.slice A8 (cs.length + 1) c8)).heap[k]? = w.heap[k]? by
    rw [HY.out]
    exact ⟨_, hR9, hE9, hZ9, hF9⟩)
  clear hE9 hR9 hF9 hZ9 hlen HR8 HE8 HG9 HF8 HZ8 c3 f3
  generalize w8.setCell ⟨g, 3, none⟩ (.slice A8 (cs.length + 1) c8) = wz at HRES ⊢
  try go_wp2
  go_end0
  exact ⟨rfl, HRES.out⟩
end Go.Proofs.Ytgebhidpkcjpmaa.K

