/- DictNobody. (The texts that the proof is made of, one behind the other: part 17 of 18.) -/
import Derived.Laws.EntriesVeiled
import Derived.Laws.ResultCell
import Derived.Test.YtgebhidpkcjpmaaProg
import Derived.Below
import Derived.Deep.Draws
import Derived.Deep.AppendLies
import Derived.Maps.AppendAt
import Derived.OwnWalk
import Derived.Laws.BytesArg
import Derived.Laws.MakeOwn
import Derived.Laws.OwnMore
import Derived.Deep.OwnRows
import Derived.Tactics
import Derived.Lib.ConvBytes
import Derived.Laws.Slices
import Derived.WalkKit
import Derived.KernelRfl
import Derived.RowKit3
import Derived.Deep.LoopGhost
import Derived.Deep.QuietTactic
import Derived.BigQuiet
import Derived.WideLaws
import Derived.Deep.DeepCutAuto
import Derived.Deep.CutBlock
import Derived.Deep.RegionHeld3
import Derived.Laws.Rows
import Derived.Lib.AppendStr
import Derived.ArgAppend
import Derived.Laws.IdiomCopy
import Derived.OrdersHeld
import Derived.Laws.BitsLemmas
import Derived.RowKit
import Derived.Lib.OthersKept
import Derived.WalkSmall
import Derived.Deep.RegionLaw
import Derived.BigRegion
import Derived.Test.YtgebhidpkcjpmaaZDictNobodya
import Derived.Test.YtgebhidpkcjpmaaZDictNobodyb
import Derived.Test.YtgebhidpkcjpmaaZDictNobodyc
import Derived.Test.YtgebhidpkcjpmaaZDictNobodyd
import Derived.Test.YtgebhidpkcjpmaaZDictNobodye
import Derived.Test.YtgebhidpkcjpmaaZDictNobodyf
import Derived.Test.YtgebhidpkcjpmaaZDictNobodyg
import Derived.Test.YtgebhidpkcjpmaaZDictNobodyh
import Derived.Test.YtgebhidpkcjpmaaZDictNobodyi
import Derived.Test.YtgebhidpkcjpmaaZDictNobodyj
import Derived.Test.YtgebhidpkcjpmaaZDictNobodyk
import Derived.Test.YtgebhidpkcjpmaaZDictNobodyl
import Derived.Test.YtgebhidpkcjpmaaZDictNobodym
import Derived.Test.YtgebhidpkcjpmaaZDictNobodyn
import Derived.Test.YtgebhidpkcjpmaaZDictNobodyo
import Derived.Test.YtgebhidpkcjpmaaZDictNobodyp
namespace Go.Proofs.Ytgebhidpkcjpmaa.K
open Go.RowKit Go.Proofs.YtgebhidpkcjpmaaW.PrintWords Go.Proofs.YtgebhidpkcjpmaaW.PrintLast Go.Proofs.YtgebhidpkcjpmaaW.PrintMore Go.Proofs.Ytgebhidpkcjpmaa
attribute [local go_sem] max2_int min2_int max_two min_two max_three min_three max_four min_four
set_option linter.unusedVariables false
set_option linter.unusedSimpArgs false
open Go Go.Proofs.Ytgebhidpkcjpmaa.PDk Go.Proofs.Ytgebhidpkcjpmaa.PFl Go.Proofs.Ytgebhidpkcjpmaa.PFg Go.Proofs.Ytgebhidpkcjpmaa.PEn
def stStep (l : List Int) (sts : List S82) : List Int × Bool × List S82 := stateR l false sts
/-- What the records tell: the states, the counts, the classes; whether they are bad. -/
def partsR (L : List (List Int)) : List S82 × List Int × List Int × Bool :=
  let a := allR stStep (rd_L1 L 1) false []
  let c := allR cntR (rd_L1 L 2) a.2.1 []
  (a.2.2, c.2.2, rd_L1 L 3, c.2.1)
def decOk (L : List (List Int)) : Bool := byt (rd_L1 L 1) && byt (rd_L1 L 2) && byt (rd_L1 L 3) && decide ((rd_L1 L 1).length < 1000000000) && decide ((rd_L1 L 2).length < 1000000000) && decide ((rd_L1 L 3).length < 1000000000)
def file_Decode.f (k : Nat) (l0 : List Int) : Option (List S82 × List Int × List Int × Int) :=
  (frame_Scan.f k l0).bind fun s => (if s.1.length = 4 then (if decOk s.1 = true then (if (partsR s.1).2.2.2 = true then (some ([], [], [], 2)) else ((file_Encode.f k (partsR s.1).1 (partsR s.1).2.1 (partsR s.1).2.2.1).bind fun t => (if t.2 = 0 then (if ((strOfNums t.1).toList == (strOfNums l0).toList) = true then (some ((partsR s.1).1, (partsR s.1).2.1, (partsR s.1).2.2.1, 0)) else (some ([], [], [], 2))) else (some ([], [], [], 2))))) else none) else (some ([], [], [], 2)))
theorem Rd.putL {w1 w : World} {g : Nat} {l : List Int} {b : Bool} {vS vC vK : Value} (hR : Rd w1 w g l b vS vC vK) {A : Option Addr} {l2 : List Int} {c : Nat} (hC : Kd.C (Kd.int .u8) w1 A l2.length l2) (hc : l2.length ≤ c) (hb : byt l2 = true) : Rd w1 (w.setCell ⟨g, 0, none⟩ (.slice A l2.length c)) g l2 b vS vC vK := by
  obtain ⟨A1, c1, h1, h2, h3, h4, h5, h6⟩ := hR
  exact ⟨A, c, blk_put h1 0 _ rfl, hC, hc, hb, h5, h6.setCell (p := ⟨g, 0, none⟩) h5 _⟩
theorem Rd.putK {w1 w : World} {g : Nat} {l : List Int} {b : Bool} {vS vC vK : Value} (hR : Rd w1 w g l b vS vC vK) (v : Value) : Rd w1 (w.setCell ⟨g, 4, none⟩ v) g l b vS vC v := by
  obtain ⟨A, c, h1, h2, h3, h4, h5, h6⟩ := hR
  exact ⟨A, c, blk_put h1 4 v rfl, h2, h3, h4, h5, h6.setCell (p := ⟨g, 4, none⟩) h5 v⟩
theorem put3 {W : World} {r : Nat} {a b c x y z : Value} {T : TypeId} (hg : W.heap[r]? = some (.cells #[a, b, c] T (0, 0))) : (((W.setCell ⟨r, 0, none⟩ x).setCell ⟨r, 1, none⟩ y).setCell ⟨r, 2, none⟩ z).heap[r]? = some (.cells #[x, y, z] T (0, 0)) := blk_put (blk_put (blk_put hg 0 x rfl) 1 y rfl) 2 z rfl
theorem below3 {B r : Nat} {w W : World} (h : Below B w W) (hr : B ≤ r) (x y z : Value) : Below B w (((W.setCell ⟨r, 0, none⟩ x).setCell ⟨r, 1, none⟩ y).setCell ⟨r, 2, none⟩ z) := ((h.setCell (p := ⟨r, 0, none⟩) hr x).setCell (p := ⟨r, 1, none⟩) hr y).setCell (p := ⟨r, 2, none⟩) hr z
/-- What holds while states are read. -/
def XS (B g gr i : Nat) (W : World) (vS vC vK : Value) (sts : List S82) : Prop :=
  Kd.S k82 82 W B (fun k => k ≠ g) vS sts ∧ sts.length ≤ i ∧ vC = .slice none 0 0 ∧ vK = .slice none 0 0 ∧ W.heap[gr]? = some (.cells #[.pointer (some ⟨g, 0, none⟩)] 90 (0, 0)) ∧ B ≤ W.heap.size ∧ gr ≠ g
theorem states_all {w1 w : World} {g gr : Nat} {l : List Int} {bad : Bool} {vS vC vK : Value} (h : Rd w1 w g l bad vS vC vK) (hX : XS w1.heap.size g gr 0 w vS vC vK []) (hl : l.length < 1000000000) :
    Calls Try.prog 47 #[.pointer (some ⟨g, 0, none⟩), .func (.func 48) #[.pointer (some ⟨g, 0, none⟩)] #[]] w fun e w' => e = .returned (.tuple #[]) ∧ ∃ vS' vC' vK' i, Rd w1 w' g (allR stStep l bad []).1 (allR stStep l bad []).2.1 vS' vC' vK' ∧ XS w1.heap.size g gr i w' vS' vC' vK' (allR stStep l bad []).2.2 ∧ i ≤ l.length := by
  refine (rall_k stStep (XS w1.heap.size g gr) 48 _ #[] (enters_of Try.func48 (by kernel_rfl) rfl) ?_ ?_ ?_ h hX (by omega) (Nat.le_refl _)).mono ?_
  · rintro i W W' vS vC vK a ⟨h1, h2, h3, h4, h5, h6, h7⟩ hO
    exact ⟨Kd.S_step h1 (fun k hk hlt => hO.2 k hlt hk), h2, h3, h4, (hO.2 gr (blk_lt h5) h7).trans h5, Nat.le_trans h6 hO.1, h7⟩
  · rintro i W vS vC vK a ⟨h1, h2, h3⟩
    exact ⟨h1, by omega, h3⟩
  · rintro i W l vS vC vK a hi hR ⟨h1, h2, h3, h4, h5, h6, h7⟩
    have e : (#[.pointer (some ⟨g, 0, none⟩)] ++ #[] : Array Value) = #[.pointer (some ⟨g, 0, none⟩)] := by simp
    rw [e]
    refine (rstate_k hR h1 (by omega)).mono ?_
    rintro e w' ⟨rfl, vS', k1, k2, k3, k4⟩
    refine ⟨rfl, vS', vC, vK, k1, k2, ?_, h3, h4, ?_, Nat.le_trans h6 k3, h7⟩
    · show (stateR l false a).2.2.length ≤ _
      unfold stateR
      simp only [List.length_append, List.length_cons, List.length_nil]
      omega
    · exact (k4 gr (blk_lt h5) h7 (Kd.S_ne h1 h5 (by decide))).trans h5
  · rintro e w' ⟨rfl, vS', vC', vK', i, k1, k2, k3⟩
    exact ⟨rfl, vS', vC', vK', i, k1, k2, k3⟩
/-- What holds while counts are read. -/
def XC (wA : World) (g gr i : Nat) (vS0 : Value) (W : World) (vS vC vK : Value) (cs : List Int) : Prop :=
  Kd.R (Kd.int .u64) 47 W wA.heap.size (fun _ => True) vC cs ∧ cs.length ≤ i ∧ vS = vS0 ∧ vK = .slice none 0 0 ∧ W.heap[gr]? = some (.cells #[.pointer (some ⟨g, 0, none⟩)] 90 (0, 0)) ∧ Only g wA W ∧ gr ≠ g ∧ gr < wA.heap.size
theorem counts_all {w1 w wA : World} {g gr : Nat} {l : List Int} {bad : Bool} {vS0 vS vC vK : Value} (h : Rd w1 w g l bad vS vC vK) (hX : XC wA g gr 0 vS0 w vS vC vK []) (hl : l.length < 1000000000) (hg : g < wA.heap.size) (h1A : w1.heap.size ≤ wA.heap.size) :
    Calls Try.prog 47 #[.pointer (some ⟨g, 0, none⟩), .func (.func 49) #[] #[.pointer (some ⟨gr, 0, none⟩)]] w fun e w' => e = .returned (.tuple #[]) ∧ ∃ vS' vC' vK' i, Rd w1 w' g (allR cntR l bad []).1 (allR cntR l bad []).2.1 vS' vC' vK' ∧ XC wA g gr i vS0 w' vS' vC' vK' (allR cntR l bad []).2.2 ∧ i ≤ l.length := by
  refine (rall_k cntR (fun i W vS vC vK cs => XC wA g gr i vS0 W vS vC vK cs) 49 #[] _ (enters_of Try.func49 (by kernel_rfl) rfl) ?_ ?_ ?_ h hX (by omega) (Nat.le_refl _)).mono ?_
  · rintro i W W' vS vC vK a ⟨h1, h2, h3, h4, h5, h6, h7, h8⟩ hO
    refine ⟨Kd.R_mono (Kd.R_step (Kd.R_mono (Kd.R_bound h1) (ok' := fun k => wA.heap.size ≤ k) (fun k hk => hk.2.1)) (fun k hk hlt => hO.2 k hlt (by omega))) (fun _ _ => trivial), h2, h3, h4, (hO.2 gr (blk_lt h5) h7).trans h5, h6.trans hO, h7, h8⟩
  · rintro i W vS vC vK a ⟨h1, h2, h3⟩
    exact ⟨h1, by omega, h3⟩
  · rintro i W l vS vC vK a hi hR ⟨h1, h2, h3, h4, h5, h6, h7, h8⟩
    have e : (#[] ++ #[.pointer (some ⟨gr, 0, none⟩)] : Array Value) = #[.pointer (some ⟨gr, 0, none⟩)] := by simp
    rw [e]
    refine (count1_k hR h5 h1 h1A hg h6.1 (by omega)).mono ?_
    rintro e w' ⟨rfl, vC', k1, k2, k3, k4⟩
    have hown := Kd.R_base h1
    refine ⟨rfl, vS, vC', vK, k1, k2, ?_, h3, h4, (k4 gr (blk_lt h5) h7 (Kd.R_ne h1 h5 (by decide))).trans h5, ⟨Nat.le_trans h6.1 k3, fun k hk hkg => (k4 k (Nat.lt_of_lt_of_le hk h6.1) hkg (fun e => by have := hown k e.symm; omega)).trans (h6.2 k hk hkg)⟩, h7, h8⟩
    show (a ++ [_]).length ≤ _
    rw [List.length_append]
    simp only [List.length_cons, List.length_nil]
    omega
  · rintro e w' ⟨rfl, vS', vC', vK', i, k1, k2, k3⟩
    exact ⟨rfl, vS', vC', vK', i, k1, k2, k3⟩
set_option maxHeartbeats 8000000 in
set_option maxRecDepth 100000 in
theorem decode_k (k : Nat) (A0 : Option Addr) (c0 : Nat) (l0 : List Int) (r1 : List S82) (r2 r3 : List Int) (r4 : Int) (w : World) (hr0 : Kd.C (Kd.int .u8) w A0 l0.length l0) (hc0 : l0.length ≤ c0) (h : file_Decode.f k l0 = some (r1, r2, r3, r4)) :
    Calls Try.prog 24 #[.slice A0 l0.length c0] w fun e w' => ∃ v0_ v1_ v2_ : Value, e = .returned (.tuple #[.agg #[v0_, v1_, v2_], .int .i64 r4]) ∧ Kd.S k82 82 w' w.heap.size (fun _ => True) v0_ r1 ∧ Kd.R (Kd.int .u64) 47 w' w.heap.size (fun _ => True) v1_ r2 ∧ Kd.R (Kd.int .i64) 3 w' w.heap.size (fun _ => True) v2_ r3 ∧ Below w.heap.size w w' := by
  unfold file_Decode.f at h
  obtain ⟨⟨L, to_⟩, hs, h⟩ := Option.bind_eq_some_iff.mp h
  dsimp only at h
  obtain ⟨w0, hw0⟩ : ∃ w0, w0 = w.alloc (.cells #[.slice none 0 0, .slice none 0 0, .slice none 0 0] 29 (0, 0)) := ⟨_, rfl⟩
  have hb0 : Below w.heap.size w w0 := by rw [hw0]; exact below_alloc (Below.refl _ _) _
  have hg0 : w0.heap[w.heap.size]? = some (.cells #[.slice none 0 0, .slice none 0 0, .slice none 0 0] 29 (0, 0)) := by rw [hw0]; exact heap_alloc_new w _
  have HSC := Aside0.mk (frame_Scan.calls k A0 c0 l0 L to_ w0 (Kd.C_below hr0 hb0) hc0 hs)
  have HW0 := Aside0.mk hw0; have HB0 := Aside0.mk hb0; have HG0 := Aside0.mk hg0; have HR0 := Aside0.mk hr0; have HC0 := Aside0.mk hc0
  have huR := Try.underlying92
  have huT := Try.underlying94
  have huD := Try.underlying29
  clear hw0 hb0 hg0 hr0 hc0 hs
  go_enter Try.func24, Try.ntmps24
  go_wp2_with (first | (go_at_call 46; rw [← HW0.out]; (with_reducible refine (HSC.out).mono ?_)))
  (first | rintro x w2 v rfl hL hb2 | rintro x w2 ⟨v, rfl, hL, hb2⟩)
  obtain ⟨AL, cL, eL⟩ := Kd.S_slice hL
  subst eL
  have HL2 := Aside0.mk hL
  have HB2 := Aside0.mk (HB0.out.trans (hb2.mono HB0.out.size))
  have hg2 := (hb2.block w.heap.size (blk_lt HG0.out)).trans HG0.out
  have HG2 := Aside0.mk hg2
  have HB02 := Aside0.mk hb2
  clear hL hb2 HSC
  obtain ⟨r0, hr0⟩ : ∃ r, r = w.heap.size := ⟨_, rfl⟩
  have HRW := Aside0.mk (show w.heap.size ≤ r0 by omega)
  rw [← hr0] at hg2 HG2 HG0 ⊢
  clear hr0
  have e0 := (blk_cell hg2 0).trans (show _ = some (.slice none 0 0) from rfl)
  have e1 := (blk_cell hg2 1).trans (show _ = some (.slice none 0 0) from rfl)
  have e2 := (blk_cell hg2 2).trans (show _ = some (.slice none 0 0) from rfl)
  have f0 := blk_frozen hg2 0
  have f1 := blk_frozen hg2 1
  have f2 := blk_frozen hg2 2
  clear hg2
  by_cases h4 : L.length = 4
  · rw [if_pos h4] at h
    have hd4 : ((L.length : Int) == 4) = true := by rw [h4]; rfl
    have hok : decOk L = true := by
      by_cases hk : decOk L = true
      · exact hk
      · rw [if_neg hk] at h; cases h
    rw [if_pos hok] at h
    have HH := Aside0.mk h
    have hokc := hok
    unfold decOk at hokc
    simp only [Bool.and_eq_true, decide_eq_true_eq] at hokc
    obtain ⟨⟨⟨⟨⟨hy1, hy2⟩, hy3⟩, hz1⟩, hz2⟩, hz3⟩ := hokc
    have HY1 := Aside0.mk hy1; have HY2 := Aside0.mk hy2; have HY3 := Aside0.mk hy3; have HZ1 := Aside0.mk hz1; have HZ2 := Aside0.mk hz2; have HZ3 := Aside0.mk hz3
    obtain ⟨gL, capL, evL, _, _, _⟩ := Kd.S_form HL2.out (by omega)
    injection evL with evL1 _ evL2
    subst evL1 evL2
    have hCL := (Kd.S_reads' HL2.out).2.2
    have hl1 : (1 : Int) < (L.length : Int) := by omega
    obtain ⟨adL, B1, d1, eL, a1, k1, hC1⟩ := at_L1 hCL 1 (by omega) hl1
    cases eL
    obtain ⟨_, B2, d2, eL, a2, k2, hC2⟩ := at_L1 hCL 2 (by omega) (by omega)
    cases eL
    obtain ⟨_, B3, d3, eL, a3, k3, hC3⟩ := at_L1 hCL 3 (by omega) (by omega)
    cases eL
    simp only [add_plain] at a1 a2 a3
    change w2.cell? ⟨gL, 0 + 1, none⟩ = _ at a1
    change w2.cell? ⟨gL, 0 + 2, none⟩ = _ at a2
    change w2.cell? ⟨gL, 0 + 3, none⟩ = _ at a3
    simp only [Nat.zero_add] at a1 a2 a3
    have HC1 := Aside0.mk hC1; have HC2 := Aside0.mk hC2; have HC3 := Aside0.mk hC3; have HK1 := Aside0.mk k1; have HK2 := Aside0.mk k2; have HK3 := Aside0.mk k3; have HA2 := Aside0.mk a2; have HA3 := Aside0.mk a3
    clear h hok hy1 hy2 hy3 hz1 hz2 hz3 hCL hC1 hC2 hC3 k1 k2 k3 a2 a3
    obtain ⟨w3, hw3⟩ : ∃ w3, w3 = (w2.alloc (.cells #[.slice B1 (rd_L1 L 1).length d1, .bool false, .slice none 0 0, .slice none 0 0, .slice none 0 0] 94 (0, 0))).alloc (.cells #[.pointer (some ⟨w2.heap.size, 0, none⟩)] 90 (0, 0)) := ⟨_, rfl⟩
    have hb3 : Below w2.heap.size w2 w3 := by rw [hw3]; exact ((Below.refl w2.heap.size w2).alloc (Nat.le_refl _) _).alloc (Nat.le_of_lt (by show w2.heap.size < (w2.heap.push _).size; simp)) _
    have hg3 : w3.heap[w2.heap.size]? = some (.cells #[.slice B1 (rd_L1 L 1).length d1, .bool false, .slice none 0 0, .slice none 0 0, .slice none 0 0] 94 (0, 0)) := by rw [hw3]; exact heap_alloc2_old w2 _ _
    have hgr3 : w3.heap[w2.heap.size + 1]? = some (.cells #[.pointer (some ⟨w2.heap.size, 0, none⟩)] 90 (0, 0)) := by rw [hw3]; exact heap_alloc2_new w2 _ _
    have hR3 : Rd w2 w3 w2.heap.size (rd_L1 L 1) false (.slice none 0 0) (.slice none 0 0) (.slice none 0 0) := ⟨B1, d1, hg3, HC1.out, HK1.out, HY1.out, Nat.le_refl _, hb3⟩
    have HALL := Aside0.mk (states_all (gr := w2.heap.size + 1) hR3 ⟨Kd.S_nil _ _ _ _ _, Nat.le_refl _, rfl, rfl, hgr3, hb3.size, by omega⟩ HZ1.out)
    have HW3 := Aside0.mk hw3
    clear hb3 hg3 hgr3 hR3 hw3
    go_wp2_with (first | (go_at_call 47; rw [← HW3.out]; (with_reducible refine (HALL.out).mono ?_)))
    (first | rintro x w4 vS vC vK i1 rfl hR4 hX4 hi4 | rintro x w4 ⟨rfl, vS, vC, vK, i1, hR4, hX4, hi4⟩)
    obtain ⟨⟨la, ba, sts⟩, hA⟩ : ∃ R, allR stStep (rd_L1 L 1) false [] = R := ⟨_, rfl⟩
    rw [hA] at hR4 hX4
    dsimp only at hR4 hX4
    obtain ⟨x1, x2, rfl, rfl, x5, x6, x7⟩ := hX4
    have HHA := Aside0.mk hA; have HR4 := Aside0.mk hR4; have HS4 := Aside0.mk x1; have HGR4 := Aside0.mk x5; have HSZ4 := Aside0.mk x6
    have HSL := Aside0.mk (show sts.length < 1000000000 by have := HZ1.out; omega)
    have HB4 := Aside0.mk (show Below w2.heap.size w2 w4 by obtain ⟨_, _, _, _, _, _, _, hb⟩ := hR4; exact hb)
    have HGN := Aside0.mk x7
    clear hA hR4 x1 x5 x6 x2 hi4 HALL HW3 x7
    obtain ⟨g, hgd⟩ : ∃ g, g = w2.heap.size := ⟨_, rfl⟩
    have HG2g := Aside0.mk (show w2.heap.size ≤ g by omega)
    have HRG := Aside0.mk (show r0 < g by have := blk_lt HG2.out; omega)
    rw [← hgd] at HR4 HS4 HGR4 HGN ⊢
    have HS4 := Aside0.mk (show Kd.S k82 82 w4 w2.heap.size (fun k => k ≠ g) vS sts by rw [hgd]; rw [hgd] at HS4; exact HS4.out)
    clear hgd
    obtain ⟨gr, hgrd⟩ : ∃ gr, gr = g + 1 := ⟨_, rfl⟩
    rw [← hgrd] at HGR4 HGN ⊢
    have HGR0 := Aside0.mk (show r0 < gr by have := HRG.out; omega)
    clear hgrd
    obtain ⟨AS, cS, eS⟩ := Kd.S_slice HS4.out
    subst eS
    go_wp2
    refine start_ (n := 8) (S := fun w' => w'.cell? ⟨gr, 0, none⟩ = some (.pointer (some ⟨g, 0, none⟩)) ∧ w'.cell? ⟨gL, 2, none⟩ = some (.slice B2 (rd_L1 L 2).length d2)) (ds := [7]) #[false, false, false, false, false, false, false, false] (by kernel_rfl) rfl rfl (by exact ⟨(blk_cell (blk_drew HGR4.out) 0).trans rfl, ((below_drew HB4.out).cell (World.block_lt_of_cell? _ _ HA2.out)).trans HA2.out⟩) (fun hHeld => ?_)
    have HR5 := Aside0.mk (HR4.out.only (below_drew (Below.refl _ _)))
    have HS5 := Aside0.mk (Kd.S_drew HS4.out)
    have HGR5 := Aside0.mk (blk_drew HGR4.out)
    clear HR4 HS4 HGR4 HB4 HSZ4
    generalize w4.drew = w5 at HR5 HS5 HGR5 hHeld ⊢
    (refine take_ (i := 0) (N := some 30) (v := ?_) (a' := ?_) #[true, false, false, false, false, false, false, false] rfl rfl (by kernel_rfl) (fun _ _ _ h => h) (Or.inl ⟨by rfl, ?_⟩) hHeld ?_ ?_; rotate_left; (rintro w' ⟨s0, s1⟩; go_simp; with_reducible rfl); rotate_left; (simp only [Act.put, List.setIfInBounds_toArray, List.set_cons_zero, List.set_cons_succ, i64_w, i32_w]; rfl))
    (refine pure_ (i := 1) (N := some 31) (v := ?_) (a' := ?_) #[true, true, false, false, false, false, false, false] rfl rfl (by kernel_rfl) (fun _ _ _ h => h) (Or.inl ⟨by rfl, ?_⟩) ?_ ?_; rotate_left; (intro w'; go_simp; with_reducible rfl); rotate_left; (simp only [Act.put, List.setIfInBounds_toArray, List.set_cons_zero, List.set_cons_succ, i64_w, i32_w]; rfl)); (refine pure_ (i := 2) (N := some 32) (v := ?_) (a' := ?_) #[true, true, true, false, false, false, false, false] rfl rfl (by kernel_rfl) (fun _ _ _ h => h) (Or.inl ⟨by rfl, ?_⟩) ?_ ?_; rotate_left; (intro w'; go_simp; with_reducible rfl); rotate_left; (simp only [Act.put, List.setIfInBounds_toArray, List.set_cons_zero, List.set_cons_succ, i64_w, i32_w]; rfl))
    (refine take_ (i := 3) (N := some 33) (v := ?_) (a' := ?_) #[true, true, true, true, false, false, false, false] rfl rfl (by kernel_rfl) (fun _ _ _ h => h) (Or.inl ⟨by rfl, ?_⟩) hHeld ?_ ?_; rotate_left; (rintro w' ⟨s0, s1⟩; go_simp; with_reducible rfl); rotate_left; (simp only [Act.put, List.setIfInBounds_toArray, List.set_cons_zero, List.set_cons_succ, i64_w, i32_w]; rfl))
    (refine pure_ (i := 4) (N := some 34) (v := ?_) (a' := ?_) #[true, true, true, true, true, false, false, false] rfl rfl (by kernel_rfl) (fun _ _ _ h => h) (Or.inl ⟨by rfl, ?_⟩) ?_ ?_; rotate_left; (intro w'; go_simp; with_reducible rfl); rotate_left; (simp only [Act.put, List.setIfInBounds_toArray, List.set_cons_zero, List.set_cons_succ, i64_w, i32_w]; rfl)); (refine pure_ (i := 5) (N := some 35) (v := ?_) (a' := ?_) #[true, true, true, true, true, true, false, false] rfl rfl (by kernel_rfl) (fun _ _ _ h => h) (Or.inl ⟨by rfl, ?_⟩) ?_ ?_; rotate_left; (intro w'; go_simp; with_reducible rfl); rotate_left; (simp only [Act.put, List.setIfInBounds_toArray, List.set_cons_zero, List.set_cons_succ, i64_w, i32_w]; rfl)); (refine pure_ (i := 6) (N := some 36) (v := ?_) (a' := ?_) #[true, true, true, true, true, true, true, false] rfl rfl (by kernel_rfl) (fun _ _ _ h => h) (Or.inl ⟨by rfl, ?_⟩) ?_ ?_; rotate_left; (intro w'; go_simp; with_reducible rfl); rotate_left; (simp only [Act.put, List.setIfInBounds_toArray, List.set_cons_zero, List.set_cons_succ, i64_w, i32_w]; rfl))
    refine last_ (i := 7) (N := none) #[true, true, true, true, true, true, true, true] rfl rfl (by kernel_rfl) (by decide) (fun K hK => ?_)
    obtain ⟨A5, cc5, hg5, _⟩ := HR5.out
    have y0 : w5.cell? ⟨g, 0, none⟩ = some (.slice A5 la.length cc5) := (blk_cell hg5 0).trans rfl
    have z0 := blk_frozen hg5 0
    have HG5 := Aside0.mk hg5
    clear hg5
    refine skip_ (w1 := ?_) (by rfl) rfl ?_ ?_
    rotate_left
    · go_simp
      rfl
    refine hK.out _ _ ?_
    clear hK K
    refine done_ (by kernel_rfl) ?_
    have HR6 := Aside0.mk (HR5.out.putL HC2.out HK2.out HY2.out)
    have HS6 := Aside0.mk (Kd.S_set HS5.out HG5.out (by decide) 0 (.slice B2 (rd_L1 L 2).length d2))
    have HGR6 := Aside0.mk ((Below.heap_setCell w5 ⟨g, 0, none⟩ (.slice B2 (rd_L1 L 2).length d2) gr HGN.out).trans HGR5.out)
    clear HR5 HS5 HGR5 HG5 y0 z0 HC2 HK2 HY2 HA2
    generalize w5.setCell ⟨g, 0, none⟩ (.slice B2 (rd_L1 L 2).length d2) = w6 at HR6 HS6 HGR6 ⊢
    have HGL6 := Aside0.mk (show g < w6.heap.size by obtain ⟨_, _, h1, _⟩ := HR6.out; exact blk_lt h1)
    have HALL2 := Aside0.mk (counts_all (gr := gr) (wA := w6) HR6.out ⟨Kd.R_nil _ _ _ _ _, Nat.le_refl _, rfl, rfl, HGR6.out, Only.refl _ _, HGN.out, blk_lt HGR6.out⟩ HZ2.out HGL6.out (by obtain ⟨_, _, _, _, _, _, _, hb⟩ := HR6.out; exact hb.size))
    have y0 : w6.cell? ⟨gr, 0, none⟩ = some (.pointer (some ⟨g, 0, none⟩)) := (blk_cell HGR6.out 0).trans rfl
    go_wp2_with (first | (go_at_call 47; (with_reducible refine (HALL2.out).mono ?_)))
    (first | rintro x w7 vS7 vC7 vK7 i7 rfl hR7 hX7 hi7 | rintro x w7 ⟨rfl, vS7, vC7, vK7, i7, hR7, hX7, hi7⟩)
    obtain ⟨⟨lc, bc, cs⟩, hCn⟩ : ∃ R, allR cntR (rd_L1 L 2) ba [] = R := ⟨_, rfl⟩
    rw [hCn] at hR7 hX7
    dsimp only at hR7 hX7
    obtain ⟨x1, x2, rfl, rfl, x5, x6, _, _⟩ := hX7
    have HP := Aside0.mk (show partsR L = (sts, cs, rd_L1 L 3, bc) by unfold partsR; dsimp only; rw [HHA.out]; dsimp only; rw [hCn])
    have HR7 := Aside0.mk hR7; have HGR7 := Aside0.mk x5
    have HS7 := Aside0.mk (Kd.S_step HS6.out (fun k hk hlt => x6.2 k hlt hk))
    have HC7 := Aside0.mk (Kd.R_lower x1 (show w2.heap.size ≤ w6.heap.size by obtain ⟨_, _, _, _, _, _, _, hb⟩ := HR6.out; exact hb.size))
    have HC7 := Aside0.mk (Kd.R_mono (Kd.R_bound HC7.out) (ok' := fun k => k ≠ g ∧ w2.heap.size ≤ k) (fun k hk => ⟨by
      rintro rfl
      obtain ⟨_, _, _, q, hq, cells, hcc⟩ := hk
      obtain ⟨_, _, h1, _⟩ := HR7.out
      rw [h1] at hcc; injection hcc with hcc; injection hcc with _ hcc; subst hcc; exact absurd hq (by decide), hk.2.1⟩))
    have HCSL := Aside0.mk (show cs.length < 1000000000 by have := HZ2.out; omega)
    clear hCn hR7 x1 x2 x5 x6 hi7 HALL2 y0 HR6 HS6 HGR6 HHA
    obtain ⟨AC, cC, eC⟩ := Kd.R_slice HC7.out
    subst eC
    have HB7 := Aside0.mk (show Below w2.heap.size w2 w7 by obtain ⟨_, _, _, _, _, _, _, hb⟩ := HR7.out; exact hb)
    have a3 := (HB7.out.cell (World.block_lt_of_cell? _ _ HA3.out)).trans HA3.out
    clear HA3
    go_wp2
    obtain ⟨ks, hks⟩ : ∃ ks, ks = rd_L1 L 3 := ⟨_, rfl⟩
    rw [← hks] at HC3 HZ3 HK3 HP HY3 ⊢
    clear hks a3
    have hkl := HZ3.out
    have HGL7 := Aside0.mk (show g < w7.heap.size ∧ gr < w7.heap.size by obtain ⟨_, _, h1, _⟩ := HR7.out; exact ⟨blk_lt h1, blk_lt HGR7.out⟩)
    go_loopg [44] ks.length (fun gg v44 wr => ∃ (i : Nat) (vK : Value), v44 = .int .i64 i ∧ Aside0 (i + gg = ks.length) ∧ Aside0 (Rd w2 wr g lc bc (.slice AS sts.length cS) (.slice AC cs.length cC) vK) ∧ Aside0 (Kd.R (Kd.int .i64) 3 wr w7.heap.size (fun _ => True) vK (ks.take i)) ∧ Aside0 (Only g w7 wr))
    case atStart => exact ⟨0, _, rfl, ⟨by omega⟩, HR7, ⟨Kd.R_nil _ _ _ _ _⟩, ⟨Only.refl _ _⟩⟩
    case round =>
      obtain ⟨i, vK, rfl, hi, hR, hK, hO⟩ := hrel
      obtain ⟨AK, cK, eK⟩ := Kd.R_slice hK.out
      subst eK
      have hBr : Below w2.heap.size w2 wr := by obtain ⟨_, _, _, _, _, _, _, hb⟩ := hR.out; exact hb
      have HBR := Aside0.mk hBr
      have HGRr := Aside0.mk ((hO.out.2 gr HGL7.out.2 HGN.out).trans HGR7.out)
      by_cases hlt : i < ks.length
      · have hcb : decide ((i : Int) < (ks.length : Int)) = true := decide_eq_true (by omega)
        have q0 : (0 : Int) ≤ (i : Int) := by omega
        have q1 : (i : Int) < (ks.length : Int) := by omega
        obtain ⟨ad, ea, a0⟩ := Kd.at_int (Kd.C_below HC3.out hBr) (i : Int) q0 q1
        cases ea
        obtain ⟨b0, b1⟩ := byt_rd HY3.out i hlt
        have HTK := Aside0.mk (show ks.take (i + 1) = ks.take i ++ [rd ks (i : Int)] by rw [List.take_succ_eq_append_getElem hlt, rd_nat, List.getD_eq_getElem?_getD, List.getElem?_eq_getElem hlt]; rfl)
        generalize rd ks (i : Int) = x at a0 b0 b1 HTK
        rw [Int.toNat_natCast] at a0
        have hxw : Go.RowKit.wrap64 x = x := by unfold Go.RowKit.wrap64; omega
        have HTL := Aside0.mk (show (ks.take i).length = i by rw [List.length_take]; omega)
        generalize hkt : ks.take i = kt at hK HTK HTL hR HGRr hBr HBR
        clear hkt
        have HKr := hK
        have HOr := hO
        have HRr := hR
        have HXW := Aside0.mk hxw
        have HLT := Aside0.mk hlt
        have HIG := Aside0.mk (show i < 1000000000 by have := hkl; omega)
        clear hK hO hR hBr hxw
        go_wp2
        refine start_ (n := 14) (S := fun w' => w'.cell? ⟨gr, 0, none⟩ = some (.pointer (some ⟨g, 0, none⟩)) ∧ w'.cell? ⟨g, 4, none⟩ = some (.slice AK kt.length cK)) (ds := [13]) #[false, false, false, false, false, false, false, false, false, false, false, false, false, false] (by kernel_rfl) rfl rfl (by obtain ⟨A, c, h1, _⟩ := HRr.out; exact ⟨(blk_cell (blk_drew HGRr.out) 0).trans rfl, (blk_cell (blk_drew h1) 4).trans rfl⟩) (fun hHeld => ?_)
        have HR8 := Aside0.mk (HRr.out.only (below_drew (Below.refl _ _)))
        have HGR8 := Aside0.mk (blk_drew HGRr.out)
        have HK8 := Aside0.mk (Kd.R_drew HKr.out)
        have HO8 := Aside0.mk (HOr.out.trans (Only.below (g := g) (below_drew (Below.refl wr.heap.size wr))))
        clear HRr HGRr HKr HOr HBR
        generalize wr.drew = w8 at HR8 HGR8 HK8 HO8 hHeld ⊢
        (refine take_ (i := 0) (N := some 48) (v := ?_) (a' := ?_) #[true, false, false, false, false, false, false, false, false, false, false, false, false, false] rfl rfl (by kernel_rfl) (fun _ _ _ h => h) (Or.inl ⟨by rfl, ?_⟩) hHeld ?_ ?_; rotate_left; (rintro w' ⟨s0, s1⟩; go_simp; with_reducible rfl); rotate_left; (simp only [Act.put, List.setIfInBounds_toArray, List.set_cons_zero, List.set_cons_succ, i64_w, i32_w]; rfl)); (refine take_ (i := 1) (N := some 49) (v := ?_) (a' := ?_) #[true, true, false, false, false, false, false, false, false, false, false, false, false, false] rfl rfl (by kernel_rfl) (fun _ _ _ h => h) (Or.inl ⟨by rfl, ?_⟩) hHeld ?_ ?_; rotate_left; (rintro w' ⟨s0, s1⟩; go_simp; with_reducible rfl); rotate_left; (simp only [Act.put, List.setIfInBounds_toArray, List.set_cons_zero, List.set_cons_succ, i64_w, i32_w]; rfl))
        (refine pure_ (i := 2) (N := some 50) (v := ?_) (a' := ?_) #[true, true, true, false, false, false, false, false, false, false, false, false, false, false] rfl rfl (by kernel_rfl) (fun _ _ _ h => h) (Or.inl ⟨by rfl, ?_⟩) ?_ ?_; rotate_left; (intro w'; go_simp; with_reducible rfl); rotate_left; (simp only [Act.put, List.setIfInBounds_toArray, List.set_cons_zero, List.set_cons_succ, i64_w, i32_w]; rfl)); (refine pure_ (i := 3) (N := some 51) (v := ?_) (a' := ?_) #[true, true, true, true, false, false, false, false, false, false, false, false, false, false] rfl rfl (by kernel_rfl) (fun _ _ _ h => h) (Or.inl ⟨by rfl, ?_⟩) ?_ ?_; rotate_left; (intro w'; go_simp; with_reducible rfl); rotate_left; (simp only [Act.put, List.setIfInBounds_toArray, List.set_cons_zero, List.set_cons_succ, i64_w, i32_w]; rfl)); (refine pure_ (i := 4) (N := some 52) (v := ?_) (a' := ?_) #[true, true, true, true, true, false, false, false, false, false, false, false, false, false] rfl rfl (by kernel_rfl) (fun _ _ _ h => h) (Or.inl ⟨by rfl, ?_⟩) ?_ ?_; rotate_left; (intro w'; go_simp; with_reducible rfl); rotate_left; (simp only [Act.put, List.setIfInBounds_toArray, List.set_cons_zero, List.set_cons_succ, i64_w, i32_w]; rfl))
        (refine take_ (i := 5) (N := some 53) (v := ?_) (a' := ?_) #[true, true, true, true, true, true, false, false, false, false, false, false, false, false] rfl rfl (by kernel_rfl) (fun _ _ _ h => h) (Or.inl ⟨by rfl, ?_⟩) hHeld ?_ ?_; rotate_left; (rintro w' ⟨s0, s1⟩; go_simp; with_reducible rfl); rotate_left; (simp only [Act.put, List.setIfInBounds_toArray, List.set_cons_zero, List.set_cons_succ, i64_w, i32_w]; rfl))
        (refine pure_ (i := 6) (N := some 54) (v := ?_) (a' := ?_) #[true, true, true, true, true, true, true, false, false, false, false, false, false, false] rfl rfl (by kernel_rfl) (fun _ _ _ h => h) (Or.inl ⟨by rfl, ?_⟩) ?_ ?_; rotate_left; (intro w'; go_simp; with_reducible rfl); rotate_left; (simp only [Act.put, List.setIfInBounds_toArray, List.set_cons_zero, List.set_cons_succ, i64_w, i32_w]; rfl)); (refine pure_ (i := 7) (N := some 55) (v := ?_) (a' := ?_) #[true, true, true, true, true, true, true, true, false, false, false, false, false, false] rfl rfl (by kernel_rfl) (fun _ _ _ h => h) (Or.inl ⟨by rfl, ?_⟩) ?_ ?_; rotate_left; (intro w'; go_simp; with_reducible rfl); rotate_left; (simp only [Act.put, List.setIfInBounds_toArray, List.set_cons_zero, List.set_cons_succ, i64_w, i32_w]; rfl))
        rw [HXW.out]
        refine one_ (i := 8) (N := some 56) #[true, true, true, true, true, true, true, true, true, false, false, false, false, false] rfl rfl (by kernel_rfl) (by decide) (fun K hK => ?_)
        (refine value_ (w1 := ?_) (v := ?_) (by rfl) rfl ?_ ?_; rotate_left 2; (go_simp; constructor; rfl; rfl))
        refine hK.out _ _ ⟨blk_cell_alloc hHeld.1, blk_cell_alloc hHeld.2⟩ (fun hHeld => ?_)
        (clear hK K; refine norm_ (a' := ?_) ?_ ?_; rotate_left; (show Act.put _ (some 56) _ = _; simp only [Act.put, List.setIfInBounds_toArray, List.set_cons_zero, List.set_cons_succ, i64_w, i32_w]; rfl))
        refine one_ (i := 9) (N := some 57) #[true, true, true, true, true, true, true, true, true, true, false, false, false, false] rfl rfl (by kernel_rfl) (by decide) (fun K hK => ?_)
        refine Kd.R_append_step (Kd.int .i64) (w0 := w8) (w7.heap.size) (by rfl) (.tmp 53) (.tmp 56) 27 3 (.int .i64 0) 8 rfl Try.underlying27 info3 rfl (by decide) (by omega) (.slice AK kt.length cK) kt x [.int .i64 x] (fun _ => True) (fun _ => False) rfl rfl ?aP ?aK ?aF ?aO ?aB ?aS ?aL ?_
        (case aP => exact rfl)
        (case aK => exact fun _ hk => hk.elim)
        (case aF => exact fun _ _ => trivial)
        (case aO => exact Kd.R_mono HK8.out (fun _ _ => trivial))
        (case aB => exact Below.refl _ _)
        (case aS => exact HO8.out.1)
        (case aL => have := HIG.out; have := HTL.out; omega)
        intro v9 w9 hE9 _ hg9 _
        have hown : ∀ k, (Value.slice AK kt.length cK).ownBlock = some k → w7.heap.size ≤ k := Kd.R_base HK8.out
        have hgne : some g ≠ (Value.slice AK kt.length cK).ownBlock := fun e => by have := hown g e.symm; have := HGL7.out.1; omega
        have HR9 := Aside0.mk (HR8.out.grown hg9 (fun k hk => by have := hown k hk; have := HB7.out.size; omega) hgne)
        have HF9 := Aside0.mk (show Only g w7 w9 from ⟨Nat.le_trans HO8.out.1 hg9.size, fun k hk hkg => (hg9.block k (Nat.lt_of_lt_of_le hk HO8.out.1) (fun e => by have := hown k e.symm; omega)).trans (HO8.out.2 k hk hkg)⟩)
        obtain ⟨A9, c9, e9⟩ := Kd.R_slice hE9
        subst e9
        have HE9 := Aside0.mk hE9
        have hGR9 := (hg9.block gr (blk_lt HGR8.out) (Kd.R_ne HK8.out HGR8.out (by decide))).trans HGR8.out
        refine hK.out _ _ (by obtain ⟨A, c, h1, _⟩ := HR9.out; exact ⟨(blk_cell hGR9 0).trans rfl, (blk_cell h1 4).trans rfl⟩) (fun hHeld => ?_)
        clear hE9 hg9 hown hgne HR8 HGR8 HK8 HO8 hGR9
        (clear hK K; refine norm_ (a' := ?_) ?_ ?_; rotate_left; (show Act.put _ (some 57) _ = _; simp only [Act.put, List.setIfInBounds_toArray, List.set_cons_zero, List.set_cons_succ, i64_w, i32_w]; rfl))
        (refine pure_ (i := 10) (N := some 58) (v := ?_) (a' := ?_) #[true, true, true, true, true, true, true, true, true, true, true, false, false, false] rfl rfl (by kernel_rfl) (fun _ _ _ h => h) (Or.inl ⟨by rfl, ?_⟩) ?_ ?_; rotate_left; (intro w'; go_simp; with_reducible rfl); rotate_left; (simp only [Act.put, List.setIfInBounds_toArray, List.set_cons_zero, List.set_cons_succ, i64_w, i32_w]; rfl)); (refine pure_ (i := 11) (N := some 59) (v := ?_) (a' := ?_) #[true, true, true, true, true, true, true, true, true, true, true, true, false, false] rfl rfl (by kernel_rfl) (fun _ _ _ h => h) (Or.inl ⟨by rfl, ?_⟩) ?_ ?_; rotate_left; (intro w'; go_simp; with_reducible rfl); rotate_left; (simp only [Act.put, List.setIfInBounds_toArray, List.set_cons_zero, List.set_cons_succ, i64_w, i32_w]; rfl)); (refine pure_ (i := 12) (N := some 60) (v := ?_) (a' := ?_) #[true, true, true, true, true, true, true, true, true, true, true, true, true, false] rfl rfl (by kernel_rfl) (fun _ _ _ h => h) (Or.inl ⟨by rfl, ?_⟩) ?_ ?_; rotate_left; (intro w'; go_simp; with_reducible rfl); rotate_left; (simp only [Act.put, List.setIfInBounds_toArray, List.set_cons_zero, List.set_cons_succ, i64_w, i32_w]; rfl))
        refine last_ (i := 13) (N := none) #[true, true, true, true, true, true, true, true, true, true, true, true, true, true] rfl rfl (by kernel_rfl) (by decide) (fun K hK => ?_)
        obtain ⟨A10, c10, hg10, _⟩ := HR9.out
        have c3 : w9.cell? ⟨g, 4, none⟩ = some (.slice AK kt.length cK) := (blk_cell hg10 4).trans rfl
        have f3 := blk_frozen hg10 4
        have HG10 := Aside0.mk hg10
        clear hg10
        refine skip_ (w1 := ?_) (by rfl) rfl ?_ ?_
        rotate_left
        · go_simp
          rfl
        refine hK.out _ _ ?_
        clear hK K
        refine done_ (by kernel_rfl) ?_
        have hE10 := Kd.R_set HE9.out HG10.out (by decide) 4 (.slice A9 (kt.length + 1) c9)
        rw [show (kt ++ [x]).length = kt.length + 1 by rw [List.length_append]; rfl, ← HTK.out] at hE10
        have HK10 := Aside0.mk hE10
        have HR10 := Aside0.mk (HR9.out.putK (.slice A9 (kt.length + 1) c9))
        have HO10 := Aside0.mk (HF9.out.trans (Only.set (i := 4) (.slice A9 (kt.length + 1) c9)))
        clear hE10 HR9 HE9 HG10 HF9 c3 f3
        generalize w9.setCell ⟨g, 4, none⟩ (.slice A9 (kt.length + 1) c9) = wz at HR10 HK10 HO10 ⊢
        go_wp2
        have hln : kt.length + 1 = (ks.take (i + 1)).length := by have := HLT.out; rw [HTL.out, List.length_take]; omega
        go_roundg (ks.length - (i + 1))
        case measure => have := hi.out; omega
        case rel => exact ⟨i + 1, _, congrArg (Value.int .i64) (by omega), ⟨by have := hi.out; omega⟩, HR10, HK10, HO10⟩
      · have hcb : decide ((i : Int) < (ks.length : Int)) = false := decide_eq_false (by omega)
        have ei : i = ks.length := by have := hi.out; omega
        subst ei
        have hkl : ks.take ks.length = ks := List.take_length
        rw [hkl] at hK hR
        clear hi hlt hkl
        have HBr := Aside0.mk (HB2.out.trans (hBr.mono HB2.out.size))
        have HGr2 := Aside0.mk ((hBr.block r0 (blk_lt HG2.out)).trans HG2.out)
        have HSr := Aside0.mk (Kd.S_step HS7.out (fun k hk hlt => hO.out.2 k hlt hk))
        have HCr := Aside0.mk (Kd.R_step HC7.out (fun k hk hlt => hO.out.2 k hlt hk.1))
        have HKr := hK
        have HRr := hR
        have HZ7 := Aside0.mk HB7.out.size
        have HZ2W := Aside0.mk HB2.out.size
        clear HS7 HC7 HB7 HBR hBr HR7 HGR7 HG2 HB2 hO hK hR
        have HHP := Aside0.mk (by have h := HH.out; rw [HP.out] at h; exact h)
        clear HH HP
        obtain ⟨AR, cR, hgc, _⟩ := HRr.out
        have HGc := Aside0.mk hgc
        have g1 : wr.cell? ⟨g, 1, none⟩ = some (.bool bc) := (blk_cell hgc 1).trans rfl
        have g2 : wr.cell? ⟨g, 2, none⟩ = some (.slice AS sts.length cS) := (blk_cell hgc 2).trans rfl
        have g3 : wr.cell? ⟨g, 3, none⟩ = some (.slice AC cs.length cC) := (blk_cell hgc 3).trans rfl
        have g4 : wr.cell? ⟨g, 4, none⟩ = some (.slice AK ks.length cK) := (blk_cell hgc 4).trans rfl
        have gr0 : wr.cell? ⟨gr, 0, none⟩ = some (.pointer (some ⟨g, 0, none⟩)) := (blk_cell HGRr.out 0).trans rfl
        have p0 := (blk_cell HGr2.out 0).trans (show _ = some (.slice none 0 0) from rfl)
        have p1 := (blk_cell HGr2.out 1).trans (show _ = some (.slice none 0 0) from rfl)
        have p2 := (blk_cell HGr2.out 2).trans (show _ = some (.slice none 0 0) from rfl)
        clear e0 e1 e2 f0 f1 f2
        have q0 := blk_frozen HGr2.out 0
        have q1 := blk_frozen HGr2.out 1
        have q2 := blk_frozen HGr2.out 2
        clear hgc
        have HG9 := Aside0.mk (put3 (x := .slice none 0 0) (y := .slice none 0 0) (z := .slice none 0 0) HGr2.out)
        have HB9 := Aside0.mk (below3 HBr.out HRW.out (.slice none 0 0) (.slice none 0 0) (.slice none 0 0))
        cases bc
        · have HHQ := Aside0.mk (show ((file_Encode.f k sts cs ks).bind fun t => (if t.2 = 0 then (if ((strOfNums t.1).toList == (strOfNums l0).toList) = true then (some (sts, cs, ks, 0)) else (some ([], [], [], 2))) else (some ([], [], [], 2)))) = some (r1, r2, r3, r4) from HHP.out)
          obtain ⟨⟨eb, ee⟩, hEf, hrest⟩ := Option.bind_eq_some_iff.mp HHQ.out
          have HREST := Aside0.mk hrest
          clear HHP HHQ hrest
          obtain ⟨_, hcS, hCS⟩ := Kd.S_reads' HSr.out
          obtain ⟨_, hcC, hCC⟩ := Kd.R_reads' HCr.out
          obtain ⟨_, hcK, hCK⟩ := Kd.R_reads' HKr.out
          have HENC := Aside0.mk (file_Encode.calls k AS cS sts AC cC cs AK cK ks eb ee wr hCS hcS hCC hcC hCK hcK hEf)
          clear hEf hcS hCS hcC hCC hcK hCK HG9 HB9
          go_wp2_with (first | (go_at_call 16; (with_reducible refine (HENC.out).mono ?_)))
          (first | rintro x wE vE rfl hRE hbE | rintro x wE ⟨vE, rfl, hRE, hbE⟩)
          obtain ⟨AE, cE, eE⟩ := Kd.R_slice hRE
          subst eE
          obtain ⟨_, hcE, hCE⟩ := Kd.R_reads' hRE
          have HGrE := Aside0.mk ((hbE.block r0 (blk_lt HGr2.out)).trans HGr2.out)
          have HBE := Aside0.mk (HBr.out.trans (hbE.mono HBr.out.size))
          have HSE := Aside0.mk (Kd.S_below HSr.out hbE)
          have HCE := Aside0.mk (Kd.R_below HCr.out hbE)
          have HKE := Aside0.mk (Kd.R_below HKr.out hbE)
          have HGcE := Aside0.mk ((hbE.block g (blk_lt HGc.out)).trans HGc.out)
          have HGRE := Aside0.mk ((hbE.block gr (blk_lt HGRr.out)).trans HGRr.out)
          have HBEQ := Aside0.mk (bytes_Equal.calls AE cE eb A0 c0 l0 _ wE hCE hcE (Kd.C_below HR0.out HBE.out) HC0.out rfl)
          clear hRE hcE hCE hbE HENC HGr2 HBr HSr HCr HKr HGc HGRr
          clear g1 g2 g3 g4 gr0 p0 p1 p2 q0 q1 q2
          have g2 : wE.cell? ⟨g, 2, none⟩ = some (.slice AS sts.length cS) := (blk_cell HGcE.out 2).trans rfl
          have g3 : wE.cell? ⟨g, 3, none⟩ = some (.slice AC cs.length cC) := (blk_cell HGcE.out 3).trans rfl
          have g4 : wE.cell? ⟨g, 4, none⟩ = some (.slice AK ks.length cK) := (blk_cell HGcE.out 4).trans rfl
          have gr0 : wE.cell? ⟨gr, 0, none⟩ = some (.pointer (some ⟨g, 0, none⟩)) := (blk_cell HGRE.out 0).trans rfl
          have p0 := (blk_cell HGrE.out 0).trans (show _ = some (.slice none 0 0) from rfl)
          have p1 := (blk_cell HGrE.out 1).trans (show _ = some (.slice none 0 0) from rfl)
          have p2 := (blk_cell HGrE.out 2).trans (show _ = some (.slice none 0 0) from rfl)
          have q0 := blk_frozen HGrE.out 0
          have q1 := blk_frozen HGrE.out 1
          have q2 := blk_frozen HGrE.out 2
          have HG9 := Aside0.mk (put3 (x := .slice none 0 0) (y := .slice none 0 0) (z := .slice none 0 0) HGrE.out)
          have HB9 := Aside0.mk (below3 HBE.out HRW.out (.slice none 0 0) (.slice none 0 0) (.slice none 0 0))
          by_cases hee : ee = 0
          · subst hee
            generalize hsb : ((strOfNums eb).toList == (strOfNums l0).toList) = sb at HBEQ HREST
            clear hsb
            cases sb
            · obtain ⟨rfl, rfl, rfl, rfl⟩ : [] = r1 ∧ [] = r2 ∧ [] = r3 ∧ (2 : Int) = r4 := by
                have h := HREST.out
                rw [if_pos rfl, if_neg (by decide)] at h
                simp only [Option.some.injEq, Prod.mk.injEq] at h
                exact h
              clear HREST HSE HCE HKE HG9 HB9
              go_wp2_with (first | (go_at_call 51; (with_reducible refine (HBEQ.out).mono ?_)))
              rintro x wF ⟨rfl, hD⟩
              have hbF := hD.below
              have HGrF := Aside0.mk ((hbF.block r0 (blk_lt HGrE.out)).trans HGrE.out)
              have HBF := Aside0.mk (HBE.out.trans (hbF.mono HBE.out.size))
              have HGcF := Aside0.mk ((hbF.block g (blk_lt HGcE.out)).trans HGcE.out)
              have HGRF := Aside0.mk ((hbF.block gr (blk_lt HGRE.out)).trans HGRE.out)
              clear hD hbF HGrE HBE HGcE HGRE g2 g3 g4 gr0 p0 p1 p2 q0 q1 q2 HBEQ
              have g2 : wF.cell? ⟨g, 2, none⟩ = some (.slice AS sts.length cS) := (blk_cell HGcF.out 2).trans rfl
              have g3 : wF.cell? ⟨g, 3, none⟩ = some (.slice AC cs.length cC) := (blk_cell HGcF.out 3).trans rfl
              have g4 : wF.cell? ⟨g, 4, none⟩ = some (.slice AK ks.length cK) := (blk_cell HGcF.out 4).trans rfl
              have gr0 : wF.cell? ⟨gr, 0, none⟩ = some (.pointer (some ⟨g, 0, none⟩)) := (blk_cell HGRF.out 0).trans rfl
              have p0 := (blk_cell HGrF.out 0).trans (show _ = some (.slice none 0 0) from rfl)
              have p1 := (blk_cell HGrF.out 1).trans (show _ = some (.slice none 0 0) from rfl)
              have p2 := (blk_cell HGrF.out 2).trans (show _ = some (.slice none 0 0) from rfl)
              have q0 := blk_frozen HGrF.out 0
              have q1 := blk_frozen HGrF.out 1
              have q2 := blk_frozen HGrF.out 2
              have HG9 := Aside0.mk (put3 (x := .slice none 0 0) (y := .slice none 0 0) (z := .slice none 0 0) HGrF.out)
              have HB9 := Aside0.mk (below3 HBF.out HRW.out (.slice none 0 0) (.slice none 0 0) (.slice none 0 0))
              go_wp2
              refine bodyPost_ret (results_ct rfl _ _ r0 29 #[.slice none 0 0, .slice none 0 0, .slice none 0 0] (0, 0) _ rfl HG9.out huD rfl (by kernel_rfl)) rfl ?_
              exact ⟨_, _, _, rfl, Kd.S_nil _ _ _ _ _, Kd.R_nil _ _ _ _ _, Kd.R_nil _ _ _ _ _, HB9.out⟩
            · have HREQ := Aside0.mk (show some (sts, cs, ks, (0 : Int)) = some (r1, r2, r3, r4) from by
                have h := HREST.out
                rw [if_pos rfl, if_pos rfl] at h
                exact h)
              obtain ⟨rfl, rfl, rfl, rfl⟩ : sts = r1 ∧ cs = r2 ∧ ks = r3 ∧ (0 : Int) = r4 := by
                have h := HREQ.out
                simp only [Option.some.injEq, Prod.mk.injEq] at h
                exact h
              clear HREST HREQ HG9 HB9
              go_wp2_with (first | (go_at_call 51; (with_reducible refine (HBEQ.out).mono ?_)))
              rintro x wF ⟨rfl, hD⟩
              have hbF := hD.below
              have HGrF := Aside0.mk ((hbF.block r0 (blk_lt HGrE.out)).trans HGrE.out)
              have HBF := Aside0.mk (HBE.out.trans (hbF.mono HBE.out.size))
              have HGcF := Aside0.mk ((hbF.block g (blk_lt HGcE.out)).trans HGcE.out)
              have HGRF := Aside0.mk ((hbF.block gr (blk_lt HGRE.out)).trans HGRE.out)
              have HSF := Aside0.mk (Kd.S_below HSE.out hbF)
              have HCF := Aside0.mk (Kd.R_below HCE.out hbF)
              have HKF := Aside0.mk (Kd.R_below HKE.out hbF)
              clear hD hbF HGrE HBE HGcE HGRE g2 g3 g4 gr0 p0 p1 p2 q0 q1 q2 HBEQ
              have g2 : wF.cell? ⟨g, 2, none⟩ = some (.slice AS sts.length cS) := (blk_cell HGcF.out 2).trans rfl
              have g3 : wF.cell? ⟨g, 3, none⟩ = some (.slice AC cs.length cC) := (blk_cell HGcF.out 3).trans rfl
              have g4 : wF.cell? ⟨g, 4, none⟩ = some (.slice AK ks.length cK) := (blk_cell HGcF.out 4).trans rfl
              have gr0 : wF.cell? ⟨gr, 0, none⟩ = some (.pointer (some ⟨g, 0, none⟩)) := (blk_cell HGRF.out 0).trans rfl
              have p0 := (blk_cell HGrF.out 0).trans (show _ = some (.slice none 0 0) from rfl)
              have p1 := (blk_cell HGrF.out 1).trans (show _ = some (.slice none 0 0) from rfl)
              have p2 := (blk_cell HGrF.out 2).trans (show _ = some (.slice none 0 0) from rfl)
              have q0 := blk_frozen HGrF.out 0
              have q1 := blk_frozen HGrF.out 1
              have q2 := blk_frozen HGrF.out 2
              have HG9 := Aside0.mk (put3 (x := .slice AS sts.length cS) (y := .slice AC cs.length cC) (z := .slice AK ks.length cK) HGrF.out)
              have HB9 := Aside0.mk (below3 HBF.out HRW.out (.slice AS sts.length cS) (.slice AC cs.length cC) (.slice AK ks.length cK))
              clear HSE HCE HKE
              go_wp2
              refine bodyPost_ret (results_ct rfl _ _ r0 29 #[.slice AS sts.length cS, .slice AC cs.length cC, .slice AK ks.length cK] (0, 0) _ rfl HG9.out huD rfl (by kernel_rfl)) rfl ?_
              have HS9 := Kd.S_set (Kd.S_set (Kd.S_set HSF.out HGrF.out (by decide) 0 (.slice AS sts.length cS)) (blk_put HGrF.out 0 (.slice AS sts.length cS) rfl) (by decide) 1 (.slice AC cs.length cC)) (blk_put (blk_put HGrF.out 0 (.slice AS sts.length cS) rfl) 1 (.slice AC cs.length cC) rfl) (by decide) 2 (.slice AK ks.length cK)
              have HC9 := Kd.R_set (Kd.R_set (Kd.R_set HCF.out HGrF.out (by decide) 0 (.slice AS sts.length cS)) (blk_put HGrF.out 0 (.slice AS sts.length cS) rfl) (by decide) 1 (.slice AC cs.length cC)) (blk_put (blk_put HGrF.out 0 (.slice AS sts.length cS) rfl) 1 (.slice AC cs.length cC) rfl) (by decide) 2 (.slice AK ks.length cK)
              have HK9 := Kd.R_set (Kd.R_set (Kd.R_set HKF.out HGrF.out (by decide) 0 (.slice AS sts.length cS)) (blk_put HGrF.out 0 (.slice AS sts.length cS) rfl) (by decide) 1 (.slice AC cs.length cC)) (blk_put (blk_put HGrF.out 0 (.slice AS sts.length cS) rfl) 1 (.slice AC cs.length cC) rfl) (by decide) 2 (.slice AK ks.length cK)
              have z2 : w.heap.size ≤ w2.heap.size := HZ2W.out
              exact ⟨_, _, _, rfl, Kd.S_mono (Kd.S_lower HS9 z2) (fun _ _ => trivial), Kd.R_mono (Kd.R_lower HC9 z2) (fun _ _ => trivial), Kd.R_mono (Kd.R_lower HK9 (Nat.le_trans z2 HZ7.out)) (fun _ _ => trivial), HB9.out⟩
          · have hne : (!(ee == 0)) = true := by rw [Bool.not_eq_true', beq_eq_false_iff_ne]; exact hee
            have hz : (ee == 0) = false := by rw [beq_eq_false_iff_ne]; exact hee
            obtain ⟨rfl, rfl, rfl, rfl⟩ : [] = r1 ∧ [] = r2 ∧ [] = r3 ∧ (2 : Int) = r4 := by
              have h := HREST.out
              rw [if_neg hee] at h
              simp only [Option.some.injEq, Prod.mk.injEq] at h
              exact h
            clear HREST HSE HCE HKE hne hz
            go_wp2
            refine bodyPost_ret (results_ct rfl _ _ r0 29 #[.slice none 0 0, .slice none 0 0, .slice none 0 0] (0, 0) _ rfl HG9.out huD rfl (by kernel_rfl)) rfl ?_
            exact ⟨_, _, _, rfl, Kd.S_nil _ _ _ _ _, Kd.R_nil _ _ _ _ _, Kd.R_nil _ _ _ _ _, HB9.out⟩
        · have HHQ := Aside0.mk (show some ([], [], [], 2) = some (r1, r2, r3, r4) from HHP.out)
          obtain ⟨rfl, rfl, rfl, rfl⟩ : [] = r1 ∧ [] = r2 ∧ [] = r3 ∧ (2 : Int) = r4 := by
            have h := HHQ.out
            simp only [Option.some.injEq, Prod.mk.injEq] at h
            exact h
          clear HHQ HHP HSr HCr HKr HRr
          go_wp2
          refine bodyPost_ret (results_ct rfl _ _ r0 29 #[.slice none 0 0, .slice none 0 0, .slice none 0 0] (0, 0) _ rfl HG9.out huD rfl (by kernel_rfl)) rfl ?_
          exact ⟨_, _, _, rfl, Kd.S_nil _ _ _ _ _, Kd.R_nil _ _ _ _ _, Kd.R_nil _ _ _ _ _, HB9.out⟩
  · rw [if_neg h4] at h
    have hd4 : ((L.length : Int) == 4) = false := by rw [beq_eq_false_iff_ne]; omega
    injection h with h
    injection h with h1 h
    injection h with h2 h
    injection h with h3 h4'
    subst h1 h2 h3 h4'
    have HG9 := Aside0.mk (put3 (x := .slice none 0 0) (y := .slice none 0 0) (z := .slice none 0 0) HG2.out)
    have HB9 := Aside0.mk (below3 HB2.out HRW.out (.slice none 0 0) (.slice none 0 0) (.slice none 0 0))
    clear HG2 HB2 HL2
    go_wp2
    refine bodyPost_ret (results_ct rfl _ _ r0 29 #[.slice none 0 0, .slice none 0 0, .slice none 0 0] (0, 0) _ rfl HG9.out huD rfl (by kernel_rfl)) rfl ?_
    exact ⟨_, _, _, rfl, Kd.S_nil _ _ _ _ _, Kd.R_nil _ _ _ _ _, Kd.R_nil _ _ _ _ _, HB9.out⟩
theorem file_Decode.calls (k : Nat) (A0 : Option Addr) (c0 : Nat) (l0 : List Int) (r1 : List S82) (r2 r3 : List Int) (r4 : Int) (w : World) (hr0 : Kd.C (Kd.int .u8) w A0 l0.length l0) (hc0 : l0.length ≤ c0) (h : file_Decode.f k l0 = some (r1, r2, r3, r4)) :
    Calls Try.prog 24 #[.slice A0 l0.length c0] w fun e w' => ∃ v0_ v1_ v2_ : Value, e = .returned (.tuple #[.agg #[v0_, v1_, v2_], .int .i64 r4]) ∧ Kd.S k82 82 w' w.heap.size (fun _ => True) v0_ r1 ∧ Kd.R (Kd.int .u64) 47 w' w.heap.size (fun _ => True) v1_ r2 ∧ Kd.R (Kd.int .i64) 3 w' w.heap.size (fun _ => True) v2_ r3 ∧ Below w.heap.size w w' := decode_k k A0 c0 l0 r1 r2 r3 r4 w hr0 hc0 h
end Go.Proofs.Ytgebhidpkcjpmaa.K

namespace Go.Proofs.Ytgebhidpkcjpmaa.K
open Go.RowKit Go.Proofs.YtgebhidpkcjpmaaW.PrintWords Go.Proofs.YtgebhidpkcjpmaaW.PrintLast Go.Proofs.YtgebhidpkcjpmaaW.PrintMore Go.Proofs.Ytgebhidpkcjpmaa
attribute [local go_sem] max2_int min2_int max_two min_two max_three min_three max_four min_four
set_option linter.unusedVariables false
set_option linter.unusedSimpArgs false
open Go Go.Proofs.Ytgebhidpkcjpmaa.PDk Go.Proofs.Ytgebhidpkcjpmaa.PFl Go.Proofs.Ytgebhidpkcjpmaa.PFg Go.Proofs.Ytgebhidpkcjpmaa.PEn Go.Proofs.Ytgebhidpkcjpmaa.Daw Go.Proofs.Ytgebhidpkcjpmaa.Fil Go.Proofs.Ytgebhidpkcjpmaa.Crc
theorem rd_at (pre : List Int) (x : Int) (r : List Int) : rd (pre ++ x :: r) (pre.length : Int) = x := rd_mid pre r x pre.length rfl
theorem put_le : ∀ (k n : Nat), n < 128 ^ (k + 1) → (put n).length ≤ k + 1
  | 0, n, h => by rw [put_low (by omega)]; simp
  | k + 1, n, h => by
    by_cases h1 : n < 128
    · rw [put_low h1]; simp
    · rw [put_high h1]
      have := put_le k (n / 128) (by rw [Nat.div_lt_iff_lt_mul (by decide)]; rw [Nat.pow_succ] at h; exact h)
      simp only [List.length_cons]; omega
theorem put_pos (n : Nat) : 0 < (put n).length := List.length_pos_iff.2 (put_ne n)
theorem scn_put : ∀ (k n : Nat) (pre rest : List Int), (put n).length ≤ k → scn (pre ++ (zs (put n) ++ rest)) k pre.length = some (pre.length + ((put n).length - 1))
  | 0, n, pre, rest, h => by have := put_pos n; omega
  | k + 1, n, pre, rest, h => by
    unfold scn
    by_cases h1 : n < 128
    · rw [put_low h1]
      show (if pre.length = (pre ++ ((n : Int) :: rest)).length then none else if rd (pre ++ ((n : Int) :: rest)) (pre.length : Int) < 128 then some pre.length else _) = _
      rw [if_neg (by simp), rd_at, if_pos (by omega)]
      rfl
    · have ih := scn_put k (n / 128) (pre ++ [((n % 128 + 128 : Nat) : Int)]) rest (by rw [put_high h1] at h; simpa using h)
      have e : pre ++ [((n % 128 + 128 : Nat) : Int)] ++ (zs (put (n / 128)) ++ rest) = pre ++ (zs (put n) ++ rest) := by rw [put_high h1]; simp [zs]
      rw [e] at ih
      have hp := put_pos (n / 128)
      have el : (put n).length = (put (n / 128)).length + 1 := by rw [put_high h1]; rfl
      have er : rd (pre ++ (zs (put n) ++ rest)) (pre.length : Int) = ((n % 128 + 128 : Nat) : Int) := by rw [put_high h1]; exact rd_at pre _ _
      rw [if_neg (by simp [zs_len, el]), er, if_neg (by omega), ← show (pre ++ [((n % 128 + 128 : Nat) : Int)]).length = pre.length + 1 by simp, ih, el]
      simp only [List.length_append, List.length_cons, List.length_nil, Option.some.injEq]
      omega
theorem val_put (n : Nat) : ∀ (pre rest : List Int), valG (pre ++ (zs (put n) ++ rest)) (put n).length pre.length = n := by
  induction n using Nat.strongRecOn with
  | _ n ih =>
    intro pre rest
    by_cases h1 : n < 128
    · rw [put_low h1]
      show (rd (pre ++ ((n : Int) :: rest)) (pre.length : Int)).toNat % 128 + 128 * 0 = n
      rw [rd_at]; omega
    · have hi := ih (n / 128) (by omega) (pre ++ [((n % 128 + 128 : Nat) : Int)]) rest
      have e : pre ++ [((n % 128 + 128 : Nat) : Int)] ++ (zs (put (n / 128)) ++ rest) = pre ++ (zs (put n) ++ rest) := by rw [put_high h1]; simp [zs]
      rw [e] at hi
      have el : (put n).length = (put (n / 128)).length + 1 := by rw [put_high h1]; rfl
      have er : rd (pre ++ (zs (put n) ++ rest)) (pre.length : Int) = ((n % 128 + 128 : Nat) : Int) := by rw [put_high h1]; exact rd_at pre _ _
      rw [el]
      unfold valG
      rw [er, ← show (pre ++ [((n % 128 + 128 : Nat) : Int)]).length = pre.length + 1 by simp, hi]
      omega
theorem last_put (n : Nat) : ∀ (pre rest : List Int), rd (pre ++ (zs (put n) ++ rest)) ((pre.length + ((put n).length - 1) : Nat) : Int) = ((n / 128 ^ ((put n).length - 1) : Nat) : Int) := by
  induction n using Nat.strongRecOn with
  | _ n ih =>
    intro pre rest
    by_cases h1 : n < 128
    · rw [put_low h1]
      show rd (pre ++ ((n : Int) :: rest)) (pre.length : Int) = _
      rw [rd_at]; simp
    · have hi := ih (n / 128) (by omega) (pre ++ [((n % 128 + 128 : Nat) : Int)]) rest
      have e : pre ++ [((n % 128 + 128 : Nat) : Int)] ++ (zs (put (n / 128)) ++ rest) = pre ++ (zs (put n) ++ rest) := by rw [put_high h1]; simp [zs]
      rw [e] at hi
      have hp := put_pos (n / 128)
      have el : (put n).length = (put (n / 128)).length + 1 := by rw [put_high h1]; rfl
      rw [show pre.length + ((put n).length - 1) = (pre ++ [((n % 128 + 128 : Nat) : Int)]).length + ((put (n / 128)).length - 1) by rw [el]; simp; omega, hi, el, Nat.div_div_eq_div_mul, ← Nat.pow_succ', show (put (n / 128)).length + 1 - 1 = (put (n / 128)).length - 1 + 1 by omega]
theorem top_put (n : Nat) : n ≠ 0 → n / 128 ^ ((put n).length - 1) ≠ 0 := by
  induction n using Nat.strongRecOn with
  | _ n ih =>
    intro h0
    by_cases h1 : n < 128
    · rw [put_low h1]; simpa using h0
    · have hi := ih (n / 128) (by omega) (by omega)
      have hp := put_pos (n / 128)
      have el : (put n).length = (put (n / 128)).length + 1 := by rw [put_high h1]; rfl
      rw [Nat.div_div_eq_div_mul, ← Nat.pow_succ'] at hi
      rwa [el, show (put (n / 128)).length + 1 - 1 = (put (n / 128)).length - 1 + 1 by omega]
theorem getG_put (n : Nat) (hn : n < 18446744073709551616) (rest : List Int) : getG (zs (put n) ++ rest) = ((n : Int), ((put n).length : Int), 0) := by
  have hl := put_le 9 n (Nat.lt_of_lt_of_le hn (by decide))
  have hp := put_pos n
  have h1 := scn_put 10 n [] rest hl
  have h2 := val_put n [] rest
  have h3 := last_put n [] rest
  simp only [List.nil_append, List.length_nil, Nat.zero_add] at h1 h2 h3
  unfold getG
  rw [h1]
  dsimp only
  rw [if_neg, show (put n).length - 1 + 1 = (put n).length by omega, h2, show (((put n).length - 1 : Nat) : Int) + 1 = ((put n).length : Int) by omega]
  rintro (h | ⟨h, h'⟩ | ⟨h, h'⟩)
  · omega
  · rw [h] at h3
    have : n / 128 ^ 9 ≤ 1 := by
      have := Nat.div_lt_of_lt_mul (m := n) (n := 128 ^ 9) (k := 2) (Nat.lt_of_lt_of_le hn (by decide))
      omega
    have e : rd (zs (put n) ++ rest) (9 : Int) = ((n / 128 ^ 9 : Nat) : Int) := h3
    rw [e] at h'
    omega
  · rw [h3] at h'
    refine top_put n ?_ (by exact_mod_cast h')
    rintro rfl
    rw [put_low (by decide)] at h
    exact absurd h (by decide)
theorem numR_put (n : Nat) (hn : n < 18446744073709551616) (rest : List Int) (b : Bool) (most : Int) (hm : (n : Int) ≤ most) : numR (zs (put n) ++ rest) b most = ((n : Int), rest, b) := by
  unfold numR
  rw [getG_put n hn rest]
  dsimp only
  rw [if_neg (by simp; omega), Int.toNat_natCast, ← zs_len, List.drop_left]
theorem stR_eds (i : Nat) (hi : i < 1000000000) : ∀ (es : List DE) (rest : List Int) (acc : List S84), (∀ e ∈ es, e.2 ≤ i) → stR (i : Int) es.length (zs (es.flatMap (edB i)) ++ rest) false acc = (acc ++ es.map toE, rest, false)
  | [], rest, acc, _ => by simp [stR, zs]
  | e :: es, rest, acc, h => by
    have he := h e (by simp)
    have hz : zs ((e :: es).flatMap (edB i)) ++ rest = (e.1 : Int) :: (zs (put (i - e.2)) ++ (zs (es.flatMap (edB i)) ++ rest)) := by
      simp [zs, edB]
    rw [hz, List.length_cons]
    unfold stR oneR
    dsimp only
    rw [numR_put (i - e.2) (by omega) _ _ _ (by omega)]
    dsimp only
    rw [stR_eds i hi es rest _ (fun x hx => h x (by simp [hx]))]
    have : ((i : Int) - ((i - e.2 : Nat) : Int)) = (e.2 : Int) := by omega
    rw [this]
    simp [toE]
theorem stateR_st (s : DS) (sts : List S82) (rest : List Int) (hi : sts.length < 1000000000) (hs : ∀ e ∈ s.2, e.2 ≤ sts.length) (hl : s.2.length ≤ 256) : stateR (zs (stB sts.length s) ++ rest) false sts = (rest, false, sts ++ [toS s]) := by
  have hh : hdN s ≤ 513 := by unfold hdN; split <;> omega
  have e1 : (((hdN s : Nat) : Int) / 2).toNat = s.2.length := by unfold hdN; split <;> omega
  have e2 : decide (((hdN s : Nat) : Int) % 2 = 1) = s.1 := by
    unfold hdN
    cases s.1
    · simp
    · simp
  have hz : zs (stB sts.length s) ++ rest = zs (put (hdN s)) ++ (zs (s.2.flatMap (edB sts.length)) ++ rest) := by
    unfold stB; rw [zs_app, List.append_assoc]
  unfold stateR
  rw [hz, numR_put (hdN s) (by omega) _ _ _ (by omega)]
  dsimp only
  rw [e1, e2, stR_eds sts.length hi s.2 rest [] hs]
  rfl
theorem itR_sts : ∀ (b : List DS) (sts : List S82) (rest : List Int), Low sts.length b → sts.length + b.length < 1000000000 → (∀ s ∈ b, s.2.length ≤ 256) → itR stStep b.length (zs (stsB sts.length b) ++ rest) false sts = (rest, false, sts ++ b.map toS)
  | [], sts, rest, _, _, _ => by simp [itR, stsB, zs]
  | s :: b, sts, rest, hL, hl, hs => by
    rw [List.length_cons] at hl ⊢
    have hz : zs (stsB sts.length (s :: b)) ++ rest = zs (stB sts.length s) ++ (zs (stsB (sts.length + 1) b) ++ rest) := by
      show zs (stB sts.length s ++ stsB (sts.length + 1) b) ++ rest = _
      rw [zs_app, List.append_assoc]
    unfold itR
    have e : stStep (zs (stsB sts.length (s :: b)) ++ rest) sts = (zs (stsB (sts.length + 1) b) ++ rest, false, sts ++ [toS s]) := by
      rw [hz]; exact stateR_st s sts _ (by omega) hL.head (hs s (by simp))
    rw [e]
    dsimp only
    have := itR_sts b (sts ++ [toS s]) rest (by simpa using hL.tail) (by simp; omega) (fun x hx => hs x (by simp [hx]))
    rw [show (sts ++ [toS s]).length = sts.length + 1 by simp] at this
    rw [this]
    simp
theorem stsB_ge : ∀ (b : List DS) (i : Nat), b.length ≤ (stsB i b).length
  | [], i => by simp
  | s :: b, i => by
    have := stsB_ge b (i + 1)
    have hp := put_pos (hdN s)
    show b.length + 1 ≤ (stB i s ++ stsB (i + 1) b).length
    unfold stB
    rw [List.length_append, List.length_append]
    omega
theorem all_sts (b : List DS) (hL : Low 0 b) (hl : b.length < 1000000000) (hs : ∀ s ∈ b, s.2.length ≤ 256) : allR stStep (zs (statesB b)) false [] = ([], false, b.map toS) := by
  unfold allR statesB
  have hg := stsB_ge b 0
  rw [zs_app, numR_put b.length (by omega) _ _ _ (by rw [List.length_append, zs_len, zs_len]; omega)]
  dsimp only
  have := itR_sts b [] [] hL (by simpa using hl) hs
  rw [List.append_nil] at this
  rw [Int.toNat_natCast]
  exact this
theorem itR_cts : ∀ (c : List Nat) (cs rest : List Int), (∀ n ∈ c, n ≤ 4611686018427387904) → itR cntR c.length (zs (c.flatMap put) ++ rest) false cs = (rest, false, cs ++ zs c)
  | [], cs, rest, _ => by simp [itR, zs]
  | n :: c, cs, rest, h => by
    have hn := h n (by simp)
    have hz : zs ((n :: c).flatMap put) ++ rest = zs (put n) ++ (zs (c.flatMap put) ++ rest) := by
      rw [List.flatMap_cons, zs_app, List.append_assoc]
    rw [List.length_cons]
    unfold itR
    have e : cntR (zs ((n :: c).flatMap put) ++ rest) cs = (zs (c.flatMap put) ++ rest, false, cs ++ [(n : Int)]) := by
      unfold cntR
      rw [hz, numR_put n (by omega) _ _ _ (by omega)]
    rw [e]
    dsimp only
    rw [itR_cts c _ rest (fun x hx => h x (by simp [hx]))]
    simp [zs]
theorem puts_ge : ∀ (c : List Nat), c.length ≤ (c.flatMap put).length
  | [] => by simp
  | n :: c => by
    have := puts_ge c
    have hp := put_pos n
    rw [List.flatMap_cons, List.length_append, List.length_cons]
    omega
theorem all_cts (c : List Nat) (hl : c.length < 1000000000) (h : ∀ n ∈ c, n ≤ 4611686018427387904) : allR cntR (zs (countsB c)) false [] = ([], false, zs c) := by
  unfold allR countsB
  have hg := puts_ge c
  rw [zs_app, numR_put c.length (by omega) _ _ _ (by rw [List.length_append, zs_len, zs_len]; omega)]
  dsimp only
  have := itR_cts c [] [] h
  rw [List.append_nil] at this
  rw [Int.toNat_natCast]
  exact this
theorem parts_ok (L : List (List Int)) (b : List DS) (c k : List Nat) (h1 : rd_L1 L 1 = zs (statesB b)) (h2 : rd_L1 L 2 = zs (countsB c)) (h3 : rd_L1 L 3 = zs k) (hL : Low 0 b) (hl : b.length < 1000000000) (hs : ∀ s ∈ b, s.2.length ≤ 256) (hcl : c.length < 1000000000) (hc : ∀ n ∈ c, n ≤ 4611686018427387904) : partsR L = (b.map toS, zs c, zs k, false) := by
  unfold partsR
  dsimp only
  rw [h1, h2, h3, all_sts b hL hl hs]
  dsimp only
  rw [all_cts c hcl hc]
end Go.Proofs.Ytgebhidpkcjpmaa.K

namespace Go.Proofs.Ytgebhidpkcjpmaa.PSh16
open Go.RowKit Go.Proofs.YtgebhidpkcjpmaaW.PrintWords Go.Proofs.YtgebhidpkcjpmaaW.PrintLast Go.Proofs.YtgebhidpkcjpmaaW.PrintMore Go.Proofs.Ytgebhidpkcjpmaa.K Go.Proofs.Ytgebhidpkcjpmaa.PDk Go.Proofs.Ytgebhidpkcjpmaa.PDm Go.Proofs.Ytgebhidpkcjpmaa.PEn Go.Proofs.Ytgebhidpkcjpmaa.PFl Go.Proofs.Ytgebhidpkcjpmaa.PIx Go.Proofs.Ytgebhidpkcjpmaa.PLg Go.Proofs.Ytgebhidpkcjpmaa.PMk Go.Proofs.Ytgebhidpkcjpmaa.PR13
attribute [local go_sem] max2_int min2_int max_two min_two max_three min_three max_four min_four   -- for this text's walks alone
set_option linter.unusedVariables false
set_option linter.unusedSimpArgs false



def errW : Option Int → Value
  | none => .nilIface
  | some c => .iface 0 (.int .i64 c)
theorem errW_none : errW none = .nilIface := rfl
theorem errW_some (c : Int) : errW (some c) = .iface 0 (.int .i64 c) := rfl

end Go.Proofs.Ytgebhidpkcjpmaa.PSh16

namespace Go.Proofs.Ytgebhidpkcjpmaa.PSh16
open Go.RowKit Go.Proofs.YtgebhidpkcjpmaaW.PrintWords Go.Proofs.YtgebhidpkcjpmaaW.PrintLast Go.Proofs.YtgebhidpkcjpmaaW.PrintMore Go.Proofs.Ytgebhidpkcjpmaa.K Go.Proofs.Ytgebhidpkcjpmaa.PDk Go.Proofs.Ytgebhidpkcjpmaa.PDm Go.Proofs.Ytgebhidpkcjpmaa.PEn Go.Proofs.Ytgebhidpkcjpmaa.PFl Go.Proofs.Ytgebhidpkcjpmaa.PIx Go.Proofs.Ytgebhidpkcjpmaa.PLg Go.Proofs.Ytgebhidpkcjpmaa.PMk Go.Proofs.Ytgebhidpkcjpmaa.PR13
attribute [local go_sem] max2_int min2_int max_two min_two max_three min_three max_four min_four   -- for this text's walks alone
set_option linter.unusedVariables false
set_option linter.unusedSimpArgs false

def manteletlaw16_shown.f (k : Nat)  : Option (Bool) := (file_Make.f k ([] : List (S49))).bind fun bt101 => ((file_Encode.f k bt101.1 bt101.2.1 bt101.2.2.1).bind fun bt112 => ((file_Make.f k (([(⟨(⟨#[97]⟩ : ByteArray), 3⟩ : S49)] : List (S49)))).bind fun bt119 => (if bt101.2.2.2 = 0 then (if bt112.2 = 0 then (if bt119.2.2.2 = 0 then (if (bt101.1.length : Int) = 1 then (if (bt112.1.length : Int) = 31 then (if (bt119.1.length : Int) = 2 then (if (bt119.2.1.length : Int) = 1 then (if 0 < (bt119.2.1.length : Int) then (some ((rd bt119.2.1 0) == 3)) else (none)) else (some false)) else (some false)) else (some false)) else (some false)) else (some false)) else (some false)) else (some false))))
end Go.Proofs.Ytgebhidpkcjpmaa.PSh16

namespace Go.Proofs.Ytgebhidpkcjpmaa.PSh16
open Go.RowKit Go.Proofs.YtgebhidpkcjpmaaW.PrintWords Go.Proofs.YtgebhidpkcjpmaaW.PrintLast Go.Proofs.YtgebhidpkcjpmaaW.PrintMore Go.Proofs.Ytgebhidpkcjpmaa.K Go.Proofs.Ytgebhidpkcjpmaa.PDk Go.Proofs.Ytgebhidpkcjpmaa.PDm Go.Proofs.Ytgebhidpkcjpmaa.PEn Go.Proofs.Ytgebhidpkcjpmaa.PFl Go.Proofs.Ytgebhidpkcjpmaa.PIx Go.Proofs.Ytgebhidpkcjpmaa.PLg Go.Proofs.Ytgebhidpkcjpmaa.PMk Go.Proofs.Ytgebhidpkcjpmaa.PR13
attribute [local go_sem] max2_int min2_int max_two min_two max_three min_three max_four min_four   -- for this text's walks alone
set_option linter.unusedVariables false
set_option linter.unusedSimpArgs false

end Go.Proofs.Ytgebhidpkcjpmaa.PSh16

namespace Go.Proofs.Ytgebhidpkcjpmaa.K
open Go.RowKit Go.Proofs.YtgebhidpkcjpmaaW.PrintWords Go.Proofs.YtgebhidpkcjpmaaW.PrintLast Go.Proofs.YtgebhidpkcjpmaaW.PrintMore Go.Proofs.Ytgebhidpkcjpmaa
attribute [local go_sem] max2_int min2_int max_two min_two max_three min_three max_four min_four
set_option linter.unusedVariables false
set_option linter.unusedSimpArgs false
open Go Go.Proofs.Ytgebhidpkcjpmaa.PR13 Go.Proofs.Ytgebhidpkcjpmaa.PDk Go.Proofs.Ytgebhidpkcjpmaa.PDm Go.Proofs.Ytgebhidpkcjpmaa.PIx Go.Proofs.Ytgebhidpkcjpmaa.PFl Go.Proofs.Ytgebhidpkcjpmaa.PLg Go.Proofs.Ytgebhidpkcjpmaa.PMk Go.Proofs.Ytgebhidpkcjpmaa.PEn Go.Proofs.Ytgebhidpkcjpmaa.PSh16 Go.Proofs.Ytgebhidpkcjpmaa.Daw Go.Proofs.Ytgebhidpkcjpmaa.Fil Go.Proofs.Ytgebhidpkcjpmaa.Crc
def cN (l : List EnS) : List Nat := (Cl l).map Int.toNat
def kN (l : List EnS) : List Nat := (classesL l).map Int.toNat
/-- The dictionary of entries, as bytes. -/
def dictB (l : List EnS) : List Nat := encB sumB (build (wordsN (Wl l))) (cN l) (kN l)
theorem zs_toNat {c : List Int} (h : ∀ n ∈ c, 0 ≤ n) : zs (c.map Int.toNat) = c := by
  unfold zs
  rw [List.map_map]
  refine (List.map_congr_left fun n hn => ?_).trans (List.map_id c)
  have := h n hn
  show Int.ofNat n.toNat = n
  simp; omega
namespace Ents
variable {l : List EnS} (h : Ents l)
include h
theorem cl_pos (n : Int) (hn : n ∈ Cl l) : 1 ≤ n ∧ n ≤ 4611686018427387904 := by
  obtain ⟨x, hx, rfl⟩ := List.mem_map.1 hn
  exact ((fineB_iff x).1 (h.fine x hx)).2.2
theorem zs_c : zs (cN l) = Cl l := zs_toNat fun n hn => by have := h.cl_pos n hn; omega
omit h in
theorem zs_k : zs (kN l) = classesL l := zs_toNat fun n hn => by
  unfold classesL at hn
  obtain ⟨x, _, rfl⟩ := List.mem_map.1 hn
  exact cls_nonneg _ _
theorem low : Low 0 (build (wordsN (Wl l))) := fun k s hk e he => by
  have := ((build_good (Wl l) h.ne h.rise).2.1 k s hk).1.1 e he
  omega
theorem encoded (hb : bytesAll (Wl l) ≤ 149000) : Ev (fun k => file_Encode.f k ((build (wordsN (Wl l))).map toS) (Cl l) (classesL l)) (zs (dictB l), 0) := by
  obtain ⟨g1, g2, g3, g4⟩ := build_good (Wl l) h.ne h.rise
  have hsum := sum_all (Wl l)
  have hn := h.n
  have hn2 : 2 * l.length + 1 ≤ bytesAll (Wl l) := by
    have key : ∀ L : List ByteArray, (∀ x ∈ L, 1 ≤ x.size) → 2 * L.length + 1 ≤ bytesAll L := by
      intro L
      induction L with
      | nil => intro _; simp [bytesAll]
      | cons a L ih =>
        intro hL
        have h1 := ih fun x hx => hL x (by simp [hx])
        have h2 := hL a (by simp)
        unfold bytesAll at h1 ⊢
        simp only [List.map_cons, List.sum_cons, List.length_cons]; omega
    have := key (Wl l) fun x hx => by
      obtain ⟨y, hy, rfl⟩ := List.mem_map.1 hx
      have := ((fineB_iff y).1 (h.fine y hy)).1
      omega
    rwa [Wl_len] at this
  have hgs : ∀ s ∈ build (wordsN (Wl l)), s.2.length ≤ 256 ∧ Byt s := fun s hs => by
    obtain ⟨i, hi, rfl⟩ := List.getElem_of_mem hs
    exact (g2 i _ (List.getElem?_eq_getElem hi)).2.2
  have hed := build_ed (wordsN (Wl l))
  have hle : ((wordsN (Wl l)).map List.length).sum = ((Wl l).map ByteArray.size).sum := by
    unfold wordsN
    rw [List.map_map]
    congr 1
    apply List.map_congr_left
    intro s _
    simp [Utf.nats]
  rw [hle] at hed
  have hwt : wt (build (wordsN (Wl l))) = edN (build (wordsN (Wl l))) + (build (wordsN (Wl l))).length := by
    generalize build (wordsN (Wl l)) = b
    induction b with
    | nil => rfl
    | cons s b ih => rw [wt_cons, edN_cons, ih, List.length_cons]; omega
  have hst := statesB_len (build (wordsN (Wl l))) (by omega) fun s hs => by have := (hgs s hs).1; omega
  have hcl : (cN l).length = l.length := by unfold cN; rw [List.length_map, Cl_len]
  have hkl : (kN l).length = l.length := by unfold kN classesL; simp
  have hcb : ∀ n ∈ cN l, n < 18446744073709551616 := fun n hn => by
    obtain ⟨x, hx, rfl⟩ := List.mem_map.1 hn
    have := h.cl_pos x hx
    omega
  have hct : (countsB (cN l)).length ≤ 11 * (l.length + 1) := by
    have hfl : ∀ l : List Nat, (∀ n ∈ l, n < 18446744073709551616) → (l.flatMap put).length ≤ 11 * l.length := fun l hl => by
      induction l with
      | nil => simp
      | cons a l ih =>
        rw [List.flatMap_cons, List.length_append, List.length_cons]
        have h1 := put10 a (hl a (by simp))
        have h2 := ih fun n hn => hl n (by simp [hn])
        omega
    unfold countsB
    have h1 := hfl _ hcb
    have h2 := put10 (cN l).length (by omega)
    rw [List.length_append]
    omega
  have hm := may_ev h
  rw [← h.zs_c, ← zs_k] at hm ⊢
  refine encode_ev _ _ _ hm h.low (by omega) (fun s hs => by have := (hgs s hs).1; omega) (by omega) (fun s hs e he => (hgs s hs).2 e he) (by omega) hcb (by omega) (fun n hn => ?_) (by omega) (by omega)
  obtain ⟨x, hx, rfl⟩ := List.mem_map.1 hn
  unfold classesL at hx
  obtain ⟨y, _, rfl⟩ := List.mem_map.1 hx
  have h1 := cls_nonneg (l.map S49.f1) y.f1
  have h2 := cls_le255 (l.map S49.f1) y.f1
  omega
end Ents
end Go.Proofs.Ytgebhidpkcjpmaa.K

namespace Go.Proofs.Ytgebhidpkcjpmaa.K
open Go.RowKit Go.Proofs.YtgebhidpkcjpmaaW.PrintWords Go.Proofs.YtgebhidpkcjpmaaW.PrintLast Go.Proofs.YtgebhidpkcjpmaaW.PrintMore Go.Proofs.Ytgebhidpkcjpmaa
attribute [local go_sem] max2_int min2_int max_two min_two max_three min_three max_four min_four
set_option linter.unusedVariables false
set_option linter.unusedSimpArgs false
open Go Go.Proofs.Ytgebhidpkcjpmaa.PR13 Go.Proofs.Ytgebhidpkcjpmaa.PDk Go.Proofs.Ytgebhidpkcjpmaa.PDm Go.Proofs.Ytgebhidpkcjpmaa.PIx Go.Proofs.Ytgebhidpkcjpmaa.PFl Go.Proofs.Ytgebhidpkcjpmaa.PLg Go.Proofs.Ytgebhidpkcjpmaa.PMk Go.Proofs.Ytgebhidpkcjpmaa.PEn Go.Proofs.Ytgebhidpkcjpmaa.Daw Go.Proofs.Ytgebhidpkcjpmaa.Fil Go.Proofs.Ytgebhidpkcjpmaa.Crc
open Classical
theorem str_zs {a b : List Nat} (ha : ∀ x ∈ a, x < 256) (hb : ∀ x ∈ b, x < 256) : ((strOfNums (zs a)).toList == (strOfNums (zs b)).toList) = decide (a = b) := by
  have e : ∀ a : List Nat, (∀ x ∈ a, x < 256) → Utf.nats (strOfNums (zs a)) = a := fun a ha => by
    rw [nats_str]
    unfold zs
    rw [List.map_map]
    refine (List.map_congr_left fun n hn => ?_).trans (List.map_id a)
    have := ha n hn
    show (Int.ofNat n).toNat % 256 = n
    simp; omega
  rw [str_eq, decide_eq_decide, e a ha, e b hb]
theorem sumB_lt (p : List Nat) : ∀ x ∈ sumB p, x < 256 := by
  intro x hx
  unfold sumB at hx
  simp only [List.mem_cons, List.not_mem_nil, or_false] at hx
  rcases hx with rfl | rfl | rfl | rfl <;> omega
theorem recB_lt {p : List Nat} (h : ∀ x ∈ p, x < 256) : ∀ x ∈ recB sumB p, x < 256 := by
  intro x hx
  unfold recB at hx
  rcases List.mem_append.1 hx with hx | hx
  · exact put_lt _ x hx
  · rcases List.mem_append.1 hx with hx | hx
    · exact h x hx
    · exact sumB_lt p x hx
theorem stsB_lt : ∀ (l : List DS) (i : Nat), (∀ s ∈ l, ∀ e ∈ s.2, e.1 < 256) → ∀ x ∈ stsB i l, x < 256
  | [], i, _, x, hx => by simp [stsB] at hx
  | s :: l, i, hl, x, hx => by
    unfold stsB stB at hx
    rcases List.mem_append.1 hx with hx | hx
    · rcases List.mem_append.1 hx with hx | hx
      · exact put_lt _ x hx
      · obtain ⟨e, he, hx⟩ := List.mem_flatMap.1 hx
        unfold edB at hx
        rcases List.mem_cons.1 hx with rfl | hx
        · exact hl s (by simp) e he
        · exact put_lt _ x hx
    · exact stsB_lt l (i + 1) (fun t ht => hl t (by simp [ht])) x hx
theorem statesB_lt {b : List DS} (h : ∀ s ∈ b, ∀ e ∈ s.2, e.1 < 256) : ∀ x ∈ statesB b, x < 256 := by
  intro x hx
  unfold statesB at hx
  rcases List.mem_append.1 hx with hx | hx
  · exact put_lt _ x hx
  · exact stsB_lt b 0 h x hx
theorem countsB_lt (c : List Nat) : ∀ x ∈ countsB c, x < 256 := by
  intro x hx
  unfold countsB at hx
  rcases List.mem_append.1 hx with hx | hx
  · exact put_lt _ x hx
  · obtain ⟨n, _, hx⟩ := List.mem_flatMap.1 hx
    exact put_lt _ x hx
theorem kN_lt (l : List EnS) : ∀ n ∈ kN l, n < 256 := fun n hn => by
  obtain ⟨x, hx, rfl⟩ := List.mem_map.1 hn
  unfold classesL at hx
  obtain ⟨y, _, rfl⟩ := List.mem_map.1 hx
  have h1 := cls_nonneg (l.map S49.f1) y.f1
  have h2 := cls_le255 (l.map S49.f1) y.f1
  omega
theorem Ents.byt {l : List EnS} (h : Ents l) : ∀ s ∈ build (wordsN (Wl l)), ∀ e ∈ s.2, e.1 < 256 := fun s hs e he => build_byt (wordsN (Wl l)) (wordsN_byt (Wl l)) s hs e he
theorem dictB_lt {l : List EnS} (h : Ents l) : ∀ x ∈ dictB l, x < 256 := by
  intro x hx
  unfold dictB encB at hx
  rcases List.mem_append.1 hx with hx | hx
  · exact recB_lt (by decide) x hx
  rcases List.mem_append.1 hx with hx | hx
  · exact recB_lt (statesB_lt h.byt) x hx
  rcases List.mem_append.1 hx with hx | hx
  · exact recB_lt (countsB_lt _) x hx
  · exact recB_lt (kN_lt l) x hx
end Go.Proofs.Ytgebhidpkcjpmaa.K

namespace Go.Proofs.Ytgebhidpkcjpmaa.K
open Go.RowKit Go.Proofs.YtgebhidpkcjpmaaW.PrintWords Go.Proofs.YtgebhidpkcjpmaaW.PrintLast Go.Proofs.YtgebhidpkcjpmaaW.PrintMore Go.Proofs.Ytgebhidpkcjpmaa
attribute [local go_sem] max2_int min2_int max_two min_two max_three min_three max_four min_four
set_option linter.unusedVariables false
set_option linter.unusedSimpArgs false
open Go Go.Proofs.Ytgebhidpkcjpmaa.PDk Go.Proofs.Ytgebhidpkcjpmaa.PFl Go.Proofs.Ytgebhidpkcjpmaa.PFg Go.Proofs.Ytgebhidpkcjpmaa.PEn Go.Proofs.Ytgebhidpkcjpmaa.Daw Go.Proofs.Ytgebhidpkcjpmaa.Fil Go.Proofs.Ytgebhidpkcjpmaa.Crc
theorem byt_app {a b : List Int} (ha : byt a = true) (hb : byt b = true) : byt (a ++ b) = true := by
  unfold byt at *; rw [List.all_append, ha, hb]; rfl
/-- A record with which bytes begin. -/
theorem get_rec (p q : List Nat) (rest : List Int) (hp : ∀ x ∈ p, x < 256) (hl : p.length ≤ 1048576) (hq : ∀ x ∈ q, x < 256) (hq4 : q.length = 4) (hr : byt rest = true) (hrl : rest.length < 1000000000) (r : List Int × Int × Int)
    (hR : r = if q = sumB p then (zs p, (((put p.length).length + p.length + 4 : Nat) : Int), (0 : Int)) else (([] : List Int), (0 : Int), (4 : Int))) :
    Ev (fun k => frame_Get.f k (zs (put p.length) ++ (zs p ++ (zs q ++ rest)))) r := by
  have hb : byt (zs (put p.length) ++ (zs p ++ (zs q ++ rest))) = true := byt_app (zs_byt (put_lt _)) (byt_app (zs_byt hp) (byt_app (zs_byt hq) hr))
  have h10 := put10 p.length (by omega)
  have hz := getG_put p.length (by omega) (zs p ++ (zs q ++ rest))
  have w1 : Go.RowKit.wrap64 (p.length : Int) = (p.length : Int) := wz (by omega) (by omega)
  have w2 : Go.RowKit.wrap64 (((put p.length).length : Int) + (p.length : Int)) = (((put p.length).length + p.length : Nat) : Int) := by rw [wz (by omega) (by omega)]; omega
  have w3 : Go.RowKit.wrap64 ((((put p.length).length + p.length : Nat) : Int) + 4) = (((put p.length).length + p.length + 4 : Nat) : Int) := by rw [wz (by omega) (by omega)]; omega
  have hlen : (zs (put p.length) ++ (zs p ++ (zs q ++ rest))).length = (put p.length).length + p.length + 4 + rest.length := by
    simp only [List.length_append, zs_len, hq4]; omega
  unfold frame_Get.f num_Get.f
  rw [if_pos hb, hz]
  refine Ev.bind (Ev.now _) ?_
  dsimp only
  refine Ev.congr (fun k => if_pos rfl) ?_
  refine Ev.congr (fun k => if_neg (by omega)) ?_
  rw [w1, w2, w3, hlen]
  refine Ev.congr (fun k => if_neg (by omega)) ?_
  refine Ev.congr (fun k => if_pos (by omega)) ?_
  refine Ev.congr (fun k => if_pos (by omega)) ?_
  refine Ev.congr (fun k => if_pos (by omega)) ?_
  have e1 : ((zs (put p.length) ++ (zs p ++ (zs q ++ rest))).take (((put p.length).length + p.length : Nat) : Int).toNat).drop ((put p.length).length : Int).toNat = zs p := by
    rw [Int.toNat_natCast, Int.toNat_natCast, List.drop_take, show (put p.length).length = (zs (put p.length)).length from (zs_len _).symm, List.drop_left, Nat.add_sub_cancel_left, show p.length = (zs p).length from (zs_len _).symm, List.take_left]
  have e2 : ((zs (put p.length) ++ (zs p ++ (zs q ++ rest))).take (((put p.length).length + p.length + 4 : Nat) : Int).toNat).drop (((put p.length).length + p.length : Nat) : Int).toNat = zs q := by
    rw [Int.toNat_natCast, Int.toNat_natCast, List.drop_take, ← List.append_assoc, show (put p.length).length + p.length = (zs (put p.length) ++ zs p).length by rw [List.length_append, zs_len, zs_len], List.drop_left, Nat.add_sub_cancel_left, show 4 = (zs q).length by rw [zs_len, hq4], List.take_left]
  rw [e1, e2]
  unfold bytes_Clone.f
  refine Ev.bind (Ev.congr (fun k => if_pos (by rw [zs_len]; omega)) (Ev.now _)) ?_
  refine Ev.congr (fun k => if_pos (by omega)) ?_
  refine Ev.congr (fun k => if_pos (by omega)) ?_
  refine Ev.congr (fun k => if_pos (by omega)) ?_
  refine Ev.bind (sum_ev (zs p) (zs_byt hp)) ?_
  rw [zs_nat]
  unfold bytes_Equal.f
  refine Ev.bind (Ev.now _) ?_
  rw [str_zs hq (sumB_lt p), hR]
  by_cases h : q = sumB p
  · rw [if_pos h]
    exact Ev.congr (fun k => if_pos (decide_eq_true h)) (Ev.now _)
  · rw [if_neg h]
    exact Ev.congr (fun k => if_neg (by rw [decide_eq_false h]; decide)) (Ev.now _)
end Go.Proofs.Ytgebhidpkcjpmaa.K

namespace Go.Proofs.Ytgebhidpkcjpmaa.K
open Go.RowKit Go.Proofs.YtgebhidpkcjpmaaW.PrintWords Go.Proofs.YtgebhidpkcjpmaaW.PrintLast Go.Proofs.YtgebhidpkcjpmaaW.PrintMore Go.Proofs.Ytgebhidpkcjpmaa
attribute [local go_sem] max2_int min2_int max_two min_two max_three min_three max_four min_four
set_option linter.unusedVariables false
set_option linter.unusedSimpArgs false
open Go Go.Proofs.Ytgebhidpkcjpmaa.PR13 Go.Proofs.Ytgebhidpkcjpmaa.PDk Go.Proofs.Ytgebhidpkcjpmaa.PDm Go.Proofs.Ytgebhidpkcjpmaa.PIx Go.Proofs.Ytgebhidpkcjpmaa.PFl Go.Proofs.Ytgebhidpkcjpmaa.PLg Go.Proofs.Ytgebhidpkcjpmaa.PFg Go.Proofs.Ytgebhidpkcjpmaa.PMk Go.Proofs.Ytgebhidpkcjpmaa.PEn Go.Proofs.Ytgebhidpkcjpmaa.Daw Go.Proofs.Ytgebhidpkcjpmaa.Fil Go.Proofs.Ytgebhidpkcjpmaa.Crc
namespace Ents
variable {l : List EnS} (h : Ents l)
include h
theorem lens (hb : bytesAll (Wl l) ≤ 149000) : (statesB (build (wordsN (Wl l)))).length ≤ 1048576 ∧ (countsB (cN l)).length ≤ 1048576 ∧ (kN l).length ≤ 1048576 ∧ (build (wordsN (Wl l))).length < 1000000000 ∧ (cN l).length < 1000000000 ∧ (∀ s ∈ build (wordsN (Wl l)), s.2.length ≤ 256) ∧ (∀ n ∈ cN l, n ≤ 4611686018427387904) := by
  obtain ⟨g1, g2, g3, g4⟩ := build_good (Wl l) h.ne h.rise
  have hsum := sum_all (Wl l)
  have hn := h.n
  have hn2 : 2 * l.length + 1 ≤ bytesAll (Wl l) := by
    have key : ∀ L : List ByteArray, (∀ x ∈ L, 1 ≤ x.size) → 2 * L.length + 1 ≤ bytesAll L := by
      intro L
      induction L with
      | nil => intro _; simp [bytesAll]
      | cons a L ih =>
        intro hL
        have h1 := ih fun x hx => hL x (by simp [hx])
        have h2 := hL a (by simp)
        unfold bytesAll at h1 ⊢
        simp only [List.map_cons, List.sum_cons, List.length_cons]; omega
    have := key (Wl l) fun x hx => by
      obtain ⟨y, hy, rfl⟩ := List.mem_map.1 hx
      have := ((fineB_iff y).1 (h.fine y hy)).1
      omega
    rwa [Wl_len] at this
  have hgs : ∀ s ∈ build (wordsN (Wl l)), s.2.length ≤ 256 ∧ Byt s := fun s hs => by
    obtain ⟨i, hi, rfl⟩ := List.getElem_of_mem hs
    exact (g2 i _ (List.getElem?_eq_getElem hi)).2.2
  have hed := build_ed (wordsN (Wl l))
  have hle : ((wordsN (Wl l)).map List.length).sum = ((Wl l).map ByteArray.size).sum := by
    unfold wordsN
    rw [List.map_map]
    congr 1
    apply List.map_congr_left
    intro s _
    simp [Utf.nats]
  rw [hle] at hed
  have hwt : wt (build (wordsN (Wl l))) = edN (build (wordsN (Wl l))) + (build (wordsN (Wl l))).length := by
    generalize build (wordsN (Wl l)) = b
    induction b with
    | nil => rfl
    | cons s b ih => rw [wt_cons, edN_cons, ih, List.length_cons]; omega
  have hst := statesB_len (build (wordsN (Wl l))) (by omega) fun s hs => by have := (hgs s hs).1; omega
  have hcl : (cN l).length = l.length := by unfold cN; rw [List.length_map, Cl_len]
  have hkl : (kN l).length = l.length := by unfold kN classesL; simp
  have hcb : ∀ n ∈ cN l, n < 18446744073709551616 := fun n hn => by
    obtain ⟨x, hx, rfl⟩ := List.mem_map.1 hn
    have := h.cl_pos x hx
    omega
  have hct : (countsB (cN l)).length ≤ 11 * (l.length + 1) := by
    have hfl : ∀ l : List Nat, (∀ n ∈ l, n < 18446744073709551616) → (l.flatMap put).length ≤ 11 * l.length := fun l hl => by
      induction l with
      | nil => simp
      | cons a l ih =>
        rw [List.flatMap_cons, List.length_append, List.length_cons]
        have h1 := put10 a (hl a (by simp))
        have h2 := ih fun n hn => hl n (by simp [hn])
        omega
    unfold countsB
    have h1 := hfl _ hcb
    have h2 := put10 (cN l).length (by omega)
    rw [List.length_append]
    omega
  refine ⟨by omega, by omega, by omega, by omega, by omega, fun s hs => (hgs s hs).1, fun n hn => ?_⟩
  obtain ⟨x, hx, rfl⟩ := List.mem_map.1 hn
  have := h.cl_pos x hx
  omega
end Ents
def recs (ps : List (List Nat)) : List Nat := ps.flatMap (recB sumB)
def FineP (p : List Nat) : Prop := (∀ x ∈ p, x < 256) ∧ p.length ≤ 1048576
theorem recB_size (p : List Nat) (h : FineP p) : (recB sumB p).length = (put p.length).length + p.length + 4 ∧ (put p.length).length ≤ 11 := by
  refine ⟨?_, put10 _ (by have := h.2; omega)⟩
  unfold recB; rw [List.length_append, List.length_append, sumB_len]; omega
theorem scan_l0 : ∀ (ps : List (List Nat)) (acc : List (List Int)) (pre tail : List Int) (r : List Int × Int × Int), (∀ p ∈ ps, FineP p) → byt tail = true → (recs ps).length + pre.length + tail.length < 1000000000 → acc.length + ps.length < 1000000000 → Ev (fun k => frame_Get.f k tail) r → r.2.2 ≠ 0 →
    Ev (fun k => frame_Scan.l0 k (pre ++ (zs (recs ps) ++ tail)) acc (pre.length : Int)) (acc ++ ps.map zs, ((pre.length + (recs ps).length : Nat) : Int))
  | [], acc, pre, tail, r, _, ht, hl, ha, hG, hr => by
    refine Ev.step (fun k => show frame_Scan.l0 (k + 1) _ _ _ = _ by unfold frame_Scan.l0; rfl) ?_
    refine Ev.congr (fun k => if_pos (by omega)) ?_
    refine Ev.congr (fun k => if_pos (by rw [List.length_append]; omega)) ?_
    have e : (pre ++ (zs (recs []) ++ tail)).drop ((pre.length : Int)).toNat = tail := by rw [Int.toNat_natCast, List.drop_left]; rfl
    rw [e]
    refine Ev.bind hG ?_
    refine Ev.congr (fun k => if_neg hr) ?_
    simpa [recs] using Ev.now (acc, (pre.length : Int))
  | p :: ps, acc, pre, tail, r, hp, ht, hl, ha, hG, hr => by
    have hpp := hp p (by simp)
    have hps : ∀ q ∈ ps, FineP q := fun q hq => hp q (by simp [hq])
    have hsz := recB_size p hpp
    have hrb : ∀ x ∈ recs ps, x < 256 := fun x hx => by
      obtain ⟨q, hq, hx⟩ := List.mem_flatMap.1 hx
      exact recB_lt (hps q hq).1 x hx
    have er : recs (p :: ps) = recB sumB p ++ recs ps := by unfold recs; rw [List.flatMap_cons]
    have erl : (recs (p :: ps)).length = (recB sumB p).length + (recs ps).length := by rw [er, List.length_append]
    have hshape : pre ++ (zs (recs (p :: ps)) ++ tail) = pre ++ (zs (put p.length) ++ (zs p ++ (zs (sumB p) ++ (zs (recs ps) ++ tail)))) := by
      rw [er]; unfold recB; rw [zs_app, zs_app, zs_app]; simp only [List.append_assoc]
    have hget := get_rec p (sumB p) (zs (recs ps) ++ tail) hpp.1 hpp.2 (sumB_lt p) rfl (byt_app (zs_byt hrb) ht) (by rw [List.length_append, zs_len]; omega) _ rfl
    rw [if_pos rfl] at hget
    refine Ev.step (fun k => show frame_Scan.l0 (k + 1) _ _ _ = _ by unfold frame_Scan.l0; rfl) ?_
    refine Ev.congr (fun k => if_pos (by omega)) ?_
    refine Ev.congr (fun k => if_pos (by rw [List.length_append]; omega)) ?_
    rw [hshape, Int.toNat_natCast, List.drop_left]
    refine Ev.bind hget ?_
    refine Ev.congr (fun k => if_pos rfl) ?_
    refine Ev.congr (fun k => if_pos (by rw [List.length_cons] at ha; omega)) ?_
    dsimp only
    have hw : Go.RowKit.wrap64 ((pre.length : Int) + (((put p.length).length + p.length + 4 : Nat) : Int)) = ((pre ++ zs (recB sumB p)).length : Int) := by
      rw [wz (by omega) (by omega), List.length_append, zs_len, hsz.1]; omega
    rw [hw, ← hshape]
    have ih := scan_l0 ps (acc ++ [zs p]) (pre ++ zs (recB sumB p)) tail r hps ht (by rw [List.length_append, zs_len]; omega) (by rw [List.length_append]; simp only [List.length_cons, List.length_nil] at ha ⊢; omega) hG hr
    have e2 : pre ++ zs (recB sumB p) ++ (zs (recs ps) ++ tail) = pre ++ (zs (recs (p :: ps)) ++ tail) := by rw [er, zs_app]; simp only [List.append_assoc]
    rw [e2] at ih
    have e3 : (acc ++ [zs p] ++ ps.map zs, (((pre ++ zs (recB sumB p)).length + (recs ps).length : Nat) : Int)) = (acc ++ (p :: ps).map zs, ((pre.length + (recs (p :: ps)).length : Nat) : Int)) := by
      rw [erl, List.length_append, zs_len]
      simp [Nat.add_assoc]
    rw [e3] at ih
    exact ih
theorem scan_ev (ps : List (List Nat)) (tail : List Int) (r : List Int × Int × Int) (hp : ∀ p ∈ ps, FineP p) (ht : byt tail = true) (hl : (recs ps).length + tail.length < 1000000000) (hpl : ps.length < 1000000000) (hG : Ev (fun k => frame_Get.f k tail) r) (hr : r.2.2 ≠ 0) :
    Ev (fun k => frame_Scan.f k (zs (recs ps) ++ tail)) (ps.map zs, ((recs ps).length : Int)) := by
  have := scan_l0 ps [] [] tail r hp ht (by simpa using hl) (by simpa using hpl) hG hr
  simpa [frame_Scan.f] using this
/-- Bytes too few for a record, at whatever number begins. -/
theorem get_few (B : List Int) (hb : byt B = true) (hB : (getG B).2.2 = 3 ∨ ((getG B).2.2 = 0 ∧ (getG B).1 ≤ 1048576 ∧ 0 ≤ (getG B).1 ∧ 0 ≤ (getG B).2.1 ∧ (getG B).2.1 ≤ 1000000 ∧ (B.length : Int) < (getG B).2.1 + (getG B).1 + 4)) : Ev (fun k => frame_Get.f k B) ([], 0, 3) := by
  unfold frame_Get.f num_Get.f
  rw [if_pos hb]
  refine Ev.bind (Ev.now _) ?_
  rcases hB with h | ⟨h, h1, h2, h3, h4, h5⟩
  · refine Ev.congr (fun k => if_neg (by rw [h]; decide)) ?_
    rw [h]
    exact Ev.now _
  · refine Ev.congr (fun k => if_pos h) ?_
    refine Ev.congr (fun k => if_neg (by omega)) ?_
    refine Ev.congr (fun k => if_pos ?_) (Ev.now _)
    rw [wz (x := (getG B).1) (by omega) (by omega), wz (x := (getG B).2.1 + (getG B).1) (by omega) (by omega), wz (by omega) (by omega)]
    exact h5
def bad2 : List S82 × List Int × List Int × Int := ([], [], [], 2)
section
variable {l : List EnS} (h : Ents l) (hb : bytesAll (Wl l) ≤ 149000)
include h hb
theorem dec_parts {B : List Nat} (hB : ∀ x ∈ B, x < 256) (p : List Nat) (n : Int) (r : List S82 × List Int × List Int × Int)
    (hS : Ev (fun k => frame_Scan.f k (zs B)) ([p, statesB (build (wordsN (Wl l))), countsB (cN l), kN l].map zs, n)) (hr : r = if B = dictB l then ((build (wordsN (Wl l))).map toS, Cl l, classesL l, (0 : Int)) else bad2) : Ev (fun k => file_Decode.f k (zs B)) r := by
  obtain ⟨l1, l2, l3, l4, l5, l6, l7⟩ := h.lens hb
  have hP := parts_ok ([p, statesB (build (wordsN (Wl l))), countsB (cN l), kN l].map zs) (build (wordsN (Wl l))) (cN l) (kN l) rfl rfl rfl h.low l4 l6 l5 l7
  rw [h.zs_c, Ents.zs_k] at hP
  unfold file_Decode.f
  refine Ev.bind hS ?_
  refine Ev.congr (fun k => if_pos rfl) ?_
  refine Ev.congr (fun k => if_pos ?_) ?_
  · show decOk _ = true
    unfold decOk
    simp only [Bool.and_eq_true, decide_eq_true_eq]
    refine ⟨⟨⟨⟨⟨?_, ?_⟩, ?_⟩, ?_⟩, ?_⟩, ?_⟩
    · exact zs_byt (statesB_lt h.byt)
    · exact zs_byt (countsB_lt _)
    · exact zs_byt (kN_lt l)
    · show (zs _).length < _; rw [zs_len]; omega
    · show (zs _).length < _; rw [zs_len]; omega
    · show (zs _).length < _; rw [zs_len]; omega
  refine Ev.congr (fun k => if_neg ?_) ?_
  · show ¬ (partsR _).2.2.2 = true
    rw [hP]; exact Bool.false_ne_true
  dsimp only
  rw [hP]
  refine Ev.bind (h.encoded hb) ?_
  refine Ev.congr (fun k => if_pos rfl) ?_
  dsimp only
  rw [str_zs (dictB_lt h) hB, hr]
  by_cases e : B = dictB l
  · rw [if_pos e]
    exact Ev.congr (fun k => if_pos (decide_eq_true e.symm)) (Ev.now _)
  · rw [if_neg e]
    exact Ev.congr (fun k => if_neg (by rw [decide_eq_false (fun x => e x.symm)]; decide)) (Ev.now _)
theorem fine_parts : ∀ p ∈ [statesB (build (wordsN (Wl l))), countsB (cN l), kN l], FineP p := by
  obtain ⟨l1, l2, l3, l4, l5, l6, l7⟩ := h.lens hb
  intro p hp
  simp only [List.mem_cons, List.not_mem_nil, or_false] at hp
  rcases hp with rfl | rfl | rfl
  · exact ⟨statesB_lt h.byt, l1⟩
  · exact ⟨countsB_lt _, l2⟩
  · exact ⟨kN_lt l, l3⟩
theorem fine_all : ∀ p ∈ [magicB, statesB (build (wordsN (Wl l))), countsB (cN l), kN l], FineP p := by
  intro p hp
  rcases List.mem_cons.1 hp with rfl | hp
  · exact ⟨by decide, by decide⟩
  · exact fine_parts h hb p hp
omit h hb in
theorem dict_recs (l : List EnS) : dictB l = recs [magicB, statesB (build (wordsN (Wl l))), countsB (cN l), kN l] := by
  unfold dictB encB recs; simp
omit h hb in
theorem recs_small : ∀ (ps : List (List Nat)), (∀ p ∈ ps, FineP p) → (recs ps).length ≤ ps.length * 1048591
  | [], _ => by simp [recs]
  | p :: ps, hp => by
    have ih := recs_small ps fun q hq => hp q (by simp [hq])
    have hs := recB_size p (hp p (by simp))
    have hp2 := (hp p (by simp)).2
    have er : recs (p :: ps) = recB sumB p ++ recs ps := by unfold recs; rw [List.flatMap_cons]
    rw [er, List.length_append, List.length_cons]
    omega
theorem dec_back : Ev (fun k => file_Decode.f k (zs (dictB l))) ((build (wordsN (Wl l))).map toS, Cl l, classesL l, (0 : Int)) := by
  have hs := recs_small _ (fine_all h hb)
  have := scan_ev _ [] ([], 0, 3) (fine_all h hb) rfl (by simp only [List.length_cons, List.length_nil] at hs ⊢; omega) (by simp) (get_few [] rfl (.inl rfl)) (by decide)
  rw [List.append_nil, ← dict_recs] at this
  exact dec_parts h hb (dictB_lt h) magicB _ _ this (by rw [if_pos rfl])
end
end Go.Proofs.Ytgebhidpkcjpmaa.K

