/- daw's builder in memory: the states of the path are left. -/
import Derived.Maps.OwnSet
import Derived.Maps.OwnOps
import Derived.Test.YtebdcblchjhmpaaDawP
import Derived.Test.YtebdcblchjhmpaaDawK
import Derived.Test.YtebdcblchjhmpaaDawN
import Derived.Test.YtebdcblchjhmpaaProg
import Derived.Below
import Derived.Deep.Draws
import Derived.Deep.AppendLies
import Derived.Maps.AppendAt
import Derived.OwnWalk
import Derived.Laws.BytesArg
import Derived.Laws.MakeOwn
import Derived.Laws.OwnMore
import Derived.Deep.OwnRows
import Derived.Tactics
import Derived.Lib.ConvBytes
import Derived.Laws.Slices
import Derived.WalkKit
import Derived.KernelRfl
import Derived.RowKit3
import Derived.Deep.LoopGhost
import Derived.Deep.QuietTactic
import Derived.BigQuiet
import Derived.WideLaws
import Derived.Deep.DeepCutAuto
import Derived.Deep.CutBlock
import Derived.Deep.RegionHeld3
import Derived.Laws.Rows
import Derived.Lib.AppendStr
import Derived.ArgAppend
import Derived.Laws.IdiomCopy
import Derived.OrdersHeld
import Derived.Laws.BitsLemmas
import Derived.RowKit
import Derived.Lib.OthersKept
import Derived.WalkSmall
import Derived.Deep.RegionLaw
import Derived.BigRegion
import Derived.Test.YtebdcblchjhmpaaWWords
import Derived.Test.YtebdcblchjhmpaaWLast
import Derived.Test.YtebdcblchjhmpaaWTab
import Derived.Test.YtebdcblchjhmpaaWFour
import Derived.Test.YtebdcblchjhmpaaWQPut
import Derived.Test.YtebdcblchjhmpaaWApart
import Derived.Test.YtebdcblchjhmpaaWArr
import Derived.Test.YtebdcblchjhmpaaWZeros
import Derived.Test.YtebdcblchjhmpaaWFoot
import Derived.Test.YtebdcblchjhmpaaWKept
import Derived.Test.YtebdcblchjhmpaaWShare
import Derived.Test.YtebdcblchjhmpaaWN
import Derived.Test.YtebdcblchjhmpaaWFootNe
import Derived.Test.YtebdcblchjhmpaaWAt
import Derived.Test.YtebdcblchjhmpaaWEqStruct
import Derived.Test.YtebdcblchjhmpaaWRepsOne
import Derived.Test.YtebdcblchjhmpaaWInv
import Derived.Test.YtebdcblchjhmpaaWInvWords
import Derived.Test.YtebdcblchjhmpaaWGuard
import Derived.Test.YtebdcblchjhmpaaWNEv
import Derived.Test.YtebdcblchjhmpaaWMore
import Derived.Test.YtebdcblchjhmpaaInfo
import Derived.Test.YtebdcblchjhmpaaUtf
import Derived.Test.YtebdcblchjhmpaaHelp
import Derived.Test.YtebdcblchjhmpaaHelp2
import Derived.Test.YtebdcblchjhmpaaHelp5
import Derived.Test.YtebdcblchjhmpaaUtfE
import Derived.Test.YtebdcblchjhmpaaPDkx
namespace Go.Proofs.Ytebdcblchjhmpaa.K
open Go.RowKit Go.Proofs.YtebdcblchjhmpaaW.PrintWords Go.Proofs.YtebdcblchjhmpaaW.PrintLast Go.Proofs.YtebdcblchjhmpaaW.PrintMore Go.Proofs.Ytebdcblchjhmpaa
attribute [local go_sem] max2_int min2_int max_two min_two max_three min_three max_four min_four
set_option linter.unusedVariables false
set_option linter.unusedSimpArgs false
open Go.Proofs.Ytebdcblchjhmpaa.PDk Go.Proofs.Ytebdcblchjhmpaa.Daw Go.Maps
namespace Kd
theorem own_other2 {α : Type} {d : Kd α} {e base t : Nat} {w : World} {ok : Nat → Prop} {v : Value} {xs : List α} {g : Nat} {cs : Array Value} (h : Kd.R d e w base ok v xs) (hg : w.heap[g]? = some (.cells cs t (0, 0))) (hne : e ≠ t) : some g ≠ v.ownBlock := fun he => by
  obtain ⟨cells, hc⟩ := Kd.R_typed h g he.symm
  rw [hg] at hc
  injection hc with hc
  injection hc with _ hc
  exact hne hc.symm
theorem H_take {α : Type} {d : Kd α} {e : Nat} {w : World} {base : Nat} {ok oki : Nat → Prop} {A : Option Addr} {n m cap : Nat} {xs : List α} {i : Int} {c : List Value} (h : Kd.H d e w base ok (.slice A n cap) xs i oki c) (hm : m ≤ xs.length) (hi : m ≤ i.toNat) :
    Kd.S d e w base (fun k => ok k ∧ ¬ oki k) (.slice A m cap) (xs.take m) := by
  obtain ⟨_, f, h⟩ := h
  have h2 := Kd.R_take h (m := m) (by rw [List.length_zipIdx]; exact hm)
  have he : (xs.take m).zipIdx = xs.zipIdx.take m := by
    apply List.ext_getElem?
    intro j
    simp only [List.getElem?_zipIdx, List.getElem?_take, Nat.zero_add]
    split <;> simp
  rw [← he] at h2
  obtain ⟨h0, inner, ho, hr⟩ := h2
  refine ⟨f, h0, inner, ho, hr.1, fun j p hj => ?_⟩
  have hp := hr.2 j p hj
  have hj2 : j < m := by
    have := (List.getElem?_eq_some_iff.1 hj).1
    rw [List.length_zipIdx, List.length_take] at this
    omega
  have hp2 : p.2 = j := by
    rw [List.getElem?_zipIdx, Nat.zero_add] at hj
    obtain ⟨q, _, rfl⟩ := Option.map_eq_some_iff.1 hj
    rfl
  exact hp.2 (by omega)
end Kd
theorem byte_nat (s : ByteArray) (i : Nat) (h : i < s.size) : (s[i]'h).toNat = (Utf.nats s).getD i 0 := by
  unfold Utf.nats
  rw [List.getD_eq_getElem?_getD, List.getElem?_map, Array.getElem?_toList, Array.getElem?_eq_getElem h]
  rfl
/-- The builder at block g, its map at block bm: what was left, the path (told from its end), the last word. -/
def Bd (w : World) (base g bm : Nat) (left path : List DS) (word : ByteArray) : Prop :=
  ∃ (vL vP : Value) (okL okP : Nat → Prop) (n : Nat) (D : DataW Unit), w.heap[g]? = some (.cells #[vL, .map (some bm), vP, .string word] 66 (0, 0)) ∧
    w.ownsMap Try.prog 9 (plainElem Try.prog 3) bm n D ∧ n ≤ left.length ∧ Link D left ∧ Kd.S k31 31 w base okL vL (left.map toS) ∧
    Kd.S k31 31 w base okP vP (path.reverse.map toS) ∧ ∀ k, okL k → ¬ okP k
def Fit (B : Nat) (left path : List DS) : Prop := left.length + path.length ≤ B ∧ ∀ s ∈ path, OkS s ∧ s.2.length + path.length ≤ B
theorem num_le (left : List DS) (s : DS) : (num left s).1.length ≤ left.length + 1 ∧ (num left s).2 ≤ left.length := by
  unfold num
  by_cases h : s ∈ left
  · rw [if_pos h]; exact ⟨by simp, Nat.le_of_lt (List.idxOf_lt_length_iff.2 h)⟩
  · rw [if_neg h]; simp
theorem fit_step {B : Nat} {left : List DS} {s u : DS} {r : List DS} (h : Fit B left (s :: u :: r)) (hB : B ≤ 1000000) (c : Nat) (hc : c < 256) : Fit B (num left s).1 ((u.1, u.2 ++ [(c, (num left s).2)]) :: r) := by
  obtain ⟨h1, h2⟩ := h
  obtain ⟨n1, n2⟩ := num_le left s
  simp only [List.length_cons] at h1 h2
  refine ⟨by simp only [List.length_cons]; omega, fun x hx => ?_⟩
  rcases List.mem_cons.1 hx with rfl | hx
  · obtain ⟨h3, h4⟩ := h2 u (by simp)
    refine ⟨fun e he => ?_, by simp; omega⟩
    rcases List.mem_append.1 he with he | he
    · exact h3 e he
    · rw [List.mem_singleton.1 he]
      exact ⟨hc, by show (num left s).2 < _; omega⟩
  · obtain ⟨h3, h4⟩ := h2 x (by simp [hx])
    exact ⟨h3, by simp only [List.length_cons]; omega⟩
theorem rev_get0 (s : DS) (p : List DS) (z : S31) : ((s :: p).reverse.map toS).getD p.length z = toS s := by
  rw [List.getD_eq_getElem?_getD, List.getElem?_map, List.reverse_cons, List.getElem?_append_right (by simp)]
  simp
theorem rev_take (s : DS) (p : List DS) : ((s :: p).reverse.map toS).take p.length = p.reverse.map toS := by
  rw [List.reverse_cons, List.map_append, List.take_append_of_le_length (by simp), List.take_of_length_le (by simp)]
theorem rev_set (u v : DS) (r : List DS) : ((u :: r).reverse.map toS).set r.length (toS v) = (v :: r).reverse.map toS := by
  rw [List.reverse_cons, List.map_append, List.set_append_right _ _ (by simp), List.reverse_cons, List.map_append]
  simp
theorem leave_more (W : List Nat) (n : Nat) (left : List DS) (s u : DS) (r : List DS) (h : n < r.length + 1) : leave W n left (s :: u :: r) = leave W n (num left s).1 ((u.1, u.2 ++ [(W.getD r.length 0, (num left s).2)]) :: r) := by
  rw [leave, if_pos h]
theorem leave_done (W : List Nat) (n : Nat) (left path : List DS) (h : path.length ≤ n + 1) : leave W n left path = (left, path) := by
  match path with
  | [] => rw [leave]
  | [s] => rw [leave]
  | s :: u :: r => rw [leave, if_neg (by simp at h; omega)]
set_option maxHeartbeats 4000000 in
set_option maxRecDepth 100000 in
theorem leave_k (base g bm B n : Nat) (left path : List DS) (word : ByteArray) (w : World) (h : Bd w base g bm left path word) (hf : Fit B left path) (hB : B ≤ 1000000) (hb : base ≤ w.heap.size) (hbg : base ≤ g) (hbm : base ≤ bm)
    (hn : n ≤ 1000000) (hw : path.length ≤ word.size + 1) (hws : word.size ≤ 1000000) :
    Calls Try.prog 33 #[.pointer (some ⟨g, 0, none⟩), .int .i64 n] w fun e w' => e = .returned (.tuple #[]) ∧
      Bd w' base g bm (leave (Utf.nats word) n left path).1 (leave (Utf.nats word) n left path).2 word ∧ Fit B (leave (Utf.nats word) n left path).1 (leave (Utf.nats word) n left path).2 ∧ Below base w w' := by
  obtain ⟨X, hX⟩ : ∃ X, leave (Utf.nats word) n left path = X := ⟨_, rfl⟩
  rw [hX]
  have H0 := Aside0.mk h; have F0 := Aside0.mk hf; have HB := Aside0.mk hB; have HBS := Aside0.mk hb; have HBG := Aside0.mk hbg; have HBM := Aside0.mk hbm; have HN := Aside0.mk hn; have HW := Aside0.mk hw; have HWS := Aside0.mk hws; have HX := Aside0.mk hX
  clear h hf hB hb hbg hbm hn hw hws hX
  have huS := Try.underlying31
  have huE := Try.underlying33
  go_enter Try.func33, Try.ntmps33
  go_wp2
  go_loopg [4] path.length (fun gg v4 wr => ∃ (lt pt : List DS), pt.length ≤ gg ∧ Aside0 (leave (Utf.nats word) n lt pt = X) ∧ Aside0 (Bd wr base g bm lt pt word) ∧ Aside0 (Fit B lt pt) ∧ Aside0 (pt.length ≤ word.size + 1) ∧ Aside0 (Below base w wr))
  case atStart => exact ⟨left, path, Nat.le_refl _, HX, H0, F0, HW, ⟨Below.refl _ _⟩⟩
  case round =>
    clear H0 F0 HX HW
    obtain ⟨lt, pt, hgk, HX, H, HF, HW, HBw⟩ := hrel
    obtain ⟨vL, vP, okL, okP, m, D, hg, hm, hml, hD, hL, hP, hLP⟩ := H.out
    have hbsz : base ≤ wr.heap.size := Nat.le_trans HBS.out HBw.out.size
    have hLb := Kd.S_mono (Kd.S_bound hL) (ok' := fun k => okL k ∧ k < wr.heap.size) (fun k hk => ⟨hk.1, hk.2.2.1⟩)
    have hPb := Kd.S_mono (Kd.S_bound hP) (ok' := fun k => okP k ∧ k < wr.heap.size ∧ k ≠ bm ∧ k ≠ g) (fun k hk => ⟨hk.1, hk.2.2.1, by obtain ⟨_, _, cells, hc⟩ := hk.2.2.2; exact map_cells hm hc, by
      obtain ⟨q, hq, cells, hc⟩ := hk.2.2.2
      rintro rfl
      rw [hg] at hc; injection hc with hc; injection hc with _ hc; subst hc; exact absurd hq (by decide)⟩)
    obtain ⟨AP, cP, hvP⟩ := Kd.S_slice hP
    rw [List.length_map, List.length_reverse] at hvP
    obtain ⟨L, hL0⟩ : ∃ L, L = pt.length := ⟨_, rfl⟩
    rw [← hL0] at hvP
    subst hvP
    have HG := Aside0.mk hg; have HL := Aside0.mk hLb; have HP := Aside0.mk hPb; have HM := Aside0.mk hm
    have HML := Aside0.mk hml; have HLP := Aside0.mk hLP; have HSZ := Aside0.mk hbsz; have HGK := Aside0.mk hgk; have HL0 := Aside0.mk hL0; have HD := Aside0.mk hD
    clear hg hL hP hLb hPb hm hml hLP hbsz hgk H hL0 hD
    have e0 : wr.cell? ⟨g, 2, none⟩ = some (.slice AP L cP) := (blk_cell HG.out 2).trans rfl
    have e1 : wr.cell? ⟨g, 3, none⟩ = some (.string word) := (blk_cell HG.out 3).trans rfl
    have f2 := blk_frozen HG.out 2
    have hw1 : wrap64 ((n : Int) + 1) = ((n + 1 : Nat) : Int) := by have := HN.out; unfold wrap64; omega
    by_cases hc : n + 1 < L
    · have hcb : decide ((L : Int) > wrap64 ((n : Int) + 1)) = true := by rw [hw1]; exact decide_eq_true (by omega)
      obtain ⟨s, u, r, rfl⟩ : ∃ s u r, pt = s :: u :: r := by
        have := HL0.out
        match pt, this with
        | [], h => simp at h; omega
        | [_], h => simp at h; omega
        | s :: u :: r, _ => exact ⟨s, u, r, rfl⟩
      obtain ⟨L1, hL1⟩ : ∃ L1, L1 = r.length + 1 := ⟨_, rfl⟩
      obtain ⟨L2, hL2⟩ : ∃ L2, L2 = r.length := ⟨_, rfl⟩
      have hLb : L = L1 + 1 ∧ L1 = L2 + 1 ∧ L ≤ B ∧ L2 < word.size ∧ n < L1 := by
        have h1 := HL0.out; have h2 := HF.out.1; have h3 := HW.out
        simp only [List.length_cons] at h1 h2 h3
        omega
      have HLL := Aside0.mk hLb; have HL1 := Aside0.mk hL1; have HL2 := Aside0.mk hL2
      have hBl := HB.out
      have hwl : wrap64 ((L : Int) - 1) = (L1 : Int) := by unfold wrap64; omega
      have hwl2 : wrap64 ((L1 : Int) - 1) = (L2 : Int) := by unfold wrap64; omega
      have hx0 : (0 : Int) ≤ (L1 : Int) := by omega
      have hx1 : (L1 : Int) < (L : Int) := by omega
      have hPlen : ((s :: u :: r).reverse.map toS).length = L := by rw [List.length_map, List.length_reverse]; exact HL0.out.symm
      obtain ⟨gP, cP', hvP, hgPb, hgPl, cellsP, hgPc⟩ := Kd.S_form HP.out (by rw [hPlen]; omega)
      rw [hPlen] at hvP
      injection hvP with hA _ hcc
      subst hA; subst hcc
      have hPok : okP gP := ((Kd.S_R HP.out).1 gP (by simp [Value.ownBlock])).1
      have hcap := (Kd.S_reads' HP.out).2.1
      have hcap1 : L1 ≤ cP := by omega
      have hx2 : (L2 : Int) < (L1 : Int) := by omega
      have hx3 : (0 : Int) ≤ (L2 : Int) := by omega
      obtain ⟨oki, cs, hcl, hcM, hcc, hoki, hH⟩ := Kd.S_lend HP.out ⟨false, []⟩ (L1 : Int) hx0 hx1
      rw [Int.toNat_natCast] at hcM hcc
      have hr0 := rev_get0 s (u :: r) ⟨false, []⟩
      rw [List.length_cons] at hr0
      rw [HL1.out, hr0] at hcM
      clear hr0
      obtain ⟨vE, rfl, hE⟩ := k31_openM hcM
      have hz0 : wr.cell? ⟨gP, L1 * 2, none⟩ = some (.bool s.1) := hcc 0 _ rfl
      have hz1 : wr.cell? ⟨gP, L1 * 2 + 1, none⟩ = some vE := hcc 1 _ rfl
      clear hL1 hL2 hLb hBl hPlen hcM hcc hcl
      have hsF := HF.out.2 s (by simp)
      have hltF := HF.out.1
      have hdis : ∀ k, (okL k ∧ k < wr.heap.size) → ¬ oki k := fun k h1 h2 => HLP.out k h1.1 (hoki k h2).1.1
      have hsl : s.2.length ≤ 1000000 := by have := hsF.2; have := HB.out; omega
      have hll : lt.length ≤ 1000000 := by have := HB.out; omega
      have hPt := Kd.H_take (m := L1) hH (by rw [List.length_map, List.length_reverse]; have := HL0.out; omega) (by rw [Int.toNat_natCast]; exact Nat.le_refl _)
      have hrt := rev_take s (u :: r)
      rw [List.length_cons, ← HL1.out] at hrt
      rw [hrt] at hPt
      have HPT := Aside0.mk hPt; have HE := Aside0.mk hE; have HDI := Aside0.mk hdis; have HSL := Aside0.mk hsl; have HLTL := Aside0.mk hll; have HSO := Aside0.mk hsF.1; have HOK := Aside0.mk hoki
      clear hH hrt hPt hE hdis hsl hll hsF hltF hoki
      go_wp2_with (first | (go_at_call 34; (with_reducible refine ((number_k base g bm m lt s vL _ vE word D _ oki wr HG.out HM.out HML.out HD.out HL.out HE.out HDI.out HSZ.out HBG.out HBM.out HSO.out HSL.out HLTL.out)).mono ?_)))
      (first | rintro e w1 rfl hq | rintro e w1 ⟨rfl, hq⟩)
      obtain ⟨vL1, okL1, n1, D1, hg1, hm1, hn1, hD1, hL1, hsub, hb1, hfr⟩ := hq
      have HPT1 := Aside0.mk (Kd.S_step HPT.out (fun k hk hlt => hfr k hlt (fun h2 => HLP.out k h2.1 hk.1.1) hk.1.2.2.2 hk.1.2.2.1))
      have HG1 := Aside0.mk hg1; have HM1 := Aside0.mk hm1; have HN1 := Aside0.mk hn1; have HD1 := Aside0.mk hD1; have HLL1 := Aside0.mk hL1; have HBw1 := Aside0.mk (HBw.out.trans hb1)
      have HDI1 : Aside0 (∀ k, okL1 k → ¬ ((okP k ∧ k < wr.heap.size ∧ k ≠ bm ∧ k ≠ g) ∧ ¬ oki k)) := ⟨fun k h1 h2 => by
        rcases hsub k h1 with h3 | h3 | h3
        · exact HLP.out k h3.1 h2.1.1
        · exact h2.2 h3
        · have := h2.1.2.1; omega⟩
      have HSZ1 : Aside0 (base ≤ w1.heap.size) := ⟨Nat.le_trans HSZ.out hb1.size⟩
      have HWW1 : Aside0 (wr.heap.size ≤ w1.heap.size) := ⟨hb1.size⟩
      clear e0 e1 f2 hz0 hz1 hg1 hm1 hn1 hD1 hL1 hsub hb1 hfr HPT HE HG HM HL HP
      have e0 : w1.cell? ⟨g, 2, none⟩ = some (.slice (some ⟨gP, 0, none⟩) L cP) := (blk_cell HG1.out 2).trans rfl
      have e1 : w1.cell? ⟨g, 3, none⟩ = some (.string word) := (blk_cell HG1.out 3).trans rfl
      have f2 := blk_frozen HG1.out 2
      go_wp2
      have HG2 := Aside0.mk (blk_put HG1.out 2 (.slice (some ⟨gP, 0, none⟩) L1 cP) rfl)
      have HM2 := Aside0.mk (map_move HM1.out (Below.heap_setCell w1 ⟨g, 2, none⟩ (.slice (some ⟨gP, 0, none⟩) L1 cP) bm (Ne.symm (map_cells HM1.out HG1.out))))
      have HLL2 := Aside0.mk (Kd.S_set HLL1.out HG1.out (by decide) 2 (.slice (some ⟨gP, 0, none⟩) L1 cP))
      have HPT2 := Aside0.mk (Kd.S_set HPT1.out HG1.out (by decide) 2 (.slice (some ⟨gP, 0, none⟩) L1 cP))
      have HBw2 := Aside0.mk (HBw1.out.setCell (p := ⟨g, 2, none⟩) HBG.out (.slice (some ⟨gP, 0, none⟩) L1 cP))
      have HSZ2 : Aside0 (base ≤ (w1.setCell ⟨g, 2, none⟩ (.slice (some ⟨gP, 0, none⟩) L1 cP)).heap.size) := ⟨by simpa [World.setCell] using HSZ1.out⟩
      have HWW2 : Aside0 (wr.heap.size ≤ (w1.setCell ⟨g, 2, none⟩ (.slice (some ⟨gP, 0, none⟩) L1 cP)).heap.size) := ⟨by simpa [World.setCell] using HWW1.out⟩
      clear HG1 HM1 HLL1 HPT1 HBw1 HSZ1 HWW1 e0 e1 f2
      generalize w1.setCell ⟨g, 2, none⟩ (.slice (some ⟨gP, 0, none⟩) L1 cP) = w2 at HG2 HM2 HLL2 HPT2 HBw2 HSZ2 HWW2 ⊢
      have hpl : (((u :: r).reverse).map toS).length = L1 := by rw [List.length_map, List.length_reverse]; exact HL1.out.symm
      have hPb2 := Kd.S_mono (Kd.S_bound HPT2.out) (ok' := fun k => ((okP k ∧ k < wr.heap.size ∧ k ≠ bm ∧ k ≠ g) ∧ ¬ oki k) ∧ k < w2.heap.size) (fun k hk => ⟨hk.1, hk.2.2.1⟩)
      obtain ⟨oki2, cs2, hcl2, hcM2, hcc2, hoki2, hH2⟩ := Kd.S_lend hPb2 ⟨false, []⟩ (L2 : Int) hx3 hx2
      rw [Int.toNat_natCast] at hcM2 hcc2
      have hr0 := rev_get0 u r ⟨false, []⟩
      rw [← HL2.out] at hr0
      rw [hr0] at hcM2
      obtain ⟨vU, rfl, hU⟩ := k31_openM hcM2
      have hz0 : w2.cell? ⟨gP, L2 * 2, none⟩ = some (.bool u.1) := hcc2 0 _ rfl
      have hz1 : w2.cell? ⟨gP, L2 * 2 + 1, none⟩ = some vU := hcc2 1 _ rfl
      obtain ⟨AU, cU, hvU⟩ := Kd.R_slice hU
      have hul : (toS u).f1.length = u.2.length := by simp [toS]
      rw [hul] at hvU
      subst hvU
      have HU := Aside0.mk hU; have HH2 := Aside0.mk hH2; have HO2 := Aside0.mk hoki2
      have hgU : some gP ≠ (Value.slice AU u.2.length cU).ownBlock := fun e => (hoki2 gP (hU.1 gP e.symm)).2 rfl
      have hgB := Kd.own_other2 hU HG2.out (by decide)
      have hgPok := (Kd.S_R HPT2.out).1 gP (by simp [Value.ownBlock])
      have HGPK := Aside0.mk hgPok
      clear hgPok
      clear hU hH2 hoki2 hcM2 hcc2 hcl2 hr0 hul hPb2 hpl
      have e1 : w2.cell? ⟨g, 3, none⟩ = some (.string word) := (blk_cell HG2.out 3).trans rfl
      have hbyte : (L2 : Int) < (word.size : Int) := by have := HLL.out.2.2.2.1; omega
      obtain ⟨bt, hbt⟩ : ∃ bt, bt = (Utf.nats word).getD L2 0 := ⟨_, rfl⟩
      have hbv : (word[L2]'(HLL.out.2.2.2.1)).toNat = bt := by rw [hbt]; exact byte_nat word L2 _
      have HBT := Aside0.mk hbt
      clear hbt
      refine start_ (n := 19) (S := fun w' => w'.cell? ⟨gP, L2 * 2 + 1, none⟩ = some (.slice AU u.2.length cU) ∧ w'.cell? ⟨g, 3, none⟩ = some (.string word)) (ds := [15, 18]) #[false, false, false, false, false, false, false, false, false, false, false, false, false, false, false, false, false, false, false] (by kernel_rfl) rfl rfl ⟨hz1, e1⟩ (fun hHeld => ?_)
      have HG3 := Aside0.mk (blk_drew HG2.out); have HM3 := Aside0.mk HM2.out.drew; have HLL3 := Aside0.mk (Kd.S_drew HLL2.out); have HH3 := Aside0.mk (Kd.H_drew HH2.out); have HU3 := Aside0.mk (Kd.R_drew HU.out); have HBw3 := Aside0.mk (below_drew HBw2.out)
      have HSZ3 : Aside0 (base ≤ w2.drew.heap.size) := ⟨HSZ2.out⟩
      have HWW3 : Aside0 (wr.heap.size ≤ w2.drew.heap.size) := ⟨HWW2.out⟩
      have HE3 : Aside0 (w2.drew.heap.size = w2.heap.size) := ⟨rfl⟩
      clear hz0 hz1 e1 HG2 HM2 HLL2 HPT2 HBw2 HSZ2 HWW2 HH2 HU
      generalize w2.drew = w3 at HG3 HM3 HLL3 HH3 HU3 HBw3 HSZ3 HWW3 HE3 hHeld ⊢
      (refine pure_ (i := 0) (N := some 46) (v := ?_) (a' := ?_) #[true, false, false, false, false, false, false, false, false, false, false, false, false, false, false, false, false, false, false] rfl rfl (by kernel_rfl) (fun _ _ _ h => h) (Or.inl ⟨by rfl, ?_⟩) ?_ ?_; rotate_left; (intro w'; go_simp; with_reducible rfl); rotate_left; (simp only [Act.put, List.setIfInBounds_toArray, List.set_cons_zero, List.set_cons_succ, i64_w, i32_w]; rfl)); (refine pure_ (i := 1) (N := some 47) (v := ?_) (a' := ?_) #[true, true, false, false, false, false, false, false, false, false, false, false, false, false, false, false, false, false, false] rfl rfl (by kernel_rfl) (fun _ _ _ h => h) (Or.inl ⟨by rfl, ?_⟩) ?_ ?_; rotate_left; (intro w'; go_simp; with_reducible rfl); rotate_left; (simp only [Act.put, List.setIfInBounds_toArray, List.set_cons_zero, List.set_cons_succ, i64_w, i32_w]; rfl)); (refine pure_ (i := 2) (N := some 48) (v := ?_) (a' := ?_) #[true, true, true, false, false, false, false, false, false, false, false, false, false, false, false, false, false, false, false] rfl rfl (by kernel_rfl) (fun _ _ _ h => h) (Or.inl ⟨by rfl, ?_⟩) ?_ ?_; rotate_left; (intro w'; go_simp; with_reducible rfl); rotate_left; (simp only [Act.put, List.setIfInBounds_toArray, List.set_cons_zero, List.set_cons_succ, i64_w, i32_w]; rfl)); (refine pure_ (i := 3) (N := some 49) (v := ?_) (a' := ?_) #[true, true, true, true, false, false, false, false, false, false, false, false, false, false, false, false, false, false, false] rfl rfl (by kernel_rfl) (fun _ _ _ h => h) (Or.inl ⟨by rfl, ?_⟩) ?_ ?_; rotate_left; (intro w'; go_simp; with_reducible rfl); rotate_left; (simp only [Act.put, List.setIfInBounds_toArray, List.set_cons_zero, List.set_cons_succ, i64_w, i32_w]; rfl)); (refine pure_ (i := 5) (N := some 51) (v := ?_) (a' := ?_) #[true, true, true, true, false, true, false, false, false, false, false, false, false, false, false, false, false, false, false] rfl rfl (by kernel_rfl) (fun _ _ _ h => h) (Or.inl ⟨by rfl, ?_⟩) ?_ ?_; rotate_left; (intro w'; go_simp; with_reducible rfl); rotate_left; (simp only [Act.put, List.setIfInBounds_toArray, List.set_cons_zero, List.set_cons_succ, i64_w, i32_w]; rfl)); (refine pure_ (i := 6) (N := some 52) (v := ?_) (a' := ?_) #[true, true, true, true, false, true, true, false, false, false, false, false, false, false, false, false, false, false, false] rfl rfl (by kernel_rfl) (fun _ _ _ h => h) (Or.inl ⟨by rfl, ?_⟩) ?_ ?_; rotate_left; (intro w'; go_simp; with_reducible rfl); rotate_left; (simp only [Act.put, List.setIfInBounds_toArray, List.set_cons_zero, List.set_cons_succ, i64_w, i32_w]; rfl)); (refine pure_ (i := 7) (N := some 53) (v := ?_) (a' := ?_) #[true, true, true, true, false, true, true, true, false, false, false, false, false, false, false, false, false, false, false] rfl rfl (by kernel_rfl) (fun _ _ _ h => h) (Or.inl ⟨by rfl, ?_⟩) ?_ ?_; rotate_left; (intro w'; go_simp; with_reducible rfl); rotate_left; (simp only [Act.put, List.setIfInBounds_toArray, List.set_cons_zero, List.set_cons_succ, i64_w, i32_w]; rfl))
      (refine take_ (i := 4) (N := some 50) (v := ?_) (a' := ?_) #[true, true, true, true, true, true, true, true, false, false, false, false, false, false, false, false, false, false, false] rfl rfl (by kernel_rfl) (fun _ _ _ h => h) (Or.inl ⟨by rfl, ?_⟩) hHeld ?_ ?_; rotate_left; (rintro w' ⟨s0, s1⟩; go_simp; with_reducible rfl); rotate_left; (simp only [Act.put, List.setIfInBounds_toArray, List.set_cons_zero, List.set_cons_succ, i64_w, i32_w]; rfl)); (refine take_ (i := 8) (N := some 54) (v := ?_) (a' := ?_) #[true, true, true, true, true, true, true, true, true, false, false, false, false, false, false, false, false, false, false] rfl rfl (by kernel_rfl) (fun _ _ _ h => h) (Or.inl ⟨by rfl, ?_⟩) hHeld ?_ ?_; rotate_left; (rintro w' ⟨s0, s1⟩; go_simp; with_reducible rfl); rotate_left; (simp only [Act.put, List.setIfInBounds_toArray, List.set_cons_zero, List.set_cons_succ, i64_w, i32_w]; rfl))
      (refine pure_ (i := 9) (N := some 55) (v := ?_) (a' := ?_) #[true, true, true, true, true, true, true, true, true, true, false, false, false, false, false, false, false, false, false] rfl rfl (by kernel_rfl) (fun _ _ _ h => h) (Or.inl ⟨by rfl, ?_⟩) ?_ ?_; rotate_left; (intro w'; go_simp; with_reducible rfl); rotate_left; (simp only [Act.put, List.setIfInBounds_toArray, List.set_cons_zero, List.set_cons_succ, i64_w, i32_w]; rfl)); (refine pure_ (i := 10) (N := some 56) (v := ?_) (a' := ?_) #[true, true, true, true, true, true, true, true, true, true, true, false, false, false, false, false, false, false, false] rfl rfl (by kernel_rfl) (fun _ _ _ h => h) (Or.inl ⟨by rfl, ?_⟩) ?_ ?_; rotate_left; (intro w'; go_simp; with_reducible rfl); rotate_left; (simp only [Act.put, List.setIfInBounds_toArray, List.set_cons_zero, List.set_cons_succ, i64_w, i32_w]; rfl))
      (refine pure_ (i := 11) (N := some 57) (v := ?_) (a' := ?_) #[true, true, true, true, true, true, true, true, true, true, true, true, false, false, false, false, false, false, false] rfl rfl (by kernel_rfl) (fun _ _ _ h => h) (Or.inl ⟨by rfl, ?_⟩) ?_ ?_; rotate_left; (intro w'; go_simp; with_reducible rfl); rotate_left; (simp only [Act.put, List.setIfInBounds_toArray, List.set_cons_zero, List.set_cons_succ, i64_w, i32_w]; rfl))
      (refine pure_ (i := 12) (N := some 58) (v := ?_) (a' := ?_) #[true, true, true, true, true, true, true, true, true, true, true, true, true, false, false, false, false, false, false] rfl rfl (by kernel_rfl) (fun _ _ _ h => h) (Or.inl ⟨by rfl, ?_⟩) ?_ ?_; rotate_left; (intro w'; go_simp; with_reducible rfl); rotate_left; (simp only [Act.put, List.setIfInBounds_toArray, List.set_cons_zero, List.set_cons_succ, i64_w, i32_w]; rfl)); (refine pure_ (i := 13) (N := some 59) (v := ?_) (a' := ?_) #[true, true, true, true, true, true, true, true, true, true, true, true, true, true, false, false, false, false, false] rfl rfl (by kernel_rfl) (fun _ _ _ h => h) (Or.inl ⟨by rfl, ?_⟩) ?_ ?_; rotate_left; (intro w'; go_simp; with_reducible rfl); rotate_left; (simp only [Act.put, List.setIfInBounds_toArray, List.set_cons_zero, List.set_cons_succ, i64_w, i32_w]; rfl))
      refine one_ (i := 14) (N := some 60) #[true, true, true, true, true, true, true, true, true, true, true, true, true, true, true, false, false, false, false] rfl rfl (by kernel_rfl) (by decide) (fun K hK => ?_)
      (refine value_ (w1 := ?_) (v := ?_) (by rfl) rfl ?_ ?_; rotate_left 2; (go_simp; constructor; rfl; rfl))
      refine hK.out _ _ ⟨((below_alloc (Below.refl _ _) _).cell (World.block_lt_of_cell? _ _ hHeld.1)).trans hHeld.1, ((below_alloc (Below.refl _ _) _).cell (World.block_lt_of_cell? _ _ hHeld.2)).trans hHeld.2⟩ (fun hHeld => ?_)
      (clear hK K; refine norm_ (a' := ?_) ?_ ?_; rotate_left; (show Act.put _ (some 60) _ = _; simp only [Act.put, List.setIfInBounds_toArray, List.set_cons_zero, List.set_cons_succ, i64_w, i32_w]; rfl))
      refine last_ (i := 15) (N := some 61) #[true, true, true, true, true, true, true, true, true, true, true, true, true, true, true, true, false, false, false] rfl rfl (by kernel_rfl) (by decide) (fun K hK => ?_)
      refine Kd.R_append_step (k33) (w0 := w) (base) (by rfl) (.tmp 50) (.tmp 60) 29 33 (.agg #[(.int .u8 0), (.int .i64 0)]) 16 rfl Try.underlying29 info33 rfl (by decide) (by omega) (.slice AU u.2.length cU) (toS u).f1 ⟨(bt : Int), ((num lt s).2 : Int)⟩ [.int .u8 bt, .int .i64 (num lt s).2] (fun k => oki2 k ∨ w3.heap.size ≤ k) (fun _ => False) rfl rfl ?aP ?aK ?aF ?aO ?aB ?aS ?aL ?_
      (case aP => exact k33_mkM _ _ _ _)
      (case aK => exact fun _ h => h.elim)
      (case aF => exact fun k hk => Or.inr hk)
      (case aO => exact Kd.R_mono HU3.out (fun k hk => Or.inl hk))
      (case aB => exact HBw3.out)
      (case aS => exact HSZ3.out)
      (case aL => have h1 := (HF.out.2 u (by simp)).2; have h2 := HB.out; simp [toS]; omega)
      intro v1 w4 hU4 hb4 hg4 hat4
      have hLb3 := Kd.S_mono (Kd.S_bound HLL3.out) (ok' := fun k => okL1 k ∧ k < w3.heap.size) (fun k hk => ⟨hk.1, hk.2.2.1⟩)
      have hrow : ∀ k, (Value.slice AU u.2.length cU).ownBlock = some k → oki2 k := HU3.out.1
      have hmrow : some bm ≠ (Value.slice AU u.2.length cU).ownBlock := fun e => (HO2.out bm (hrow bm e.symm)).1.1.1.2.2.1 rfl
      have HG4 := Aside0.mk (blk_grown HG3.out hg4 hgB)
      have HM4 := Aside0.mk (HM3.out.kept hg4 hmrow)
      have HLL4 := Aside0.mk (Kd.S_grown hLb3 hg4 (fun k hk e => HDI1.out k hk.1 (HO2.out k (hrow k e.symm)).1.1))
      have HH4 := Aside0.mk (Kd.H_grown HH3.out hg4 hrow)
      have HU4 := Aside0.mk hU4; have HB4 := Aside0.mk hb4
      have HS34 : Aside0 (w3.heap.size ≤ w4.heap.size) := ⟨hg4.size⟩
      clear hLb3 hrow hmrow hg4 hU4 hb4 hat4 HG3 HM3 HLL3 HH3 HU3 HBw3 hgB hgU hHeld
      obtain ⟨A1, c1, hv1⟩ := Kd.R_slice HU4.out
      have hul : ((toS u).f1 ++ [(⟨(bt : Int), ((num lt s).2 : Int)⟩ : S33)]).length = u.2.length + 1 := by simp [toS]
      rw [hul] at hv1
      subst hv1
      obtain ⟨rows, hrl, hraw, hcl4, hco4, hcc4, hback⟩ := Kd.H_raw HH4.out hx3 hx2
      have hz1 : w4.cell? ⟨gP, L2 * 2 + 1, none⟩ = some (.slice AU u.2.length cU) := by
        have h := hcc4 1 _ rfl
        rw [Int.toNat_natCast] at h
        exact h
      obtain ⟨cells4, hblk4⟩ : ∃ cells, w4.heap[gP]? = some (.cells cells 31 (0, 0)) := by
        obtain ⟨_, f, hR⟩ := HH4.out
        exact Kd.R_typed hR gP (by simp [Value.ownBlock])
      have fz1 := blk_frozen hblk4 (L2 * 2 + 1)
      clear hraw hcl4 hco4 hcc4 hback hul
      refine hK.out _ _ ?_
      (clear hK K; refine norm_ (a' := ?_) ?_ ?_; rotate_left; (show Act.put _ (some 61) _ = _; simp only [Act.put, List.setIfInBounds_toArray, List.set_cons_zero, List.set_cons_succ, i64_w, i32_w]; rfl))
      (refine pure_ (i := 16) (N := some 62) (v := ?_) (a' := ?_) #[true, true, true, true, true, true, true, true, true, true, true, true, true, true, true, true, true, false, false] rfl rfl (by kernel_rfl) (fun _ _ _ h => h) (Or.inl ⟨by rfl, ?_⟩) ?_ ?_; rotate_left; (intro w'; go_simp; with_reducible rfl); rotate_left; (simp only [Act.put, List.setIfInBounds_toArray, List.set_cons_zero, List.set_cons_succ, i64_w, i32_w]; rfl)); (refine pure_ (i := 17) (N := some 63) (v := ?_) (a' := ?_) #[true, true, true, true, true, true, true, true, true, true, true, true, true, true, true, true, true, true, false] rfl rfl (by kernel_rfl) (fun _ _ _ h => h) (Or.inl ⟨by rfl, ?_⟩) ?_ ?_; rotate_left; (intro w'; go_simp; with_reducible rfl); rotate_left; (simp only [Act.put, List.setIfInBounds_toArray, List.set_cons_zero, List.set_cons_succ, i64_w, i32_w]; rfl))
      refine last_ (i := 18) (N := none) #[true, true, true, true, true, true, true, true, true, true, true, true, true, true, true, true, true, true, true] rfl rfl (by kernel_rfl) (by decide) (fun K hK => ?_)
      refine skip_ (w1 := ?_) (by rfl) rfl ?_ ?_
      rotate_left
      · go_simp
        rfl
      refine hK.out _ _ ?_
      clear hK K
      refine done_ (by kernel_rfl) ?_
      try go_wp2
      have hgPlt : gP < w3.heap.size := by have h1 := HGPK.out.1.2.1; have h2 := HWW3.out; omega
      have hH5 := Kd.H_mono HH4.out (ok' := fun k => (((((okP k ∧ k < wr.heap.size ∧ k ≠ bm ∧ k ≠ g) ∧ ¬ oki k) ∧ k < w2.heap.size) ∨ w3.heap.size ≤ k) ∧ ¬ (w3.heap.size ≤ k))) (fun k hk => ⟨Or.inl hk, by have := hk.2; have := HE3.out; omega⟩)
      have hM5 : (k31).M w4 base (fun k => oki2 k ∨ w3.heap.size ≤ k) (toS (u.1, u.2 ++ [(bt, (num lt s).2)])) ([Value.bool (toS u).f0, Value.slice AU u.2.length cU].take 1 ++ [Value.slice A1 (u.2.length + 1) c1] ++ [Value.bool (toS u).f0, Value.slice AU u.2.length cU].drop (1 + 1)) := by
        refine k31_mkM _ _ _ _ ?_
        have he : (toS (u.1, u.2 ++ [(bt, (num lt s).2)])).f1 = (toS u).f1 ++ [⟨(bt : Int), ((num lt s).2 : Int)⟩] := by simp [toS, toE]
        rw [he]
        exact HU4.out
      obtain ⟨hS5, hg5⟩ := Kd.S_seg (okg := fun k => w3.heap.size ≤ k) hH5 hx3 hx2 (seg := [Value.slice A1 (u.2.length + 1) c1]) (j := 1) (Nat.le_refl 2) hM5 (fun k hk => hk) (fun k hk => ⟨Or.inr hk, by omega⟩)
      have e5 : w4.setCells gP ((L2 : Int).toNat * (k31).sz + 1) [Value.slice A1 (u.2.length + 1) c1] = w4.setCell ⟨gP, L2 * 2 + 1, none⟩ (Value.slice A1 (u.2.length + 1) c1) := by rw [Int.toNat_natCast]; rfl
      rw [e5, Int.toNat_natCast, HL2.out, rev_set] at hS5
      rw [e5] at hg5
      rw [← HL2.out] at hS5
      clear e5 hH5 hM5
      generalize w4.setCell ⟨gP, L2 * 2 + 1, none⟩ (Value.slice A1 (u.2.length + 1) c1) = w5 at hS5 hg5 ⊢
      have HG5 := blk_grown HG4.out hg5 (fun e => HGPK.out.1.2.2.2 (by injection e with e; exact e.symm))
      have HM5 := HM4.out.kept hg5 (fun e => HGPK.out.1.2.2.1 (by injection e with e; exact e.symm))
      have HL5 := Kd.S_grown HLL4.out hg5 (fun k hk e => HDI1.out k hk.1 (by injection e with e; rw [e]; exact HGPK.out))
      have HB5 := HB4.out.grown hg5 (Nat.le_trans HBS.out HB4.out.size) (fun k hk => by injection hk with hk; rw [← hk]; exact hgPb)
      have hnr : n < r.length + 1 := by have h1 := HLL.out; have h2 := HL1.out; omega
      have hX2 : leave (Utf.nats word) n (num lt s).1 ((u.1, u.2 ++ [(bt, (num lt s).2)]) :: r) = X := by
        rw [← HX.out, leave_more _ _ _ _ _ _ hnr, HBT.out, HL2.out]
      have hbl : bt < 256 := by rw [← hbv]; exact UInt8.toNat_lt _
      go_roundg (r.length + 1)
      case measure => have := HGK.out; simp only [List.length_cons] at this; omega
      case rel =>
        refine ⟨_, _, by simp, ⟨hX2⟩, ⟨⟨_, _, _, _, _, _, HG5, HM5, HN1.out, HD1.out, HL5, hS5, ?_⟩⟩, ⟨fit_step HF.out HB.out bt hbl⟩, ⟨by have := HW.out; simp only [List.length_cons] at this ⊢; omega⟩, ⟨HB5⟩⟩
        rintro k ⟨h1, h2⟩ (h3 | h3)
        · exact HDI1.out k h1 h3.1
        · omega
    · have hcb : decide ((L : Int) > wrap64 ((n : Int) + 1)) = false := by rw [hw1]; exact decide_eq_false (by omega)
      go_wp2
      go_end0
      have hXe : X = (lt, pt) := by rw [← HX.out, leave_done _ _ _ _ (by have := HL0.out; omega)]
      subst hXe
      exact ⟨rfl, ⟨vL, _, _, _, m, D, HG.out, HM.out, HML.out, HD.out, HL.out, HP.out, fun k h1 h2 => HLP.out k h1.1 h2.1⟩, HF.out, HBw.out⟩
end Go.Proofs.Ytebdcblchjhmpaa.K
