/- FileBack. (The texts that the proof is made of, one behind the other: part 12 of 18.) -/
import Derived.Maps.OwnSet
import Derived.Maps.OwnOps
import Derived.Maps.Views
import Derived.Carry
import Derived.Laws.EntriesVeiled
import Derived.Test.YtgebhidpkcjpmaaProg
import Derived.Below
import Derived.Deep.Draws
import Derived.Deep.AppendLies
import Derived.Maps.AppendAt
import Derived.OwnWalk
import Derived.Laws.BytesArg
import Derived.Laws.MakeOwn
import Derived.Laws.OwnMore
import Derived.Deep.OwnRows
import Derived.Tactics
import Derived.Lib.ConvBytes
import Derived.Laws.Slices
import Derived.WalkKit
import Derived.KernelRfl
import Derived.RowKit3
import Derived.Deep.LoopGhost
import Derived.Deep.QuietTactic
import Derived.BigQuiet
import Derived.WideLaws
import Derived.Deep.DeepCutAuto
import Derived.Deep.CutBlock
import Derived.Deep.RegionHeld3
import Derived.Laws.Rows
import Derived.Lib.AppendStr
import Derived.ArgAppend
import Derived.Laws.IdiomCopy
import Derived.OrdersHeld
import Derived.Laws.BitsLemmas
import Derived.RowKit
import Derived.Lib.OthersKept
import Derived.WalkSmall
import Derived.Deep.RegionLaw
import Derived.BigRegion
import Derived.Lib.SliceRun
import Derived.Shelf.Abstract
import Derived.Test.YtgebhidpkcjpmaaZFileBacka
import Derived.Test.YtgebhidpkcjpmaaZFileBackb
import Derived.Test.YtgebhidpkcjpmaaZFileBackc
import Derived.Test.YtgebhidpkcjpmaaZFileBackd
import Derived.Test.YtgebhidpkcjpmaaZFileBacke
import Derived.Test.YtgebhidpkcjpmaaZFileBackf
import Derived.Test.YtgebhidpkcjpmaaZFileBackg
import Derived.Test.YtgebhidpkcjpmaaZFileBackh
import Derived.Test.YtgebhidpkcjpmaaZFileBacki
import Derived.Test.YtgebhidpkcjpmaaZFileBackj
import Derived.Test.YtgebhidpkcjpmaaZFileBackk
namespace Go.Proofs.Ytgebhidpkcjpmaa.K
open Go.RowKit Go.Proofs.YtgebhidpkcjpmaaW.PrintWords Go.Proofs.YtgebhidpkcjpmaaW.PrintLast Go.Proofs.YtgebhidpkcjpmaaW.PrintMore Go.Proofs.Ytgebhidpkcjpmaa
attribute [local go_sem] max2_int min2_int max_two min_two max_three min_three max_four min_four
set_option linter.unusedVariables false
set_option linter.unusedSimpArgs false
open Go Go.RowKit Go.Maps Go.Proofs.Ytgebhidpkcjpmaa.PR13
abbrev MapW (w : World) (b n : Nat) (D : DataW Nat) : Prop := w.ownsMap Try.prog 47 (plainElem Try.prog 3) b n D
theorem MapW.below {w w' : World} {b n : Nat} {D : DataW Nat} (h : MapW w b n D) (hb : Below w.heap.size w w') : MapW w' b n D := by
  have hbl := World.ownsMap.lt h
  obtain ⟨es, clock, hbk, Ft, hs, hD⟩ := h
  exact ⟨es, clock, (hb.block b hbl).trans hbk, Ft, hs, hD⟩
/-- The map's keys are just these. -/
def KeysL (D : DataW Nat) (cs : List Int) : Prop := ∀ x, has D (.int .u64 x) = true ↔ x ∈ cs
/-- The classes of the first i of ts are in the map. -/
def Given (D : DataW Nat) (ts : List Int) (i : Nat) : Prop := ∀ (j : Nat) (h : j < ts.length), j < i → ∀ zd, D.atKey (.int .u64 ts[j]) zd = .lit (.int .i64 (if 255 < (j : Int) then 255 else (j : Int)))
theorem isKeyU (x : Int) : WideAt.IsKeyLit (.int .u64 x) := by first | exact trivial | simp [WideAt.IsKeyLit]
theorem KeysL.put {D : DataW Nat} {cs : List Int} (h : KeysL D cs) (hD : IsMap D) (x : Int) (d : DataW Nat) : KeysL (D.put (.int .u64 x) d) (cs ++ [x]) := fun y => by
  by_cases hy : y = x
  · subst hy; rw [has_put_same hD (isKeyU y)]; simp
  · rw [has_put_other (by simp [hy]), h y]; simp [hy]
theorem KeysL.put_same {D : DataW Nat} {cs : List Int} (h : KeysL D cs) (hD : IsMap D) (x : Int) (hx : x ∈ cs) (d : DataW Nat) : KeysL (D.put (.int .u64 x) d) cs := fun y => by
  by_cases hy : y = x
  · subst hy; rw [has_put_same hD (isKeyU y)]; simp [hx]
  · rw [has_put_other (by simp [hy]), h y]
theorem Given.put {D : DataW Nat} {ts : List Int} {i : Nat} (h : Given D ts i) (hD : IsMap D) (hn : ts.Nodup) (hi : i < ts.length) : Given (D.put (.int .u64 ts[i]) (.lit (.int .i64 (if 255 < (i : Int) then 255 else (i : Int))))) ts (i + 1) := fun j hj hji zd => by
  by_cases e : j = i
  · subst e; exact atKey_put_same hD (isKeyU _) _ _
  · rw [atKey_put_other (by
      simp only [ne_eq, Lit.int.injEq, true_and]
      intro h2
      have h3 := List.pairwise_iff_getElem.1 hn
      rcases (show j < i ∨ i < j by omega) with h4 | h4
      · exact h3 j i hj hi h4 h2
      · exact h3 i j hi hj h4 h2.symm)]
    exact h j hj (by omega) zd
theorem rdEt (l : List S49) (i : Nat) (h : i < l.length) : rd_T49 l (i : Int) = l[i] := by
  unfold rd_T49
  rw [Int.toNat_natCast, List.getD_eq_getElem?_getD, List.getElem?_eq_getElem h]; rfl
theorem take_f1 (l : List S49) (i : Nat) (h : i < l.length) : (l.take (i + 1)).map S49.f1 = (l.take i).map S49.f1 ++ [(l[i]).f1] := by
  rw [List.take_add_one, List.getElem?_eq_getElem h, List.map_append]; rfl
theorem row_slice {w : World} {base e size n : Nat} {v : Value} {xs : List Value} (h : w.ownsRow base e size v n xs) : ∃ A c, v = .slice A n c ∧ n ≤ c := by
  rcases h.2 with ⟨rfl, h0⟩ | ⟨g, cap, _, rfl, _, _, h1, _⟩
  · exact ⟨none, 0, by rw [h0], by omega⟩
  · exact ⟨_, _, rfl, h1⟩
theorem keyU {x : Int} (h : (Lit.int .u64 x).wf = true) : keyOf Try.prog 47 (.int .u64 x) = some (.int .u64 x) := by
  simp [keyOf, Try.underlying47, mapKey, h]
def classesL (l : List S49) : List Int := l.map (fun x => cls (l.map S49.f1) x.f1)

set_option maxHeartbeats 4000000 in
set_option maxRecDepth 100000 in
theorem classes_k (A : Option Addr) (c : Nat) (l : List S49) (w : World) (hC : Kd.C k49 w A l.length l) (hc : l.length ≤ c) (hl : l.length ≤ 1048576) (hw : ∀ x ∈ l, (Lit.int .u64 x.f1).wf = true) :
    Calls Try.prog 33 #[.slice A l.length c] w fun e w' => ∃ v : Value, e = .returned v ∧ Kd.R (Kd.int .i64) 3 w' w.heap.size (fun _ => True) v (classesL l) ∧ Below w.heap.size w w' := by
  have HC := Aside0.mk hC; have HW := Aside0.mk hw
  clear hC hw
  have hmx : 1048577 * 4 ≤ maxLen := by decide
  have hmm := @run_makeMap Try.prog
  have huE := Try.underlying49
  go_enter Try.func33, Try.ntmps33
  go_wp2
  have HB0 : Aside0 (Below w.heap.size w (w.alloc (.map #[] 0))) := ⟨(Below.refl _ w).alloc (Nat.le_refl _) _⟩
  have HM0 : Aside0 (MapW (w.alloc (.map #[] 0)) w.heap.size 0 (.map [])) := ⟨World.ownsMap_made w Try.prog _ _⟩
  go_loopg [15] l.length (fun gg v15 wr => ∃ (i : Nat) (D : DataW Nat), v15 = .int .i64 i ∧ Aside0 (i ≤ l.length ∧ l.length ≤ gg + i) ∧ Aside0 (MapW wr w.heap.size i D) ∧ Aside0 (KeysL D ((l.take i).map S49.f1)) ∧ Aside0 (Below w.heap.size w wr))
  case atStart => exact ⟨0, _, rfl, ⟨by omega⟩, HM0, ⟨fun x => by simp [has]⟩, HB0⟩
  case round =>
    obtain ⟨i, D, rfl, HI, HM, HK, HB⟩ := hrel
    by_cases hlt : i < l.length
    · have hcb : decide ((i : Int) < (l.length : Int)) = true := decide_eq_true (by omega)
      have q0 : (0 : Int) ≤ (i : Int) := by omega
      have q1 : (i : Int) < (l.length : Int) := by omega
      obtain ⟨ad, e0, a0, a1⟩ := at_T49 (Kd.C_below HC.out HB.out) (i : Int) q0 q1
      cases e0
      have hwf := HW.out l[i] (List.getElem_mem hlt)
      have htk := take_f1 l i hlt
      have hrd := rdEt l i hlt
      rw [← hrd] at hwf htk
      generalize rd_T49 l (i : Int) = x at a0 a1 hwf htk
      have HTK := Aside0.mk htk; have HKX := Aside0.mk (keyU hwf)
      clear hrd htk hwf
      rw [Int.toNat_natCast] at a0 a1
      have hnl : i < maxLen := by omega
      go_wp2_with (first | (at_mapUpdate; refine wpList_mapUpdate_own _ rfl _ _ _ 116 rfl 47 3 keyedU Try.underlying116 _ w.heap.size i D rfl (by repeat (first | exact HM.out | apply World.ownsMap.alloc | apply World.ownsMap.drew)) hnl _ _ (.int .u64 x.f1) rfl rfl HKX.out (.lit (.int .i64 0)) [] (plainElem_int Try.underlying3 (by decide)) ?_; intro w1 hown1 hgrow1))
      have hsz := HB.out.size
      have hsz0 : w.heap.size + 1 ≤ wr.heap.size := World.ownsMap.lt HM.out
      go_roundg (l.length - (i + 1))
      case measure => have := HI.out; omega
      case rel =>
        exact ⟨i + 1, _, congrArg (Value.int .i64) (by omega), ⟨by omega⟩, ⟨hown1⟩, ⟨by rw [HTK.out]; exact HK.out.put (World.ownsMap.isMap HM.out) _ _⟩, ⟨(HB.out.alloc HB.out.size _).grown hgrow1 (by simp; omega) (fun k e => by cases e; exact Nat.le_refl _)⟩⟩
    · have hcb : decide ((i : Int) < (l.length : Int)) = false := decide_eq_false (by omega)
      have ei : i = l.length := by have := HI.out; omega
      subst ei
      have hK : KeysL D (l.map S49.f1) := by have := HK.out; rwa [List.take_length] at this
      have HK2 := Aside0.mk hK
      have hms : Maps.size D ≤ l.length := World.ownsMap.size_le HM.out
      have hMW : MapW (wr.alloc (.cells #[.map (some w.heap.size)] 116)) w.heap.size l.length D := World.ownsMap.alloc HM.out _
      have hseq := keys_stops Fence.wide 2 trivial rfl (by omega) wr.heap.size w.heap.size l.length D (wr.alloc (.cells #[.map (some w.heap.size)] 116)) (by simp) (by simp) hMW
      have cS := sortedFunc_k 89 #[.pointer (some ⟨wr.heap.size, 0, none⟩)] (enters_of Try.func89 (by kernel_rfl) rfl) (Keys D) (fun _ => True) (Maps.size D) (by omega) (by omega) _ hseq
      have cK : ∀ mb W, Calls Try.prog 65 #[.map mb] W fun e w' => e = .returned (.func (.func 89) #[] #[.pointer (some ⟨W.heap.size, 0, none⟩)]) ∧ w' = W.alloc (.cells #[.map mb] 116) := fun mb W => callsIn_wide.1 (keys_in Fence.wide 5 trivial rfl mb W)
      have CS := Aside0.mk cS
      have HMW := Aside0.mk hMW
      have hsz0 : w.heap.size < wr.heap.size := World.ownsMap.lt HM.out
      clear cS hMW hseq hK HK
      go_wp2_with (first
        | (go_at_call 65; refine (cK _ _).mono ?_; rintro e w' ⟨rfl, rfl⟩)
        | (go_at_call 64; refine CS.out.mono ?_; rintro e w2 ⟨v, ss, ts, rfl, hS, hlen, hp, hpw, hrow, hb2⟩; obtain ⟨A2, c2, rfl, hc2⟩ := row_slice hrow))
      have hR : Kd.R (Kd.int .u64) 47 w2 (w.heap.size + 1) (fun k => w.heap.size < k) (.slice A2 ts.length c2) ts := Kd.R_lower (Kd.R_of_own hrow (fun k hk => by have := own_base hrow k hk; simp at this; omega)) (by simp; omega)
      have hMW2 : MapW w2 w.heap.size l.length D := MapW.below HMW.out hb2
      have hB2 : Below w.heap.size w w2 := (HB.out.alloc HB.out.size _).trans (hb2.mono (by simp; omega))
      have hnd : ts.Nodup := hp.nodup_iff.2 hS.1
      have hmem : ∀ x, x ∈ ts ↔ x ∈ l.map S49.f1 := fun x => by rw [hp.mem_iff, hS.2 x, HK2.out x]
      have htl : ts.length ≤ l.length := by rw [hp.length_eq]; omega
      have htw : ∀ x ∈ ts, (Lit.int .u64 x).wf = true := fun x hx => by
        obtain ⟨y, hy, rfl⟩ := List.mem_map.1 ((hmem x).1 hx)
        exact HW.out y hy
      have hcl : ∀ (j : Nat) (h : j < ts.length), cls (l.map S49.f1) ts[j] = if 255 < (j : Int) then 255 else (j : Int) := fun j h => by
        unfold cls; rw [abv_idx _ ts hnd hmem hpw j h]
      have HR2 := Aside0.mk hR; have HMW2 := Aside0.mk hMW2; have HB2 := Aside0.mk hB2; have HND := Aside0.mk hnd; have HMEM := Aside0.mk hmem; have HTW := Aside0.mk htw; have HCL := Aside0.mk hcl
      clear hR hMW2 hB2 hnd hmem htw hcl hS hlen hp hpw hrow hb2 CS HMW HM HB cK
      go_loopg [28] ts.length (fun gg v28 wr2 => ∃ (j : Nat) (E : DataW Nat), v28 = .int .i64 j ∧ Aside0 (j ≤ ts.length ∧ ts.length ≤ gg + j) ∧ Aside0 (MapW wr2 w.heap.size (l.length + j) E) ∧ Aside0 (KeysL E (l.map S49.f1)) ∧ Aside0 (Given E ts j) ∧ Aside0 (Below w.heap.size w wr2) ∧ Aside0 (Kd.R (Kd.int .u64) 47 wr2 (w.heap.size + 1) (fun k => w.heap.size < k) (.slice A2 ts.length c2) ts))
      case atStart => exact ⟨0, D, rfl, ⟨by omega⟩, HMW2, HK2, ⟨fun j _ h => absurd h (by omega)⟩, HB2, HR2⟩
      case round =>
        obtain ⟨j, E, rfl, HJ, HM, HK, HG, HB, HR⟩ := hrel
        by_cases hlt2 : j < ts.length
        · have hcb2 : decide ((j : Int) < (ts.length : Int)) = true := decide_eq_true (by omega)
          have q0 : (0 : Int) ≤ (j : Int) := by omega
          have q1 : (j : Int) < (ts.length : Int) := by omega
          obtain ⟨Ax, cx, ex, hlx, hCx⟩ := Kd.R_reads HR.out
          injection ex with ex1 _ ex2
          subst ex1; subst ex2
          obtain ⟨ad2, e2, b0⟩ := Kd.at_int hCx (j : Int) q0 q1
          cases e2
          have hrd : rd ts (j : Int) = ts[j] := by unfold rd; rw [Int.toNat_natCast, List.getD_eq_getElem?_getD, List.getElem?_eq_getElem hlt2]; rfl
          have hwf := HTW.out ts[j] (List.getElem_mem hlt2)
          have hput := HG.out.put (World.ownsMap.isMap HM.out) HND.out hlt2
          have hkp := HK.out.put_same (World.ownsMap.isMap HM.out) ts[j] ((HMEM.out _).1 (List.getElem_mem hlt2)) (.lit (.int .i64 (if 255 < (j : Int) then 255 else (j : Int))))
          rw [hrd, Int.toNat_natCast] at b0
          generalize ts[j] = x at b0 hwf hput hkp
          have hkx := keyU hwf
          have HKX := Aside0.mk hkx; have HPT := Aside0.mk hput; have HKP := Aside0.mk hkp
          have hsz0 : w.heap.size < wr.heap.size := World.ownsMap.lt HM.out
          have hnl : l.length + j < maxLen := by omega
          clear hrd hwf hput hkp hkx hCx
          by_cases h255 : 255 < (j : Int)
          · have h255b : decide (255 < (j : Int)) = true := decide_eq_true h255
            rw [if_pos h255] at HPT HKP
            go_wp2_with (first | (at_mapUpdate; refine wpList_mapUpdate_own _ rfl _ _ _ 116 rfl 47 3 keyedU Try.underlying116 _ w.heap.size (l.length + j) E rfl (by repeat (first | exact HM.out | apply World.ownsMap.alloc | apply World.ownsMap.drew)) hnl _ _ (.int .u64 x) rfl rfl HKX.out (.lit (.int .i64 255)) [] (plainElem_int Try.underlying3 (by decide)) ?_; intro w1 hown1 hgrow1))
            go_roundg (ts.length - (j + 1))
            case measure => have := HJ.out; omega
            case rel =>
              exact ⟨j + 1, _, congrArg (Value.int .i64) (by omega), ⟨by omega⟩, ⟨hown1⟩, HKP, HPT, ⟨HB.out.grown hgrow1 HB.out.size (fun k e => by cases e; exact Nat.le_refl _)⟩, ⟨Kd.R_grown HR.out hgrow1 (fun k hk e => by cases e; omega)⟩⟩
          · have h255b : decide (255 < (j : Int)) = false := decide_eq_false h255
            rw [if_neg h255] at HPT HKP
            have HWJ : Aside0 ((Lit.int .i64 (j : Int)).wf = true) := ⟨by simp [Lit.wf, IntKind.min, IntKind.max, IntKind.bits, IntKind.signed]; omega⟩
            go_wp2_with (first | (at_mapUpdate; refine wpList_mapUpdate_own _ rfl _ _ _ 116 rfl 47 3 keyedU Try.underlying116 _ w.heap.size (l.length + j) E rfl (by repeat (first | exact HM.out | apply World.ownsMap.alloc | apply World.ownsMap.drew)) hnl _ _ (.int .u64 x) rfl rfl HKX.out (.lit (.int .i64 (j : Int))) [] (plainElem_int Try.underlying3 HWJ.out) ?_; intro w1 hown1 hgrow1))
            go_roundg (ts.length - (j + 1))
            case measure => have := HJ.out; omega
            case rel =>
              exact ⟨j + 1, _, congrArg (Value.int .i64) (by omega), ⟨by omega⟩, ⟨hown1⟩, HKP, HPT, ⟨HB.out.grown hgrow1 HB.out.size (fun k e => by cases e; exact Nat.le_refl _)⟩, ⟨Kd.R_grown HR.out hgrow1 (fun k hk e => by cases e; omega)⟩⟩
        · have hcb2 : decide ((j : Int) < (ts.length : Int)) = false := decide_eq_false (by omega)
          have ej : j = ts.length := by have := HJ.out; omega
          subst ej
          have hsz0 : w.heap.size < wr.heap.size := World.ownsMap.lt HM.out
          have HN : Aside0 (∀ x ∈ l, ∀ zd, E.atKey (.int .u64 x.f1) zd = .lit (.int .i64 (cls (l.map S49.f1) x.f1))) := ⟨fun x hx zd => by
            obtain ⟨t, ht, e⟩ := List.mem_iff_getElem.1 ((HMEM.out x.f1).2 (List.mem_map.2 ⟨x, hx, rfl⟩))
            rw [← e, HG.out t ht ht zd, HCL.out t ht]⟩
          clear HG HCL HMEM HTW HND HR HK hcb2
          go_wp2
          obtain ⟨nm, hnm⟩ : ∃ nm, l.length + ts.length = nm := ⟨_, rfl⟩
          rw [hnm] at HM
          clear HR2 HMW2 HB2 HK2 hnm
          obtain ⟨F, hF⟩ : ∃ F : S49 → Int, F = fun x => cls (l.map S49.f1) x.f1 := ⟨_, rfl⟩
          have HF := Aside0.mk hF
          have HN2 : Aside0 (∀ x ∈ l, ∀ zd, E.atKey (.int .u64 x.f1) zd = .lit (.int .i64 (F x))) := ⟨fun x hx zd => by rw [HF.out]; exact HN.out x hx zd⟩
          clear hF HN
          go_loopg [9, 40] l.length (fun gg v9 v40 wr3 => ∃ i : Nat, v40 = .int .i64 i ∧ Aside0 (i ≤ l.length ∧ l.length ≤ gg + i) ∧ Aside0 (MapW wr3 w.heap.size nm E) ∧ Aside0 (Kd.R (Kd.int .i64) 3 wr3 w.heap.size (fun k => k ≠ w.heap.size) v9 ((l.take i).map F)) ∧ Aside0 (Below w.heap.size w wr3))
          case atStart => exact ⟨0, rfl, ⟨by omega⟩, HM, ⟨Kd.R_nil _ _ _ _ _⟩, HB⟩
          case round =>
            obtain ⟨i, rfl, HI, HM, HR, HB⟩ := hrel
            by_cases hlt : i < l.length
            · have hcb : decide ((i : Int) < (l.length : Int)) = true := decide_eq_true (by omega)
              have q0 : (0 : Int) ≤ (i : Int) := by omega
              have q1 : (i : Int) < (l.length : Int) := by omega
              obtain ⟨ad, e0, a0, a1⟩ := at_T49 (Kd.C_below HC.out HB.out) (i : Int) q0 q1
              cases e0
              have hwf := HW.out l[i] (List.getElem_mem hlt)
              have hN := HN2.out l[i] (List.getElem_mem hlt)
              have htk : (l.take (i + 1)).map F = (l.take i).map F ++ [F l[i]] := by rw [List.take_add_one, List.getElem?_eq_getElem hlt, List.map_append]; rfl
              have hrd := rdEt l i hlt
              rw [← hrd] at hwf htk hN
              generalize rd_T49 l (i : Int) = x at a0 a1 hwf htk hN
              have HTK := Aside0.mk htk; have HKX := Aside0.mk (keyU hwf); have HNX := Aside0.mk hN
              clear hrd htk hwf hN
              rw [Int.toNat_natCast] at a0 a1
              have hln : ((l.take i).map F).length + 1 ≤ 1048577 := by rw [List.length_map, List.length_take]; omega
              have HLN := Aside0.mk hln
              obtain ⟨xs, hxs⟩ : ∃ xs, (l.take i).map F = xs := ⟨_, rfl⟩
              rw [hxs] at HR HTK HLN
              clear hln hxs
              have hbz := HB.out.size
              go_upto_region 17 with fail
              have hnew : (wr.alloc (.cells #[.string x.f0, .int .u64 x.f1] 49)).cell? ⟨wr.heap.size, 1, none⟩ = some (.int .u64 x.f1) := by simp
              have hM3 : MapW (wr.alloc (.cells #[.string x.f0, .int .u64 x.f1] 49)) w.heap.size nm E := World.ownsMap.alloc HM.out _
              have hB3 : Below w.heap.size w (wr.alloc (.cells #[.string x.f0, .int .u64 x.f1] 49)) := HB.out.alloc HB.out.size _
              have hR3 : Kd.R (Kd.int .i64) 3 (wr.alloc (.cells #[.string x.f0, .int .u64 x.f1] 49)) w.heap.size (fun k => k ≠ w.heap.size) u9 xs := Kd.R_alloc HR.out _
              have hgt : w.heap.size < (wr.alloc (.cells #[.string x.f0, .int .u64 x.f1] 49)).heap.size := World.ownsMap.lt hM3
              generalize wr.alloc (.cells #[.string x.f0, .int .u64 x.f1] 49) = W at hnew hM3 hB3 hR3 hgt ⊢
              have HM3 := Aside0.mk hM3; have HB3 := Aside0.mk hB3; have HR3 := Aside0.mk hR3
              clear hM3 hB3 hR3 HM HB HR a0 a1
              go_wp2_with (first
                | (at_lookup; refine wpList_lookup_own_int _ rfl _ _ 116 rfl 47 3 .i64 keyedU Try.underlying116 Try.underlying3 (Try.zeroValue3 _) w.heap.size nm E rfl (by repeat (first | exact HM3.out | apply World.ownsMap.alloc | apply World.ownsMap.drew)) _ (.int .u64 x.f1) rfl HKX.out ?_; intro cv hat hwc; rw [HNX.out] at hat; injection hat with hat; injection hat with _ hat; subst hat)
                | ((with_reducible refine gate_builtin (b := .append) (xs := #[.tmp 44, .tmp 49]) rfl ?_); at_builtin; refine Kd.R_append (Kd.int .i64) (w0 := w) w.heap.size rfl (.tmp 44) (.tmp 49) 27 3 (.int .i64 0) 8 rfl Try.underlying27 info3 rfl (by decide) (by omega) _ xs (F x) [.int .i64 (F x)] (fun k => k ≠ w.heap.size) (fun _ => False) rfl rfl rfl (fun _ hk => hk.elim) (fun k hk => by omega) (by (with_reducible repeat (first | apply Kd.R_alloc | apply Kd.R_drewN | apply Kd.R_drew)); exact HR3.out) HB3.out (HB3.out).size (by have := HLN.out; omega) ?_); intro v1 w5 hR5 hb5 hg5 hat5)
              go_roundg (l.length - (i + 1))
              case measure => have := HI.out; omega
              case rel =>
                exact ⟨i + 1, congrArg (Value.int .i64) (by omega), ⟨by omega⟩, ⟨World.ownsMap.kept HM3.out hg5 (fun e => HR3.out.1 _ e.symm rfl)⟩, ⟨by rw [HTK.out]; exact hR5⟩, ⟨hb5⟩⟩
            · have hcb : decide ((i : Int) < (l.length : Int)) = false := decide_eq_false (by omega)
              have ei : i = l.length := by have := HI.out; omega
              subst ei
              go_wp2
              go_ret
              refine ⟨_, rfl, ?_, HB.out⟩
              have h6 := HR.out
              rw [List.take_length, HF.out] at h6
              exact Kd.R_mono h6 (fun _ _ => trivial)
end Go.Proofs.Ytgebhidpkcjpmaa.K

namespace Go.Proofs.Ytgebhidpkcjpmaa.K
open Go.RowKit Go.Proofs.YtgebhidpkcjpmaaW.PrintWords Go.Proofs.YtgebhidpkcjpmaaW.PrintLast Go.Proofs.YtgebhidpkcjpmaaW.PrintMore Go.Proofs.Ytgebhidpkcjpmaa
attribute [local go_sem] max2_int min2_int max_two min_two max_three min_three max_four min_four
set_option linter.unusedVariables false
set_option linter.unusedSimpArgs false
open Go Go.Proofs.Ytgebhidpkcjpmaa.PR13
def okE (l : List S49) : Bool := decide (l.length ≤ 1048576) && l.all (fun x => (Lit.int .u64 x.f1).wf)
def rank_Classes.f (l0 : List S49) : Option (List Int) := if okE l0 = true then some (classesL l0) else none
theorem rank_Classes.calls (A0 : Option Addr) (c0 : Nat) (l0 : List S49) (r : List Int) (w : World) (hr0 : Kd.C k49 w A0 l0.length l0) (hc0 : l0.length ≤ c0) (h : rank_Classes.f l0 = some r) :
    Calls Try.prog 33 #[.slice A0 l0.length c0] w fun e w' => ∃ v0_ : Value, e = .returned (v0_) ∧ Kd.R (Kd.int .i64) 3 w' w.heap.size (fun _ => True) v0_ r ∧ Below w.heap.size w w' := by
  unfold rank_Classes.f at h
  by_cases hk : okE l0 = true
  · rw [if_pos hk] at h
    obtain rfl := Option.some.inj h
    unfold okE at hk
    rw [Bool.and_eq_true, List.all_eq_true] at hk
    exact classes_k A0 c0 l0 w hr0 hc0 (of_decide_eq_true hk.1) hk.2
  · rw [if_neg hk] at h; cases h
end Go.Proofs.Ytgebhidpkcjpmaa.K

namespace Go.Proofs.Ytgebhidpkcjpmaa.K
open Go.RowKit Go.Proofs.YtgebhidpkcjpmaaW.PrintWords Go.Proofs.YtgebhidpkcjpmaaW.PrintLast Go.Proofs.YtgebhidpkcjpmaaW.PrintMore Go.Proofs.Ytgebhidpkcjpmaa
attribute [local go_sem] max2_int min2_int max_two min_two max_three min_three max_four min_four
set_option linter.unusedVariables false
set_option linter.unusedSimpArgs false
open Go Go.Proofs.Ytgebhidpkcjpmaa.PR13 Go.Proofs.Ytgebhidpkcjpmaa.PDk Go.Proofs.Ytgebhidpkcjpmaa.PDm Go.Proofs.Ytgebhidpkcjpmaa.PFl Go.Proofs.Ytgebhidpkcjpmaa.Daw Go.Proofs.Ytgebhidpkcjpmaa.Fil Go.Proofs.Ytgebhidpkcjpmaa.Crc
def zs (l : List Nat) : List Int := l.map Int.ofNat
theorem zs_len (l : List Nat) : (zs l).length = l.length := List.length_map ..
theorem zs_app (a b : List Nat) : zs (a ++ b) = zs a ++ zs b := List.map_append
theorem zs_cons (a : Nat) (b : List Nat) : zs (a :: b) = (a : Int) :: zs b := rfl
theorem zs_nat (l : List Nat) : natL (zs l) = l := by
  unfold natL zs
  rw [List.map_map]
  exact (List.map_congr_left fun x _ => rfl).trans (List.map_id l)
theorem zs_byt {l : List Nat} (h : ∀ x ∈ l, x < 256) : byt (zs l) = true := List.all_eq_true.2 fun x hx => by
  obtain ⟨y, hy, rfl⟩ := List.mem_map.1 hx
  have := h y hy
  simp; omega
theorem u64s {x : Int} (h0 : 0 ≤ x) (h1 : x < 18446744073709551616) : IntKind.u64.wrap x = x := by
  simp [IntKind.wrap, IntKind.bits, IntKind.signed]; omega
theorem put10 (n : Nat) (hn : n < 18446744073709551616) : (put n).length ≤ 11 := put_len 10 n (Nat.lt_of_lt_of_le hn (by decide))
theorem put_ev (x : List Int) (n : Nat) (hn : n < 18446744073709551616) (hx : x.length < 140737488000000) : Ev (fun k => num_Put.f k x (n : Int)) (x ++ zs (put n)) := by
  refine Ev.of (k := 20) (fun k => num_Put.mono _ _ _) ?_
  unfold num_Put.f
  simp only [Option.bind_some, List.length_nil, Nat.zero_add, List.nil_append]
  rw [if_pos (by omega), put_l0 19 n x (Nat.lt_of_lt_of_le hn (by decide)) (by omega)]
  rfl
theorem put_evI (x : List Int) (i : Int) (n : Nat) (hi : i = (n : Int)) (hn : n < 18446744073709551616) (hx : x.length < 140737488000000) : Ev (fun k => num_Put.f k x (IntKind.u64.wrap i)) (x ++ zs (put n)) := by
  subst hi
  rw [u64s (by omega) (by omega)]
  exact put_ev x n hn hx
theorem sum_l0 (c : Nat) : frame_sum.l0 5 (c : Int) ([] : List Int) 0 = some (zs [c % 256, c / 256 % 256, c / 65536 % 256, c / 16777216 % 256]) := by
  have w0 : Go.RowKit.wrap64 (8 * 0) = 0 := wz (by decide) (by decide)
  have w1 : Go.RowKit.wrap64 (8 * 1) = 8 := wz (by decide) (by decide)
  have w2 : Go.RowKit.wrap64 (8 * 2) = 16 := wz (by decide) (by decide)
  have w3 : Go.RowKit.wrap64 (8 * 3) = 24 := wz (by decide) (by decide)
  have a0 : Go.RowKit.wrap64 (0 + 1) = 1 := wz (by decide) (by decide)
  have a1 : Go.RowKit.wrap64 (1 + 1) = 2 := wz (by decide) (by decide)
  have a2 : Go.RowKit.wrap64 (2 + 1) = 3 := wz (by decide) (by decide)
  have a3 : Go.RowKit.wrap64 (3 + 1) = 4 := wz (by decide) (by decide)
  have s0 : shr .u32 (c : Int) 0 % 256 = ((c % 256 : Nat) : Int) := by show (c : Int) / 2 ^ 0 % 256 = _; omega
  have s1 : shr .u32 (c : Int) 8 % 256 = ((c / 256 % 256 : Nat) : Int) := by show (c : Int) / 2 ^ 8 % 256 = _; omega
  have s2 : shr .u32 (c : Int) 16 % 256 = ((c / 65536 % 256 : Nat) : Int) := by show (c : Int) / 2 ^ 16 % 256 = _; omega
  have s3 : shr .u32 (c : Int) 24 % 256 = ((c / 16777216 % 256 : Nat) : Int) := by show (c : Int) / 2 ^ 24 % 256 = _; omega
  unfold frame_sum.l0
  rw [if_pos (by decide), w0, if_pos (by decide), if_pos (by simp), a0, s0]
  unfold frame_sum.l0
  rw [if_pos (by decide), w1, if_pos (by decide), if_pos (by simp), a1, s1]
  unfold frame_sum.l0
  rw [if_pos (by decide), w2, if_pos (by decide), if_pos (by simp), a2, s2]
  unfold frame_sum.l0
  rw [if_pos (by decide), w3, if_pos (by decide), if_pos (by simp), a3, s3]
  unfold frame_sum.l0
  rw [if_neg (by decide)]
  rfl
theorem sum_ev (l : List Int) (h : byt l = true) : Ev (fun k => frame_sum.f k l) (zs (sumB (natL l))) := by
  refine Ev.of (k := 5) (fun k => frame_sum.mono _ _) ?_
  unfold frame_sum.f crc_Of.f
  rw [if_pos h, Option.bind_some, sum_l0]
  rfl
theorem frame_ev (b : List Int) (p : List Nat) (hp : ∀ x ∈ p, x < 256) (hl : p.length ≤ 1048576) (hb : b.length < 70368744000000) : Ev (fun k => frame_Put.f k b (zs p)) (b ++ zs (recB sumB p), 0) := by
  unfold frame_Put.f
  simp only [zs_len]
  refine Ev.congr (fun k => if_neg (by omega)) ?_
  refine Ev.bind (put_evI b _ p.length rfl (by omega) (by omega)) ?_
  have h10 := put10 p.length (by omega)
  refine Ev.congr (fun k => if_pos (by rw [List.length_append, zs_len]; omega)) ?_
  simp only [Option.bind_some]
  refine Ev.bind (sum_ev (zs p) (zs_byt hp)) ?_
  rw [zs_nat]
  refine Ev.congr (fun k => if_pos (by rw [List.length_append, List.length_append, zs_len, zs_len, zs_len, sumB_len]; omega)) ?_
  unfold recB
  rw [zs_app, zs_app, ← List.append_assoc, ← List.append_assoc]
  exact Ev.now _
theorem rdst (b : List DS) (n : Nat) (h : n < b.length) : rd_T82 (b.map toS) (n : Int) = toS b[n] := by
  unfold rd_T82
  rw [Int.toNat_natCast, List.getD_eq_getElem?_getD, List.getElem?_map, List.getElem?_eq_getElem h]; rfl
theorem rded (es : List DE) (n : Nat) (h : n < es.length) : rd_T84 (es.map toE) (n : Int) = toE es[n] := by
  unfold rd_T84
  rw [Int.toNat_natCast, List.getD_eq_getElem?_getD, List.getElem?_map, List.getElem?_eq_getElem h]; rfl
theorem edB_len (i : Nat) (hi : i < 9223372036854775807) (e : DE) : (edB i e).length ≤ 12 := by
  unfold edB
  have := put10 (i - e.2) (by omega)
  simp; omega
theorem st_l1 (R : List S82) (n : Int) (i : Nat) (hi : i < 9223372036854775807) (es : List DE) (he : ∀ e ∈ es, e.2 ≤ i) (hl : es.length ≤ 4611686018427387904) : ∀ (d j : Nat) (x : List Int), j + d = es.length → x.length + 12 * d < 140000000000000 → ∀ r, Ev (fun k => file_states.l0 k (x ++ zs ((es.drop j).flatMap (edB i))) R n (Go.RowKit.wrap64 ((i : Int) + 1))) r → Ev (fun k => file_states.l1 k x (i : Int) R n (i : Int) (es.map toE) (es.length : Int) (j : Int)) r
  | 0, j, x, hj, hx, r, h => by
    rw [List.drop_eq_nil_of_le (by omega)] at h
    refine Ev.step (fun k => ?_) (by simpa [zs] using h)
    simp only [file_states.l1]
    rw [if_neg (by omega)]
  | d + 1, j, x, hj, hx, r, h => by
    have hlt : j < es.length := by omega
    have hmem := List.getElem_mem hlt
    have h2 := he _ hmem
    have hlm : ((es.map toE).length : Int) = (es.length : Int) := by rw [List.length_map]
    rw [List.drop_eq_getElem_cons hlt, List.flatMap_cons, zs_app, ← List.append_assoc] at h
    have hed := edB_len i hi es[j]
    have hpe := put_evI (x ++ [(es[j].1 : Int)]) (Go.RowKit.wrap64 ((i : Int) - (es[j].2 : Int))) (i - es[j].2) (by rw [wz (by omega) (by omega)]; omega) (by omega) (by rw [List.length_append]; simp; omega)
    have e1 : x ++ [(es[j].1 : Int)] ++ zs (put (i - es[j].2)) = x ++ zs (edB i es[j]) := by
      unfold edB
      rw [zs_cons, List.append_assoc]; rfl
    rw [e1] at hpe
    have ih := st_l1 R n i hi es he hl d (j + 1) (x ++ zs (edB i es[j])) (by omega) (by rw [List.length_append, zs_len]; omega) r h
    refine Ev.step (f := fun k => (num_Put.f k (x ++ [(es[j].1 : Int)]) (IntKind.u64.wrap (Go.RowKit.wrap64 ((i : Int) - (es[j].2 : Int))))).bind fun t130 => (file_states.l1 k t130 (i : Int) R n (i : Int) (es.map toE) (es.length : Int) ((j + 1 : Nat) : Int))) (fun k => ?_) (Ev.bind hpe ih)
    simp only [file_states.l1]
    rw [if_pos (by omega), if_pos (by omega), if_pos (by rw [hlm]; omega), if_pos (by omega), rded es j hlt, wz (x := (j : Int) + 1) (by omega) (by omega)]
    rfl
def wt (b : List DS) : Nat := (b.map fun s => s.2.length + 1).sum
theorem wt_cons (s : DS) (b : List DS) : wt (s :: b) = s.2.length + 1 + wt b := by simp [wt]
theorem flat_len (f : DE → List Nat) (m : Nat) (hf : ∀ e, (f e).length ≤ m) : ∀ es : List DE, (es.flatMap f).length ≤ m * es.length
  | [] => by simp
  | e :: es => by
    rw [List.flatMap_cons, List.length_append, List.length_cons, Nat.mul_succ]
    have := hf e
    have := flat_len f m hf es
    omega
theorem st_l0 (b : List DS) (hb : Low 0 b) (hn : b.length ≤ 1000000000) (hw : ∀ s ∈ b, s.2.length ≤ 1000000000) : ∀ (d i : Nat) (x : List Int), i + d = b.length → x.length + 12 * wt (b.drop i) < 140000000000000 → Ev (fun k => file_states.l0 k x (b.map toS) (b.length : Int) (i : Int)) (x ++ zs (stsB i (b.drop i)))
  | 0, i, x, hi, hx => by
    rw [List.drop_eq_nil_of_le (by omega)]
    refine Ev.step (f := fun _ => some x) (fun k => ?_) (by simpa [zs, stsB] using Ev.now x)
    simp only [file_states.l0]
    rw [if_neg (by omega)]
  | d + 1, i, x, hi, hx => by
    have hlt : i < b.length := by omega
    have hlm : ((b.map toS).length : Int) = (b.length : Int) := by rw [List.length_map]
    rw [List.drop_eq_getElem_cons hlt] at hx ⊢
    have hs2 := hw _ (List.getElem_mem hlt)
    have hlow := hb i b[i] (List.getElem?_eq_getElem hlt)
    have HR := rdst b i hlt
    have ih := fun x h => st_l0 b hb hn hw d (i + 1) x (by omega) h
    generalize b[i] = s at hx hs2 hlow HR ⊢
    rw [wt_cons] at hx
    have hl1 : ((s.2.map toE).length : Int) = (s.2.length : Int) := by rw [List.length_map]
    have hfl := flat_len (edB i) 12 (edB_len i (by omega)) s.2
    have hp10 := put10 (hdN s) (by unfold hdN; split <;> omega)
    have hnext := ih (x ++ zs (stB i s)) (by unfold stB; rw [List.length_append, zs_len, List.length_append]; omega)
    rw [List.append_assoc, ← zs_app] at hnext
    have hl := st_l1 (b.map toS) (b.length : Int) i (by omega) s.2 (by simpa using hlow) (by omega) s.2.length 0 (x ++ zs (put (hdN s))) (by omega) (by rw [List.length_append, zs_len]; omega) (x ++ zs (stB i s ++ stsB (i + 1) (b.drop (i + 1)))) (by
      rw [List.drop_zero, List.append_assoc, ← zs_app, wz (by omega) (by omega)]
      exact hnext)
    have hj : ∀ x6 : Int, x6 = (hdN s : Int) → Ev (fun k => file_states.j1 k x (i : Int) x6 (b.map toS) (b.length : Int) (i : Int) s.1 (s.2.map toE)) (x ++ zs (stB i s ++ stsB (i + 1) (b.drop (i + 1)))) := fun x6 h6 => by
      refine Ev.step (f := fun k => (num_Put.f k x (IntKind.u64.wrap x6)).bind fun t122 => (file_states.l1 k t122 (i : Int) (b.map toS) (b.length : Int) (i : Int) (s.2.map toE) (s.2.length : Int) 0)) (fun k => by simp only [file_states.j1, hl1]) (Ev.bind (put_evI x x6 (hdN s) h6 (by unfold hdN; split <;> omega) (by omega)) hl)
    show Ev _ (x ++ zs (stB i s ++ stsB (i + 1) (b.drop (i + 1))))
    cases hs : s.1 with
    | true =>
      refine Ev.step (fun k => ?_) (hj (Go.RowKit.wrap64 ((Go.RowKit.wrap64 (2 * ((s.2.map toE).length : Int))) + 1)) (by rw [hl1, wz (x := 2 * (s.2.length : Int)) (by omega) (by omega), wz (by omega) (by omega)]; unfold hdN; rw [hs]; simp))
      simp only [file_states.l0]
      rw [if_pos (by omega), if_pos (by omega), if_pos (by rw [hlm]; omega), HR, if_pos (show (toS s).f0 = true from hs)]
      rfl
    | false =>
      refine Ev.step (fun k => ?_) (hj (Go.RowKit.wrap64 (2 * ((s.2.map toE).length : Int))) (by rw [hl1, wz (x := 2 * (s.2.length : Int)) (by omega) (by omega)]; unfold hdN; rw [hs]; simp))
      simp only [file_states.l0]
      rw [if_pos (by omega), if_pos (by omega), if_pos (by rw [hlm]; omega), HR, if_neg (show ¬ (toS s).f0 = true from by show ¬ s.1 = true; rw [hs]; decide)]
      rfl
theorem states_ev (b : List DS) (hb : Low 0 b) (hn : b.length ≤ 1000000000) (hw : ∀ s ∈ b, s.2.length ≤ 1000000000) (hwt : wt b ≤ 10000000000000) : Ev (fun k => file_states.f k (b.map toS)) (zs (statesB b)) := by
  unfold file_states.f
  simp only [List.length_map]
  refine Ev.bind (put_evI [] _ b.length rfl (by omega) (by simp)) ?_
  rw [List.nil_append]
  have h10 := put10 b.length (by omega)
  have := st_l0 b hb hn hw b.length 0 (zs (put b.length)) (by omega) (by rw [zs_len, List.drop_zero]; omega)
  rw [List.drop_zero, ← zs_app] at this
  exact this
end Go.Proofs.Ytgebhidpkcjpmaa.K

namespace Go.Proofs.Ytgebhidpkcjpmaa.K
open Go.RowKit Go.Proofs.YtgebhidpkcjpmaaW.PrintWords Go.Proofs.YtgebhidpkcjpmaaW.PrintLast Go.Proofs.YtgebhidpkcjpmaaW.PrintMore Go.Proofs.Ytgebhidpkcjpmaa
attribute [local go_sem] max2_int min2_int max_two min_two max_three min_three max_four min_four
set_option linter.unusedVariables false
set_option linter.unusedSimpArgs false
open Go Go.Proofs.Ytgebhidpkcjpmaa.PR13 Go.Proofs.Ytgebhidpkcjpmaa.PDk Go.Proofs.Ytgebhidpkcjpmaa.PDm Go.Proofs.Ytgebhidpkcjpmaa.PFl Go.Proofs.Ytgebhidpkcjpmaa.PLg Go.Proofs.Ytgebhidpkcjpmaa.Daw Go.Proofs.Ytgebhidpkcjpmaa.Fil Go.Proofs.Ytgebhidpkcjpmaa.Crc
def mxl (l : List Nat) : Nat := l.foldl max 0
theorem mxl_snoc (l : List Nat) (a : Nat) : mxl (l ++ [a]) = max (mxl l) a := by simp [mxl, List.foldl_append]
theorem foldl_max : ∀ (l : List Nat) (m n : Nat), l.foldl max m ≤ n ↔ m ≤ n ∧ ∀ x ∈ l, x ≤ n
  | [], m, n => by simp
  | a :: l, m, n => by
    rw [List.foldl_cons, foldl_max l]
    simp only [List.mem_cons, forall_eq_or_imp]
    rw [Nat.max_le, and_assoc]
theorem mxl_le {l : List Nat} {n : Nat} : mxl l ≤ n ↔ ∀ x ∈ l, x ≤ n := by
  unfold mxl
  rw [foldl_max]
  simp
structure Lng (b : List DS) (lg : Nat → Nat) : Prop where
  low : ∀ i (h : i < b.length), ∀ e ∈ b[i].2, e.2 < i
  eq : ∀ i (h : i < b.length), lg i = mxl (b[i].2.map fun e => lg e.2 + 1)
  le : ∀ i, i < b.length → lg i ≤ 1000000000
  few : ∀ i (h : i < b.length), b[i].2.length ≤ 8796093022208
  len : b.length ≤ 4398046511104
  pos : 0 < b.length
section
variable {b : List DS} {lg : Nat → Nat}
theorem rd_mid (xs ys : List Int) (v : Int) (i : Nat) (h : xs.length = i) : rd (xs ++ v :: ys) (i : Int) = v := by
  rw [rd_nat, List.getD_eq_getElem?_getD, List.getElem?_append_right (by omega), h, Nat.sub_self]; rfl
theorem rd_left (xs ys : List Int) (j : Nat) (h : j < xs.length) : rd (xs ++ ys) (j : Int) = rd xs (j : Int) := by
  rw [rd_nat, rd_nat, List.getD_eq_getElem?_getD, List.getD_eq_getElem?_getD, List.getElem?_append_left h]
theorem set_mid (xs ys : List Int) (v u : Int) (i : Nat) (h : xs.length = i) : (xs ++ v :: ys).set i u = xs ++ u :: ys := by
  rw [List.set_append_right (h := by omega), h, Nat.sub_self]; rfl
theorem lg_l1 (h : Lng b lg) (i : Nat) (hi : i < b.length) {r : Int} (hn : Ev (fun k => file_longest.l0 k (b.map toS) (csL lg (i + 1) ++ List.replicate (b.length - (i + 1)) 0) (b.map toS) (b.length : Int) ((i + 1 : Nat) : Int)) r) :
    ∀ (d j m : Nat), j + d = b[i].2.length → m = mxl ((b[i].2.take j).map fun e => lg e.2 + 1) →
    Ev (fun k => file_longest.l1 k (b.map toS) (csL lg i ++ (m : Int) :: List.replicate (b.length - (i + 1)) 0) (i : Int) (b.map toS) (b.length : Int) (i : Int) (b[i].2.map toE) (b[i].2.length : Int) (j : Int)) r
  | 0, j, m, hj, hm => by
    have hlen := h.len
    rw [List.take_of_length_le (by omega), ← h.eq i hi] at hm
    subst hm
    refine Ev.step (fun k => ?_) hn
    simp only [file_longest.l1]
    rw [if_neg (by omega), wz (by omega) (by omega), csL_succ, List.append_assoc]
    rfl
  | d + 1, j, m, hj, hm => by
    have hlen := h.len
    have hlt : j < b[i].2.length := by omega
    have hfew := h.few i hi
    have hel := h.low i hi _ (List.getElem_mem hlt)
    have hle := h.le b[i].2[j].2 (by omega)
    have hlm : ((b[i].2.map toE).length : Int) = (b[i].2.length : Int) := by rw [List.length_map]
    have hx3 : (csL lg i ++ (m : Int) :: List.replicate (b.length - (i + 1)) 0).length = b.length := by
      rw [List.length_append, csL_len, List.length_cons, List.length_replicate]; omega
    have r1 : rd (csL lg i ++ (m : Int) :: List.replicate (b.length - (i + 1)) 0) (i : Int) = (m : Int) := rd_mid _ _ _ _ (csL_len lg i)
    have r2 : rd (csL lg i ++ (m : Int) :: List.replicate (b.length - (i + 1)) 0) (b[i].2[j].2 : Int) = (lg b[i].2[j].2 : Int) := by
      rw [rd_left _ _ _ (by rw [csL_len]; exact hel)]
      have := rd_csL lg i 0 _ hel
      simpa using this
    have ih := lg_l1 h i hi hn d (j + 1) (max m (lg b[i].2[j].2 + 1)) (by omega) (by
      rw [List.take_succ_eq_append_getElem hlt, List.map_append, List.map_cons, List.map_nil, mxl_snoc, ← hm])
    refine Ev.step (fun k => ?_) ih
    simp only [file_longest.l1]
    rw [if_pos (by omega), if_pos (by omega), if_pos (by rw [hlm]; omega), if_pos (by omega), if_pos (by rw [hx3]; omega), rded _ j hlt]
    rw [show (toE b[i].2[j]).f1 = (b[i].2[j].2 : Int) from rfl, if_pos (by omega), if_pos (by rw [hx3]; omega), r1, r2, wz (x := (lg b[i].2[j].2 : Int) + 1) (by omega) (by omega), wz (x := (j : Int) + 1) (by omega) (by omega), Int.toNat_natCast, set_mid _ _ _ _ _ (csL_len lg i)]
    have hmx : mx (m : Int) ((lg b[i].2[j].2 : Int) + 1) = ((max m (lg b[i].2[j].2 + 1) : Nat) : Int) := by unfold mx; split <;> omega
    rw [hmx]
    rfl
theorem lg_l0 (h : Lng b lg) : ∀ (d i : Nat), i + d = b.length → Ev (fun k => file_longest.l0 k (b.map toS) (csL lg i ++ List.replicate (b.length - i) 0) (b.map toS) (b.length : Int) (i : Int)) ((lg (b.length - 1) : Nat) : Int)
  | 0, i, hi => by
    have hlen := h.len
    have hpos := h.pos
    have hlm : ((b.map toS).length : Int) = (b.length : Int) := by rw [List.length_map]
    obtain rfl : i = b.length := by omega
    have hx3 : (csL lg b.length ++ List.replicate (b.length - b.length) 0).length = b.length := by rw [List.length_append, csL_len, List.length_replicate]; omega
    have hr := rd_csL lg b.length (b.length - b.length) (b.length - 1) (by omega)
    have e : Go.RowKit.wrap64 ((b.length : Int) - 1) = ((b.length - 1 : Nat) : Int) := by rw [wz (by omega) (by omega)]; omega
    refine Ev.step (f := fun _ => some ((lg (b.length - 1) : Nat) : Int)) (fun k => ?_) (Ev.now _)
    simp only [file_longest.l0]
    rw [if_neg (by omega), hlm, e, if_pos (by omega), if_pos (by rw [hx3]; omega), hr]
  | d + 1, i, hi => by
    have hlt : i < b.length := by omega
    have hlm : ((b.map toS).length : Int) = (b.length : Int) := by rw [List.length_map]
    have ih := lg_l0 h d (i + 1) (by omega)
    have h1 := lg_l1 h i hlt ih b[i].2.length 0 0 (by omega) rfl
    have e : List.replicate (b.length - i) (0 : Int) = 0 :: List.replicate (b.length - (i + 1)) 0 := by
      rw [show b.length - i = (b.length - (i + 1)) + 1 by omega, List.replicate_succ]
    refine Ev.step (fun k => ?_) h1
    simp only [file_longest.l0]
    rw [if_pos (by omega), if_pos (by omega), if_pos (by rw [hlm]; omega), rdst b i hlt, e]
    show file_longest.l1 k _ _ _ _ _ _ (b[i].2.map toE) ((b[i].2.map toE).length : Int) 0 = _
    rw [List.length_map]
    rfl
theorem longest_ev (h : Lng b lg) : Ev (fun k => file_longest.f k (b.map toS)) ((lg (b.length - 1) : Nat) : Int) := by
  have hlen := h.len
  unfold file_longest.f
  simp only [List.length_map]
  refine Ev.congr (fun k => if_pos (by omega)) (Ev.congr (fun k => if_pos (by rw [Int.toNat_natCast]; omega)) ?_)
  have := lg_l0 h b.length 0 (by omega)
  rw [Int.toNat_natCast]
  exact this
end
def mlen (L : List (List Nat)) : Nat := mxl (L.map List.length)
theorem mlen_le {L : List (List Nat)} {n : Nat} : mlen L ≤ n ↔ ∀ v ∈ L, v.length ≤ n := by
  unfold mlen
  rw [mxl_le]
  constructor
  · intro h v hv; exact h _ (List.mem_map_of_mem hv)
  · intro h x hx
    obtain ⟨v, hv, rfl⟩ := List.mem_map.1 hx
    exact h v hv
theorem eq_of_le_iff {a c : Nat} (h : ∀ n, a ≤ n ↔ c ≤ n) : a = c := Nat.le_antisymm ((h c).2 (Nat.le_refl _)) ((h a).1 (Nat.le_refl _))
theorem mlen_wl {b : List DS} (h : Daw.Good b) {i : Nat} (hi : i < b.length) (hne : ∀ e ∈ b[i].2, wl b e.2 ≠ []) : mlen (wl b i) = mxl (b[i].2.map fun e => mlen (wl b e.2) + 1) := by
  apply eq_of_le_iff
  intro n
  rw [mlen_le, mxl_le, wl_eq h hi]
  constructor
  · intro hv x hx
    obtain ⟨e, he, rfl⟩ := List.mem_map.1 hx
    have h1 : ∀ v ∈ wl b e.2, v.length + 1 ≤ n := fun v hvm => by
      have := hv (e.1 :: v) (List.mem_append_right _ (List.mem_flatMap.2 ⟨e, he, List.mem_map_of_mem hvm⟩))
      simpa using this
    obtain ⟨v0, hv0⟩ := List.exists_mem_of_ne_nil _ (hne e he)
    have h0 := h1 v0 hv0
    have : mlen (wl b e.2) ≤ n - 1 := mlen_le.2 fun v hv => by have := h1 v hv; omega
    omega
  · intro hx v hv
    rcases List.mem_append.1 hv with hv | hv
    · split at hv
      · rw [List.mem_singleton.1 hv]; exact Nat.zero_le _
      · simp at hv
    · obtain ⟨e, he, hv⟩ := List.mem_flatMap.1 hv
      obtain ⟨u, hu, rfl⟩ := List.mem_map.1 hv
      have h1 := hx _ (List.mem_map_of_mem (f := fun e => mlen (wl b e.2) + 1) he)
      have h2 := (mlen_le (n := mlen (wl b e.2))).1 (Nat.le_refl _) u hu
      simp only [List.length_cons]
      omega
theorem wl_length {b : List DS} (h : Daw.Good b) : ∀ (n i : Nat), i < n → i < b.length → ∀ v ∈ wl b i, v.length ≤ i
  | 0, i, hn, _, _, _ => by omega
  | n + 1, i, hn, hi, v, hv => by
    rw [wl_eq h hi] at hv
    rcases List.mem_append.1 hv with hv | hv
    · split at hv
      · rw [List.mem_singleton.1 hv]; exact Nat.zero_le _
      · simp at hv
    · obtain ⟨e, he, hv⟩ := List.mem_flatMap.1 hv
      obtain ⟨u, hu, rfl⟩ := List.mem_map.1 hv
      have hlow := (h.2 i _ (List.getElem?_eq_getElem hi)).1.1 e he
      have := wl_length h n e.2 (by omega) (by omega) u hu
      simp only [List.length_cons]; omega
theorem wl_ne {b : List DS} (h : Daw.Good b) {i : Nat} (hi : i < b.length) : wl b i ≠ [] := by
  obtain ⟨v, hv⟩ := acc_alive h (i + 1) i (by omega) hi
  intro he
  have := (mem_wl h hi v).2 hv
  rw [he] at this
  simp at this
theorem lng_good {b : List DS} (h : Daw.Good b) (hp : 0 < b.length) (hl : b.length ≤ 1000000000) (hf : ∀ i (hi : i < b.length), b[i].2.length ≤ 8796093022208) : Lng b fun i => mlen (wl b i) := by
  have hlow := fun i (hi : i < b.length) e (he : e ∈ b[i].2) => (h.2 i _ (List.getElem?_eq_getElem hi)).1.1 e he
  refine ⟨hlow, fun i hi => mlen_wl h hi fun e he => wl_ne h (Nat.lt_trans (hlow i hi e he) hi), fun i hi => ?_, hf, by omega, hp⟩
  refine Nat.le_trans (mlen_le.2 fun v hv => wl_length h (i + 1) i (by omega) hi v hv) (by omega)
end Go.Proofs.Ytgebhidpkcjpmaa.K

namespace Go.Proofs.Ytgebhidpkcjpmaa.K
open Go.RowKit Go.Proofs.YtgebhidpkcjpmaaW.PrintWords Go.Proofs.YtgebhidpkcjpmaaW.PrintLast Go.Proofs.YtgebhidpkcjpmaaW.PrintMore Go.Proofs.Ytgebhidpkcjpmaa
attribute [local go_sem] max2_int min2_int max_two min_two max_three min_three max_four min_four
set_option linter.unusedVariables false
set_option linter.unusedSimpArgs false
open Go
theorem cls_nonneg (cs : List Int) (x : Int) : 0 ≤ cls cs x := by unfold cls; split <;> omega
theorem cls_le255 (cs : List Int) (x : Int) : cls cs x ≤ 255 := by unfold cls; split <;> omega
end Go.Proofs.Ytgebhidpkcjpmaa.K

namespace Go.Proofs.Ytgebhidpkcjpmaa.K
open Go.RowKit Go.Proofs.YtgebhidpkcjpmaaW.PrintWords Go.Proofs.YtgebhidpkcjpmaaW.PrintLast Go.Proofs.YtgebhidpkcjpmaaW.PrintMore Go.Proofs.Ytgebhidpkcjpmaa
attribute [local go_sem] max2_int min2_int max_two min_two max_three min_three max_four min_four
set_option linter.unusedVariables false
set_option linter.unusedSimpArgs false
open Go Go.Shelf Go.Proofs.Ytgebhidpkcjpmaa.PR13 Go.Proofs.Ytgebhidpkcjpmaa.PDk Go.Proofs.Ytgebhidpkcjpmaa.PDm Go.Proofs.Ytgebhidpkcjpmaa.PFl Go.Proofs.Ytgebhidpkcjpmaa.PLg Go.Proofs.Ytgebhidpkcjpmaa.PIx
def ixU (p : Int → Bool) (es : List Int) : Int := match es.findIdx? p with | some j => (j : Int) | none => -1
theorem ixU_step (p : Int → Bool) (es : List Int) (i : Nat) (h : i < es.length) (hn : p es[i] = false) : (es.drop i).findIdx? p = ((es.drop (i + 1)).findIdx? p).map (· + 1) := by
  rw [List.drop_eq_getElem_cons h, List.findIdx?_cons, if_neg (by simp [hn])]
theorem ixU_hit (p : Int → Bool) (es : List Int) (i : Nat) (h : i < es.length) (hn : p es[i] = true) : (es.drop i).findIdx? p = some 0 := by
  rw [List.drop_eq_getElem_cons h, List.findIdx?_cons, if_pos hn]
theorem ixU_any (p : Int → Bool) (es : List Int) : decide (0 ≤ ixU p es) = es.any p := by
  unfold ixU
  rw [← List.findIdx?_isSome]
  cases es.findIdx? p with
  | none => rfl
  | some j => exact decide_eq_true (by show (0 : Int) ≤ (j : Int); omega)
set_option maxHeartbeats 4000000 in
set_option maxRecDepth 100000 in
theorem ixFuncU_k (g : Nat) (eg : ∀ args w, (callFunc g args).run Try.prog w = .ok (.enter g args) w) (lb : Array Value) (p : Int → Bool) (A : Option Addr) (c : Nat) (es : List Int) (w : World) (hC : Kd.C (Kd.int .u64) w A es.length es) (hc : es.length ≤ c)
    (hp : ∀ (W : World) (x : Int), Below w.heap.size w W → Calls Try.prog g (#[.int .u64 x] ++ lb) W fun e w' => e = .returned (.bool (p x)) ∧ Below w.heap.size w w') :
    Calls Try.prog 93 #[.slice A es.length c, .func (.func g) #[] lb] w fun e w' => e = .returned (.int .i64 (ixU p es)) ∧ Below w.heap.size w w' := by
  have HC := Aside0.mk hC; have HP := Aside0.mk hp
  have hlen : (es.length : Int) ≤ 9223372036854775807 := by have := hC.2.1; omega
  clear hC hp
  go_enter Try.func93, Try.ntmps93
  go_wp2
  go_loopg [8] es.length (fun gg v8 wr => ∃ i : Nat, v8 = .int .i64 i ∧ Aside0 (i ≤ es.length ∧ es.length ≤ gg + i) ∧ Aside0 (es.findIdx? p = ((es.drop i).findIdx? p).map (· + i)) ∧ Aside0 (Below w.heap.size w wr))
  case atStart => exact ⟨0, rfl, ⟨by omega⟩, ⟨by simp⟩, ⟨Below.refl _ _⟩⟩
  case round =>
    obtain ⟨i, rfl, hi, hf, hb⟩ := hrel
    by_cases hlt : i < es.length
    · have hcb : decide ((i : Int) < (es.length : Int)) = true := decide_eq_true (by omega)
      have q0 : (0 : Int) ≤ (i : Int) := by omega
      have q1 : (i : Int) < (es.length : Int) := by omega
      obtain ⟨ad, e0, a0⟩ := Kd.at_int (Kd.C_below HC.out hb.out) (i : Int) q0 q1
      cases e0
      have hcall := HP.out wr (rd es (i : Int)) hb.out
      have hrd : rd es (i : Int) = es[i] := by rw [rd_nat, List.getD_eq_getElem?_getD, List.getElem?_eq_getElem hlt]; rfl
      generalize hx : rd es (i : Int) = x at a0 hcall
      have HX : Aside0 (es[i] = x) := ⟨hrd.symm.trans hx⟩
      clear hx hrd
      rw [Int.toNat_natCast] at a0
      cases hq : p x with
      | true =>
        rw [hq] at hcall
        have HQ := Aside0.mk hq; have HCL := Aside0.mk hcall
        clear hq hcall
        go_wp2
        (with_reducible refine HCL.out.mono ?_)
        (first | rintro e w' ⟨rfl, hb'⟩ | rintro e w' rfl hb')
        go_wp2
        go_ret
        refine ⟨?_, hb'⟩
        unfold ixU
        rw [hf.out, ixU_hit p es i hlt (by rw [HX.out]; exact HQ.out)]
        simp
      | false =>
        rw [hq] at hcall
        have HQ := Aside0.mk hq; have HCL := Aside0.mk hcall
        clear hq hcall
        go_wp2
        (with_reducible refine HCL.out.mono ?_)
        (first | rintro e w' ⟨rfl, hb'⟩ | rintro e w' rfl hb')
        go_wp2
        go_roundg (es.length - (i + 1))
        case measure => have := hi.out; omega
        case rel =>
          refine ⟨i + 1, congrArg (Value.int .i64) (by omega), ⟨by have := hi.out; omega⟩, ⟨?_⟩, ⟨hb'⟩⟩
          rw [hf.out, ixU_step p es i hlt (by rw [HX.out]; exact HQ.out), Option.map_map]
          congr 1
          funext n
          simp only [Function.comp]
          omega
    · have hcb : decide ((i : Int) < (es.length : Int)) = false := decide_eq_false (by omega)
      go_wp2
      go_ret
      refine ⟨?_, hb.out⟩
      unfold ixU
      rw [hf.out, List.drop_eq_nil_of_le (by omega)]
      rfl
set_option maxHeartbeats 4000000 in
set_option maxRecDepth 100000 in
theorem containsU_k (g : Nat) (eg : ∀ args w, (callFunc g args).run Try.prog w = .ok (.enter g args) w) (lb : Array Value) (p : Int → Bool) (A : Option Addr) (c : Nat) (es : List Int) (w : World) (hC : Kd.C (Kd.int .u64) w A es.length es) (hc : es.length ≤ c)
    (hp : ∀ (W : World) (x : Int), Below w.heap.size w W → Calls Try.prog g (#[.int .u64 x] ++ lb) W fun e w' => e = .returned (.bool (p x)) ∧ Below w.heap.size w w') :
    Calls Try.prog 71 #[.slice A es.length c, .func (.func g) #[] lb] w fun e w' => e = .returned (.bool (es.any p)) ∧ Below w.heap.size w w' := by
  have hk := ixFuncU_k g eg lb p A c es w hC hc hp
  have ha := ixU_any p es
  generalize ixU p es = r at hk ha
  rw [← ha]
  clear ha hp
  go_enter Try.func71, Try.ntmps71
  go_wp2_with (first | (go_at_call 93; (with_reducible refine hk.mono ?_)))
  (first | rintro e w1 rfl hb1 | rintro e w1 ⟨rfl, hb1⟩)
  go_wp2
  go_ret
  exact ⟨rfl, hb1⟩
def oddB (n : Int) : Bool := decide (n < 1) || decide (4611686018427387904 < n)
set_option maxHeartbeats 4000000 in
set_option maxRecDepth 100000 in
theorem fmay1_k (n : Int) (w : World) : Calls Try.prog 70 (#[.int .u64 n] ++ #[]) w fun e w' => e = .returned (.bool (oddB n)) ∧ Below w.heap.size w w' := by
  show Calls Try.prog 70 #[.int .u64 n] w _
  unfold oddB
  cases d1 : decide (n < 1) with
  | true =>
    go_enter Try.func70, Try.ntmps70
    go_wp2
    go_ret
    exact ⟨rfl, Below.refl _ _⟩
  | false =>
    go_enter Try.func70, Try.ntmps70
    go_wp2
    go_ret
    exact ⟨rfl, Below.refl _ _⟩
theorem oddAny_k (A : Option Addr) (c : Nat) (es : List Int) (w : World) (hC : Kd.C (Kd.int .u64) w A es.length es) (hc : es.length ≤ c) :
    Calls Try.prog 71 #[.slice A es.length c, .func (.func 70) #[] #[]] w fun e w' => e = .returned (.bool (es.any oddB)) ∧ Below w.heap.size w w' :=
  containsU_k 70 (enters_of Try.func70 (by kernel_rfl) rfl) #[] oddB A c es w hC hc (fun W x hb => (fmay1_k x W).mono fun e w' h => ⟨h.1, hb.trans (h.2.mono hb.size)⟩)
end Go.Proofs.Ytgebhidpkcjpmaa.K

namespace Go.Proofs.Ytgebhidpkcjpmaa.K
open Go.RowKit Go.Proofs.YtgebhidpkcjpmaaW.PrintWords Go.Proofs.YtgebhidpkcjpmaaW.PrintLast Go.Proofs.YtgebhidpkcjpmaaW.PrintMore Go.Proofs.Ytgebhidpkcjpmaa
attribute [local go_sem] max2_int min2_int max_two min_two max_three min_three max_four min_four
set_option linter.unusedVariables false
set_option linter.unusedSimpArgs false
open Go Go.Shelf Go.Proofs.Ytgebhidpkcjpmaa.PR13 Go.Proofs.Ytgebhidpkcjpmaa.PDk Go.Proofs.Ytgebhidpkcjpmaa.PDm Go.Proofs.Ytgebhidpkcjpmaa.PFl Go.Proofs.Ytgebhidpkcjpmaa.PLg Go.Proofs.Ytgebhidpkcjpmaa.PIx
/-- What file.may comes to, by the answers of what it calls. -/
def MayIs (k : Nat) (l0 : List S82) (l1 l2 : List Int) (b : Bool) : Prop :=
  ∃ cs e, index_Counts.f k l0 = some (cs, e) ∧ ((e ≠ 0 ∧ b = false) ∨ (e = 0 ∧ 0 < cs.length ∧ ((rd cs ((cs.length : Int) - 1) ≠ (l1.length : Int) ∧ b = false) ∨ (rd cs ((cs.length : Int) - 1) = (l1.length : Int) ∧
    ∃ g, file_longest.f k l0 = some g ∧ ((255 < g ∧ b = false) ∨ (¬ 255 < g ∧ ((l1.any oddB = true ∧ b = false) ∨ (l1.any oddB = false ∧ ∃ en cl, file_entries.f k l1 = some en ∧ rank_Classes.f en = some cl ∧ slices_Equal_int_int.f k l2 cl = some b))))))))
set_option maxHeartbeats 8000000 in
set_option maxRecDepth 100000 in
theorem fmay_k (k : Nat) (A0 : Option Addr) (c0 : Nat) (l0 : List S82) (A1 : Option Addr) (c1 : Nat) (l1 : List Int) (A2 : Option Addr) (c2 : Nat) (l2 : List Int) (b : Bool) (w : World)
    (hr0 : Kd.C k82 w A0 l0.length l0) (hc0 : l0.length ≤ c0) (hr1 : Kd.C (Kd.int .u64) w A1 l1.length l1) (hc1 : l1.length ≤ c1) (hr2 : Kd.C (Kd.int .i64) w A2 l2.length l2) (hc2 : l2.length ≤ c2) (h : MayIs k l0 l1 l2 b) :
    Calls Try.prog 36 #[.agg #[.slice A0 l0.length c0, .slice A1 l1.length c1, .slice A2 l2.length c2]] w fun e w' => e = .returned (.bool b) ∧ Below w.heap.size w w' := by
  obtain ⟨cs, e, h1, h⟩ := h
  have huD := Try.underlying29
  have hln1 : (l1.length : Int) ≤ 9223372036854775807 := by have := hr1.2.1; omega
  have hba : Below w.heap.size w (w.alloc (.cells #[.slice A0 l0.length c0, .slice A1 l1.length c1, .slice A2 l2.length c2] 29 (0, 0))) := below_alloc (Below.refl _ _) _
  have HR0 := Aside0.mk hr0; have HC0 := Aside0.mk hc0; have HR1 := Aside0.mk hr1; have HC1 := Aside0.mk hc1; have HR2 := Aside0.mk hr2; have HC2 := Aside0.mk hc2
  have hcall := fun W (hb : Below w.heap.size w W) => index_Counts.calls k A0 c0 l0 cs e W (Kd.C_below hr0 hb) hc0 h1
  have HCL := Aside0.mk hcall
  have HBA := Aside0.mk hba
  clear hr0 hc0 hr1 hc1 hr2 hc2 h1 hcall hba
  go_enter Try.func36, Try.ntmps36
  go_wp2_with (first | (go_at_call 68; (with_reducible refine (HCL.out _ HBA.out).mono ?_)))
  (first | rintro x w2 v rfl hR hb2 | rintro x w2 ⟨v, rfl, hR, hb2⟩)
  obtain ⟨Av, cv, ev⟩ := Kd.R_slice hR
  subst ev
  have hb2' := HBA.out.trans (hb2.mono (Nat.le_succ _))
  have hg : w2.heap[w.heap.size]? = some (.cells #[.slice A0 l0.length c0, .slice A1 l1.length c1, .slice A2 l2.length c2] 29 (0, 0)) := (hb2.block w.heap.size (Nat.lt_succ_self _)).trans (blk_new w _)
  have HCS := Aside0.mk (Kd.R_reads' hR).2.2
  have HB2 := Aside0.mk hb2'
  have HG := Aside0.mk hg
  clear hR hb2 hb2' hg HCL HBA
  rcases h with ⟨he, rfl⟩ | ⟨rfl, hpos, h⟩
  · have hd : decide (e = 0) = false := decide_eq_false he
    have hd2 : (e == 0) = false := by simpa using he
    go_wp2
    (try go_quiet (fail)); (try go_wp2)
    go_ret
    exact ⟨rfl, by first | exact HB2.out | exact pw_below_drewN HB2.out _⟩
  · obtain ⟨n1, hn1⟩ : ∃ n1 : Int, n1 = (cs.length : Int) - 1 := ⟨_, rfl⟩
    rw [← hn1] at h
    have hcw : wrap64 ((cs.length : Int) - 1) = n1 := by have := HCS.out.2.1; unfold wrap64; omega
    have hui : IntKind.u64.wrap (l1.length : Int) = (l1.length : Int) := by simp [IntKind.wrap, IntKind.bits, IntKind.signed]; omega
    have q0 : (0 : Int) ≤ n1 := by omega
    have q1 : n1 < (cs.length : Int) := by omega
    obtain ⟨ad, e0, a0⟩ := Kd.at_int HCS.out n1 q0 q1
    cases e0
    generalize rd cs n1 = last at a0 h
    clear hn1
    have g0 : w2.cell? ⟨w.heap.size, 0, none⟩ = some (.slice A0 l0.length c0) := (blk_cell HG.out 0).trans rfl
    have g1 : w2.cell? ⟨w.heap.size, 1, none⟩ = some (.slice A1 l1.length c1) := (blk_cell HG.out 1).trans rfl
    have g2 : w2.cell? ⟨w.heap.size, 2, none⟩ = some (.slice A2 l2.length c2) := (blk_cell HG.out 2).trans rfl
    go_wp2
    refine start_ (n := 21) (S := fun w' => w'.cell? ⟨w.heap.size, 0, none⟩ = some (.slice A0 l0.length c0) ∧ w'.cell? ⟨w.heap.size, 1, none⟩ = some (.slice A1 l1.length c1) ∧ w'.cell? (ad.add n1.toNat) = some (.int .u64 last)) (ds := []) #[false, false, false, false, false, false, false, false, false, false, false, false, false, false, false, false, false, false, false, false, false] (by kernel_rfl) rfl rfl (by exact ⟨g0, g1, a0⟩) (fun hHeld => ?_)
    have HB3 := Aside0.mk (below_drew HB2.out)
    have HG3 := Aside0.mk (blk_drew HG.out)
    clear HB2 HG a0 g0 g1 g2 HCS
    generalize w2.drew = w3 at HB3 HG3 hHeld ⊢
    (refine pure_ (i := 0) (N := some 12) (v := ?_) (a' := ?_) #[true, false, false, false, false, false, false, false, false, false, false, false, false, false, false, false, false, false, false, false, false] rfl rfl (by kernel_rfl) (fun _ _ _ h => h) (Or.inl ⟨by rfl, ?_⟩) ?_ ?_; rotate_left; (intro w'; go_simp; with_reducible rfl); rotate_left; (simp only [Act.put, List.setIfInBounds_toArray, List.set_cons_zero, List.set_cons_succ, i64_w, i32_w]; rfl)); (refine pure_ (i := 1) (N := some 13) (v := ?_) (a' := ?_) #[true, true, false, false, false, false, false, false, false, false, false, false, false, false, false, false, false, false, false, false, false] rfl rfl (by kernel_rfl) (fun _ _ _ h => h) (Or.inl ⟨by rfl, ?_⟩) ?_ ?_; rotate_left; (intro w'; go_simp; with_reducible rfl); rotate_left; (simp only [Act.put, List.setIfInBounds_toArray, List.set_cons_zero, List.set_cons_succ, i64_w, i32_w]; rfl)); (refine pure_ (i := 2) (N := some 14) (v := ?_) (a' := ?_) #[true, true, true, false, false, false, false, false, false, false, false, false, false, false, false, false, false, false, false, false, false] rfl rfl (by kernel_rfl) (fun _ _ _ h => h) (Or.inl ⟨by rfl, ?_⟩) ?_ ?_; rotate_left; (intro w'; go_simp; with_reducible rfl); rotate_left; (simp only [Act.put, List.setIfInBounds_toArray, List.set_cons_zero, List.set_cons_succ, i64_w, i32_w]; rfl)); (refine pure_ (i := 3) (N := some 15) (v := ?_) (a' := ?_) #[true, true, true, true, false, false, false, false, false, false, false, false, false, false, false, false, false, false, false, false, false] rfl rfl (by kernel_rfl) (fun _ _ _ h => h) (Or.inl ⟨by rfl, ?_⟩) ?_ ?_; rotate_left; (intro w'; go_simp; with_reducible rfl); rotate_left; (simp only [Act.put, List.setIfInBounds_toArray, List.set_cons_zero, List.set_cons_succ, i64_w, i32_w]; rfl)); (refine pure_ (i := 4) (N := some 16) (v := ?_) (a' := ?_) #[true, true, true, true, true, false, false, false, false, false, false, false, false, false, false, false, false, false, false, false, false] rfl rfl (by kernel_rfl) (fun _ _ _ h => h) (Or.inl ⟨by rfl, ?_⟩) ?_ ?_; rotate_left; (intro w'; go_simp; with_reducible rfl); rotate_left; (simp only [Act.put, List.setIfInBounds_toArray, List.set_cons_zero, List.set_cons_succ, i64_w, i32_w]; rfl)); (refine pure_ (i := 5) (N := some 17) (v := ?_) (a' := ?_) #[true, true, true, true, true, true, false, false, false, false, false, false, false, false, false, false, false, false, false, false, false] rfl rfl (by kernel_rfl) (fun _ _ _ h => h) (Or.inl ⟨by rfl, ?_⟩) ?_ ?_; rotate_left; (intro w'; go_simp; with_reducible rfl); rotate_left; (simp only [Act.put, List.setIfInBounds_toArray, List.set_cons_zero, List.set_cons_succ, i64_w, i32_w]; rfl)); (refine pure_ (i := 6) (N := some 18) (v := ?_) (a' := ?_) #[true, true, true, true, true, true, true, false, false, false, false, false, false, false, false, false, false, false, false, false, false] rfl rfl (by kernel_rfl) (fun _ _ _ h => h) (Or.inl ⟨by rfl, ?_⟩) ?_ ?_; rotate_left; (intro w'; go_simp; with_reducible rfl); rotate_left; (simp only [Act.put, List.setIfInBounds_toArray, List.set_cons_zero, List.set_cons_succ, i64_w, i32_w]; rfl))
    (refine pure_ (i := 7) (N := some 19) (v := ?_) (a' := ?_) #[true, true, true, true, true, true, true, true, false, false, false, false, false, false, false, false, false, false, false, false, false] rfl rfl (by kernel_rfl) (fun _ _ _ h => h) (Or.inl ⟨by rfl, ?_⟩) ?_ ?_; rotate_left; (intro w'; go_simp; with_reducible rfl); rotate_left; (simp only [Act.put, List.setIfInBounds_toArray, List.set_cons_zero, List.set_cons_succ, i64_w, i32_w]; rfl))
    (refine take_ (i := 8) (N := some 20) (v := ?_) (a' := ?_) #[true, true, true, true, true, true, true, true, true, false, false, false, false, false, false, false, false, false, false, false, false] rfl rfl (by kernel_rfl) (fun _ _ _ h => h) (Or.inl ⟨by rfl, ?_⟩) hHeld ?_ ?_; rotate_left; (rintro w' ⟨s0, s1, s2⟩; go_simp; with_reducible rfl); rotate_left; (simp only [Act.put, List.setIfInBounds_toArray, List.set_cons_zero, List.set_cons_succ, i64_w, i32_w]; rfl))
    (refine pure_ (i := 9) (N := some 21) (v := ?_) (a' := ?_) #[true, true, true, true, true, true, true, true, true, true, false, false, false, false, false, false, false, false, false, false, false] rfl rfl (by kernel_rfl) (fun _ _ _ h => h) (Or.inl ⟨by rfl, ?_⟩) ?_ ?_; rotate_left; (intro w'; go_simp; with_reducible rfl); rotate_left; (simp only [Act.put, List.setIfInBounds_toArray, List.set_cons_zero, List.set_cons_succ, i64_w, i32_w]; rfl))
    (refine take_ (i := 10) (N := some 22) (v := ?_) (a' := ?_) #[true, true, true, true, true, true, true, true, true, true, true, false, false, false, false, false, false, false, false, false, false] rfl rfl (by kernel_rfl) (fun _ _ _ h => h) (Or.inl ⟨by rfl, ?_⟩) hHeld ?_ ?_; rotate_left; (rintro w' ⟨s0, s1, s2⟩; go_simp; with_reducible rfl); rotate_left; (simp only [Act.put, List.setIfInBounds_toArray, List.set_cons_zero, List.set_cons_succ, i64_w, i32_w]; rfl))
    (refine pure_ (i := 11) (N := some 23) (v := ?_) (a' := ?_) #[true, true, true, true, true, true, true, true, true, true, true, true, false, false, false, false, false, false, false, false, false] rfl rfl (by kernel_rfl) (fun _ _ _ h => h) (Or.inl ⟨by rfl, ?_⟩) ?_ ?_; rotate_left; (intro w'; go_simp; with_reducible rfl); rotate_left; (simp only [Act.put, List.setIfInBounds_toArray, List.set_cons_zero, List.set_cons_succ, i64_w, i32_w]; rfl)); (refine pure_ (i := 12) (N := some 24) (v := ?_) (a' := ?_) #[true, true, true, true, true, true, true, true, true, true, true, true, true, false, false, false, false, false, false, false, false] rfl rfl (by kernel_rfl) (fun _ _ _ h => h) (Or.inl ⟨by rfl, ?_⟩) ?_ ?_; rotate_left; (intro w'; go_simp; with_reducible rfl); rotate_left; (simp only [Act.put, List.setIfInBounds_toArray, List.set_cons_zero, List.set_cons_succ, i64_w, i32_w]; rfl))
    rcases h with ⟨hne, rfl⟩ | ⟨rfl, g, hl, h⟩
    · have hd2 : decide (last = (l1.length : Int)) = false := by simpa using hne
      have hd3 : (last != (l1.length : Int)) = true := by simpa using hne
      (refine pure_ (i := 13) (N := some 25) (v := ?_) (a' := ?_) #[true, true, true, true, true, true, true, true, true, true, true, true, true, true, false, false, false, false, false, false, false] rfl rfl (by kernel_rfl) (fun _ _ _ h => h) (Or.inl ⟨by rfl, ?_⟩) ?_ ?_; rotate_left; (intro w'; go_simp; with_reducible rfl); rotate_left; (simp only [Act.put, List.setIfInBounds_toArray, List.set_cons_zero, List.set_cons_succ, i64_w, i32_w]; rfl)); (refine pure_ (i := 14) (N := some 26) (v := ?_) (a' := ?_) #[true, true, true, true, true, true, true, true, true, true, true, true, true, true, true, false, false, false, false, false, false] rfl rfl (by kernel_rfl) (fun _ _ _ h => h) (Or.inl ⟨by rfl, ?_⟩) ?_ ?_; rotate_left; (intro w'; go_simp; with_reducible rfl); rotate_left; (simp only [Act.put, List.setIfInBounds_toArray, List.set_cons_zero, List.set_cons_succ, i64_w, i32_w]; rfl)); (refine pure_ (i := 15) (N := some 27) (v := ?_) (a' := ?_) #[true, true, true, true, true, true, true, true, true, true, true, true, true, true, true, true, false, false, false, false, false] rfl rfl (by kernel_rfl) (fun _ _ _ h => h) (Or.inl ⟨by rfl, ?_⟩) ?_ ?_; rotate_left; (intro w'; go_simp; with_reducible rfl); rotate_left; (simp only [Act.put, List.setIfInBounds_toArray, List.set_cons_zero, List.set_cons_succ, i64_w, i32_w]; rfl))
      (refine pure_ (i := 16) (N := some 28) (v := undef) (a' := ?_) #[true, true, true, true, true, true, true, true, true, true, true, true, true, true, true, true, true, false, false, false, false] rfl rfl (by kernel_rfl) (fun _ _ _ h => h) (Or.inr ⟨by rfl, rfl⟩) ?_ ?_; rotate_left; (simp only [Act.put, List.setIfInBounds_toArray, List.set_cons_zero, List.set_cons_succ, i64_w, i32_w]; rfl)); (refine pure_ (i := 17) (N := some 29) (v := undef) (a' := ?_) #[true, true, true, true, true, true, true, true, true, true, true, true, true, true, true, true, true, true, false, false, false] rfl rfl (by kernel_rfl) (fun _ _ _ h => h) (Or.inr ⟨by rfl, rfl⟩) ?_ ?_; rotate_left; (simp only [Act.put, List.setIfInBounds_toArray, List.set_cons_zero, List.set_cons_succ, i64_w, i32_w]; rfl)); (refine pure_ (i := 18) (N := some 30) (v := undef) (a' := ?_) #[true, true, true, true, true, true, true, true, true, true, true, true, true, true, true, true, true, true, true, false, false] rfl rfl (by kernel_rfl) (fun _ _ _ h => h) (Or.inr ⟨by rfl, rfl⟩) ?_ ?_; rotate_left; (simp only [Act.put, List.setIfInBounds_toArray, List.set_cons_zero, List.set_cons_succ, i64_w, i32_w]; rfl)); (refine pure_ (i := 19) (N := some 31) (v := undef) (a' := ?_) #[true, true, true, true, true, true, true, true, true, true, true, true, true, true, true, true, true, true, true, true, false] rfl rfl (by kernel_rfl) (fun _ _ _ h => h) (Or.inr ⟨by rfl, rfl⟩) ?_ ?_; rotate_left; (simp only [Act.put, List.setIfInBounds_toArray, List.set_cons_zero, List.set_cons_succ, i64_w, i32_w]; rfl))
      (refine pure_ (i := 20) (N := some 32) (v := ?_) (a' := ?_) #[true, true, true, true, true, true, true, true, true, true, true, true, true, true, true, true, true, true, true, true, true] rfl rfl (by kernel_rfl) (fun _ _ _ h => h) (Or.inl ⟨by rfl, ?_⟩) ?_ ?_; rotate_left; (intro w'; go_simp; with_reducible rfl); rotate_left; (simp only [Act.put, List.setIfInBounds_toArray, List.set_cons_zero, List.set_cons_succ, i64_w, i32_w]; rfl))
      refine done_ (by kernel_rfl) ?_
      go_wp2
      go_ret
      exact ⟨rfl, HB3.out⟩
    · skip
      (refine pure_ (i := 13) (N := some 25) (v := ?_) (a' := ?_) #[true, true, true, true, true, true, true, true, true, true, true, true, true, true, false, false, false, false, false, false, false] rfl rfl (by kernel_rfl) (fun _ _ _ h => h) (Or.inl ⟨by rfl, ?_⟩) ?_ ?_; rotate_left; (intro w'; go_simp; with_reducible rfl); rotate_left; (simp only [Act.put, List.setIfInBounds_toArray, List.set_cons_zero, List.set_cons_succ, i64_w, i32_w]; rfl)); (refine pure_ (i := 14) (N := some 26) (v := ?_) (a' := ?_) #[true, true, true, true, true, true, true, true, true, true, true, true, true, true, true, false, false, false, false, false, false] rfl rfl (by kernel_rfl) (fun _ _ _ h => h) (Or.inl ⟨by rfl, ?_⟩) ?_ ?_; rotate_left; (intro w'; go_simp; with_reducible rfl); rotate_left; (simp only [Act.put, List.setIfInBounds_toArray, List.set_cons_zero, List.set_cons_succ, i64_w, i32_w]; rfl)); (refine pure_ (i := 15) (N := some 27) (v := ?_) (a' := ?_) #[true, true, true, true, true, true, true, true, true, true, true, true, true, true, true, true, false, false, false, false, false] rfl rfl (by kernel_rfl) (fun _ _ _ h => h) (Or.inl ⟨by rfl, ?_⟩) ?_ ?_; rotate_left; (intro w'; go_simp; with_reducible rfl); rotate_left; (simp only [Act.put, List.setIfInBounds_toArray, List.set_cons_zero, List.set_cons_succ, i64_w, i32_w]; rfl)); (refine pure_ (i := 16) (N := some 28) (v := ?_) (a' := ?_) #[true, true, true, true, true, true, true, true, true, true, true, true, true, true, true, true, true, false, false, false, false] rfl rfl (by kernel_rfl) (fun _ _ _ h => h) (Or.inl ⟨by rfl, ?_⟩) ?_ ?_; rotate_left; (intro w'; go_simp; with_reducible rfl); rotate_left; (simp only [Act.put, List.setIfInBounds_toArray, List.set_cons_zero, List.set_cons_succ, i64_w, i32_w]; rfl))
      (refine take_ (i := 17) (N := some 29) (v := ?_) (a' := ?_) #[true, true, true, true, true, true, true, true, true, true, true, true, true, true, true, true, true, true, false, false, false] rfl rfl (by kernel_rfl) (fun _ _ _ h => h) (Or.inl ⟨by rfl, ?_⟩) hHeld ?_ ?_; rotate_left; (rintro w' ⟨s0, s1, s2⟩; go_simp; with_reducible rfl); rotate_left; (simp only [Act.put, List.setIfInBounds_toArray, List.set_cons_zero, List.set_cons_succ, i64_w, i32_w]; rfl))
      refine one_ (i := 18) (N := some 30) #[true, true, true, true, true, true, true, true, true, true, true, true, true, true, true, true, true, true, true, false, false] rfl rfl (by kernel_rfl) (by decide) (fun K hK => ?_)
      (refine goes_ Try.func69 (by kernel_rfl) rfl #[.slice A0 l0.length c0] (by rfl) rfl rfl (by first | rfl | (simp only [List.map_toArray, List.map_cons, List.map_nil]; rfl)) ?_; with_reducible refine (file_longest.calls k A0 c0 l0 g _ (Kd.C_below HR0.out HB3.out) HC0.out hl).mono ?_)
      rintro x w4 ⟨rfl, hb⟩
      refine ⟨_, rfl, ?_⟩
      have HB4 := Aside0.mk (HB3.out.trans (hb.mono HB3.out.size))
      have HG4 := Aside0.mk ((hb.block w.heap.size (Array.getElem?_eq_some_iff.1 HG3.out).1).trans HG3.out)
      refine hK.out _ _ ⟨(blk_cell HG4.out 0).trans rfl, (blk_cell HG4.out 1).trans rfl, (hb.cell (World.block_lt_of_cell? _ _ hHeld.2.2)).trans hHeld.2.2⟩ (fun hHeld => ?_)
      clear hb HB3 HG3 hl
      (clear hK K; refine norm_ (a' := ?_) ?_ ?_; rotate_left; (show Act.put _ (some 30) _ = _; simp only [Act.put, List.setIfInBounds_toArray, List.set_cons_zero, List.set_cons_succ, i64_w, i32_w]; rfl))
      rcases h with ⟨hg, rfl⟩ | ⟨hg, h⟩
      · have hdg : decide (255 < g) = true := decide_eq_true hg
        (refine pure_ (i := 19) (N := some 31) (v := ?_) (a' := ?_) #[true, true, true, true, true, true, true, true, true, true, true, true, true, true, true, true, true, true, true, true, false] rfl rfl (by kernel_rfl) (fun _ _ _ h => h) (Or.inl ⟨by rfl, ?_⟩) ?_ ?_; rotate_left; (intro w'; go_simp; with_reducible rfl); rotate_left; (simp only [Act.put, List.setIfInBounds_toArray, List.set_cons_zero, List.set_cons_succ, i64_w, i32_w]; rfl)); (refine pure_ (i := 20) (N := some 32) (v := ?_) (a' := ?_) #[true, true, true, true, true, true, true, true, true, true, true, true, true, true, true, true, true, true, true, true, true] rfl rfl (by kernel_rfl) (fun _ _ _ h => h) (Or.inl ⟨by rfl, ?_⟩) ?_ ?_; rotate_left; (intro w'; go_simp; with_reducible rfl); rotate_left; (simp only [Act.put, List.setIfInBounds_toArray, List.set_cons_zero, List.set_cons_succ, i64_w, i32_w]; rfl))
        refine done_ (by kernel_rfl) ?_
        go_wp2
        go_ret
        exact ⟨rfl, HB4.out⟩
      · skip
        have hdg : decide (255 < g) = false := decide_eq_false (by omega)
        (refine pure_ (i := 19) (N := some 31) (v := ?_) (a' := ?_) #[true, true, true, true, true, true, true, true, true, true, true, true, true, true, true, true, true, true, true, true, false] rfl rfl (by kernel_rfl) (fun _ _ _ h => h) (Or.inl ⟨by rfl, ?_⟩) ?_ ?_; rotate_left; (intro w'; go_simp; with_reducible rfl); rotate_left; (simp only [Act.put, List.setIfInBounds_toArray, List.set_cons_zero, List.set_cons_succ, i64_w, i32_w]; rfl)); (refine pure_ (i := 20) (N := some 32) (v := ?_) (a' := ?_) #[true, true, true, true, true, true, true, true, true, true, true, true, true, true, true, true, true, true, true, true, true] rfl rfl (by kernel_rfl) (fun _ _ _ h => h) (Or.inl ⟨by rfl, ?_⟩) ?_ ?_; rotate_left; (intro w'; go_simp; with_reducible rfl); rotate_left; (simp only [Act.put, List.setIfInBounds_toArray, List.set_cons_zero, List.set_cons_succ, i64_w, i32_w]; rfl))
        refine done_ (by kernel_rfl) ?_
        go_wp2
        refine start_ (n := 15) (S := fun w' => w'.cell? ⟨w.heap.size, 1, none⟩ = some (.slice A1 l1.length c1) ∧ w'.cell? ⟨w.heap.size, 2, none⟩ = some (.slice A2 l2.length c2)) (ds := []) #[false, false, false, false, false, false, false, false, false, false, false, false, false, false, false] (by kernel_rfl) rfl rfl (by exact ⟨(blk_cell HG4.out 1).trans rfl, (blk_cell HG4.out 2).trans rfl⟩) (fun hHeld => ?_)
        have HB5 := Aside0.mk (below_drew HB4.out)
        have HG5 := Aside0.mk (blk_drew HG4.out)
        clear HB4 HG4
        generalize w4.drew = w5 at HB5 HG5 hHeld ⊢
        (refine pure_ (i := 0) (N := some 33) (v := ?_) (a' := ?_) #[true, false, false, false, false, false, false, false, false, false, false, false, false, false, false] rfl rfl (by kernel_rfl) (fun _ _ _ h => h) (Or.inl ⟨by rfl, ?_⟩) ?_ ?_; rotate_left; (intro w'; go_simp; with_reducible rfl); rotate_left; (simp only [Act.put, List.setIfInBounds_toArray, List.set_cons_zero, List.set_cons_succ, i64_w, i32_w]; rfl))
        (refine take_ (i := 1) (N := some 34) (v := ?_) (a' := ?_) #[true, true, false, false, false, false, false, false, false, false, false, false, false, false, false] rfl rfl (by kernel_rfl) (fun _ _ _ h => h) (Or.inl ⟨by rfl, ?_⟩) hHeld ?_ ?_; rotate_left; (rintro w' ⟨s0, s1⟩; go_simp; with_reducible rfl); rotate_left; (simp only [Act.put, List.setIfInBounds_toArray, List.set_cons_zero, List.set_cons_succ, i64_w, i32_w]; rfl))
        (refine pure_ (i := 2) (N := some 35) (v := ?_) (a' := ?_) #[true, true, true, false, false, false, false, false, false, false, false, false, false, false, false] rfl rfl (by kernel_rfl) (fun _ _ _ h => h) (Or.inl ⟨by rfl, ?_⟩) ?_ ?_; rotate_left; (intro w'; go_simp; with_reducible rfl); rotate_left; (simp only [Act.put, List.setIfInBounds_toArray, List.set_cons_zero, List.set_cons_succ, i64_w, i32_w]; rfl))
        refine one_ (i := 3) (N := some 36) #[true, true, true, true, false, false, false, false, false, false, false, false, false, false, false] rfl rfl (by kernel_rfl) (by decide) (fun K hK => ?_)
        (refine goes_ Try.func71 (by kernel_rfl) rfl #[.slice A1 l1.length c1, .func (.func 70) #[] #[]] (by rfl) rfl rfl (by first | rfl | (simp only [List.map_toArray, List.map_cons, List.map_nil]; rfl)) ?_; with_reducible refine (oddAny_k A1 c1 l1 w5 (Kd.C_below HR1.out HB5.out) HC1.out).mono ?_)
        rintro x w6 ⟨rfl, hb⟩
        refine ⟨_, rfl, ?_⟩
        have HB6 := Aside0.mk (HB5.out.trans (hb.mono HB5.out.size))
        have HG6 := Aside0.mk ((hb.block w.heap.size (Array.getElem?_eq_some_iff.1 HG5.out).1).trans HG5.out)
        refine hK.out _ _ ⟨(blk_cell HG6.out 1).trans rfl, (blk_cell HG6.out 2).trans rfl⟩ (fun hHeld => ?_)
        clear hb HB5 HG5
        (clear hK K; refine norm_ (a' := ?_) ?_ ?_; rotate_left; (show Act.put _ (some 36) _ = _; simp only [Act.put, List.setIfInBounds_toArray, List.set_cons_zero, List.set_cons_succ, i64_w, i32_w]; rfl))
        rcases h with ⟨ho, rfl⟩ | ⟨ho, en, cl, h1, h2, h3⟩
        · rw [ho]
          (refine pure_ (i := 4) (N := some 37) (v := ?_) (a' := ?_) #[true, true, true, true, true, false, false, false, false, false, false, false, false, false, false] rfl rfl (by kernel_rfl) (fun _ _ _ h => h) (Or.inl ⟨by rfl, ?_⟩) ?_ ?_; rotate_left; (intro w'; go_simp; with_reducible rfl); rotate_left; (simp only [Act.put, List.setIfInBounds_toArray, List.set_cons_zero, List.set_cons_succ, i64_w, i32_w]; rfl)); (refine pure_ (i := 5) (N := some 38) (v := ?_) (a' := ?_) #[true, true, true, true, true, true, false, false, false, false, false, false, false, false, false] rfl rfl (by kernel_rfl) (fun _ _ _ h => h) (Or.inl ⟨by rfl, ?_⟩) ?_ ?_; rotate_left; (intro w'; go_simp; with_reducible rfl); rotate_left; (simp only [Act.put, List.setIfInBounds_toArray, List.set_cons_zero, List.set_cons_succ, i64_w, i32_w]; rfl))
          (refine pure_ (i := 6) (N := some 39) (v := undef) (a' := ?_) #[true, true, true, true, true, true, true, false, false, false, false, false, false, false, false] rfl rfl (by kernel_rfl) (fun _ _ _ h => h) (Or.inr ⟨by rfl, rfl⟩) ?_ ?_; rotate_left; (simp only [Act.put, List.setIfInBounds_toArray, List.set_cons_zero, List.set_cons_succ, i64_w, i32_w]; rfl)); (refine pure_ (i := 7) (N := some 40) (v := undef) (a' := ?_) #[true, true, true, true, true, true, true, true, false, false, false, false, false, false, false] rfl rfl (by kernel_rfl) (fun _ _ _ h => h) (Or.inr ⟨by rfl, rfl⟩) ?_ ?_; rotate_left; (simp only [Act.put, List.setIfInBounds_toArray, List.set_cons_zero, List.set_cons_succ, i64_w, i32_w]; rfl)); (refine pure_ (i := 8) (N := some 41) (v := undef) (a' := ?_) #[true, true, true, true, true, true, true, true, true, false, false, false, false, false, false] rfl rfl (by kernel_rfl) (fun _ _ _ h => h) (Or.inr ⟨by rfl, rfl⟩) ?_ ?_; rotate_left; (simp only [Act.put, List.setIfInBounds_toArray, List.set_cons_zero, List.set_cons_succ, i64_w, i32_w]; rfl)); (refine pure_ (i := 9) (N := some 42) (v := undef) (a' := ?_) #[true, true, true, true, true, true, true, true, true, true, false, false, false, false, false] rfl rfl (by kernel_rfl) (fun _ _ _ h => h) (Or.inr ⟨by rfl, rfl⟩) ?_ ?_; rotate_left; (simp only [Act.put, List.setIfInBounds_toArray, List.set_cons_zero, List.set_cons_succ, i64_w, i32_w]; rfl)); (refine pure_ (i := 10) (N := some 43) (v := undef) (a' := ?_) #[true, true, true, true, true, true, true, true, true, true, true, false, false, false, false] rfl rfl (by kernel_rfl) (fun _ _ _ h => h) (Or.inr ⟨by rfl, rfl⟩) ?_ ?_; rotate_left; (simp only [Act.put, List.setIfInBounds_toArray, List.set_cons_zero, List.set_cons_succ, i64_w, i32_w]; rfl)); (refine pure_ (i := 11) (N := some 44) (v := undef) (a' := ?_) #[true, true, true, true, true, true, true, true, true, true, true, true, false, false, false] rfl rfl (by kernel_rfl) (fun _ _ _ h => h) (Or.inr ⟨by rfl, rfl⟩) ?_ ?_; rotate_left; (simp only [Act.put, List.setIfInBounds_toArray, List.set_cons_zero, List.set_cons_succ, i64_w, i32_w]; rfl)); (refine pure_ (i := 12) (N := some 45) (v := undef) (a' := ?_) #[true, true, true, true, true, true, true, true, true, true, true, true, true, false, false] rfl rfl (by kernel_rfl) (fun _ _ _ h => h) (Or.inr ⟨by rfl, rfl⟩) ?_ ?_; rotate_left; (simp only [Act.put, List.setIfInBounds_toArray, List.set_cons_zero, List.set_cons_succ, i64_w, i32_w]; rfl))
          (refine pure_ (i := 13) (N := some 46) (v := ?_) (a' := ?_) #[true, true, true, true, true, true, true, true, true, true, true, true, true, true, false] rfl rfl (by kernel_rfl) (fun _ _ _ h => h) (Or.inl ⟨by rfl, ?_⟩) ?_ ?_; rotate_left; (intro w'; go_simp; with_reducible rfl); rotate_left; (simp only [Act.put, List.setIfInBounds_toArray, List.set_cons_zero, List.set_cons_succ, i64_w, i32_w]; rfl)); (refine pure_ (i := 14) (N := some 2) (v := ?_) (a' := ?_) #[true, true, true, true, true, true, true, true, true, true, true, true, true, true, true] rfl rfl (by kernel_rfl) (fun _ _ _ h => h) (Or.inl ⟨by rfl, ?_⟩) ?_ ?_; rotate_left; (intro w'; go_simp; with_reducible rfl); rotate_left; (simp only [Act.put, List.setIfInBounds_toArray, List.set_cons_zero, List.set_cons_succ, i64_w, i32_w]; rfl))
          refine done_ (by kernel_rfl) ?_
          go_wp2
          go_ret
          exact ⟨rfl, HB6.out⟩
        · skip
          rw [ho]
          (refine pure_ (i := 4) (N := some 37) (v := ?_) (a' := ?_) #[true, true, true, true, true, false, false, false, false, false, false, false, false, false, false] rfl rfl (by kernel_rfl) (fun _ _ _ h => h) (Or.inl ⟨by rfl, ?_⟩) ?_ ?_; rotate_left; (intro w'; go_simp; with_reducible rfl); rotate_left; (simp only [Act.put, List.setIfInBounds_toArray, List.set_cons_zero, List.set_cons_succ, i64_w, i32_w]; rfl)); (refine pure_ (i := 5) (N := some 38) (v := ?_) (a' := ?_) #[true, true, true, true, true, true, false, false, false, false, false, false, false, false, false] rfl rfl (by kernel_rfl) (fun _ _ _ h => h) (Or.inl ⟨by rfl, ?_⟩) ?_ ?_; rotate_left; (intro w'; go_simp; with_reducible rfl); rotate_left; (simp only [Act.put, List.setIfInBounds_toArray, List.set_cons_zero, List.set_cons_succ, i64_w, i32_w]; rfl)); (refine pure_ (i := 6) (N := some 39) (v := ?_) (a' := ?_) #[true, true, true, true, true, true, true, false, false, false, false, false, false, false, false] rfl rfl (by kernel_rfl) (fun _ _ _ h => h) (Or.inl ⟨by rfl, ?_⟩) ?_ ?_; rotate_left; (intro w'; go_simp; with_reducible rfl); rotate_left; (simp only [Act.put, List.setIfInBounds_toArray, List.set_cons_zero, List.set_cons_succ, i64_w, i32_w]; rfl))
          (refine take_ (i := 7) (N := some 40) (v := ?_) (a' := ?_) #[true, true, true, true, true, true, true, true, false, false, false, false, false, false, false] rfl rfl (by kernel_rfl) (fun _ _ _ h => h) (Or.inl ⟨by rfl, ?_⟩) hHeld ?_ ?_; rotate_left; (rintro w' ⟨s0, s1⟩; go_simp; with_reducible rfl); rotate_left; (simp only [Act.put, List.setIfInBounds_toArray, List.set_cons_zero, List.set_cons_succ, i64_w, i32_w]; rfl))
          (refine pure_ (i := 8) (N := some 41) (v := ?_) (a' := ?_) #[true, true, true, true, true, true, true, true, true, false, false, false, false, false, false] rfl rfl (by kernel_rfl) (fun _ _ _ h => h) (Or.inl ⟨by rfl, ?_⟩) ?_ ?_; rotate_left; (intro w'; go_simp; with_reducible rfl); rotate_left; (simp only [Act.put, List.setIfInBounds_toArray, List.set_cons_zero, List.set_cons_succ, i64_w, i32_w]; rfl))
          (refine take_ (i := 9) (N := some 42) (v := ?_) (a' := ?_) #[true, true, true, true, true, true, true, true, true, true, false, false, false, false, false] rfl rfl (by kernel_rfl) (fun _ _ _ h => h) (Or.inl ⟨by rfl, ?_⟩) hHeld ?_ ?_; rotate_left; (rintro w' ⟨s0, s1⟩; go_simp; with_reducible rfl); rotate_left; (simp only [Act.put, List.setIfInBounds_toArray, List.set_cons_zero, List.set_cons_succ, i64_w, i32_w]; rfl))
          refine one_ (i := 10) (N := some 43) #[true, true, true, true, true, true, true, true, true, true, true, false, false, false, false] rfl rfl (by kernel_rfl) (by decide) (fun K hK => ?_)
          (refine goes_ Try.func73 (by kernel_rfl) rfl #[.slice A1 l1.length c1] (by rfl) rfl rfl (by first | rfl | (simp only [List.map_toArray, List.map_cons, List.map_nil]; rfl)) ?_; with_reducible refine (file_entries.calls k A1 c1 l1 en w6 (Kd.C_below HR1.out HB6.out) HC1.out h1).mono ?_)
          rintro x w7 ⟨v7, rfl, hR7, hb⟩
          refine ⟨_, rfl, ?_⟩
          have HB7 := Aside0.mk (HB6.out.trans (hb.mono HB6.out.size))
          have HG7 := Aside0.mk ((hb.block w.heap.size (Array.getElem?_eq_some_iff.1 HG6.out).1).trans HG6.out)
          have HR7 := Aside0.mk hR7
          refine hK.out _ _ ⟨(blk_cell HG7.out 1).trans rfl, (blk_cell HG7.out 2).trans rfl⟩ (fun hHeld => ?_)
          clear hb HB6 HG6 hR7 h1
          obtain ⟨A7, c7, e7⟩ := Kd.R_slice HR7.out
          subst e7
          (clear hK K; refine norm_ (a' := ?_) ?_ ?_; rotate_left; (show Act.put _ (some 43) _ = _; simp only [Act.put, List.setIfInBounds_toArray, List.set_cons_zero, List.set_cons_succ, i64_w, i32_w]; rfl))
          refine one_ (i := 11) (N := some 44) #[true, true, true, true, true, true, true, true, true, true, true, true, false, false, false] rfl rfl (by kernel_rfl) (by decide) (fun K hK => ?_)
          (refine goes_ Try.func33 (by kernel_rfl) rfl #[.slice A7 en.length c7] (by rfl) rfl rfl (by first | rfl | (simp only [List.map_toArray, List.map_cons, List.map_nil]; rfl)) ?_; with_reducible refine (rank_Classes.calls A7 c7 en cl w7 (Kd.R_reads' HR7.out).2.2 (Kd.R_reads' HR7.out).2.1 h2).mono ?_)
          rintro x w8 ⟨v8, rfl, hR8, hb⟩
          refine ⟨_, rfl, ?_⟩
          have HB8 := Aside0.mk (HB7.out.trans (hb.mono HB7.out.size))
          have HG8 := Aside0.mk ((hb.block w.heap.size (Array.getElem?_eq_some_iff.1 HG7.out).1).trans HG7.out)
          have HR8 := Aside0.mk hR8
          refine hK.out _ _ ⟨(blk_cell HG8.out 1).trans rfl, (blk_cell HG8.out 2).trans rfl⟩ (fun hHeld => ?_)
          clear hb HB7 HG7 hR8 h2 HR7
          obtain ⟨A8, c8, e8⟩ := Kd.R_slice HR8.out
          subst e8
          (clear hK K; refine norm_ (a' := ?_) ?_ ?_; rotate_left; (show Act.put _ (some 44) _ = _; simp only [Act.put, List.setIfInBounds_toArray, List.set_cons_zero, List.set_cons_succ, i64_w, i32_w]; rfl))
          refine one_ (i := 12) (N := some 45) #[true, true, true, true, true, true, true, true, true, true, true, true, true, false, false] rfl rfl (by kernel_rfl) (by decide) (fun K hK => ?_)
          (refine goes_ Try.func72 (by kernel_rfl) rfl #[.slice A2 l2.length c2, .slice A8 cl.length c8] (by rfl) rfl rfl (by first | rfl | (simp only [List.map_toArray, List.map_cons, List.map_nil]; rfl)) ?_; with_reducible refine (slices_Equal_int_int.calls k A2 c2 l2 A8 c8 cl b w8 (Kd.C_below HR2.out HB8.out) HC2.out (Kd.R_reads' HR8.out).2.2 (Kd.R_reads' HR8.out).2.1 h3).mono ?_)
          rintro x w9 ⟨rfl, nd, rfl⟩
          refine ⟨_, rfl, ?_⟩
          have HB9 := Aside0.mk (pw_below_drewN HB8.out nd)
          refine hK.out _ _ hHeld (fun hHeld => ?_)
          clear HB8 HG8
          (clear hK K; refine norm_ (a' := ?_) ?_ ?_; rotate_left; (show Act.put _ (some 45) _ = _; simp only [Act.put, List.setIfInBounds_toArray, List.set_cons_zero, List.set_cons_succ, i64_w, i32_w]; rfl))
          (refine pure_ (i := 13) (N := some 46) (v := ?_) (a' := ?_) #[true, true, true, true, true, true, true, true, true, true, true, true, true, true, false] rfl rfl (by kernel_rfl) (fun _ _ _ h => h) (Or.inl ⟨by rfl, ?_⟩) ?_ ?_; rotate_left; (intro w'; go_simp; with_reducible rfl); rotate_left; (simp only [Act.put, List.setIfInBounds_toArray, List.set_cons_zero, List.set_cons_succ, i64_w, i32_w]; rfl)); (refine pure_ (i := 14) (N := some 2) (v := ?_) (a' := ?_) #[true, true, true, true, true, true, true, true, true, true, true, true, true, true, true] rfl rfl (by kernel_rfl) (fun _ _ _ h => h) (Or.inl ⟨by rfl, ?_⟩) ?_ ?_; rotate_left; (intro w'; go_simp; with_reducible rfl); rotate_left; (simp only [Act.put, List.setIfInBounds_toArray, List.set_cons_zero, List.set_cons_succ, i64_w, i32_w]; rfl))
          refine done_ (by kernel_rfl) ?_
          go_wp2
          go_ret
          exact ⟨by simp, HB9.out⟩
/-- As the printer calls it. -/
def file_may.f (k : Nat) (l0 : List S82) (l1 l2 : List Int) : Option Bool := (index_Counts.f k l0).bind fun t => (if t.2 = 0 then (if 0 < t.1.length then (if rd t.1 ((t.1.length : Int) - 1) = (l1.length : Int) then ((file_longest.f k l0).bind fun g => (if 255 < g then (some false) else (if l1.any oddB = true then (some false) else ((file_entries.f k l1).bind fun en => ((rank_Classes.f en).bind fun cl => (slices_Equal_int_int.f k l2 cl)))))) else (some false)) else none) else (some false))
theorem mayIs_of {k : Nat} {l0 : List S82} {l1 l2 : List Int} {b : Bool} (h : file_may.f k l0 l1 l2 = some b) : MayIs k l0 l1 l2 b := by
  unfold file_may.f at h
  cases h1 : index_Counts.f k l0 with
  | none => rw [h1] at h; cases h
  | some t =>
    obtain ⟨cs, e⟩ := t
    rw [h1, Option.bind_some] at h
    refine ⟨cs, e, h1, ?_⟩
    by_cases he : e = 0
    · rw [if_pos he] at h
      by_cases hp : 0 < cs.length
      · rw [if_pos hp] at h
        refine .inr ⟨he, hp, ?_⟩
        by_cases hl : rd cs ((cs.length : Int) - 1) = (l1.length : Int)
        · rw [if_pos hl] at h
          refine .inr ⟨hl, ?_⟩
          cases h2 : file_longest.f k l0 with
          | none => rw [h2] at h; cases h
          | some g =>
            rw [h2, Option.bind_some] at h
            refine ⟨g, rfl, ?_⟩
            by_cases hg : 255 < g
            · rw [if_pos hg] at h
              exact .inl ⟨hg, (Option.some.inj h).symm⟩
            · rw [if_neg hg] at h
              refine .inr ⟨hg, ?_⟩
              by_cases ho : l1.any oddB = true
              · rw [if_pos ho] at h
                exact .inl ⟨ho, (Option.some.inj h).symm⟩
              · rw [if_neg ho] at h
                refine .inr ⟨Bool.eq_false_iff.2 ho, ?_⟩
                cases h3 : file_entries.f k l1 with
                | none => rw [h3] at h; cases h
                | some en =>
                  rw [h3, Option.bind_some] at h
                  cases h4 : rank_Classes.f en with
                  | none => rw [h4] at h; cases h
                  | some cl => rw [h4, Option.bind_some] at h; exact ⟨en, cl, rfl, h4, h⟩
        · rw [if_neg hl] at h
          exact .inl ⟨hl, (Option.some.inj h).symm⟩
      · rw [if_neg hp] at h; cases h
    · rw [if_neg he] at h
      exact .inl ⟨he, (Option.some.inj h).symm⟩
theorem file_may.calls (k : Nat) (A0 : Option Addr) (c0 : Nat) (l0 : List S82) (A1 : Option Addr) (c1 : Nat) (l1 : List Int) (A2 : Option Addr) (c2 : Nat) (l2 : List Int) (r : Bool) (w : World)
    (hr0 : Kd.C k82 w A0 l0.length l0) (hc0 : l0.length ≤ c0) (hr1 : Kd.C (Kd.int .u64) w A1 l1.length l1) (hc1 : l1.length ≤ c1) (hr2 : Kd.C (Kd.int .i64) w A2 l2.length l2) (hc2 : l2.length ≤ c2) (h : file_may.f k l0 l1 l2 = some r) :
    Calls Try.prog 36 #[.agg #[.slice A0 l0.length c0, .slice A1 l1.length c1, .slice A2 l2.length c2]] w fun e w' => e = .returned (.bool r) ∧ Below w.heap.size w w' :=
  fmay_k k A0 c0 l0 A1 c1 l1 A2 c2 l2 r w hr0 hc0 hr1 hc1 hr2 hc2 (mayIs_of h)
end Go.Proofs.Ytgebhidpkcjpmaa.K

