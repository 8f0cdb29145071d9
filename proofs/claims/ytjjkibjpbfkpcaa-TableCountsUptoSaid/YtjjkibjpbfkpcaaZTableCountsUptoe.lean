/- TableCountsUpto. (The texts that the proof is made of, one behind the other: part 5 of 5.) -/
import Derived.Test.YtjjkibjpbfkpcaaProg
import Derived.Below
import Derived.Deep.Draws
import Derived.Deep.AppendLies
import Derived.Maps.AppendAt
import Derived.OwnWalk
import Derived.Laws.BytesArg
import Derived.Laws.MakeOwn
import Derived.Laws.OwnMore
import Derived.Deep.OwnRows
import Derived.Tactics
import Derived.Lib.ConvBytes
import Derived.Laws.Slices
import Derived.WalkKit
import Derived.KernelRfl
import Derived.RowKit3
import Derived.Deep.LoopGhost
import Derived.Deep.QuietTactic
import Derived.BigQuiet
import Derived.WideLaws
import Derived.Deep.DeepCutAuto
import Derived.Deep.CutBlock
import Derived.Deep.RegionHeld3
import Derived.Laws.Rows
import Derived.Lib.AppendStr
import Derived.ArgAppend
import Derived.Laws.IdiomCopy
import Derived.OrdersHeld
import Derived.Laws.BitsLemmas
import Derived.RowKit
import Derived.Lib.OthersKept
import Derived.WalkSmall
import Derived.Deep.RegionLaw
import Derived.BigRegion
import Derived.Deep.Matrix
import Derived.SliceStrings
import Derived.Test.YtjjkibjpbfkpcaaRows
import Derived.ProofKit
import Derived.OpenShut
import Derived.ShutString
import Derived.ChangeOld
import Derived.SizedLaws
import Derived.JoinedCond
import Derived.Deep.CondSized
import Derived.Test.YtjjkibjpbfkpcaaZTableCountsUptoa
import Derived.Test.YtjjkibjpbfkpcaaZTableCountsUptob
import Derived.Test.YtjjkibjpbfkpcaaZTableCountsUptoc
import Derived.Test.YtjjkibjpbfkpcaaZTableCountsUptod
namespace Go.Proofs.Ytjjkibjpbfkpcaa.K
open Go.RowKit Go.Proofs.YtjjkibjpbfkpcaaW.PrintWords Go.Proofs.YtjjkibjpbfkpcaaW.PrintLast Go.Proofs.YtjjkibjpbfkpcaaW.PrintMore Go.Proofs.Ytjjkibjpbfkpcaa
attribute [local go_sem] max2_int min2_int max_two min_two max_three min_three max_four min_four
set_option linter.unusedVariables false
set_option linter.unusedSimpArgs false
open Go.Proofs.Ytjjkibjpbfkpcaa.PTb Go.Proofs.Ytjjkibjpbfkpcaa.Tab
theorem rd_at (l : List ByteArray) (i : Nat) (h : i < l.length) : rdOf ByteArray.empty l (i : Int) = l[i] := by
  unfold rdOf
  rw [Int.toNat_natCast, List.getD_eq_getElem?_getD, List.getElem?_eq_getElem h]; rfl
theorem take_at (l : List ByteArray) (n i : Nat) (h : i < n) (hn : n ≤ l.length) : ((l.take n).map Utf.nats).take (i + 1) = ((l.take n).map Utf.nats).take i ++ [Utf.nats (l[i]'(by omega))] := by
  have hl : i < ((l.take n).map Utf.nats).length := by rw [List.length_map, List.length_take]; omega
  rw [List.take_succ_eq_append_getElem hl]
  simp
theorem emp_of {word : ByteArray} (h : Utf.nats word = []) : word.toList.isEmpty = true := by
  rw [ByteArray.toList_eq]
  unfold Utf.nats at h
  simpa using h
theorem min_at (n : Nat) : (if (200 : Int) < (n : Int) then (200 : Int) else (n : Int)) = ((min n 200 : Nat) : Int) := by
  by_cases h : (200 : Int) < (n : Int)
  · rw [if_pos h]; omega
  · rw [if_neg h]; omega
theorem leq_str (s t : ByteArray) : (Op.bytesLess s.toList t.toList || s.toList == t.toList) = !decide (Utf.nats t < Utf.nats s) := by
  rw [less_str, Utf.toList_nats]
  have e : t.toList.map (fun b => b.toNat) = Utf.nats t := by rw [ByteArray.toList_eq]; rfl
  rw [e, Bool.eq_iff_iff, Bool.or_eq_true, Bool.not_eq_true', decide_eq_true_eq, decide_eq_false_iff_not, List.not_lt, beq_iff_eq, List.le_iff_lt_or_eq]
theorem run_leq_str (P : Program) (ty : TypeId) (s t : ByteArray) (W : World) : (binOp .leq ty (.string s) (.string t)).run P W = .ok (.bool (!decide (Utf.nats t < Utf.nats s))) W := by
  rw [← leq_str]
  simp [binOp, Op.stringOp]
theorem wrap_i {x : Int} (h0 : 0 ≤ x) (h1 : x < 9223372036854775808) : IntKind.i64.wrap x = x := by
  simp [IntKind.wrap, IntKind.signed, IntKind.bits]; omega
theorem wrap_u {x : Int} (h0 : 0 ≤ x) (h1 : x < 18446744073709551616) : IntKind.u64.wrap x = x := by
  simp [IntKind.wrap, IntKind.signed, IntKind.bits]; omega
def sumT (L : List En) (k : Nat) : Nat := ((L.take k).map (fun e => e.2)).sum
theorem sum_take : ∀ (L : List En) (k : Nat) (h : k < L.length), ((L.take (k + 1)).map (fun e => e.2)).sum = ((L.take k).map (fun e => e.2)).sum + L[k].2
  | [], _, h => by simp at h
  | x :: L, 0, _ => by simp
  | x :: L, k + 1, h => by
    have := sum_take L k (by simpa using h)
    simp only [List.take_succ_cons, List.map_cons, List.sum_cons, List.getElem_cons_succ] at this ⊢
    omega
theorem sum_take_le : ∀ (L : List En) (k : Nat), ((L.take k).map (fun e => e.2)).sum ≤ (L.map (fun e => e.2)).sum
  | [], _ => by simp
  | x :: L, 0 => by simp
  | x :: L, k + 1 => by
    have := sum_take_le L k
    simp only [List.take_succ_cons, List.map_cons, List.sum_cons]
    omega
def nes (ws : List Wd) : Nat := (ws.filter (fun w => w ≠ [])).length
theorem nes_step (ws : List Wd) (w : Wd) : nes (ws ++ [w]) = if w = [] then nes ws else nes ws + 1 := by
  unfold nes
  rw [List.filter_append]
  by_cases h : w = []
  · rw [if_pos h, h]; simp
  · rw [if_neg h]; simp [h]
theorem nes_le (ws : List Wd) : nes ws ≤ ws.length := List.length_filter_le _ _
set_option maxHeartbeats 4000000 in
set_option maxRecDepth 100000 in
theorem TableCounts_walk (a0 : Option Addr) (cap0 : Nat) (l0 : List ByteArray) (w : World) (hC0 : Kd.C Kd.string w a0 l0.length l0) (hc0 : l0.length ≤ cap0) (hw0 : ∀ x ∈ l0, x.size ≤ 1048576) :
    Calls Try.prog 4 #[.slice a0 l0.length cap0] w fun e w' => e = .returned (.bool true) ∧ Below w.heap.size w w' := by
  have HC := Aside0.mk hC0; have HCAP := Aside0.mk hc0; have HW := Aside0.mk hw0
  have hll : (l0.length : Int) ≤ 9223372036854775807 := by have := hC0.2.1; omega
  have HSH := Aside0.mk (shown_k w)
  clear hC0 hc0 hw0
  go_enter Try.func4, Try.ntmps4
  go_upto_region 2 with (first | (go_at_call 9; (with_reducible refine (HSH.out).mono ?_); rintro e w1 ⟨rfl, hB⟩; have HB := Aside0.mk hB; clear hB))
  go_upto_region 3 with fail
  rw [min_at]
  obtain ⟨n, hn⟩ : ∃ n, n = min l0.length 200 := ⟨_, rfl⟩
  rw [← hn]
  have HN : Aside0 (n ≤ l0.length ∧ n ≤ 200) := ⟨by omega⟩
  clear hn
  obtain ⟨ws, hws⟩ : ∃ ws, ws = (l0.take n).map Utf.nats := ⟨_, rfl⟩
  have HWS := Aside0.mk hws
  have hwl : ws.length = n := by rw [hws, List.length_map, List.length_take]; have := HN.out; omega
  have HWL := Aside0.mk hwl
  clear hws hwl
  have HNEW := Aside0.mk (show Calls Try.prog 10 #[.int .i64 200] w1 (fun e w' => ∃ g, e = .returned (.tuple #[.pointer (some ⟨g, 0, none⟩), .int .i64 0]) ∧ TabW w1.heap.size g 200 [] w' ∧ Below w1.heap.size w1 w') from new_k 200 (by decide) (by decide) w1)
  go_upto_region 4 with (first | (go_at_call 10; (with_reducible refine (HNEW.out).mono ?_); rintro e w2 ⟨g, rfl, hT, hB⟩; have HT := Aside0.mk hT; have HB2 := Aside0.mk (HB.out.trans (hB.mono HB.out.size)); have HSZ := Aside0.mk HB.out.size; clear hT hB HB))
  go_upto_block 0 with fail
  go_wp2
  go_loopg [7, 8] n (fun gg v7 v8 wr => ∃ (i : Nat) (L : List En), v8 = .int .i64 (i : Int) ∧ v7 = .int .u64 ((nes (ws.take i) : Nat) : Int) ∧ Aside0 (i ≤ n ∧ n ≤ gg + i) ∧ Aside0 (CI (ws.take i) 1 L) ∧ Aside0 (TabW w1.heap.size g 200 L wr) ∧ Aside0 (Below w.heap.size w wr))
  case atStart => exact ⟨0, [], rfl, rfl, ⟨by omega⟩, ⟨CI.nil 1⟩, HT, HB2⟩
  case round =>
    obtain ⟨i, L, rfl, rfl, hi, hci, hT, hB⟩ := hrel
    by_cases hlt : i < n
    · have hcb : decide ((i : Int) < (n : Int)) = true := decide_eq_true (by omega)
      have hcbN : decide (i < n) = true := decide_eq_true hlt
      have hil : i < l0.length := by have := HN.out; omega
      obtain ⟨ad, ead, hcell⟩ := Kd.at_string (Kd.C_below HC.out hB.out) (i : Int) (by omega) (by omega)
      cases ead
      rw [rd_at l0 i hil, Int.toNat_natCast] at hcell
      obtain ⟨x, hx⟩ : ∃ x, l0[i] = x := ⟨_, rfl⟩
      have hxs : x.size ≤ 1048576 := by rw [← hx]; exact HW.out _ (List.getElem_mem hil)
      rw [hx] at hcell
      have htk : ws.take (i + 1) = ws.take i ++ [Utf.nats x] := by rw [HWS.out, take_at l0 n i hlt HN.out.1, hx]
      have htl : (ws.take i).length = i := by rw [List.length_take]; have := HWL.out; omega
      obtain ⟨L', r, eadd, hci', hr⟩ := hci.out.step (room := 200) (Nat.le_refl 1) (by rw [htl]; have := HN.out; omega) (by rw [htl]; have := HN.out; omega) (Utf.nats x)
      have HA := Aside0.mk (addT _ g 200 _ _ _ x 1 1 wr rfl hT.out hxs eadd)
      have HTK := Aside0.mk htk; have HCI := Aside0.mk hci'; have HLT := Aside0.mk hlt; have HR := Aside0.mk hr
      have hnl : nes (ws.take i) ≤ 200 := by have := nes_le (ws.take i); have := HN.out; omega
      have HNL := Aside0.mk hnl
      have q0 : (0 : Int) ≤ (i : Int) := by omega
      have q1 : (i : Int) < (l0.length : Int) := by omega
      have hiw : wrap64 ((i : Int) + 1) = ((i + 1 : Nat) : Int) := by have := HN.out; unfold wrap64; omega
      have HIW := Aside0.mk hiw
      have HX := Aside0.mk hx
      clear hx htk htl eadd hci' hr hlt hxs hnl hiw
      go_upto_region 11 with (first | (go_at_call 11; (with_reducible refine (HA.out).mono ?_); rintro e w3 ⟨rfl, hT3, hB3⟩; have HT3 := Aside0.mk hT3; have HB3 := Aside0.mk (hB.out.trans (hB3.mono HSZ.out)); clear hT3 hB3))
      clear hcell
      obtain ⟨ad2, ead, hcell⟩ := Kd.at_string (Kd.C_below HC.out HB3.out) (i : Int) q0 q1
      cases ead
      rw [rd_at l0 i hil, Int.toNat_natCast, HX.out] at hcell
      by_cases hne : Utf.nats x = []
      · have hemp := emp_of hne
        have hrb : (r == 0) = false := beq_eq_false_iff_ne.2 (fun h => HR.out.1 h hne)
        have HNE := Aside0.mk hne
        clear hne
        go_wp2
        have hiw := HIW.out
        go_wp2
        go_roundg (n - (i + 1))
        case measure => have := hi.out; have := HLT.out; omega
        case rel =>
          refine ⟨i + 1, L', rfl, ?_, ⟨by have := HLT.out; omega⟩, ⟨by rw [HTK.out]; exact HCI.out⟩, HT3, HB3⟩
          rw [HTK.out, nes_step, if_pos HNE.out]
      · have hemp := ne_emp hne
        have hrb : (r == 0) = true := beq_iff_eq.2 (HR.out.2 hne)
        have hsw : (((nes (ws.take i) : Nat) : Int) + 1) % 18446744073709551616 = ((nes (ws.take i) + 1 : Nat) : Int) := by have := HNL.out; omega
        have HNE := Aside0.mk hne
        clear hne
        go_wp2
        have hiw := HIW.out
        go_wp2
        go_roundg (n - (i + 1))
        case measure => have := hi.out; have := HLT.out; omega
        case rel =>
          refine ⟨i + 1, L', rfl, ?_, ⟨by have := HLT.out; omega⟩, ⟨by rw [HTK.out]; exact HCI.out⟩, HT3, HB3⟩
          rw [HTK.out, nes_step, if_neg HNE.out]; rfl
    · have hcb : decide ((i : Int) < (n : Int)) = false := decide_eq_false (by omega)
      have hcbN : decide (i < n) = false := decide_eq_false hlt
      have hin : i = n := by have := hi.out; omega
      subst hin
      have htw : ws.take i = ws := List.take_of_length_le (by rw [HWL.out]; exact Nat.le_refl _)
      rw [htw] at hci ⊢
      have HAL := Aside0.mk (nes_le ws)
      clear htw
      go_upto_region 15 with fail
      clear hcb hcbN hlt
      have HDR := Aside0.mk (drain_k _ g 200 _ wr hT.out)
      go_upto_region 16 with (first | (go_at_call 13; (with_reducible refine (HDR.out).mono ?_); rintro e w5 ⟨v, es, rfl, hes, hpos, hR, hT5, hB5⟩; have HT5 := Aside0.mk hT5; have HB5 := Aside0.mk (hB.out.trans (hB5.mono HSZ.out)); have HR5 := Aside0.mk hR; have HES := Aside0.mk hes; have HPOS := Aside0.mk hpos; clear hT5 hB5 hR hes hpos hT))
      obtain ⟨A, c, hv⟩ := Kd.R_slice HR5.out
      subst hv
      obtain ⟨_, hce, hCe⟩ := Kd.R_reads' HR5.out
      have HCE := Aside0.mk hCe; have HCC := Aside0.mk hce
      have hel : es.length ≤ 200 := by have := hci.out.len; rw [← HES.out, List.length_map, HWL.out] at this; have := HN.out; omega
      have hei : (es.length : Int) ≤ 9223372036854775807 := by omega
      have HEL := Aside0.mk hel
      clear hCe hce hel HR5
      go_upto_block 2 with fail
      obtain ⟨W5, hW5⟩ : ∃ W5, W5 = w5 := ⟨_, rfl⟩
      rw [← hW5] at HT5 HB5 HCE ⊢
      clear hW5
      go_wp2
      go_loopg [11, 12] es.length (fun gg v11 v12 wx => ∃ k : Nat, v12 = .int .i64 (k : Int) ∧ v11 = .int .u64 ((sumT L k : Nat) : Int) ∧ Aside0 (k ≤ es.length ∧ es.length ≤ gg + k) ∧ Aside0 (Below W5.heap.size W5 wx))
      case atStart => exact ⟨0, rfl, rfl, ⟨by omega⟩, ⟨Below.refl _ _⟩⟩
      case round =>
        obtain ⟨k, rfl, rfl, hk, hbx⟩ := hrel
        have HBX := Aside0.mk (HB5.out.trans (hbx.out.mono HB5.out.size))
        by_cases hke : k < es.length
        · have hcb : decide ((k : Int) < (es.length : Int)) = true := decide_eq_true (by omega)
          have hcbN : decide (k < es.length) = true := decide_eq_true hke
          go_upto_block 4 with fail
          obtain ⟨y, hy⟩ : ∃ y, es[k] = y := ⟨_, rfl⟩
          have hkL : k < L.length := by rw [← HES.out, List.length_map]; exact hke
          have hLk : L[k] = toEn y := by
            have : (es.map toEn)[k]'(by rw [List.length_map]; exact hke) = toEn y := by rw [List.getElem_map, hy]
            rw [← this]
            congr 1
            exact HES.out.symm
          have hmemL : toEn y ∈ L := by rw [← hLk]; exact List.getElem_mem hkL
          have hcnt : ws.count (Utf.nats y.f0) = y.f1.toNat := by have := ((hci.out.mem _).1 hmemL).2.2; rw [Nat.one_mul] at this; exact this.symm
          have hy1 : 0 ≤ y.f1 := (HPOS.out y (by rw [← hy]; exact List.getElem_mem hke)).1
          have hcn2 : ((ws.count (Utf.nats y.f0) : Nat) : Int) = y.f1 := by rw [hcnt]; omega
          have hcl : ws.count (Utf.nats y.f0) ≤ 200 := Nat.le_trans List.count_le_length (by rw [HWL.out]; exact HN.out.2)
          have HY := Aside0.mk hy; have HLK := Aside0.mk hLk; have HCN := Aside0.mk hcn2; have HCT := Aside0.mk hcnt; have HCL := Aside0.mk hcl
          have kq0 : (0 : Int) ≤ (k : Int) := by omega
          have kq1 : (k : Int) < (es.length : Int) := by omega
          have HKE := Aside0.mk hke
          obtain ⟨W6, hW6⟩ : ∃ W6, W6 = wr := ⟨_, rfl⟩
          rw [← hW6] at HBX hbx ⊢
          clear hW6 hy hLk hcn2 hcnt hcl hmemL hy1 hcb hcbN
          go_wp2
          go_loopg [13, 14] i (fun gg v13 v14 wx => ∃ j : Nat, v14 = .int .i64 (j : Int) ∧ v13 = .int .u64 (((ws.take j).count (Utf.nats y.f0) : Nat) : Int) ∧ Aside0 (j ≤ i ∧ i ≤ gg + j) ∧ Aside0 (Below W6.heap.size W6 wx))
          case atStart => exact ⟨0, rfl, rfl, ⟨by omega⟩, ⟨Below.refl _ _⟩⟩
          case round =>
            obtain ⟨j, rfl, rfl, hj, hbj⟩ := hrel
            by_cases hji : j < i
            · have hcb : decide ((j : Int) < (i : Int)) = true := decide_eq_true (by omega)
              have hcbN : decide (j < i) = true := decide_eq_true hji
              have hjl : j < l0.length := by have := HN.out; omega
              have HBJ := Aside0.mk (HBX.out.trans (hbj.out.mono HBX.out.size))
              obtain ⟨ad, ead, hcell⟩ := Kd.at_string (Kd.C_below HC.out HBJ.out) (j : Int) (by omega) (by omega)
              cases ead
              rw [rd_at l0 j hjl, Int.toNat_natCast] at hcell
              obtain ⟨x, hx⟩ : ∃ x, l0[j] = x := ⟨_, rfl⟩
              rw [hx] at hcell
              have htk : ws.take (j + 1) = ws.take j ++ [Utf.nats x] := by rw [HWS.out, take_at l0 i j hji HN.out.1, hx]
              have hcj : (ws.take j).count (Utf.nats y.f0) ≤ 200 := Nat.le_trans List.count_le_length (by rw [List.length_take]; have := HWL.out; have := HN.out; omega)
              have HTK := Aside0.mk htk; have HCJ := Aside0.mk hcj; have HJI := Aside0.mk hji
              obtain ⟨ae, eae, y0, y1⟩ := at_T35 (Kd.C_below HCE.out (hbx.out.trans (hbj.out.mono hbx.out.size))) (k : Int) kq0 kq1
              cases eae
              rw [show rd_T35 es (k : Int) = y by unfold rd_T35; rw [Int.toNat_natCast, List.getD_eq_getElem?_getD, List.getElem?_eq_getElem HKE.out, ← HY.out]; rfl, Int.toNat_natCast] at y0 y1
              have q0 : (0 : Int) ≤ (j : Int) := by omega
              have q1 : (j : Int) < (l0.length : Int) := by omega
              have hjw : wrap64 ((j : Int) + 1) = ((j + 1 : Nat) : Int) := by have := HN.out; unfold wrap64; omega
              have HJW := Aside0.mk hjw
              clear hx htk hcj hji hjw y1
              by_cases heq : x = y.f0
              · have hxb : (x.toList == y.f0.toList) = true := by rw [heq]; exact beq_self_eq_true _
                have HEQ := Aside0.mk heq
                clear heq
                go_upto_region 24 with fail
                go_quiet (fail)
                have hcw : ((((ws.take j).count (Utf.nats y.f0) : Nat) : Int) + 1) % 18446744073709551616 = (((ws.take j).count (Utf.nats y.f0) + 1 : Nat) : Int) := by have := HCJ.out; omega
                have hjw := HJW.out
                go_wp2
                go_roundg (i - (j + 1))
                case measure => have := hj.out; have := HJI.out; omega
                case rel =>
                  refine ⟨j + 1, rfl, ?_, ⟨by have := HJI.out; omega⟩, ⟨pw_below_drewN hbj.out _⟩⟩
                  rw [HTK.out, List.count_append, List.count_singleton, if_pos (by rw [HEQ.out]; simp)]; rfl
              · have hxb : (x.toList == y.f0.toList) = false := beq_eq_false_iff_ne.2 (fun h => heq (toList_inj3 h))
                have HEQ := Aside0.mk heq
                clear heq
                go_upto_region 24 with fail
                go_quiet (fail)
                have hjw := HJW.out
                go_wp2
                go_roundg (i - (j + 1))
                case measure => have := hj.out; have := HJI.out; omega
                case rel =>
                  refine ⟨j + 1, rfl, ?_, ⟨by have := HJI.out; omega⟩, ⟨pw_below_drewN hbj.out _⟩⟩
                  rw [HTK.out, List.count_append, List.count_singleton, if_neg (by simpa using fun h => HEQ.out (nats_inj3 h))]; rfl
            · have hcb : decide ((j : Int) < (i : Int)) = false := decide_eq_false (by omega)
              have hcbN : decide (j < i) = false := decide_eq_false hji
              have htw : ws.take j = ws := List.take_of_length_le (by rw [HWL.out]; omega)
              rw [htw]
              clear htw
              rw [HCN.out]
              have HBJ := Aside0.mk (hbx.out.trans (hbj.out.mono hbx.out.size))
              obtain ⟨ae, eae, y0, y1⟩ := at_T35 (Kd.C_below HCE.out HBJ.out) (k : Int) kq0 kq1
              cases eae
              rw [show rd_T35 es (k : Int) = y by unfold rd_T35; rw [Int.toNat_natCast, List.getD_eq_getElem?_getD, List.getElem?_eq_getElem HKE.out, ← HY.out]; rfl, Int.toNat_natCast] at y0 y1
              have hst := sum_take L k hkL
              rw [HLK.out, show (toEn y).2 = y.f1.toNat from rfl] at hst
              have hsl := sum_take_le L (k + 1)
              rw [hci.out.sum, Nat.one_mul] at hsl
              change _ ≤ nes ws at hsl
              have hy1 : 0 ≤ y.f1 := by have := HCN.out; omega
              have hsb : IntKind.u64.wrap (((sumT L k : Nat) : Int) + y.f1) = ((sumT L (k + 1) : Nat) : Int) := by
                have h0 : sumT L (k + 1) = sumT L k + y.f1.toNat := hst
                have h1 : sumT L (k + 1) ≤ nes ws := hsl
                have h2 := HAL.out; have h3 := HWL.out; have h4 := HN.out
                rw [wrap_u (by omega) (by omega)]; omega
              have hkw : wrap64 ((k : Int) + 1) = ((k + 1 : Nat) : Int) := by have := HKE.out; have := HEL.out; unfold wrap64; omega
              have HSB := Aside0.mk hsb; have HKW := Aside0.mk hkw
              clear hst hsl hy1 hsb hkw
              go_upto_region 26 with fail
              clear hcb hcbN
              by_cases hk0 : k = 0
              · have hkb : decide ((k : Int) > 0) = false := decide_eq_false (by omega)
                have hkbN : decide (0 < k) = false := decide_eq_false (by omega)
                clear hk0
                go_quiet (fail)
                go_upto_region 28 with fail
                go_upto_region 19 with fail
                have hkw := HKW.out
                go_wp2
                go_roundg (es.length - (k + 1))
                case measure => have := hk.out; have := HKE.out; omega
                case rel => exact ⟨k + 1, rfl, congrArg (Value.int .u64) HSB.out, ⟨by have := HKE.out; omega⟩, ⟨pw_below_drewN HBJ.out _⟩⟩
              · have hkb : decide ((k : Int) > 0) = true := decide_eq_true (by omega)
                have hkbN : decide (0 < k) = true := decide_eq_true (by omega)
                have hk1 : wrap64 ((k : Int) - 1) = ((k - 1 : Nat) : Int) := by have := HKE.out; have := HEL.out; unfold wrap64; omega
                have hk2 : IntKind.i64.wrap ((k : Int) - 1) = ((k - 1 : Nat) : Int) := by rw [wrap_i (by omega) (by have := HKE.out; have := HEL.out; omega)]; omega
                have hz0 : (0 : Int) ≤ ((k - 1 : Nat) : Int) := by omega
                have hz1 : ((k - 1 : Nat) : Int) < (es.length : Int) := by omega
                obtain ⟨af, eaf, z0, z1⟩ := at_T35 (Kd.C_below HCE.out HBJ.out) ((k - 1 : Nat) : Int) hz0 hz1
                cases eaf
                obtain ⟨z, hz⟩ : ∃ z, es[k - 1]'(by omega) = z := ⟨_, rfl⟩
                rw [show rd_T35 es ((k - 1 : Nat) : Int) = z by unfold rd_T35; rw [Int.toNat_natCast, List.getD_eq_getElem?_getD, List.getElem?_eq_getElem (show k - 1 < es.length by omega), ← hz]; rfl, Int.toNat_natCast] at z0 z1
                have hlt2 : Utf.nats z.f0 < Utf.nats y.f0 := by
                  have h1 := List.pairwise_iff_getElem.1 hci.out.sorted (k - 1) k (by omega) hkL (by omega)
                  have h2 : L[k - 1]'(by omega) = toEn z := by
                    have : (es.map toEn)[k - 1]'(by rw [List.length_map]; omega) = toEn z := by rw [List.getElem_map, hz]
                    rw [← this]
                    congr 1
                    exact HES.out.symm
                  rw [h2, HLK.out] at h1
                  exact h1
                have hleq : ∀ W, (binOp .leq 9 (.string y.f0) (.string z.f0)).run Try.prog W = .ok (.bool false) W := fun W => by rw [run_leq_str]; simp [hlt2]
                clear hk0 hz hlt2
                go_quiet (fail)
                go_upto_region 28 with fail
                go_upto_region 19 with fail
                have hkw := HKW.out
                go_wp2
                go_roundg (es.length - (k + 1))
                case measure => have := hk.out; have := HKE.out; omega
                case rel => exact ⟨k + 1, rfl, congrArg (Value.int .u64) HSB.out, ⟨by have := HKE.out; omega⟩, ⟨pw_below_drewN HBJ.out _⟩⟩
        · have hcb : decide ((k : Int) < (es.length : Int)) = false := decide_eq_false (by omega)
          have hcbN : decide (k < es.length) = false := decide_eq_false hke
          have hsum : sumT L k = nes ws := by
            have h1 := hci.out.sum
            rw [Nat.one_mul] at h1
            unfold sumT
            rw [List.take_of_length_le (by rw [← HES.out, List.length_map]; omega)]
            exact h1
          rw [hsum]
          clear hsum
          go_upto_region 29 with fail
          have HT6 := HT5.out.step hbx.out
          go_wp2_with (fail)
          refine Calls.mono (drain_k _ g 200 _ _ HT6) ?_
          rintro e w7 ⟨v7, es7, rfl, hes7, _, hR7, _, hB7⟩
          have hnil : es7 = [] := List.map_eq_nil_iff.1 hes7
          subst hnil
          obtain ⟨A7, c7, hv7⟩ := Kd.R_slice hR7
          subst hv7
          have HB7 := Aside0.mk (HBX.out.trans (hB7.mono HSZ.out))
          clear hR7 hB7 hes7 HT6
          go_wp2
          go_ret
          exact ⟨rfl, HB7.out⟩
end Go.Proofs.Ytjjkibjpbfkpcaa.K

namespace Go.Proofs.Ytjjkibjpbfkpcaa.K
open Go.RowKit Go.Proofs.YtjjkibjpbfkpcaaW.PrintWords Go.Proofs.YtjjkibjpbfkpcaaW.PrintLast Go.Proofs.YtjjkibjpbfkpcaaW.PrintMore Go.Proofs.Ytjjkibjpbfkpcaa
attribute [local go_sem] max2_int min2_int max_two min_two max_three min_three max_four min_four
set_option linter.unusedVariables false
set_option linter.unusedSimpArgs false
end Go.Proofs.Ytjjkibjpbfkpcaa.K

namespace Go.Proofs.Ytjjkibjpbfkpcaa.K
open Go.RowKit Go.Proofs.YtjjkibjpbfkpcaaW.PrintWords Go.Proofs.YtjjkibjpbfkpcaaW.PrintLast Go.Proofs.YtjjkibjpbfkpcaaW.PrintMore Go.Proofs.Ytjjkibjpbfkpcaa
attribute [local go_sem] max2_int min2_int max_two min_two max_three min_three max_four min_four
set_option linter.unusedVariables false
set_option linter.unusedSimpArgs false
open Go.Proofs.Ytjjkibjpbfkpcaa
theorem bulk_str {H : Type} : ∀ (ss : List ByteArray) (x : ByteArray), x ∈ ss → x.size + 1 ≤ Rows.uptoBulkAll (H := H) (Go.ChangeShapes.strs ss)
  | [], _, h => by cases h
  | s :: ss, x, h => by
    have e : Rows.uptoBulkAll (H := H) (Go.ChangeShapes.strs (s :: ss)) = (s.size + 1) + Rows.uptoBulkAll (H := H) (Go.ChangeShapes.strs ss) := by
      show Rows.uptoBulk (DataW.lit (H := H) (.string s.data.toList)) + Rows.uptoBulkAll (H := H) (Go.ChangeShapes.strs ss) = _
      have e2 : s.data.toList.length = s.size := by rw [Array.length_toList]; rfl
      simp only [Rows.uptoBulk, e2]
    rw [e]
    rcases List.mem_cons.1 h with rfl | h
    · omega
    · have := bulk_str (H := H) ss x h
      omega
theorem open_strsU {H : Type} {enc : TypeId × Value → H} {P : Program} {w : World} {base : Nat} {held : Bool} {t e : TypeId} {a : Option Addr} {len cap : Nat} {d : DataW H} {ps : List MemPlace}
    (ht : P.underlying t = some (.slice e)) (he : P.underlying e = some .string) (ce : P.cellsOf e = 1)
    (h : DataW.Trod enc P w base (fun _ => true) held t (.slice a len cap) d ps) :
    ∃ l : List ByteArray, len = l.length ∧ l.length ≤ cap ∧ l.length ≤ maxLen ∧ Kd.C Kd.string w a l.length l ∧ ∀ x ∈ l, x.size + 1 ≤ Rows.uptoBulk d := by
  obtain ⟨fuel, hf⟩ := h
  rcases Go.ChangeShapes.open_strings ht he ce hf with ⟨hcs, _⟩ | ⟨a', len', cap', ss, hcs, hb, hl, hm, hsl, hd, hx, hs⟩
  · simp [Value.cells] at hcs
    obtain ⟨rfl, rfl, rfl⟩ := hcs
    exact ⟨[], rfl, Nat.le_refl _, Nat.zero_le _, ⟨rfl, Nat.zero_le _, fun h => absurd h (by simp)⟩, by simp⟩
  · simp [Value.cells] at hcs
    obtain ⟨rfl, rfl, rfl⟩ := hcs
    simp only [if_true] at hsl
    injection hd with hd _
    subst hd
    have hlen : (ss.take len).length = len := by rw [List.length_take]; omega
    refine ⟨ss.take len, hlen.symm, by omega, by omega, ?_, fun x hx => ?_⟩
    · refine Kd.C_of_reads (d := ByteArray.empty) (h1 := fun _ => rfl) ⟨rfl, by rw [hlen]; unfold maxLen at hm; omega, fun _ => ⟨a', rfl, fun j hj => ?_⟩⟩
      rw [hlen] at hj
      rw [hx j (by omega)]
      congr 2
      rw [List.getD_eq_getElem?_getD, List.getD_eq_getElem?_getD, List.getElem?_take, if_pos hj]
    · have := bulk_str (H := H) _ x hx
      simp only [Rows.uptoBulk]
      omega
/-- A part's bulk under the bound. -/
theorem bulk_part {H : Type} {d : DataW H} {l : List (DataW H)} (hk : Rows.uptoSmall H l = true) (h : d ∈ l) : Rows.uptoBulk d ≤ 1048576 := by
  have hb : Rows.uptoBulkAll l ≤ 1048576 := of_decide_eq_true hk
  have : ∀ l : List (DataW H), d ∈ l → Rows.uptoBulk d ≤ Rows.uptoBulkAll l := by
    intro l
    induction l with
    | nil => exact fun h => by cases h
    | cons x r ih =>
      intro h
      simp only [Rows.uptoBulkAll]
      rcases List.mem_cons.1 h with rfl | h
      · omega
      · have := ih h
        omega
  exact Nat.le_trans (this l h) hb
end Go.Proofs.Ytjjkibjpbfkpcaa.K

namespace Go.Proofs.Ytjjkibjpbfkpcaa.tableCountsUpto
open Go.ChangeShapes Go.WideShapes Go.ChangeAt Go.RowKit
open Go.ChangeMaps (open_string shut_string)
set_option linter.unusedVariables false
theorem own : ownKnob Try.prog.godebug = none := by kernel_rfl
theorem laidOut : laidOutB Try.prog = true := by kernel_rfl
def IsRow (k : IntKind) (w : World) (a : Option Addr) (len cap : Nat) (zs : List Int) : Prop :=
  (a = none ∧ len = 0 ∧ cap = 0 ∧ zs = []) ∨
  ∃ x, a = some x ∧ len ≤ cap ∧ cap ≤ maxLen ∧ zs.length = cap ∧ (∀ i, i < zs.length → w.cell? (x.add i) = some (.int k (zs.getD i 0))) ∧ ∀ n ∈ zs, (Lit.int k n).wf = true
set_option maxRecDepth 100000 in
theorem lifted (os : Os) (started : os.Started) (H : Type) (enc : TypeId × Value → H) (F : Stop.Interp) :
    ReturnsInHanded {} Try.checked os 4 .any ((Rows.OpenSpec.upto Rows.tableCountsSpec).pre6 enc Try.prog Try.f4 Rows.tableCountsUptoRow.domain false) (((Rows.OpenSpec.upto Rows.tableCountsSpec).at F).post enc Try.prog Try.f4 false true false false) := by
  refine returnsInHanded_of_cond_sized (C := Try.checked) (s := Rows.OpenSpec.upto Rows.tableCountsSpec) (k := Rows.uptoSmall) rfl own started (by kernel_rfl) Try.func4
    (OpenSpec.witness (enc := enc) (C := Try.checked) (s := Rows.OpenSpec.upto Rows.tableCountsSpec) (k := Rows.uptoSmall) rfl false ⟨#[], #[.slice none 0 0], []⟩ 8 (by kernel_rfl) (by kernel_rfl) (by kernel_rfl)
      (x := ([.nil], [], [])) (by kernel_rfl) rfl (by kernel_rfl)) ?_
  intro W base args ds gs before hval0 hW hcnd hk hsz0 _
  have hsz : (DataW.weightsEach Try.prog (Try.f4.params.toList ++ Rows.tableCountsSpec.plain.varTypes Try.prog) (ds ++ gs)).all (· ≤ reachBytes) = true := hsz0
  have hval : ∀ (j : Nat) t v, Try.f4.params[j]? = some t → args[j]? = some v → Value.okWide Try.prog W .any base t v := hval0
  have hW' := hW
  obtain ⟨p, q, hA0, hV, rfl, hfz, hnd⟩ := hW
  have hA : DataW.TrodAll enc Try.prog W 0 (fun _ => true) true Try.f4.params.toList args.toList ds p := hA0
  rw [Try.params4] at hA hval hsz
  obtain ⟨v0, vs0, d0, ds0, p0, q0, hargs, rfl, rfl, h0, r0⟩ := trodAll_cons hA
  obtain ⟨rfl, rfl, rfl⟩ := trodAll_nil r0
  obtain rfl : args = #[v0] := by cases args; simp_all
  obtain ⟨rfl, rfl⟩ := trodVars_none hV
  obtain ⟨a0, len0, cap0, rfl⟩ := okWide_slice Try.underlying22 (hval 0 22 v0 rfl rfl)
  have k0 := h0
  have lt0 : ∀ x ∈ p0, x.block < W.heap.size := by obtain ⟨m, hm⟩ := k0; exact DataW.trod_lt m _ _ _ hm
  obtain ⟨l0, rfl, hc0, hm0, hC0, hw0⟩ := K.open_strsU Try.underlying22 Try.underlying9 (by kernel_rfl) h0
  have hw0 := fun x hx => Nat.le_trans (Nat.le_of_succ_le (hw0 x hx)) (K.bulk_part hk (d := d0) (by simp))
  clear hA0 hval0 hsz0 hsz
  refine (K.TableCounts_walk a0 cap0 l0 W hC0 hc0 hw0).mono fun e W' ⟨he, bel⟩ => ?_
  subst he
  exact ⟨_, rfl, _, _, _, [], _, [], hW', trodAll_mk1 (shut_bool Try.underlying4 _), (trodAll_cons_mk (Below.trod laidOut (by kernel_rfl) (of_decide_eq_true (by kernel_rfl)) k0 bel lt0) trodAll_mk0), rfl, bel.frame _, fun h => by cases h⟩
theorem over : Rows.tableCountsUptoRow.holds Try.pinned (Rows.OpenSpec.upto Rows.tableCountsSpec) :=
  OpenClaim.holds_of_cond 4 Try.f4 rfl rfl rfl rfl rfl rfl rfl ⟨rfl, rfl, rfl, rfl, rfl⟩ rfl rfl rfl rfl rfl (by kernel_rfl) Try.func4 (by kernel_rfl)
    (of_decide_eq_true (by kernel_rfl)) (by unfold Func.isWrapper; first | (rw [if_pos (by decide +kernel)]; kernel_rfl) | (rw [if_neg (by decide +kernel)]; exact ⟨rfl, rfl⟩))
    (fun os started H enc _ F => lifted os started H enc F)
theorem proved : Rows.TableCountsUptoSaid := over
#print axioms proved
end Go.Proofs.Ytjjkibjpbfkpcaa.tableCountsUpto
namespace Go.Proofs.Ytjjkibjpbfkpcaa
/-- The row, under a short name, for the claim. -/
theorem tableCountsUpto_holds : Rows.TableCountsUptoSaid := tableCountsUpto.proved
end Go.Proofs.Ytjjkibjpbfkpcaa

