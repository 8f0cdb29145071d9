/- DictNobody. (The texts that the proof is made of, one behind the other: part 14 of 18.) -/
import Derived.Lib.SlBytesConst
import Derived.Test.YtgebhidpkcjpmaaProg
import Derived.Below
import Derived.Deep.Draws
import Derived.Deep.AppendLies
import Derived.Maps.AppendAt
import Derived.OwnWalk
import Derived.Laws.BytesArg
import Derived.Laws.MakeOwn
import Derived.Laws.OwnMore
import Derived.Deep.OwnRows
import Derived.Tactics
import Derived.Lib.ConvBytes
import Derived.Laws.Slices
import Derived.WalkKit
import Derived.KernelRfl
import Derived.RowKit3
import Derived.Deep.LoopGhost
import Derived.Deep.QuietTactic
import Derived.BigQuiet
import Derived.WideLaws
import Derived.Deep.DeepCutAuto
import Derived.Deep.CutBlock
import Derived.Deep.RegionHeld3
import Derived.Laws.Rows
import Derived.Lib.AppendStr
import Derived.ArgAppend
import Derived.Laws.IdiomCopy
import Derived.OrdersHeld
import Derived.Laws.BitsLemmas
import Derived.RowKit
import Derived.Lib.OthersKept
import Derived.WalkSmall
import Derived.Deep.RegionLaw
import Derived.BigRegion
import Derived.Laws.BitsAllLaws
import Derived.WalkMore
import Derived.Lib.SliceRun
import Derived.Test.YtgebhidpkcjpmaaZDictNobodya
import Derived.Test.YtgebhidpkcjpmaaZDictNobodyb
import Derived.Test.YtgebhidpkcjpmaaZDictNobodyc
import Derived.Test.YtgebhidpkcjpmaaZDictNobodyd
import Derived.Test.YtgebhidpkcjpmaaZDictNobodye
import Derived.Test.YtgebhidpkcjpmaaZDictNobodyf
import Derived.Test.YtgebhidpkcjpmaaZDictNobodyg
import Derived.Test.YtgebhidpkcjpmaaZDictNobodyh
import Derived.Test.YtgebhidpkcjpmaaZDictNobodyi
import Derived.Test.YtgebhidpkcjpmaaZDictNobodyj
import Derived.Test.YtgebhidpkcjpmaaZDictNobodyk
import Derived.Test.YtgebhidpkcjpmaaZDictNobodyl
import Derived.Test.YtgebhidpkcjpmaaZDictNobodym
namespace Go.Proofs.Ytgebhidpkcjpmaa.PEn
open Go.RowKit Go.Proofs.YtgebhidpkcjpmaaW.PrintWords Go.Proofs.YtgebhidpkcjpmaaW.PrintLast Go.Proofs.YtgebhidpkcjpmaaW.PrintMore Go.Proofs.Ytgebhidpkcjpmaa.K Go.Proofs.Ytgebhidpkcjpmaa.PDk Go.Proofs.Ytgebhidpkcjpmaa.PDm Go.Proofs.Ytgebhidpkcjpmaa.PFl Go.Proofs.Ytgebhidpkcjpmaa.PIx Go.Proofs.Ytgebhidpkcjpmaa.PLg Go.Proofs.Ytgebhidpkcjpmaa.PR13
attribute [local go_sem] max2_int min2_int max_two min_two max_three min_three max_four min_four   -- for this text's walks alone
set_option linter.unusedVariables false
set_option linter.unusedSimpArgs false

mutual
def file_Encode.l0 : Nat → List Int → List Int → Int → Int → List (S82) → List Int → List Int → Option (List Int × Int)
  | 0, _, _, _, _, _, _, _ => none
  | k + 1, x4, x24, x25, x26, x102000, x102001, x102002 => if x26 < x25 then (if 0 ≤ x26 then (if x26 < (x24.length : Int) then ((num_Put.f k x4 (rd x24 x26)).bind fun t107 => (file_Encode.l0 k t107 x24 x25 (wrap64 (x26 + 1)) x102000 x102001 x102002)) else (none)) else (none)) else (file_Encode.l1 k x4 ([] : List Int) x102002 (x102002.length : Int) 0 x102000 x102001 x102002)
def file_Encode.l1 : Nat → List Int → List Int → List Int → Int → Int → List (S82) → List Int → List Int → Option (List Int × Int)
  | 0, _, _, _, _, _, _, _, _ => none
  | k + 1, x4, x7, x35, x36, x37, x102000, x102001, x102002 => if x37 < x36 then (if 0 ≤ x37 then (if x37 < (x35.length : Int) then (if x7.length < 140737488355328 then (file_Encode.l1 k x4 (x7 ++ [(rd x35 x37) % 256]) x35 x36 (wrap64 (x37 + 1)) x102000 x102001 x102002) else (none)) else (none)) else (none)) else ((file_states.f k x102000).bind fun t117 => ((some (([(([77, 65, 78, 84, 69, 76, 69, 84] : List Int)), t117, x4, x7] : List (List Int)) : List (List Int))).bind fun y120 => (file_Encode.l2 k ([] : List Int) y120 (y120.length : Int) 0)))
def file_Encode.l2 : Nat → List Int → List (List Int) → Int → Int → Option (List Int × Int)
  | 0, _, _, _, _ => none
  | k + 1, x10, x54, x55, x56 => if x56 < x55 then (if 0 ≤ x56 then (if x56 < (x54.length : Int) then ((frame_Put.f k x10 (rd_L1 x54 x56)).bind fun bt124 => (if bt124.2 = 0 then (file_Encode.l2 k bt124.1 x54 x55 (wrap64 (x56 + 1))) else (some (([] : List Int), bt124.2)))) else (none)) else (none)) else (some (x10, 0))
end
def file_Encode.f (k : Nat) (l0_0 : List (S82)) (l0_1 : List Int) (l0_2 : List Int) : Option (List Int × Int) := (file_may.f k l0_0 l0_1 l0_2).bind fun t102 => (if t102 = true then ((num_Put.f k ([] : List Int) (IntKind.u64.wrap ((l0_1.length : Int)))).bind fun t103 => (file_Encode.l0 k t103 l0_1 (l0_1.length : Int) 0 l0_0 l0_1 l0_2)) else (some (([] : List Int), 1)))
set_option maxHeartbeats 8000000 in
set_option maxRecDepth 100000 in
theorem file_Encode.calls (k : Nat) (A0_0 : Option Addr) (c0_0 : Nat) (l0_0 : List (S82)) (A0_1 : Option Addr) (c0_1 : Nat) (l0_1 : List Int) (A0_2 : Option Addr) (c0_2 : Nat) (l0_2 : List Int) (r1 : List Int) (r2 : Int) (w : World) (hr0_0 : Kd.C k82 w A0_0 l0_0.length l0_0) (hc0_0 : l0_0.length ≤ c0_0) (hr0_1 : Kd.C (Kd.int .u64) w A0_1 l0_1.length l0_1) (hc0_1 : l0_1.length ≤ c0_1) (hr0_2 : Kd.C (Kd.int .i64) w A0_2 l0_2.length l0_2) (hc0_2 : l0_2.length ≤ c0_2) (h : file_Encode.f k l0_0 l0_1 l0_2 = some (r1, r2)) :
    Calls Try.prog 16 #[.agg #[.slice A0_0 l0_0.length c0_0, .slice A0_1 l0_1.length c0_1, .slice A0_2 l0_2.length c0_2]] w fun e w' => ∃ v0_ : Value, e = .returned (.tuple #[v0_, .int .i64 r2]) ∧ Kd.R (Kd.int .u8) 5 w' w.heap.size (fun _ => True) v0_ r1 ∧ Below w.heap.size w w' := by
  have hu29 := Try.underlying29
  have HR0_0 := Aside0.mk hr0_0
  have HC0_0 := Aside0.mk hc0_0
  clear hr0_0 hc0_0
  have HR0_1 := Aside0.mk hr0_1
  have HC0_1 := Aside0.mk hc0_1
  clear hr0_1 hc0_1
  have HR0_2 := Aside0.mk hr0_2
  have HC0_2 := Aside0.mk hc0_2
  clear hr0_2 hc0_2
  have HB := Aside0.mk (Below.refl w.heap.size w)
  have H : ((file_may.f k l0_0 l0_1 l0_2).bind fun t102 => (if t102 = true then ((num_Put.f k ([] : List Int) (IntKind.u64.wrap ((l0_1.length : Int)))).bind fun t103 => (file_Encode.l0 k t103 l0_1 (l0_1.length : Int) 0 l0_0 l0_1 l0_2)) else (some (([] : List Int), 1)))) = some (r1, r2) := h
  clear h
  replace H := Option.bind_eq_some_iff.mp H
  obtain ⟨t102, A20, H⟩ := H
  replace H : (if t102 = true then ((num_Put.f k ([] : List Int) (IntKind.u64.wrap ((l0_1.length : Int)))).bind fun t103 => (file_Encode.l0 k t103 l0_1 (l0_1.length : Int) 0 l0_0 l0_1 l0_2)) else (some (([] : List Int), 1))) = some (r1, r2) := H
  have A2 := Aside0.mk A20
  clear A20
  by_cases c3 : t102 = true
  · subst c3
    have H1 : ((num_Put.f k ([] : List Int) (IntKind.u64.wrap ((l0_1.length : Int)))).bind fun t103 => (file_Encode.l0 k t103 l0_1 (l0_1.length : Int) 0 l0_0 l0_1 l0_2)) = some (r1, r2) := by rw [if_pos rfl] at H; exact H
    clear H
    have H := H1
    clear H1
    replace H := Option.bind_eq_some_iff.mp H
    obtain ⟨t103, A40, H⟩ := H
    replace H : (file_Encode.l0 k t103 l0_1 (l0_1.length : Int) 0 l0_0 l0_1 l0_2) = some (r1, r2) := H
    have A4 := Aside0.mk A40
    clear A40
    have H' := Aside0.mk H
    clear H
    go_enter Try.func16, Try.ntmps16
    go_wp2_with (first | ((with_reducible refine gate_dst (N := 1) rfl ?_); refine box_event ?hg (N := 1) ?hd (cs := #[.slice A0_0 l0_0.length c0_0, .slice A0_1 l0_1.length c0_1, .slice A0_2 l0_2.length c0_2]) (t := 29) ?hr ?_; (case hd => rfl); (case hg => rfl); (case hr => first | (go_simp; done) | (go_simp; rfl)); intro gb101 hg w5 hbox hb; have n0_ := Aside0.mk (below_step (by repeat (first | (with_reducible first | exact HB.out | apply below_alloc | apply pw_below_drewN | apply below_drew1) | exact HB.out)) hb); have n1_ := Aside0.mk (hbox); have n2_ := Aside0.mk ((by rw [hg]; exact (below_size (by repeat (first | (with_reducible first | exact HB.out | apply below_alloc | apply pw_below_drewN | apply below_drew1) | exact HB.out))) : w.heap.size ≤ gb101)); have n3_ := Aside0.mk ((by rw [hg]; exact (below_size (by repeat (first | (with_reducible first | exact HB.out | apply below_alloc | apply pw_below_drewN | apply below_drew1) | exact HB.out))) : w.heap.size ≤ gb101)); clear HB; have HB := n0_; have BK101 := n1_; have GW101 := n2_; have GE101 := n3_; clear n0_ n1_ n2_ n3_; clear hb hbox hg; have hcz6_0 : w5.cell? ⟨gb101, 0, none⟩ = some (.slice A0_0 l0_0.length c0_0) := (blk_cell BK101.out 0).trans rfl; have hcz6_1 : w5.cell? ⟨gb101, 1, none⟩ = some (.slice A0_1 l0_1.length c0_1) := (blk_cell BK101.out 1).trans rfl; have hcz6_2 : w5.cell? ⟨gb101, 2, none⟩ = some (.slice A0_2 l0_2.length c0_2) := (blk_cell BK101.out 2).trans rfl; have hfz6_0 := blk_frozen BK101.out 0; have hfz6_1 := blk_frozen BK101.out 1; have hfz6_2 := blk_frozen BK101.out 2) | ((with_reducible refine gate_callee (f := 36) rfl ?_); refine goesL_ (some 16) rfl rfl Try.func36 (by kernel_rfl) rfl #[.agg #[.slice A0_0 l0_0.length c0_0, .slice A0_1 l0_1.length c0_1, .slice A0_2 l0_2.length c0_2]] rfl (by (try simp only [List.map_toArray, List.map_cons, List.map_nil]); first | done | rfl | (simp only [List.length_drop, List.length_take]; rfl)) ?_; (with_reducible refine (file_may.calls k _ _ l0_0 _ _ l0_1 _ _ l0_2 true _ ?side1 ?side2 ?side3 ?side4 ?side5 ?side6 A2.out).mono ?_); (case side1 => repeat (first | exact (Kd.C_below HR0_0.out HB.out) | (with_reducible refine Kd.C_alloc ?_ _) | (with_reducible refine Kd.C_drewN ?_ _) | (with_reducible refine Kd.C_drew ?_))); (case side2 => exact HC0_0.out); (case side3 => repeat (first | exact (Kd.C_below HR0_1.out HB.out) | (with_reducible refine Kd.C_alloc ?_ _) | (with_reducible refine Kd.C_drewN ?_ _) | (with_reducible refine Kd.C_drew ?_))); (case side4 => exact HC0_1.out); (case side5 => repeat (first | exact (Kd.C_below HR0_2.out HB.out) | (with_reducible refine Kd.C_alloc ?_ _) | (with_reducible refine Kd.C_drewN ?_ _) | (with_reducible refine Kd.C_drew ?_))); (case side6 => exact HC0_2.out); rintro e w7 ⟨rfl, hb⟩; refine ⟨_, rfl, ?_⟩; have n0_ := Aside0.mk (blk_below (g := gb101) (o := .cells #[.slice A0_0 l0_0.length c0_0, .slice A0_1 l0_1.length c0_1, .slice A0_2 l0_2.length c0_2] 29 (0, 0)) (by (with_reducible repeat (first | refine blk_drewN ?_ _ | refine blk_drew ?_ | refine blk_alloc ?_ _)); exact BK101.out) hb); have n1_ := Aside0.mk (below_step (by repeat (first | (with_reducible first | exact HB.out | apply below_alloc | apply pw_below_drewN | apply below_drew1 | refine below_set ?_ GE101.out) | exact HB.out)) hb); clear BK101; clear HB; have BK101 := n0_; have HB := n1_; clear n0_ n1_; (try clear hb); (try clear hb2); (try clear hk); (try clear hi); have hcz8_0 : w7.cell? ⟨gb101, 0, none⟩ = some (.slice A0_0 l0_0.length c0_0) := (blk_cell BK101.out 0).trans rfl; have hcz8_1 : w7.cell? ⟨gb101, 1, none⟩ = some (.slice A0_1 l0_1.length c0_1) := (blk_cell BK101.out 1).trans rfl; have hcz8_2 : w7.cell? ⟨gb101, 2, none⟩ = some (.slice A0_2 l0_2.length c0_2) := (blk_cell BK101.out 2).trans rfl; have hfz8_0 := blk_frozen BK101.out 0; have hfz8_1 := blk_frozen BK101.out 1; have hfz8_2 := blk_frozen BK101.out 2) | ((with_reducible refine gate_callee (f := 37) rfl ?_); refine goesL_ (some 22) rfl rfl Try.func37 (by kernel_rfl) rfl #[.slice none 0 0, .int .u64 (IntKind.u64.wrap ((l0_1.length : Int)))] rfl (by (try simp only [List.map_toArray, List.map_cons, List.map_nil]); first | done | rfl | (simp only [List.length_drop, List.length_take]; rfl)) ?_; (refine (num_Put.calls k _ _ ([] : List Int) (IntKind.u64.wrap ((l0_1.length : Int))) t103 _ ?side1 ?side2 A4.out).mono ?_); (case side1 => exact Kd.C_nil _ _); (case side2 => exact Nat.le_refl _); rintro e w9 ⟨v104, rfl, ho0, hb⟩; refine ⟨_, rfl, ?_⟩; have n0_ := Aside0.mk (Kd.R_lower ho0 (below_size (by repeat (first | (with_reducible first | exact HB.out | apply below_alloc | apply pw_below_drewN | apply below_drew1 | refine below_set ?_ GE101.out) | exact HB.out)))); have n1_ := Aside0.mk (blk_below (g := gb101) (o := .cells #[.slice A0_0 l0_0.length c0_0, .slice A0_1 l0_1.length c0_1, .slice A0_2 l0_2.length c0_2] 29 (0, 0)) (by (with_reducible repeat (first | refine blk_drewN ?_ _ | refine blk_drew ?_ | refine blk_alloc ?_ _)); exact BK101.out) hb); have n2_ := Aside0.mk (below_step (by repeat (first | (with_reducible first | exact HB.out | apply below_alloc | apply pw_below_drewN | apply below_drew1 | refine below_set ?_ GE101.out) | exact HB.out)) hb); clear BK101; clear HB; have HO105 := n0_; have BK101 := n1_; have HB := n2_; clear n0_ n1_ n2_; (try clear hb); (try clear hb2); (try clear hk); (try clear hi); (try clear ho0); have hcz10_0 : w9.cell? ⟨gb101, 0, none⟩ = some (.slice A0_0 l0_0.length c0_0) := (blk_cell BK101.out 0).trans rfl; have hcz10_1 : w9.cell? ⟨gb101, 1, none⟩ = some (.slice A0_1 l0_1.length c0_1) := (blk_cell BK101.out 1).trans rfl; have hcz10_2 : w9.cell? ⟨gb101, 2, none⟩ = some (.slice A0_2 l0_2.length c0_2) := (blk_cell BK101.out 2).trans rfl; have hfz10_0 := blk_frozen BK101.out 0; have hfz10_1 := blk_frozen BK101.out 1; have hfz10_2 := blk_frozen BK101.out 2))
    go_loopg [4, 26] k (fun kq v4 v26 w' => ∃ (x4_1 : List Int) (x26_1 : Int), v26 = .int .i64 x26_1 ∧ Aside0 (file_Encode.l0 kq x4_1 l0_1 (l0_1.length : Int) x26_1 l0_0 l0_1 l0_2 = some (r1, r2)) ∧ Aside0 (kq ≤ k) ∧ Aside0 (Kd.R (Kd.int .u8) 5 w' w.heap.size (fun _ => True) v4 x4_1) ∧ Aside0 (w'.heap[gb101]? = some (.cells #[(.slice A0_0 l0_0.length c0_0), (.slice A0_1 l0_1.length c0_1), (.slice A0_2 l0_2.length c0_2)] 29 (0, 0))) ∧ Aside0 (Below w.heap.size w w'))
    case atStart => exact ⟨(t103), (0), (by first | rfl | (simp; done) | (simp [*]; done)), H', ⟨Nat.le_refl _⟩, ⟨by (with_reducible repeat (first | apply Kd.R_alloc | apply Kd.R_drewN | apply Kd.R_drew)); exact HO105.out⟩, ⟨by (with_reducible repeat (first | refine blk_drewN ?_ _ | refine blk_drew ?_ | refine blk_alloc ?_ _)); exact BK101.out⟩, ⟨by repeat (first | (with_reducible first | exact HB.out | apply below_alloc | apply pw_below_drewN | apply below_drew1 | refine below_set ?_ GE101.out) | exact HB.out)⟩⟩
    case round =>
      clear H'
      try clear c1
      try clear p2
      try clear c3
      try clear hcz10_0
      try clear hcz10_1
      try clear hcz10_2
      try clear hcz6_0
      try clear hcz6_1
      try clear hcz6_2
      try clear hcz8_0
      try clear hcz8_1
      try clear hcz8_2
      try clear hfz10_0
      try clear hfz10_1
      try clear hfz10_2
      try clear hfz6_0
      try clear hfz6_1
      try clear hfz6_2
      try clear hfz8_0
      try clear hfz8_1
      try clear hfz8_2
      obtain ⟨x4_1, x26_1, rfl, HA, HK1, HO_4, BK101, HB⟩ := hrel
      cases gk with
      | zero => exact absurd HA.out (by simp [file_Encode.l0])
      | succ k1 =>
        have H := HA.out
        clear HA
        simp only [file_Encode.l0] at H
        by_cases c11 : x26_1 < (l0_1.length : Int)
        · rw [if_pos c11] at H
          have c11b0 : decide (x26_1 < (l0_1.length : Int)) = true := decide_eq_true c11
          clear c11
          by_cases c12 : 0 ≤ x26_1
          · rw [if_pos c12] at H
            have c12b0 : decide (0 ≤ x26_1) = true := decide_eq_true c12
            clear c12
            by_cases c13 : x26_1 < (l0_1.length : Int)
            · rw [if_pos c13] at H
              have c13b0 : decide (x26_1 < (l0_1.length : Int)) = true := decide_eq_true c13
              clear c13
              replace H := Option.bind_eq_some_iff.mp H
              obtain ⟨t107, A140, H⟩ := H
              replace H : (file_Encode.l0 k1 t107 l0_1 (l0_1.length : Int) (wrap64 (x26_1 + 1)) l0_0 l0_1 l0_2) = some (r1, r2) := H
              have A14 := Aside0.mk A140
              clear A140
              have H' := Aside0.mk H
              clear H
              have p106 : 0 ≤ (x26_1 : Int) := of_decide_eq_true (by first | (with_reducible assumption) | assumption)
              have q106 : x26_1 < (l0_1.length : Int) := of_decide_eq_true (by first | (with_reducible assumption) | assumption)
              obtain ⟨ad106, e106, hx106_0⟩ := Kd.at_int HR0_1.out x26_1 p106 q106
              cases e106
              replace hx106_0 := (HB.out.cell (World.block_lt_of_cell? w _ hx106_0)).trans hx106_0
              replace p106 := eq_true p106
              replace q106 := eq_true q106
              obtain ⟨Ao15, co15, eo15⟩ := Kd.R_slice HO_4.out
              subst eo15
              go_wp2_with (first | ((with_reducible refine gate_callee (f := 37) rfl ?_); refine goesL_ (some 32) rfl rfl Try.func37 (by kernel_rfl) rfl #[.slice Ao15 x4_1.length co15, .int .u64 (rd l0_1 x26_1)] rfl (by (try simp only [List.map_toArray, List.map_cons, List.map_nil]); first | done | rfl | (simp only [List.length_drop, List.length_take]; rfl)) ?_; (with_reducible refine (num_Put.calls k1 _ _ x4_1 (rd l0_1 x26_1) t107 _ ?side1 ?side2 A14.out).mono ?_); (case side1 => repeat (first | exact (Kd.R_reads' HO_4.out).2.2 | (with_reducible refine Kd.C_alloc ?_ _) | (with_reducible refine Kd.C_drewN ?_ _) | (with_reducible refine Kd.C_drew ?_))); (case side2 => exact (Kd.R_reads' HO_4.out).2.1); rintro e w16 ⟨v108, rfl, ho0, hb⟩; refine ⟨_, rfl, ?_⟩; have n0_ := Aside0.mk (Kd.R_elder' (by (with_reducible repeat (first | apply Kd.R_alloc | apply Kd.R_drewN | apply Kd.R_drew)); exact HO_4.out) (Kd.R_base ho0) hb); have n1_ := Aside0.mk (Kd.R_lower (Kd.R_new' ho0 (Kd.R_lt (by (with_reducible repeat (first | apply Kd.R_alloc | apply Kd.R_drewN | apply Kd.R_drew)); exact HO_4.out))) (below_size (by repeat (first | (with_reducible first | exact HB.out | apply below_alloc | apply pw_below_drewN | apply below_drew1 | refine below_set ?_ GE101.out) | exact HB.out)))); have n2_ := Aside0.mk (blk_below (g := gb101) (o := .cells #[.slice A0_0 l0_0.length c0_0, .slice (some ad106) l0_1.length c0_1, .slice A0_2 l0_2.length c0_2] 29 (0, 0)) (by (with_reducible repeat (first | refine blk_drewN ?_ _ | refine blk_drew ?_ | refine blk_alloc ?_ _)); exact BK101.out) hb); have n3_ := Aside0.mk (below_step (by repeat (first | (with_reducible first | exact HB.out | apply below_alloc | apply pw_below_drewN | apply below_drew1 | refine below_set ?_ GE101.out) | exact HB.out)) hb); clear HO_4; clear BK101; clear HB; have HO_4 := n0_; have HO109 := n1_; have BK101 := n2_; have HB := n3_; clear n0_ n1_ n2_ n3_; (try clear hb); (try clear hb2); (try clear hk); (try clear hi); (try clear ho0)))
              go_roundg k1
              case measure => have := HK1.out; omega
              case rel => exact ⟨(t107), (wrap64 (x26_1 + 1)), (by first | rfl | (simp; done) | (simp [*]; done)), H', ⟨by have := HK1.out; omega⟩, ⟨by (with_reducible repeat (first | apply Kd.R_alloc | apply Kd.R_drewN | apply Kd.R_drew)); exact Kd.R_mono HO109.out (fun _ hk => trivial)⟩, ⟨by (with_reducible repeat (first | refine blk_drewN ?_ _ | refine blk_drew ?_ | refine blk_alloc ?_ _)); exact BK101.out⟩, ⟨by repeat (first | (with_reducible first | exact HB.out | apply below_alloc | apply pw_below_drewN | apply below_drew1 | refine below_set ?_ GE101.out) | exact HB.out)⟩⟩
            · rw [if_neg c13] at H
              exact absurd H (by simp)
          · rw [if_neg c12] at H
            exact absurd H (by simp)
        · rw [if_neg c11] at H
          have c11b0 : decide (x26_1 < (l0_1.length : Int)) = false := decide_eq_false c11
          clear c11
          have H' := Aside0.mk H
          clear H
          have hcz17_0 : wr.cell? ⟨gb101, 0, none⟩ = some (.slice A0_0 l0_0.length c0_0) := (blk_cell BK101.out 0).trans rfl
          have hcz17_1 : wr.cell? ⟨gb101, 1, none⟩ = some (.slice A0_1 l0_1.length c0_1) := (blk_cell BK101.out 1).trans rfl
          have hcz17_2 : wr.cell? ⟨gb101, 2, none⟩ = some (.slice A0_2 l0_2.length c0_2) := (blk_cell BK101.out 2).trans rfl
          have hfz17_0 := blk_frozen BK101.out 0
          have hfz17_1 := blk_frozen BK101.out 1
          have hfz17_2 := blk_frozen BK101.out 2
          go_wp2
          go_loopg [7, 37] k1 (fun kq v7 v37 w' => ∃ (x7_2 : List Int) (x37_2 : Int), v37 = .int .i64 x37_2 ∧ Aside0 (file_Encode.l1 kq x4_1 x7_2 l0_2 (l0_2.length : Int) x37_2 l0_0 l0_1 l0_2 = some (r1, r2)) ∧ Aside0 (kq ≤ k1) ∧ Aside0 (Kd.R (Kd.int .u8) 5 w' w.heap.size (fun k_ => some k_ ≠ (v7 : Value).ownBlock) u4 x4_1) ∧ Aside0 (Kd.R (Kd.int .u8) 5 w' w.heap.size (fun k_ => some k_ ≠ (u4 : Value).ownBlock) v7 x7_2) ∧ Aside0 (w'.heap[gb101]? = some (.cells #[(.slice A0_0 l0_0.length c0_0), (.slice A0_1 l0_1.length c0_1), (.slice A0_2 l0_2.length c0_2)] 29 (0, 0))) ∧ Aside0 (Below w.heap.size w w'))
          case atStart => exact ⟨(([] : List Int)), (0), (by first | rfl | (simp; done) | (simp [*]; done)), H', ⟨Nat.le_refl _⟩, ⟨by (with_reducible repeat (first | apply Kd.R_alloc | apply Kd.R_drewN | apply Kd.R_drew)); exact Kd.R_mono HO_4.out (fun _ hk => (by simp [Value.ownBlock]))⟩, ⟨by first | exact Kd.R_nil _ _ _ _ _ | exact Kd.N_nil _ _ _ _ _ | exact Kd.V_nil _ _ _ _ _ | exact Kd.Q_nil _ _ _ _ _ | exact Kd.S_nil _ _ _ _ _⟩, ⟨by (with_reducible repeat (first | refine blk_drewN ?_ _ | refine blk_drew ?_ | refine blk_alloc ?_ _)); exact BK101.out⟩, ⟨by repeat (first | (with_reducible first | exact HB.out | apply below_alloc | apply pw_below_drewN | apply below_drew1 | refine below_set ?_ GE101.out) | exact HB.out)⟩⟩
          case round =>
            clear H'
            try clear c1
            try clear p1
            try clear q1
            try clear hx1
            try clear p2
            try clear c3
            try clear p6
            try clear p10
            try clear q10
            try clear hx10
            try clear c11
            try clear c11b0
            try clear c12
            try clear c12b0
            try clear c13
            try clear c13b0
            try clear c16
            try clear hcz10_0
            try clear hcz10_1
            try clear hcz10_2
            try clear hcz17_0
            try clear hcz17_1
            try clear hcz17_2
            try clear hcz6_0
            try clear hcz6_1
            try clear hcz6_2
            try clear hcz8_0
            try clear hcz8_1
            try clear hcz8_2
            try clear hfz10_0
            try clear hfz10_1
            try clear hfz10_2
            try clear hfz17_0
            try clear hfz17_1
            try clear hfz17_2
            try clear hfz6_0
            try clear hfz6_1
            try clear hfz6_2
            try clear hfz8_0
            try clear hfz8_1
            try clear hfz8_2
            try clear hx106_0
            try clear p106
            try clear p2
            try clear q106
            obtain ⟨x7_2, x37_2, rfl, HA, HK2, HO_4, HO_7, BK101, HB⟩ := hrel
            cases gk with
            | zero => exact absurd HA.out (by simp [file_Encode.l1])
            | succ k2 =>
              have H := HA.out
              clear HA
              simp only [file_Encode.l1] at H
              by_cases c18 : x37_2 < (l0_2.length : Int)
              · rw [if_pos c18] at H
                have c18b0 : decide (x37_2 < (l0_2.length : Int)) = true := decide_eq_true c18
                clear c18
                by_cases c19 : 0 ≤ x37_2
                · rw [if_pos c19] at H
                  have c19b0 : decide (0 ≤ x37_2) = true := decide_eq_true c19
                  clear c19
                  by_cases c20 : x37_2 < (l0_2.length : Int)
                  · rw [if_pos c20] at H
                    have c20b0 : decide (x37_2 < (l0_2.length : Int)) = true := decide_eq_true c20
                    clear c20
                    by_cases c21 : x7_2.length < 140737488355328
                    · rw [if_pos c21] at H
                      have LMc21 := Aside0.mk c21
                      clear c21
                      obtain ⟨y111, hy111⟩ : ∃ y_ : List Int, y_ = (x7_2 ++ [(rd l0_2 x37_2) % 256]) := ⟨_, rfl⟩
                      replace H : (file_Encode.l1 k2 x4_1 y111 l0_2 (l0_2.length : Int) (wrap64 (x37_2 + 1)) l0_0 l0_1 l0_2) = some (r1, r2) := by first | (rw [hy111]; with_reducible exact H) | (have H2_ := (Option.bind_some _ _).symm.trans H; rw [hy111]; with_reducible exact H2_) | (have H2_ := (Option.bind_some _ _).symm.trans H; with_reducible exact H2_) | with_reducible exact H | (rw [hy111]; exact H) | exact H
                      have Ny111 := Aside0.mk hy111
                      clear hy111
                      have H' := Aside0.mk H
                      clear H
                      have p110 : 0 ≤ (x37_2 : Int) := of_decide_eq_true (by first | (with_reducible assumption) | assumption)
                      have q110 : x37_2 < (l0_2.length : Int) := of_decide_eq_true (by first | (with_reducible assumption) | assumption)
                      obtain ⟨ad110, e110, hx110_0⟩ := Kd.at_int HR0_2.out x37_2 p110 q110
                      cases e110
                      replace hx110_0 := (HB.out.cell (World.block_lt_of_cell? w _ hx110_0)).trans hx110_0
                      replace p110 := eq_true p110
                      replace q110 := eq_true q110
                      go_wp2_with (first | ((with_reducible refine gate_builtin (b := .append) (xs := #[.tmp 41, .tmp 44]) rfl ?_); at_builtin; refine Kd.R_append (Kd.int .u8) (w0 := w) w.heap.size rfl (.tmp 41) (.tmp 44) 36 5 (.int .u8 0) 1 rfl Try.underlying36 info5 rfl (by decide) (by omega) u7 x7_2 ((rd l0_2 x37_2) % 256) [.int .u8 ((rd l0_2 x37_2) % 256)] (fun k_ => some k_ ≠ (u4 : Value).ownBlock) (fun _ => False) rfl rfl ?aP (fun _ hk => hk.elim) ?aF ?aO ?aB ?aS ?aL ?_; (case aP => exact rfl); (case aB => exact (by repeat (first | (with_reducible first | exact HB.out | apply below_alloc | apply pw_below_drewN | apply below_drew1 | refine below_set ?_ GE101.out) | exact HB.out))); (case aF => exact (fun k_ hk => Kd.fresh' (Kd.R_lt (by (with_reducible repeat (first | apply Kd.R_alloc | apply Kd.R_drewN | apply Kd.R_drew)); exact HO_4.out)) k_ hk)); (case aO => exact (by (with_reducible repeat (first | apply Kd.R_alloc | apply Kd.R_drewN | apply Kd.R_drew)); exact HO_7.out)); (case aS => exact (below_size (by repeat (first | (with_reducible first | exact HB.out | apply below_alloc | apply pw_below_drewN | apply below_drew1 | refine below_set ?_ GE101.out) | exact HB.out)))); (case aL => have := LMc21.out; omega); intro v112 w22 ho hb hg hat; rw [← Ny111.out] at ho; have n0_ := Aside0.mk (Kd.R_after (ok := (fun _ => True)) (by (with_reducible repeat (first | apply Kd.R_alloc | apply Kd.R_drewN | apply Kd.R_drew)); exact Kd.R_mono HO_4.out (fun _ hk => ⟨trivial, hk⟩)) hg hat); have n1_ := Aside0.mk (blk_grown (g := gb101) (o := .cells #[.slice A0_0 l0_0.length c0_0, .slice A0_1 l0_1.length c0_1, .slice (some ad110) l0_2.length c0_2] 29 (0, 0)) (by (with_reducible repeat (first | refine blk_drewN ?_ _ | refine blk_drew ?_ | refine blk_alloc ?_ _)); exact BK101.out) hg (Kd.R_ne HO_7.out BK101.out (by decide))); have n2_ := Aside0.mk (hb); have n3_ := Aside0.mk (ho); clear HO_4; clear BK101; clear HB; clear HO_7; have HO_4 := n0_; have BK101 := n1_; have HB := n2_; have HO113 := n3_; clear n0_ n1_ n2_ n3_; clear ho hb hg hat))
                      go_roundg k2
                      case measure => have := HK1.out; have := HK2.out; omega
                      case rel => exact ⟨(y111), (wrap64 (x37_2 + 1)), (by first | rfl | (simp; done) | (simp [*]; done)), H', ⟨by have := HK1.out; have := HK2.out; omega⟩, ⟨by (with_reducible repeat (first | apply Kd.R_alloc | apply Kd.R_drewN | apply Kd.R_drew)); exact Kd.R_mono HO_4.out (fun _ hk => hk.2)⟩, ⟨by (with_reducible repeat (first | apply Kd.R_alloc | apply Kd.R_drewN | apply Kd.R_drew)); exact HO113.out⟩, ⟨by (with_reducible repeat (first | refine blk_drewN ?_ _ | refine blk_drew ?_ | refine blk_alloc ?_ _)); exact BK101.out⟩, ⟨by repeat (first | (with_reducible first | exact HB.out | apply below_alloc | apply pw_below_drewN | apply below_drew1 | refine below_set ?_ GE101.out) | exact HB.out)⟩⟩
                    · rw [if_neg c21] at H
                      exact absurd H (by simp)
                  · rw [if_neg c20] at H
                    exact absurd H (by simp)
                · rw [if_neg c19] at H
                  exact absurd H (by simp)
              · rw [if_neg c18] at H
                have c18b0 : decide (x37_2 < (l0_2.length : Int)) = false := decide_eq_false c18
                clear c18
                obtain ⟨y114, hy114⟩ : ∃ y_ : List Int, y_ = (([77, 65, 78, 84, 69, 76, 69, 84] : List Int)) := ⟨_, rfl⟩
                replace H : ((file_states.f k2 l0_0).bind fun t117 => ((some (([y114, t117, x4_1, x7_2] : List (List Int)) : List (List Int))).bind fun y120 => (file_Encode.l2 k2 ([] : List Int) y120 (y120.length : Int) 0))) = some (r1, r2) := by first | (rw [hy114]; with_reducible exact H) | (have H2_ := (Option.bind_some _ _).symm.trans H; rw [hy114]; with_reducible exact H2_) | (have H2_ := (Option.bind_some _ _).symm.trans H; with_reducible exact H2_) | with_reducible exact H | (rw [hy114]; exact H) | exact H
                have Ny114 := Aside0.mk hy114
                clear hy114
                replace H := Option.bind_eq_some_iff.mp H
                obtain ⟨t117, A230, H⟩ := H
                replace H : ((some (([y114, t117, x4_1, x7_2] : List (List Int)) : List (List Int))).bind fun y120 => (file_Encode.l2 k2 ([] : List Int) y120 (y120.length : Int) 0)) = some (r1, r2) := H
                have A23 := Aside0.mk A230
                clear A230
                obtain ⟨y120, hy120⟩ : ∃ y_ : List (List Int), y_ = (([y114, t117, x4_1, x7_2] : List (List Int))) := ⟨_, rfl⟩
                replace H : (file_Encode.l2 k2 ([] : List Int) y120 (y120.length : Int) 0) = some (r1, r2) := by first | (rw [hy120]; with_reducible exact H) | (have H2_ := (Option.bind_some _ _).symm.trans H; rw [hy120]; with_reducible exact H2_) | (have H2_ := (Option.bind_some _ _).symm.trans H; with_reducible exact H2_) | with_reducible exact H | (rw [hy120]; exact H) | exact H
                have Ny120 := Aside0.mk hy120
                clear hy120
                have H' := Aside0.mk H
                clear H
                obtain ⟨Ac, cc, ec⟩ := Kd.R_slice HO_4.out
                subst ec
                obtain ⟨Ak, ck, ek⟩ := Kd.R_slice HO_7.out
                subst ek
                obtain ⟨W1, hW1⟩ : ∃ W1, W1 = wr.alloc (.cells #[.int .u8 77, .int .u8 65, .int .u8 78, .int .u8 84, .int .u8 69, .int .u8 76, .int .u8 69, .int .u8 84] 5 (8, 9)) := ⟨_, rfl⟩
                have hcv := Lib.run_convert_bytes_const (P := Try.prog) wr 36 5 #[.int .u8 77, .int .u8 65, .int .u8 78, .int .u8 84, .int .u8 69, .int .u8 76, .int .u8 69, .int .u8 84] 8 8 Try.underlying36 Try.underlying5
                change _ = Result.ok _ (wr.alloc (.cells #[.int .u8 77, .int .u8 65, .int .u8 78, .int .u8 84, .int .u8 69, .int .u8 76, .int .u8 69, .int .u8 84] 5 (8, 9))) at hcv
                rw [← hW1] at hcv
                have hg1 : W1.heap[wr.heap.size]? = some (.cells #[.int .u8 77, .int .u8 65, .int .u8 78, .int .u8 84, .int .u8 69, .int .u8 76, .int .u8 69, .int .u8 84] 5 (8, 9)) := by rw [hW1]; exact heap_alloc_new wr _
                have hbw : Below wr.heap.size wr W1 := by rw [hW1]; exact below_alloc (Below.refl _ _) _
                have HBW := Aside0.mk hbw
                have HB1 := Aside0.mk (HB.out.trans (hbw.mono HB.out.size))
                have HCM := Aside0.mk (show Kd.C (Kd.int .u8) W1 (some ⟨wr.heap.size, 0, none⟩) 8 [77, 65, 78, 84, 69, 76, 69, 84] from Kd.C_of_reads (d := (0 : Int)) (h1 := fun _ => rfl) ⟨rfl, by decide, fun _ => ⟨⟨wr.heap.size, 0, none⟩, rfl, fun j hj => by
                  rw [Addr.add_lit]
                  show W1.cell? ⟨wr.heap.size, 0 + j, none⟩ = _
                  rw [cell_of_row W1 _ _ _ _ _ hg1, Nat.zero_add]
                  match j, hj with
                  | 0, _ => rfl
                  | 1, _ => rfl
                  | 2, _ => rfl
                  | 3, _ => rfl
                  | 4, _ => rfl
                  | 5, _ => rfl
                  | 6, _ => rfl
                  | 7, _ => rfl⟩⟩)
                have BKW := Aside0.mk ((hbw.block _ (Array.getElem?_eq_some_iff.1 BK101.out).1).trans BK101.out)
                have HCC := Aside0.mk (Kd.C_below (Kd.R_reads' HO_4.out).2.2 hbw)
                have HCK := Aside0.mk (Kd.C_below (Kd.R_reads' HO_7.out).2.2 hbw)
                have HLC := Aside0.mk (Kd.R_reads' HO_4.out).2.1
                have HLK := Aside0.mk (Kd.R_reads' HO_7.out).2.1
                have HST := Aside0.mk (file_states.calls k2 A0_0 c0_0 l0_0 t117 W1 (Kd.C_below HR0_0.out HB1.out) HC0_0.out A23.out)
                have hl4 : (y120.length : Int) = 4 := by rw [Ny120.out]; rfl
                have hH := H'.out
                rw [hl4] at hH
                have HH := Aside0.mk hH
                have HY := Aside0.mk (show y120 = [[77, 65, 78, 84, 69, 76, 69, 84], t117, x4_1, x7_2] by rw [Ny120.out, Ny114.out])
                have HL4 := Aside0.mk hl4
                have h0 : W1.cell? ⟨gb101, 0, none⟩ = some (.slice A0_0 l0_0.length c0_0) := (blk_cell BKW.out 0).trans rfl
                clear hW1 hg1 hbw H' hH HO_4 HO_7 hl4 HB BK101
                go_wp2_with (first | (go_at_call 38; (with_reducible refine (HST.out).mono ?_)))
                (first | rintro x w2 v rfl hRs hb2 | rintro x w2 ⟨v, rfl, hRs, hb2⟩)
                obtain ⟨As, cs, es⟩ := Kd.R_slice hRs
                subst es
                have HRS := Aside0.mk hRs
                have HB2 := Aside0.mk hb2
                clear hRs hb2 hcv
                go_wp2
                obtain ⟨WL, hWL⟩ : ∃ WL, WL = w2.alloc (.cells #[.slice (some ⟨wr.heap.size, 0, none⟩) 8 8, .slice As t117.length cs, .slice Ac x4_1.length cc, .slice Ak x7_2.length ck] 36 (0, 0)) := ⟨_, rfl⟩
                rw [← hWL]
                have hgL : WL.heap[w2.heap.size]? = some (.cells #[.slice (some ⟨wr.heap.size, 0, none⟩) 8 8, .slice As t117.length cs, .slice Ac x4_1.length cc, .slice Ak x7_2.length ck] 36 (0, 0)) := by rw [hWL]; exact heap_alloc_new w2 _
                have hbL2 : Below w2.heap.size w2 WL := by rw [hWL]; exact below_alloc (Below.refl _ _) _
                have hbL1 : Below W1.heap.size W1 WL := HB2.out.trans (hbL2.mono HB2.out.size)
                have HBL := Aside0.mk (HB1.out.trans (hbL1.mono HB1.out.size))
                have HCL := Aside0.mk (show Kd.C (Kd.slice 5 (Kd.int .u8)) WL (some ⟨w2.heap.size, 0, none⟩) 4 y120 by
                  rw [HY.out]
                  refine ⟨rfl, by decide, fun _ => ⟨_, rfl, fun j p hj => ?_⟩⟩
                  have key : ∀ (A : Option Addr) (c : Nat) (xs : List Int), (#[.slice (some ⟨wr.heap.size, 0, none⟩) 8 8, .slice As t117.length cs, .slice Ac x4_1.length cc, .slice Ak x7_2.length ck] : Array Value)[j]? = some (.slice A xs.length c) → xs.length ≤ c → Kd.C (Kd.int .u8) WL A xs.length xs → ∃ cl : List Value, cl.length = (Kd.slice 5 (Kd.int .u8)).sz ∧ (Kd.slice 5 (Kd.int .u8)).K WL xs cl ∧ ∀ i u, cl[i]? = some u → WL.cell? ((⟨w2.heap.size, 0, none⟩ : Addr).add (j * (Kd.slice 5 (Kd.int .u8)).sz + i)) = some u := fun A c xs h1 h2 h3 => by
                    refine ⟨[.slice A xs.length c], rfl, ⟨A, c, rfl, h2, h3⟩, fun i u hu => ?_⟩
                    cases i with
                    | zero =>
                      injection hu with hu
                      subst hu
                      rw [Addr.add_lit]
                      show WL.cell? ⟨w2.heap.size, 0 + (j * 1 + 0), none⟩ = _
                      rw [cell_of_row WL _ _ _ _ _ hgL, Nat.zero_add, Nat.mul_one, Nat.add_zero]
                      exact h1
                    | succ i => simp at hu
                  match j, hj with
                  | 0, hj => injection hj with hj; subst hj; exact key _ 8 [77, 65, 78, 84, 69, 76, 69, 84] rfl (by decide) (Kd.C_below HCM.out hbL1)
                  | 1, hj => injection hj with hj; subst hj; exact key _ cs _ rfl (Kd.R_reads' HRS.out).2.1 (Kd.C_below (Kd.R_reads' HRS.out).2.2 hbL2)
                  | 2, hj => injection hj with hj; subst hj; exact key _ cc _ rfl HLC.out (Kd.C_below HCC.out hbL1)
                  | 3, hj => injection hj with hj; subst hj; exact key _ ck _ rfl HLK.out (Kd.C_below HCK.out hbL1)
                  | j + 4, hj => simp at hj)
                generalize (⟨w2.heap.size, 0, none⟩ : Addr) = adL at HCL ⊢
                clear hWL hgL hbL2 hbL1 HRS HB2 HCM HCC HCK HLC HLK HST BKW h0
                go_loopg [10, 56] k2 (fun kq v10 v56 w' => ∃ (x10 : List Int) (x56 : Int), v56 = .int .i64 x56 ∧ Aside0 (file_Encode.l2 kq x10 y120 4 x56 = some (r1, r2)) ∧ Aside0 (kq ≤ k2) ∧ Aside0 (Kd.R (Kd.int .u8) 5 w' w.heap.size (fun _ => True) v10 x10) ∧ Aside0 (Below WL.heap.size WL w'))
                case atStart => exact ⟨[], 0, rfl, HH, ⟨Nat.le_refl _⟩, ⟨Kd.R_nil _ _ _ _ _⟩, ⟨Below.refl _ _⟩⟩
                case round =>
                  obtain ⟨x10, x56, rfl, HA, HK3, HR10, HBR⟩ := hrel
                  cases gk with
                  | zero => exact absurd HA.out (by simp [file_Encode.l2])
                  | succ k3 =>
                    have H := HA.out
                    clear HA
                    simp only [file_Encode.l2] at H
                    by_cases c35 : x56 < 4
                    · rw [if_pos c35] at H
                      by_cases c36 : 0 ≤ x56
                      · rw [if_pos c36] at H
                        have c37 : x56 < (y120.length : Int) := by rw [HL4.out]; exact c35
                        rw [if_pos c37] at H
                        obtain ⟨⟨b1, b2⟩, hp, H⟩ := Option.bind_eq_some_iff.mp H
                        obtain ⟨ad, Ab, cb, ead, hcell, hle, hCb⟩ := at_L1 (Kd.C_below HCL.out HBR.out) x56 c36 (by omega)
                        cases ead
                        obtain ⟨Ax, cx, ex⟩ := Kd.R_slice HR10.out
                        subst ex
                        have HP := Aside0.mk (frame_Put.calls k3 Ax cx x10 Ab cb (rd_L1 y120 x56) b1 b2 wr (Kd.R_reads' HR10.out).2.2 (Kd.R_reads' HR10.out).2.1 hCb hle hp)
                        have HBT := Aside0.mk (HBL.out.trans (HBR.out.mono HBL.out.size))
                        have hcb : decide (x56 < 4) = true := decide_eq_true c35
                        have HC36 := Aside0.mk c36
                        generalize rd_L1 y120 x56 = pl at hcell HP
                        clear hCb hle hp HR10 c37
                        by_cases e0 : b2 = 0
                        · rw [if_pos e0] at H
                          subst e0
                          have HH2 := Aside0.mk H
                          clear H
                          go_wp2_with (first | (go_at_call 39; (with_reducible refine (HP.out).mono ?_)))
                          (first | rintro x w5 v rfl hR5 hb5 | rintro x w5 ⟨v, rfl, hR5, hb5⟩)
                          obtain ⟨A5, c5, e5⟩ := Kd.R_slice hR5
                          subst e5
                          have HR5 := Aside0.mk hR5
                          have HB5 := Aside0.mk hb5
                          clear hR5 hb5
                          go_wp2
                          go_roundg k3
                          case measure => omega
                          case rel => exact ⟨b1, wrap64 (x56 + 1), (by first | rfl | exact congrArg (Value.int .i64) (by have := HC36.out; unfold wrap64; omega)), HH2, ⟨by have := HK3.out; omega⟩, ⟨Kd.R_lower HR5.out HBT.out.size⟩, ⟨HBR.out.trans (HB5.out.mono HBR.out.size)⟩⟩
                        · rw [if_neg e0] at H
                          have H1 := congrArg Prod.fst (Option.some.inj H)
                          have H2 := congrArg Prod.snd (Option.some.inj H)
                          dsimp only at H1 H2
                          subst H1 H2
                          have hd : decide (b2 = 0) = false := decide_eq_false e0
                          have hd2 : (b2 == 0) = false := by simpa using e0
                          clear H
                          go_wp2_with (first | (go_at_call 39; (with_reducible refine (HP.out).mono ?_)))
                          (first | rintro x w5 v rfl hR5 hb5 | rintro x w5 ⟨v, rfl, hR5, hb5⟩)
                          have HB5 := Aside0.mk hb5
                          clear hR5 hb5
                          go_wp2
                          go_ret2
                          exact ⟨_, rfl, Kd.R_nil _ _ _ _ _, HBT.out.trans (HB5.out.mono HBT.out.size)⟩
                      · rw [if_neg c36] at H; cases H
                    · rw [if_neg c35] at H
                      have H1 := congrArg Prod.fst (Option.some.inj H)
                      have H2 := congrArg Prod.snd (Option.some.inj H)
                      dsimp only at H1 H2
                      subst H1 H2
                      have hcb : decide (x56 < 4) = false := decide_eq_false c35
                      have HBT := Aside0.mk (HBL.out.trans (HBR.out.mono HBL.out.size))
                      clear H
                      go_wp2
                      go_ret2
                      exact ⟨_, rfl, HR10.out, HBT.out⟩
  · replace c3 := Bool.eq_false_iff.mpr c3
    subst c3
    have H1 : (some (([] : List Int), 1)) = some (r1, r2) := by rw [if_neg (show ¬ (false = true) by decide)] at H; exact H
    clear H
    have H := H1
    clear H1
    simp only [Option.some.injEq, Prod.mk.injEq] at H
    obtain ⟨rfl, rfl⟩ := H
    go_enter Try.func16, Try.ntmps16
    go_wp2_with (first | ((with_reducible refine gate_dst (N := 1) rfl ?_); refine box_event ?hg (N := 1) ?hd (cs := #[.slice A0_0 l0_0.length c0_0, .slice A0_1 l0_1.length c0_1, .slice A0_2 l0_2.length c0_2]) (t := 29) ?hr ?_; (case hd => rfl); (case hg => rfl); (case hr => first | (go_simp; done) | (go_simp; rfl)); intro gb101 hg w44 hbox hb; have n0_ := Aside0.mk (below_step (by repeat (first | (with_reducible first | exact HB.out | apply below_alloc | apply pw_below_drewN | apply below_drew1) | exact HB.out)) hb); have n1_ := Aside0.mk (hbox); have n2_ := Aside0.mk ((by rw [hg]; exact (below_size (by repeat (first | (with_reducible first | exact HB.out | apply below_alloc | apply pw_below_drewN | apply below_drew1) | exact HB.out))) : w.heap.size ≤ gb101)); have n3_ := Aside0.mk ((by rw [hg]; exact (below_size (by repeat (first | (with_reducible first | exact HB.out | apply below_alloc | apply pw_below_drewN | apply below_drew1) | exact HB.out))) : w.heap.size ≤ gb101)); clear HB; have HB := n0_; have BK101 := n1_; have GW101 := n2_; have GE101 := n3_; clear n0_ n1_ n2_ n3_; clear hb hbox hg; have hcz45_0 : w44.cell? ⟨gb101, 0, none⟩ = some (.slice A0_0 l0_0.length c0_0) := (blk_cell BK101.out 0).trans rfl; have hcz45_1 : w44.cell? ⟨gb101, 1, none⟩ = some (.slice A0_1 l0_1.length c0_1) := (blk_cell BK101.out 1).trans rfl; have hcz45_2 : w44.cell? ⟨gb101, 2, none⟩ = some (.slice A0_2 l0_2.length c0_2) := (blk_cell BK101.out 2).trans rfl; have hfz45_0 := blk_frozen BK101.out 0; have hfz45_1 := blk_frozen BK101.out 1; have hfz45_2 := blk_frozen BK101.out 2) | ((with_reducible refine gate_callee (f := 36) rfl ?_); refine goesL_ (some 16) rfl rfl Try.func36 (by kernel_rfl) rfl #[.agg #[.slice A0_0 l0_0.length c0_0, .slice A0_1 l0_1.length c0_1, .slice A0_2 l0_2.length c0_2]] rfl (by (try simp only [List.map_toArray, List.map_cons, List.map_nil]); first | done | rfl | (simp only [List.length_drop, List.length_take]; rfl)) ?_; (with_reducible refine (file_may.calls k _ _ l0_0 _ _ l0_1 _ _ l0_2 false _ ?side1 ?side2 ?side3 ?side4 ?side5 ?side6 A2.out).mono ?_); (case side1 => repeat (first | exact (Kd.C_below HR0_0.out HB.out) | (with_reducible refine Kd.C_alloc ?_ _) | (with_reducible refine Kd.C_drewN ?_ _) | (with_reducible refine Kd.C_drew ?_))); (case side2 => exact HC0_0.out); (case side3 => repeat (first | exact (Kd.C_below HR0_1.out HB.out) | (with_reducible refine Kd.C_alloc ?_ _) | (with_reducible refine Kd.C_drewN ?_ _) | (with_reducible refine Kd.C_drew ?_))); (case side4 => exact HC0_1.out); (case side5 => repeat (first | exact (Kd.C_below HR0_2.out HB.out) | (with_reducible refine Kd.C_alloc ?_ _) | (with_reducible refine Kd.C_drewN ?_ _) | (with_reducible refine Kd.C_drew ?_))); (case side6 => exact HC0_2.out); rintro e w46 ⟨rfl, hb⟩; refine ⟨_, rfl, ?_⟩; have n0_ := Aside0.mk (blk_below (g := gb101) (o := .cells #[.slice A0_0 l0_0.length c0_0, .slice A0_1 l0_1.length c0_1, .slice A0_2 l0_2.length c0_2] 29 (0, 0)) (by (with_reducible repeat (first | refine blk_drewN ?_ _ | refine blk_drew ?_ | refine blk_alloc ?_ _)); exact BK101.out) hb); have n1_ := Aside0.mk (below_step (by repeat (first | (with_reducible first | exact HB.out | apply below_alloc | apply pw_below_drewN | apply below_drew1 | refine below_set ?_ GE101.out) | exact HB.out)) hb); clear BK101; clear HB; have BK101 := n0_; have HB := n1_; clear n0_ n1_; (try clear hb); (try clear hb2); (try clear hk); (try clear hi)))
    go_ret2
    exact ⟨_, by first | rfl | (simp [errW_none, errW_some] <;> rfl) | (simp [*, errW_none, errW_some] <;> rfl), by first | exact Kd.R_nil _ _ _ _ _ | exact Kd.N_nil _ _ _ _ _ | exact Kd.V_nil _ _ _ _ _ | exact Kd.Q_nil _ _ _ _ _ | exact Kd.S_nil _ _ _ _ _, by repeat (first | (with_reducible first | exact HB.out | apply below_alloc | apply pw_below_drewN | apply below_drew1 | refine below_set ?_ GE101.out) | exact HB.out)⟩

end Go.Proofs.Ytgebhidpkcjpmaa.PEn

namespace Go.Proofs.Ytgebhidpkcjpmaa.PEn
open Go.RowKit Go.Proofs.YtgebhidpkcjpmaaW.PrintWords Go.Proofs.YtgebhidpkcjpmaaW.PrintLast Go.Proofs.YtgebhidpkcjpmaaW.PrintMore Go.Proofs.Ytgebhidpkcjpmaa.K Go.Proofs.Ytgebhidpkcjpmaa.PDk Go.Proofs.Ytgebhidpkcjpmaa.PDm Go.Proofs.Ytgebhidpkcjpmaa.PFl Go.Proofs.Ytgebhidpkcjpmaa.PIx Go.Proofs.Ytgebhidpkcjpmaa.PLg Go.Proofs.Ytgebhidpkcjpmaa.PR13
attribute [local go_sem] max2_int min2_int max_two min_two max_three min_three max_four min_four   -- for this text's walks alone
set_option linter.unusedVariables false
set_option linter.unusedSimpArgs false

end Go.Proofs.Ytgebhidpkcjpmaa.PEn

namespace Go.Proofs.Ytgebhidpkcjpmaa.K
open Go.RowKit Go.Proofs.YtgebhidpkcjpmaaW.PrintWords Go.Proofs.YtgebhidpkcjpmaaW.PrintLast Go.Proofs.YtgebhidpkcjpmaaW.PrintMore Go.Proofs.Ytgebhidpkcjpmaa
attribute [local go_sem] max2_int min2_int max_two min_two max_three min_three max_four min_four
set_option linter.unusedVariables false
set_option linter.unusedSimpArgs false
open Go Go.Proofs.Ytgebhidpkcjpmaa.PR13 Go.Proofs.Ytgebhidpkcjpmaa.PDk Go.Proofs.Ytgebhidpkcjpmaa.PDm Go.Proofs.Ytgebhidpkcjpmaa.PIx Go.Proofs.Ytgebhidpkcjpmaa.PFl Go.Proofs.Ytgebhidpkcjpmaa.PLg Go.Proofs.Ytgebhidpkcjpmaa.PMk Go.Proofs.Ytgebhidpkcjpmaa.PEn Go.Proofs.Ytgebhidpkcjpmaa.Daw Go.Proofs.Ytgebhidpkcjpmaa.Fil Go.Proofs.Ytgebhidpkcjpmaa.Crc
theorem zs_rd (c : List Nat) (i : Nat) (h : i < c.length) : rd (zs c) (i : Int) = (c[i] : Int) := by
  rw [rd_nat, List.getD_eq_getElem?_getD]
  unfold zs
  rw [List.getElem?_map, List.getElem?_eq_getElem h]; rfl
section
variable {S : List S82} {r : List Int × Int}
theorem enc_l1 (x4 : List Int) (c : List Int) (kk : List Nat) (hk : kk.length ≤ 1000000000) (hb : ∀ n ∈ kk, n < 256) (hn : Ev (fun k => (file_states.f k S).bind fun t117 => ((some (([(([77, 65, 78, 84, 69, 76, 69, 84] : List Int)), t117, x4, zs kk] : List (List Int)) : List (List Int))).bind fun y120 => (file_Encode.l2 k ([] : List Int) y120 (y120.length : Int) 0))) r) :
    ∀ (d i : Nat), i + d = kk.length → Ev (fun k => file_Encode.l1 k x4 (zs (kk.take i)) (zs kk) (kk.length : Int) (i : Int) S c (zs kk)) r
  | 0, i, hi => by
    rw [List.take_of_length_le (by omega)]
    refine Ev.step (fun k => ?_) hn
    simp only [file_Encode.l1]
    rw [if_neg (by omega)]
  | d + 1, i, hi => by
    have hlt : i < kk.length := by omega
    have hby := hb _ (List.getElem_mem hlt)
    have ih := enc_l1 x4 c kk hk hb hn d (i + 1) (by omega)
    have e : zs (kk.take (i + 1)) = zs (kk.take i) ++ [(kk[i] : Int) % 256] := by
      rw [List.take_succ_eq_append_getElem hlt, zs_app, show (kk[i] : Int) % 256 = (kk[i] : Int) by omega]; rfl
    rw [e] at ih
    refine Ev.step (fun k => ?_) ih
    simp only [file_Encode.l1]
    rw [if_pos (by omega), if_pos (by omega), if_pos (by rw [zs_len]; omega), if_pos (by rw [zs_len, List.length_take]; omega), zs_rd kk i hlt, wz (by omega) (by omega)]
    rfl
theorem enc_l0 (c kk : List Nat) (hc : c.length ≤ 1000000000) (hb : ∀ n ∈ c, n < 18446744073709551616) (hn : ∀ x4, x4 = zs (countsB c) → Ev (fun k => file_Encode.l1 k x4 [] (zs kk) (kk.length : Int) 0 S (zs c) (zs kk)) r) :
    ∀ (d i : Nat), i + d = c.length → Ev (fun k => file_Encode.l0 k (zs (put c.length ++ (c.take i).flatMap put)) (zs c) (c.length : Int) (i : Int) S (zs c) (zs kk)) r
  | 0, i, hi => by
    rw [List.take_of_length_le (by omega)]
    refine Ev.step (fun k => ?_) (hn _ rfl)
    simp only [file_Encode.l0]
    rw [if_neg (by omega), zs_len]
    rfl
  | d + 1, i, hi => by
    have hlt : i < c.length := by omega
    have hby := hb _ (List.getElem_mem hlt)
    have ih := enc_l0 c kk hc hb hn d (i + 1) (by omega)
    have e : zs (put c.length ++ (c.take (i + 1)).flatMap put) = zs (put c.length ++ (c.take i).flatMap put) ++ zs (put c[i]) := by
      rw [List.take_succ_eq_append_getElem hlt, List.flatMap_append, ← List.append_assoc, zs_app (put c.length ++ (c.take i).flatMap put)]
      simp
    have hfl : ∀ l : List Nat, (∀ n ∈ l, n < 18446744073709551616) → (l.flatMap put).length ≤ 11 * l.length := fun l hl => by
      induction l with
      | nil => simp
      | cons a l ih =>
        rw [List.flatMap_cons, List.length_append, List.length_cons]
        have h1 := put10 a (hl a (by simp))
        have h2 := ih fun n hn => hl n (by simp [hn])
        omega
    have h1 := hfl (c.take i) fun n hn => hb n (List.mem_of_mem_take hn)
    have h2 := put10 c.length (by omega)
    rw [List.length_take] at h1
    have hp := put_ev (zs (put c.length ++ (c.take i).flatMap put)) c[i] hby (by rw [zs_len, List.length_append]; omega)
    rw [← e] at hp
    refine Ev.step (f := fun k => (num_Put.f k (zs (put c.length ++ (c.take i).flatMap put)) (c[i] : Int)).bind fun t107 => (file_Encode.l0 k t107 (zs c) (c.length : Int) ((i + 1 : Nat) : Int) S (zs c) (zs kk))) (fun k => ?_) (Ev.bind hp ih)
    simp only [file_Encode.l0]
    rw [if_pos (by omega), if_pos (by omega), if_pos (by rw [zs_len]; omega), zs_rd c i hlt, wz (x := (i : Int) + 1) (by omega) (by omega)]
    rfl
end
theorem enc_l2_end (y : List (List Int)) (x : List Int) (n : Int) (i : Int) (h : ¬ i < n) : Ev (fun k => file_Encode.l2 k x y n i) (x, 0) := by
  refine Ev.step (f := fun _ => some (x, (0 : Int))) (fun k => ?_) (Ev.now _)
  simp only [file_Encode.l2]
  rw [if_neg h]
theorem enc_l2_step {r : List Int × Int} (y : List (List Int)) (x : List Int) (p : List Nat) (i : Nat) (hn : y.length = 4) (hi : i < 4) (hy : rd_L1 y (i : Int) = zs p) (hp : ∀ x ∈ p, x < 256) (hl : p.length ≤ 1048576) (hx : x.length < 70368744000000)
    (h : Ev (fun k => file_Encode.l2 k (x ++ zs (recB sumB p)) y 4 ((i + 1 : Nat) : Int)) r) : Ev (fun k => file_Encode.l2 k x y 4 (i : Int)) r := by
  refine Ev.step (f := fun k => (frame_Put.f k x (zs p)).bind fun bt124 => (if bt124.2 = 0 then (file_Encode.l2 k bt124.1 y 4 ((i + 1 : Nat) : Int)) else (some (([] : List Int), bt124.2)))) (fun k => ?_) (Ev.bind (frame_ev x p hp hl hx) (Ev.congr (fun k => if_pos rfl) h))
  simp only [file_Encode.l2]
  rw [if_pos (by omega), if_pos (by omega), if_pos (by rw [hn]; omega), hy, wz (by omega) (by omega)]
  rfl
theorem recB_len (p : List Nat) (hl : p.length ≤ 1048576) : (recB sumB p).length ≤ 1048600 := by
  unfold recB
  have := put10 p.length (by omega)
  rw [List.length_append, List.length_append, sumB_len]; omega
theorem encode_ev (b : List DS) (c kk : List Nat) (hm : Ev (fun k => file_may.f k (b.map toS) (zs c) (zs kk)) true) (hlow : Low 0 b) (hbl : b.length ≤ 1000000000) (hw : ∀ s ∈ b, s.2.length ≤ 1000000000) (hwt : wt b ≤ 10000000000000) (hby : ∀ s ∈ b, ∀ e ∈ s.2, e.1 < 256)
    (hc : c.length ≤ 1000000000) (hcb : ∀ n ∈ c, n < 18446744073709551616) (hk : kk.length ≤ 1048576) (hkb : ∀ n ∈ kk, n < 256) (h1 : (statesB b).length ≤ 1048576) (h2 : (countsB c).length ≤ 1048576) :
    Ev (fun k => file_Encode.f k (b.map toS) (zs c) (zs kk)) (zs (encB sumB b c kk), 0) := by
  have hst : ∀ x ∈ statesB b, x < 256 := by
    have key : ∀ (l : List DS) (i : Nat), (∀ s ∈ l, ∀ e ∈ s.2, e.1 < 256) → ∀ x ∈ stsB i l, x < 256 := by
      intro l
      induction l with
      | nil => intro i _ x hx; simp [stsB] at hx
      | cons s l ih =>
        intro i hl x hx
        unfold stsB stB at hx
        rcases List.mem_append.1 hx with hx | hx
        · rcases List.mem_append.1 hx with hx | hx
          · exact put_lt _ x hx
          · obtain ⟨e, he, hx⟩ := List.mem_flatMap.1 hx
            unfold edB at hx
            rcases List.mem_cons.1 hx with rfl | hx
            · exact hl s (by simp) e he
            · exact put_lt _ x hx
        · exact ih (i + 1) (fun t ht => hl t (by simp [ht])) x hx
    intro x hx
    unfold statesB at hx
    rcases List.mem_append.1 hx with hx | hx
    · exact put_lt _ x hx
    · exact key b 0 hby x hx
  have hct : ∀ x ∈ countsB c, x < 256 := by
    intro x hx
    unfold countsB at hx
    rcases List.mem_append.1 hx with hx | hx
    · exact put_lt _ x hx
    · obtain ⟨n, _, hx⟩ := List.mem_flatMap.1 hx
      exact put_lt _ x hx
  unfold file_Encode.f
  refine Ev.bind hm ?_
  refine Ev.congr (fun k => if_pos rfl) ?_
  refine Ev.bind (put_evI [] _ c.length (by rw [zs_len]) (by omega) (by simp)) ?_
  rw [List.nil_append, zs_len]
  have h0 := enc_l0 (S := b.map toS) (r := (zs (encB sumB b c kk), 0)) c kk hc hcb (fun x4 hx4 => ?_) c.length 0 (by omega)
  · simpa using h0
  have hh1 := enc_l1 (S := b.map toS) (r := (zs (encB sumB b c kk), 0)) x4 (zs c) kk (by omega) hkb ?_ kk.length 0 (by omega)
  · simpa [zs] using hh1
  refine Ev.bind (states_ev b hlow hbl hw hwt) ?_
  simp only [Option.bind_some]
  subst hx4
  have hy4 : ((([(([77, 65, 78, 84, 69, 76, 69, 84] : List Int)), zs (statesB b), zs (countsB c), zs kk] : List (List Int)).length : Nat) : Int) = 4 := rfl
  rw [hy4]
  have l0 := recB_len magicB (by decide)
  have l1 := recB_len _ h1
  have l2 := recB_len _ h2
  have e3 : zs (encB sumB b c kk) = [] ++ zs (recB sumB magicB) ++ zs (recB sumB (statesB b)) ++ zs (recB sumB (countsB c)) ++ zs (recB sumB kk) := by
    unfold encB
    rw [zs_app, zs_app, zs_app, List.nil_append, List.append_assoc, List.append_assoc]
  rw [e3]
  refine enc_l2_step _ [] magicB 0 rfl (by decide) rfl (by decide) (by decide) (by decide) ?_
  refine enc_l2_step _ _ (statesB b) 1 rfl (by decide) rfl hst h1 (by rw [List.length_append, zs_len]; simp; omega) ?_
  refine enc_l2_step _ _ (countsB c) 2 rfl (by decide) rfl hct h2 (by rw [List.length_append, List.length_append, zs_len, zs_len]; simp; omega) ?_
  refine enc_l2_step _ _ kk 3 rfl (by decide) rfl hkb hk (by rw [List.length_append, List.length_append, List.length_append, zs_len, zs_len, zs_len]; simp; omega) ?_
  exact enc_l2_end _ _ _ _ (by decide)
end Go.Proofs.Ytgebhidpkcjpmaa.K

namespace Go.Proofs.Ytgebhidpkcjpmaa.K
open Go.RowKit Go.Proofs.YtgebhidpkcjpmaaW.PrintWords Go.Proofs.YtgebhidpkcjpmaaW.PrintLast Go.Proofs.YtgebhidpkcjpmaaW.PrintMore Go.Proofs.Ytgebhidpkcjpmaa
attribute [local go_sem] max2_int min2_int max_two min_two max_three min_three max_four min_four
set_option linter.unusedVariables false
set_option linter.unusedSimpArgs false
open Go Go.Proofs.Ytgebhidpkcjpmaa.Daw Go.Proofs.Ytgebhidpkcjpmaa.Fil
/-- Where the first byte below 128 stands, from s on (none: there is no byte more; 10: there is none among ten). -/
def scn (l : List Int) : Nat → Nat → Option Nat
  | 0, s => some s
  | k + 1, s => if s = l.length then none else if rd l (s : Int) < 128 then some s else scn l k (s + 1)
/-- The value of the bytes from j on, m of them. -/
def valG (l : List Int) : Nat → Nat → Nat
  | 0, _ => 0
  | m + 1, j => (rd l (j : Int)).toNat % 128 + 128 * valG l m (j + 1)
def getG (l : List Int) : Int × Int × Int :=
  match scn l 10 0 with
  | none => (0, 0, 3)
  | some s => if s = 10 ∨ (s = 9 ∧ 1 < rd l (9 : Int)) ∨ (0 < s ∧ rd l (s : Int) = 0) then (0, 0, 2) else ((valG l (s + 1) 0 : Int), (s : Int) + 1, 0)
theorem valG_lt (l : List Int) : ∀ (m j : Nat), valG l m j < 128 ^ m
  | 0, j => by unfold valG; decide
  | m + 1, j => by
    have ih := valG_lt l m (j + 1)
    unfold valG
    rw [Nat.pow_succ]
    omega
theorem valG_top (l : List Int) : ∀ (m j : Nat), 0 ≤ rd l ((j + m : Nat) : Int) → rd l ((j + m : Nat) : Int) ≤ 1 → valG l (m + 1) j < 2 * 128 ^ m
  | 0, j, h0, h1 => by
    rw [Nat.add_zero] at h0 h1
    unfold valG valG
    omega
  | m + 1, j, h0, h1 => by
    have ih := valG_top l m (j + 1) (by rw [show j + 1 + m = j + (m + 1) by omega]; exact h0) (by rw [show j + 1 + m = j + (m + 1) by omega]; exact h1)
    unfold valG
    rw [Nat.pow_succ]
    omega
theorem val_small (l : List Int) (s : Nat) (hs : s < 10) (h : s = 9 → 0 ≤ rd l (9 : Int) ∧ rd l (9 : Int) ≤ 1) (m : Nat) (hm : 1 ≤ m) (hms : m ≤ s + 1) : valG l (s + 1 - m) m < 144115188075855872 := by
  by_cases h9 : s = 9
  · obtain ⟨h0, h1⟩ := h h9
    subst h9
    by_cases h10 : m = 10
    · subst h10; show valG l 0 10 < _; unfold valG; decide
    · have := valG_top l (9 - m) m (by rw [show m + (9 - m) = 9 by omega]; exact h0) (by rw [show m + (9 - m) = 9 by omega]; exact h1)
      rw [show 9 - m + 1 = 9 + 1 - m by omega] at this
      refine Nat.lt_of_lt_of_le this ?_
      have : (128 : Nat) ^ (9 - m) ≤ 128 ^ 8 := Nat.pow_le_pow_right (by decide) (by omega)
      omega
  · have := valG_lt l (s + 1 - m) m
    refine Nat.lt_of_lt_of_le this ?_
    have : (128 : Nat) ^ (s + 1 - m) ≤ 128 ^ 8 := Nat.pow_le_pow_right (by decide) (by omega)
    omega
theorem scn_ok (l : List Int) : ∀ (k s r : Nat), scn l k s = some r → s ≤ l.length → r = s + k ∨ (r < l.length ∧ rd l (r : Int) < 128)
  | 0, s, r, h, _ => by unfold scn at h; injection h with h; exact .inl (by omega)
  | k + 1, s, r, h, hs => by
    unfold scn at h
    by_cases h1 : s = l.length
    · rw [if_pos h1] at h; cases h
    · rw [if_neg h1] at h
      by_cases h2 : rd l (s : Int) < 128
      · rw [if_pos h2] at h
        injection h with h
        subst h
        exact .inr ⟨by omega, h2⟩
      · rw [if_neg h2] at h
        rcases scn_ok l k (s + 1) r h (by omega) with h3 | h3
        · exact .inl (by omega)
        · exact .inr h3
theorem scn_le (l : List Int) : ∀ (k s r : Nat), scn l k s = some r → r ≤ s + k
  | 0, s, r, h => by unfold scn at h; injection h with h; omega
  | k + 1, s, r, h => by
    unfold scn at h
    by_cases h1 : s = l.length
    · rw [if_pos h1] at h; cases h
    · rw [if_neg h1] at h
      by_cases h2 : rd l (s : Int) < 128
      · rw [if_pos h2] at h; injection h with h; omega
      · rw [if_neg h2] at h
        have := scn_le l k (s + 1) r h
        omega
theorem byt_rd {l : List Int} (h : byt l = true) (i : Nat) (hi : i < l.length) : 0 ≤ rd l (i : Int) ∧ rd l (i : Int) < 256 := by
  rw [rd_nat, List.getD_eq_getElem?_getD, List.getElem?_eq_getElem hi]
  exact byt_get h i hi
set_option maxRecDepth 100000 in
theorem and127 : ∀ m : Fin 256, Go.bits .and .u8 (m.val : Int) 127 = ((m.val % 128 : Nat) : Int) := by decide
theorem or7 (n b : Nat) (hn : n < 144115188075855872) (hb : b < 128) : Go.bits .or .u64 ((n * 128 : Nat) : Int) (b : Int) = ((b + 128 * n : Nat) : Int) := by
  rw [u64_or_nat _ _ (by omega) (by omega)]
  congr 1
  have := Nat.two_pow_add_eq_or_of_lt (i := 7) (b := b) (by omega) n
  rw [show (2 : Nat) ^ 7 = 128 by decide] at this
  rw [Nat.mul_comm n 128, ← this]; omega
set_option maxHeartbeats 4000000 in
set_option maxRecDepth 100000 in
theorem numGet_k (A : Option Addr) (cap : Nat) (l : List Int) (w : World) (hC : Kd.C (Kd.int .u8) w A l.length l) (hc : l.length ≤ cap) (hb : byt l = true) :
    Calls Try.prog 80 #[.slice A l.length cap] w fun e w' => e = .returned (.tuple #[.int .u64 (getG l).1, .int .i64 (getG l).2.1, .int .i64 (getG l).2.2]) ∧ Below w.heap.size w w' := by
  have HC := Aside0.mk hC; have HB := Aside0.mk hb
  have hlen : (l.length : Int) ≤ 9223372036854775807 := by have := hC.2.1; omega
  clear hC hb
  go_enter Try.func80, Try.ntmps80
  go_wp2
  go_step3
  go_wp2
  go_step3
  go_upto_block 0 with fail
  go_cut [5] from 8 to 22 (fun s5 wx => ∃ s : Nat, s5 = .int .i64 s ∧ Aside0 (scn l 10 0 = some s) ∧ wx = w)
  case first =>
    go_wp2
    go_loopg [5] 10 (fun gg v5 wr => ∃ s : Nat, v5 = .int .i64 s ∧ Aside0 (s + gg = 10 ∧ s ≤ l.length) ∧ Aside0 (scn l 10 0 = scn l gg s) ∧ wr = w)
    case atStart => exact ⟨0, rfl, ⟨rfl, Nat.zero_le _⟩, ⟨rfl⟩, rfl⟩
    case round =>
      obtain ⟨s, rfl, hs, hsc, rfl⟩ := hrel
      cases gk with
      | zero =>
        obtain rfl : s = 10 := by have := hs.out; omega
        go_wp2
        go_meet
        case rel => exact ⟨10, rfl, ⟨hsc.out⟩, rfl⟩
      | succ g =>
        have hcb : decide ((s : Int) < 10) = true := decide_eq_true (by have := hs.out; omega)
        have hcb3 : (s : Int) < 10 := by have := hs.out; omega
        by_cases he : s = l.length
        · have hcb2 : ((s : Int) == (l.length : Int)) = true := by rw [he]; exact beq_self_eq_true _
          have HR := Aside0.mk (show getG l = (0, 0, 3) by unfold getG; rw [hsc.out]; unfold scn; rw [if_pos he])
          clear he
          go_wp2
          (try simp only [Exit.noGoto])
          go_ret3
          exact ⟨by rw [HR.out]; rfl, Below.refl _ _⟩
        · have hcb2 : ((s : Int) == (l.length : Int)) = false := by rw [beq_eq_false_iff_ne]; omega
          have hlt : s < l.length := by have := hs.out; omega
          have q0 : (0 : Int) ≤ (s : Int) := by omega
          have q1 : (s : Int) < (l.length : Int) := by omega
          obtain ⟨ad, e0, a0⟩ := Kd.at_int HC.out (s : Int) q0 q1
          cases e0
          have HSL := Aside0.mk (show scn l (g + 1) s = if rd l (s : Int) < 128 then some s else scn l g (s + 1) by conv => { lhs; unfold scn }; rw [if_neg he])
          generalize rd l (s : Int) = x at a0 HSL
          rw [Int.toNat_natCast] at a0
          clear he
          by_cases hx : x < 128
          · have hd : decide (x < 128) = true := decide_eq_true hx
            go_wp2
            go_meet
            case rel => exact ⟨s, rfl, ⟨by rw [hsc.out, HSL.out, if_pos hx]⟩, rfl⟩
          · have hd : decide (x < 128) = false := decide_eq_false hx
            go_wp2
            go_roundg g
            case measure => omega
            case rel => exact ⟨s + 1, congrArg (Value.int .i64) (by omega), ⟨by have := hs.out; omega, by omega⟩, ⟨by rw [hsc.out, HSL.out, if_neg (by omega)]⟩, rfl⟩
  case rest =>
    obtain ⟨s, rfl, hsc, rfl⟩ := hcut
    have hs10 := scn_le l 10 0 s hsc.out
    have hok := scn_ok l 10 0 s hsc.out (Nat.zero_le _)
    have HG := Aside0.mk (show getG l = if s = 10 ∨ (s = 9 ∧ 1 < rd l (9 : Int)) ∨ (0 < s ∧ rd l (s : Int) = 0) then (0, 0, 2) else ((valG l (s + 1) 0 : Int), (s : Int) + 1, 0) by unfold getG; rw [hsc.out])
    by_cases c10 : s = 10
    · subst c10
      have HR := Aside0.mk (show getG l = (0, 0, 2) by rw [HG.out, if_pos (.inl rfl)])
      go_wp2
      (try simp only [Exit.noGoto])
      go_ret3
      exact ⟨by rw [HR.out]; rfl, Below.refl _ _⟩
    · have hlt : s < l.length := by rcases hok with h | h <;> omega
      have hs9 : s ≤ 9 := by omega
      obtain ⟨x0, x1⟩ := byt_rd HB.out s hlt
      have q0 : (0 : Int) ≤ (s : Int) := by omega
      have q1 : (s : Int) < (l.length : Int) := by omega
      obtain ⟨ad, e0, a0⟩ := Kd.at_int HC.out (s : Int) q0 q1
      cases e0
      have c10b : ((s : Int) == 10) = false := by rw [beq_eq_false_iff_ne]; omega
      rw [Int.toNat_natCast] at a0
      -- the tests, told ahead
      by_cases c9 : s = 9 ∧ 1 < rd l (s : Int)
      · obtain ⟨h9, h1⟩ := c9
        have HR := Aside0.mk (show getG l = (0, 0, 2) by rw [HG.out, if_pos (.inr (.inl ⟨h9, by rw [h9] at h1; exact h1⟩))])
        have e9b : ((s : Int) == 9) = true := by rw [h9]; rfl
        have hd : decide (1 < rd l (s : Int)) = true := decide_eq_true h1
        clear HG hok
        generalize rd l (s : Int) = x at a0 hd
        clear h9
        go_wp2
        (try simp only [Exit.noGoto])
        go_ret3
        exact ⟨by rw [HR.out]; rfl, Below.refl _ _⟩
      · by_cases c0 : 0 < s ∧ rd l (s : Int) = 0
        · have HR := Aside0.mk (show getG l = (0, 0, 2) by rw [HG.out, if_pos (.inr (.inr c0))])
          obtain ⟨h1, h2⟩ := c0
          rw [h2] at a0
          have hp : decide (0 < (s : Int)) = true := decide_eq_true (by omega)
          clear HG hok c9
          by_cases e9 : s = 9
          · have e9b : ((s : Int) == 9) = true := by rw [e9]; rfl
            clear e9
            go_wp2
            (try simp only [Exit.noGoto])
            go_ret3
            exact ⟨by rw [HR.out]; rfl, Below.refl _ _⟩
          · have e9b : ((s : Int) == 9) = false := by rw [beq_eq_false_iff_ne]; omega
            go_wp2
            (try simp only [Exit.noGoto])
            go_ret3
            exact ⟨by rw [HR.out]; rfl, Below.refl _ _⟩
        · have HR := Aside0.mk (show getG l = ((valG l (s + 1) 0 : Int), (s : Int) + 1, 0) by rw [HG.out, if_neg (by rintro (h | h | h); exact c10 h; exact c9 ⟨h.1, by rw [h.1]; exact h.2⟩; exact c0 h)])
          have HV := Aside0.mk (val_small l s (by omega) (fun h => by
            subst h
            exact ⟨x0, by have := fun h => c9 ⟨rfl, h⟩; show rd l ((9 : Nat) : Int) ≤ 1; exact Int.not_lt.1 this⟩))
          clear HG hok hsc
          generalize hx : rd l (s : Int) = x at a0 x0 x1 c0 c9
          clear hx
          go_upto_region 7 with fail
          go_cut [46] from 23 to 46 (fun s46 wx => s46 = .bool false ∧ wx = wc)
          case first =>
            by_cases e9 : s = 9
            · have e9b : ((s : Int) == 9) = true := by rw [e9]; rfl
              have hd : decide (1 < x) = false := decide_eq_false fun h => c9 ⟨e9, h⟩
              have hp : decide (0 < (s : Int)) = true := decide_eq_true (by omega)
              have hp2 : (0 : Int) < (s : Int) := by omega
              have hz : (x == 0) = false := by rw [beq_eq_false_iff_ne]; exact fun h => c0 ⟨by omega, h⟩
              clear e9 c9 c0
              go_wp2
              go_meet
              case rel => exact ⟨rfl, rfl⟩
            · have e9b : ((s : Int) == 9) = false := by rw [beq_eq_false_iff_ne]; omega
              by_cases hs0 : 0 < s
              · have hp : decide (0 < (s : Int)) = true := decide_eq_true (by omega)
                have hz : (x == 0) = false := by rw [beq_eq_false_iff_ne]; exact fun h => c0 ⟨by omega, h⟩
                clear c9 c0
                go_wp2
                go_meet
                case rel => exact ⟨rfl, rfl⟩
              · have hp : decide (0 < (s : Int)) = false := decide_eq_false (by omega)
                clear c9 c0
                go_wp2
                go_meet
                case rel => exact ⟨rfl, rfl⟩
          case rest =>
            obtain ⟨rfl, rfl⟩ := hcut
            clear c9 c0 a0 c10b
            go_wp2
            have HHLT := Aside0.mk hlt
            go_loopg [6, 7] (s + 1) (fun gg v6 v7 wr => ∃ m : Nat, m ≤ s + 1 ∧ v7 = .int .i64 ((m : Int) - 1) ∧ v6 = .int .u64 (valG l (s + 1 - m) m : Int) ∧ Aside0 (gg = m) ∧ wr = wc)
            case atStart => exact ⟨s + 1, Nat.le_refl _, congrArg (Value.int .i64) (by omega), by rw [Nat.sub_self]; rfl, ⟨rfl⟩, rfl⟩
            case round =>
              obtain ⟨m, hm, rfl, rfl, hg, rfl⟩ := hrel
              cases m with
              | zero =>
                have hd : decide ((0 : Int) ≤ ((0 : Nat) : Int) - 1) = false := by decide
                go_wp2
                (try simp only [Exit.noGoto])
                go_ret3
                exact ⟨by rw [HR.out]; rfl, Below.refl _ _⟩
              | succ i =>
                have e1 : (((i + 1 : Nat) : Int) - 1) = (i : Int) := by omega
                rw [e1]
                have q0 : (0 : Int) ≤ (i : Int) := by omega
                have q1 : (i : Int) < (l.length : Int) := by omega
                obtain ⟨ad, e0, a0⟩ := Kd.at_int HC.out (i : Int) q0 q1
                cases e0
                rw [Int.toNat_natCast] at a0
                obtain ⟨y0, y1⟩ := byt_rd HB.out i (by omega)
                have HVN := Aside0.mk (show valG l (s + 1 - i) i = (rd l (i : Int)).toNat % 128 + 128 * valG l (s + 1 - (i + 1)) (i + 1) by
                  rw [show s + 1 - i = (s + 1 - (i + 1)) + 1 by omega]; conv => { lhs; unfold valG })
                have hv57 := HV.out (i + 1) (by omega) hm
                generalize valG l (s + 1 - (i + 1)) (i + 1) = n at hv57 HVN
                generalize rd l (i : Int) = y at a0 y0 y1 HVN
                obtain ⟨y, rfl⟩ := Int.eq_ofNat_of_zero_le y0
                rw [Int.toNat_natCast] at HVN
                have hand := and127 ⟨y, by omega⟩
                have hor := or7 n (y % 128) hv57 (Nat.mod_lt _ (by decide))
                go_wp2
                go_roundg i
                case measure => have := hg.out; omega
                case rel =>
                  refine ⟨i, by omega, rfl, ?_, ⟨rfl⟩, rfl⟩
                  rw [HVN.out, ← hor]
                  exact congrArg (Value.int .u64) (by rw [show ((n * 128 : Nat) : Int) = (n : Int) * 128 by omega, show ((y % 128 : Nat) : Int) = (y : Int) % 128 by omega])
/-- As the printer calls it. -/
def num_Get.f (l0 : List Int) : Option (Int × Int × Int) := if byt l0 = true then some (getG l0) else none
theorem num_Get.calls (A0 : Option Addr) (c0 : Nat) (l0 : List Int) (r1 r2 r3 : Int) (w : World) (hr0 : Kd.C (Kd.int .u8) w A0 l0.length l0) (hc0 : l0.length ≤ c0) (h : num_Get.f l0 = some (r1, r2, r3)) :
    Calls Try.prog 80 #[.slice A0 l0.length c0] w fun e w' => e = .returned (.tuple #[.int .u64 r1, .int .i64 r2, .int .i64 r3]) ∧ Below w.heap.size w w' := by
  unfold num_Get.f at h
  by_cases hk : byt l0 = true
  · rw [if_pos hk] at h
    have := numGet_k A0 c0 l0 w hr0 hc0 hk
    rw [Option.some.inj h] at this
    exact this
  · rw [if_neg hk] at h; cases h
set_option maxHeartbeats 2000000 in
set_option maxRecDepth 100000 in
theorem bclone_k (A0 : Option Addr) (c0 : Nat) (l0 : List Int) (w : World) (hr0 : Kd.C (Kd.int .u8) w A0 l0.length l0) (hc0 : l0.length ≤ c0) (hlen : l0.length ≤ 140737488000000) :
    Calls Try.prog 96 #[.slice A0 l0.length c0] w fun e w' => ∃ v0_ : Value, e = .returned (v0_) ∧ Kd.R (Kd.int .u8) 5 w' w.heap.size (fun _ => True) v0_ l0 ∧ Below w.heap.size w w' := by
  have hq : ∀ (W : World) (a : Option Addr) (n c n' c' : Nat), (binOp .eql 36 (.slice a n c) (.slice none n' c')).run Try.prog W = .ok (.bool a.isNone) W := fun W a n c n' c' => Lib.run_eql_slice_nil W _ _ a n c n' c' Try.underlying36
  cases A0 with
  | none =>
    have h0 : l0 = [] := by
      cases l0 with
      | nil => rfl
      | cons x l =>
        obtain ⟨ad, e, _⟩ := Kd.at_int hr0 0 (by omega) (by simp)
        cases e
    subst h0
    go_enter Try.func96, Try.ntmps96
    go_wp2
    go_ret
    exact ⟨_, rfl, Kd.R_nil _ _ _ _ _, Below.refl _ _⟩
  | some ad =>
    have HR := Aside0.mk hr0; clear hr0
    have HL := Aside0.mk hlen; clear hlen
    go_enter Try.func96, Try.ntmps96
    go_wp2_with ((with_reducible refine gate_dst (N := 5) rfl ?_); refine Kd.R_lit (Kd.int .u8) _ 5 ?hg (N := 5) ?hd (xs := []) (inner := []) (ok := fun _ => True) (okp := fun _ => True) ?hr ?hp (fun _ hk => hk) trivial (Below.refl _ _) (Nat.le_refl _) (by simp) ?_; (case hd => rfl); (case hg => rfl); (case hr => first | (go_simp; done) | (go_simp; rfl)); (case hp => exact (Reps.none _ _)))
    intro v1 w1 hR1 hb1 hg1 n1 hn1 hle1
    have HB1 := Aside0.mk hb1
    have HR1 := Aside0.mk hR1
    have HC1 := Aside0.mk (Kd.C_below HR.out hb1)
    clear hR1 hb1 hg1 hn1 hle1 n1
    go_wp2_with ((with_reducible refine gate_builtin (b := .append) (xs := #[.tmp 5, .tmp 6]) rfl ?_); at_builtin; refine Kd.R_append_rows (Kd.int .u8) (w0 := w) w.heap.size rfl (.tmp 5) (.tmp 6) 36 5 (.int .u8 0) 1 rfl Try.underlying36 info5 rfl (by decide) (by omega) v1 [] l0 _ _ _ (fun _ => True) (fun _ => False) rfl rfl HR1.out HC1.out (fun _ _ h => h) (fun _ h => h.elim) (fun _ _ => trivial) HB1.out (HB1.out).size (by have := HL.out; simp; omega) ?_)
    intro v2 w2 hR2 hb2 hg2 hat2
    have HB2 := Aside0.mk hb2
    have HR2 := Aside0.mk hR2
    clear hR2 hb2 hg2 hat2
    go_wp2
    go_ret
    exact ⟨_, rfl, by simpa using HR2.out, HB2.out⟩
def bytes_Clone.f (l0 : List Int) : Option (List Int) := if l0.length ≤ 140737488000000 then some l0 else none
theorem bytes_Clone.calls (A0 : Option Addr) (c0 : Nat) (l0 : List Int) (r : List Int) (w : World) (hr0 : Kd.C (Kd.int .u8) w A0 l0.length l0) (hc0 : l0.length ≤ c0) (h : bytes_Clone.f l0 = some r) :
    Calls Try.prog 96 #[.slice A0 l0.length c0] w fun e w' => ∃ v0_ : Value, e = .returned (v0_) ∧ Kd.R (Kd.int .u8) 5 w' w.heap.size (fun _ => True) v0_ r ∧ Below w.heap.size w w' := by
  unfold bytes_Clone.f at h
  by_cases hk : l0.length ≤ 140737488000000
  · rw [if_pos hk] at h
    obtain rfl := Option.some.inj h
    exact bclone_k A0 c0 l0 w hr0 hc0 hk
  · rw [if_neg hk] at h; cases h
end Go.Proofs.Ytgebhidpkcjpmaa.K

namespace Go.Proofs.Ytgebhidpkcjpmaa.PFg
open Go.RowKit Go.Proofs.YtgebhidpkcjpmaaW.PrintWords Go.Proofs.YtgebhidpkcjpmaaW.PrintLast Go.Proofs.YtgebhidpkcjpmaaW.PrintMore Go.Proofs.Ytgebhidpkcjpmaa.K Go.Proofs.Ytgebhidpkcjpmaa.PDk Go.Proofs.Ytgebhidpkcjpmaa.PDm Go.Proofs.Ytgebhidpkcjpmaa.PEn Go.Proofs.Ytgebhidpkcjpmaa.PFl Go.Proofs.Ytgebhidpkcjpmaa.PIx Go.Proofs.Ytgebhidpkcjpmaa.PLg Go.Proofs.Ytgebhidpkcjpmaa.PMk Go.Proofs.Ytgebhidpkcjpmaa.PR13
attribute [local go_sem] max2_int min2_int max_two min_two max_three min_three max_four min_four   -- for this text's walks alone
set_option linter.unusedVariables false
set_option linter.unusedSimpArgs false



def errW : Option Int → Value
  | none => .nilIface
  | some c => .iface 0 (.int .i64 c)
theorem errW_none : errW none = .nilIface := rfl
theorem errW_some (c : Int) : errW (some c) = .iface 0 (.int .i64 c) := rfl

end Go.Proofs.Ytgebhidpkcjpmaa.PFg

