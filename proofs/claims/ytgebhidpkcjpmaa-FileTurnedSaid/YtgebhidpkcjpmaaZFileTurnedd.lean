/- FileTurned. (The texts that the proof is made of, one behind the other: part 4 of 17.) -/
import Derived.Maps.OwnSet
import Derived.Maps.OwnOps
import Derived.Test.YtgebhidpkcjpmaaProg
import Derived.Below
import Derived.Deep.Draws
import Derived.Deep.AppendLies
import Derived.Maps.AppendAt
import Derived.OwnWalk
import Derived.Laws.BytesArg
import Derived.Laws.MakeOwn
import Derived.Laws.OwnMore
import Derived.Deep.OwnRows
import Derived.Tactics
import Derived.Lib.ConvBytes
import Derived.Laws.Slices
import Derived.WalkKit
import Derived.KernelRfl
import Derived.RowKit3
import Derived.Deep.LoopGhost
import Derived.Deep.QuietTactic
import Derived.BigQuiet
import Derived.WideLaws
import Derived.Deep.DeepCutAuto
import Derived.Deep.CutBlock
import Derived.Deep.RegionHeld3
import Derived.Laws.Rows
import Derived.Lib.AppendStr
import Derived.ArgAppend
import Derived.Laws.IdiomCopy
import Derived.OrdersHeld
import Derived.Laws.BitsLemmas
import Derived.RowKit
import Derived.Lib.OthersKept
import Derived.WalkSmall
import Derived.Deep.RegionLaw
import Derived.BigRegion
import Derived.Test.YtgebhidpkcjpmaaZFileTurneda
import Derived.Test.YtgebhidpkcjpmaaZFileTurnedb
import Derived.Test.YtgebhidpkcjpmaaZFileTurnedc
namespace Go.Proofs.Ytgebhidpkcjpmaa.PDk
open Go.RowKit Go.Proofs.YtgebhidpkcjpmaaW.PrintWords Go.Proofs.YtgebhidpkcjpmaaW.PrintLast Go.Proofs.YtgebhidpkcjpmaaW.PrintMore Go.Proofs.Ytgebhidpkcjpmaa.K
attribute [local go_sem] max2_int min2_int max_two min_two max_three min_three max_four min_four   -- for this text's walks alone
set_option linter.unusedVariables false
set_option linter.unusedSimpArgs false

def num_Put.l0 : Nat → Int → List Int → Option (List Int)
  | 0, _, _ => none
  | k + 1, x1, x5 => if x1 ≥ 128 then (if x5.length < 140737488355328 then (num_Put.l0 k (x1 / 128) (x5 ++ [Go.bits .or .u8 ((x1) % 256) 128])) else (none)) else (if x5.length < 140737488355328 then (some (x5 ++ [(x1) % 256])) else (none))
def num_Put.f (k : Nat) (l0 : List Int) (a1 : Int) : Option (List Int) := (some (([] : List Int) : List Int)).bind fun y101 => (if y101.length + l0.length < 140737488355328 then (num_Put.l0 k a1 (y101 ++ l0)) else (none))
theorem num_Put.mono_l : ∀ k, (∀ y0 y1, LeO (num_Put.l0 k y0 y1) (num_Put.l0 (k + 1) y0 y1))
  | 0 => fun _ _ r h => by simp [num_Put.l0] at h
  | k + 1 => by
    have ih0 := num_Put.mono_l k
    · intro y0 y1
      unfold num_Put.l0
      repeat' first
      | (with_reducible exact ih0 _ _)
      | (with_reducible exact LeO.refl _)
      | (with_reducible exact LeO.none _)
      | (with_reducible refine LeO.ite ?_ ?_)
      | (with_reducible refine LeO.bind ?_ (fun _ => ?_))
      | exact ih0 _ _
      | exact LeO.none _
      | refine LeO.ite ?_ ?_
      | refine LeO.bind ?_ (fun _ => ?_)
theorem num_Put.mono : ∀ a0 a1 k, LeO (num_Put.f k a0 a1) (num_Put.f (k + 1) a0 a1) := by
  intro a0 a1 k
  have ih0 := num_Put.mono_l k
  unfold num_Put.f
  repeat' first
      | (with_reducible exact ih0 _ _)
      | (with_reducible exact LeO.refl _)
      | (with_reducible exact LeO.none _)
      | (with_reducible refine LeO.ite ?_ ?_)
      | (with_reducible refine LeO.bind ?_ (fun _ => ?_))
      | exact ih0 _ _
      | exact LeO.none _
      | refine LeO.ite ?_ ?_
      | refine LeO.bind ?_ (fun _ => ?_)
set_option maxHeartbeats 8000000 in
set_option maxRecDepth 100000 in
theorem num_Put.calls (k : Nat) (A0 : Option Addr) (c0 : Nat) (l0 : List Int) (a1 : Int) (r : List Int) (w : World) (hr0 : Kd.C (Kd.int .u8) w A0 l0.length l0) (hc0 : l0.length ≤ c0) (h : num_Put.f k l0 a1 = some r) :
    Calls Try.prog 37 #[.slice A0 l0.length c0, .int .u64 a1] w fun e w' => ∃ v0_ : Value, e = .returned (v0_) ∧ Kd.R (Kd.int .u8) 5 w' w.heap.size (fun _ => True) v0_ r ∧ Below w.heap.size w w' := by
  have HR0 := Aside0.mk hr0
  have HC0 := Aside0.mk hc0
  clear hr0 hc0
  have HB := Aside0.mk (Below.refl w.heap.size w)
  have H : ((some (([] : List Int) : List Int)).bind fun y101 => (if y101.length + l0.length < 140737488355328 then (num_Put.l0 k a1 (y101 ++ l0)) else (none))) = some r := h
  clear h
  obtain ⟨y101, hy101⟩ : ∃ y_ : List Int, y_ = (([] : List Int)) := ⟨_, rfl⟩
  replace H : (if y101.length + l0.length < 140737488355328 then (num_Put.l0 k a1 (y101 ++ l0)) else (none)) = some r := by first | (rw [hy101]; with_reducible exact H) | (have H2_ := (Option.bind_some _ _).symm.trans H; rw [hy101]; with_reducible exact H2_) | (have H2_ := (Option.bind_some _ _).symm.trans H; with_reducible exact H2_) | with_reducible exact H | (rw [hy101]; exact H) | exact H
  have Ny101 := Aside0.mk hy101
  clear hy101
  by_cases c3 : y101.length + l0.length < 140737488355328
  · rw [if_pos c3] at H
    have LMc3 := Aside0.mk c3
    clear c3
    obtain ⟨y104, hy104⟩ : ∃ y_ : List Int, y_ = (y101 ++ l0) := ⟨_, rfl⟩
    replace H : (num_Put.l0 k a1 y104) = some r := by first | (rw [hy104]; with_reducible exact H) | (have H2_ := (Option.bind_some _ _).symm.trans H; rw [hy104]; with_reducible exact H2_) | (have H2_ := (Option.bind_some _ _).symm.trans H; with_reducible exact H2_) | with_reducible exact H | (rw [hy104]; exact H) | exact H
    have Ny104 := Aside0.mk hy104
    clear hy104
    have H' := Aside0.mk H
    clear H
    go_enter Try.func37, Try.ntmps37
    go_wp2_with (first | ((with_reducible refine gate_dst (N := 6) rfl ?_); refine Kd.R_lit (Kd.int .u8) _ 5 ?hg (N := 6) ?hd (xs := ([] : List Int)) (inner := []) (ok := fun _ => True) (okp := fun _ => True) ?hr ?hp (fun _ hk => hk) trivial (Below.refl _ _) (Nat.le_refl _) (by simp) ?_; (case hd => rfl); (case hg => rfl); (case hr => first | (go_simp; done) | (go_simp; rfl)); (case hp => exact (Reps.none _ _)); intro v102 w4 ho5 hb hg_ hnew_; clear hg_ hnew_; (first | rw [← Ny101.out] at ho5 | (simp only [Int.reduceToNat] at ho5; rw [← Ny101.out] at ho5)); have n0_ := Aside0.mk (Kd.R_lower ho5 (below_size (by repeat (first | (with_reducible first | exact HB.out | apply below_alloc | apply pw_below_drewN | apply below_drew1) | exact HB.out)))); have n1_ := Aside0.mk (below_step (by repeat (first | (with_reducible first | exact HB.out | apply below_alloc | apply pw_below_drewN | apply below_drew1) | exact HB.out)) hb); clear HB; have HO103 := n0_; have HB := n1_; clear n0_ n1_; clear hb ho5) | ((with_reducible refine gate_builtin (b := .append) (xs := #[.tmp 6, .tmp 7]) rfl ?_); at_builtin; refine Kd.R_append_rows (Kd.int .u8) (w0 := w) w.heap.size rfl (.tmp 6) (.tmp 7) 36 5 (.int .u8 0) 1 rfl Try.underlying36 info5 rfl (by decide) (by omega) v102 y101 l0 _ _ _ (fun _ => True) (fun _ => False) rfl rfl ?aO ?aR (fun _ _ h => h) (fun _ h => h.elim) ?aF ?aB ?aS ?aL ?_; (case aR => repeat (first | exact (Kd.C_below HR0.out HB.out) | (with_reducible refine Kd.C_alloc ?_ _) | (with_reducible refine Kd.C_drewN ?_ _) | (with_reducible refine Kd.C_drew ?_))); (case aB => exact (by repeat (first | (with_reducible first | exact HB.out | apply below_alloc | apply pw_below_drewN | apply below_drew1) | exact HB.out))); (case aF => exact (fun _ _ => trivial)); (case aO => exact (by (with_reducible repeat (first | apply Kd.R_alloc | apply Kd.R_drewN | apply Kd.R_drew)); exact HO103.out)); (case aS => exact (below_size (by repeat (first | (with_reducible first | exact HB.out | apply below_alloc | apply pw_below_drewN | apply below_drew1) | exact HB.out)))); (case aL => have := LMc3.out; omega); intro v105 w6 ho hb hg hat; rw [← Ny104.out] at ho; have n0_ := Aside0.mk (hb); have n1_ := Aside0.mk (ho); clear HB; clear HO103; have HB := n0_; have HO106 := n1_; clear n0_ n1_; clear ho hb hg hat))
    go_loopg [1, 5] k (fun kq v1 v5 w' => ∃ (x1_1 : Int) (x5_1 : List Int), v1 = .int .u64 x1_1 ∧ Aside0 (num_Put.l0 kq x1_1 x5_1 = some r) ∧ Aside0 (kq ≤ k) ∧ Aside0 (Kd.R (Kd.int .u8) 5 w' w.heap.size (fun _ => True) v5 x5_1) ∧ Aside0 (Below w.heap.size w w'))
    case atStart => exact ⟨(a1), (y104), (by first | rfl | (simp; done) | (simp [*]; done)), H', ⟨Nat.le_refl _⟩, ⟨by (with_reducible repeat (first | apply Kd.R_alloc | apply Kd.R_drewN | apply Kd.R_drew)); exact HO106.out⟩, ⟨by repeat (first | (with_reducible first | exact HB.out | apply below_alloc | apply pw_below_drewN | apply below_drew1) | exact HB.out)⟩⟩
    case round =>
      clear H'
      try clear p2
      try clear c3
      obtain ⟨x1_1, x5_1, rfl, HA, HK1, HO_5, HB⟩ := hrel
      cases gk with
      | zero => exact absurd HA.out (by simp [num_Put.l0])
      | succ k1 =>
        have H := HA.out
        clear HA
        simp only [num_Put.l0] at H
        by_cases c7 : x1_1 ≥ 128
        · rw [if_pos c7] at H
          have c7b0 : decide (128 ≤ x1_1) = true := decide_eq_true c7
          clear c7
          by_cases c8 : x5_1.length < 140737488355328
          · rw [if_pos c8] at H
            have LMc8 := Aside0.mk c8
            clear c8
            obtain ⟨y107, hy107⟩ : ∃ y_ : List Int, y_ = (x5_1 ++ [Go.bits .or .u8 ((x1_1) % 256) 128]) := ⟨_, rfl⟩
            replace H : (num_Put.l0 k1 (x1_1 / 128) y107) = some r := by first | (rw [hy107]; with_reducible exact H) | (have H2_ := (Option.bind_some _ _).symm.trans H; rw [hy107]; with_reducible exact H2_) | (have H2_ := (Option.bind_some _ _).symm.trans H; with_reducible exact H2_) | with_reducible exact H | (rw [hy107]; exact H) | exact H
            have Ny107 := Aside0.mk hy107
            clear hy107
            have H' := Aside0.mk H
            clear H
            go_wp2_with (first | ((with_reducible refine gate_builtin (b := .append) (xs := #[.tmp 11, .tmp 15]) rfl ?_); at_builtin; refine Kd.R_append (Kd.int .u8) (w0 := w) w.heap.size rfl (.tmp 11) (.tmp 15) 36 5 (.int .u8 0) 1 rfl Try.underlying36 info5 rfl (by decide) (by omega) u5 x5_1 (Go.bits .or .u8 ((x1_1) % 256) 128) [.int .u8 (Go.bits .or .u8 ((x1_1) % 256) 128)] (fun _ => True) (fun _ => False) rfl rfl ?aP (fun _ hk => hk.elim) ?aF ?aO ?aB ?aS ?aL ?_; (case aP => exact rfl); (case aB => exact (by repeat (first | (with_reducible first | exact HB.out | apply below_alloc | apply pw_below_drewN | apply below_drew1) | exact HB.out))); (case aF => exact (fun _ _ => trivial)); (case aO => exact (by (with_reducible repeat (first | apply Kd.R_alloc | apply Kd.R_drewN | apply Kd.R_drew)); exact HO_5.out)); (case aS => exact (below_size (by repeat (first | (with_reducible first | exact HB.out | apply below_alloc | apply pw_below_drewN | apply below_drew1) | exact HB.out)))); (case aL => have := LMc8.out; omega); intro v108 w9 ho hb hg hat; rw [← Ny107.out] at ho; have n0_ := Aside0.mk (hb); have n1_ := Aside0.mk (ho); clear HB; clear HO_5; have HB := n0_; have HO109 := n1_; clear n0_ n1_; clear ho hb hg hat))
            go_roundg k1
            case measure => have := HK1.out; omega
            case rel => exact ⟨(x1_1 / 128), (y107), (by first | rfl | (simp; done) | (simp [*]; done)), H', ⟨by have := HK1.out; omega⟩, ⟨by (with_reducible repeat (first | apply Kd.R_alloc | apply Kd.R_drewN | apply Kd.R_drew)); exact HO109.out⟩, ⟨by repeat (first | (with_reducible first | exact HB.out | apply below_alloc | apply pw_below_drewN | apply below_drew1) | exact HB.out)⟩⟩
          · rw [if_neg c8] at H
            exact absurd H (by simp)
        · rw [if_neg c7] at H
          have c7b0 : decide (128 ≤ x1_1) = false := decide_eq_false c7
          clear c7
          by_cases c10 : x5_1.length < 140737488355328
          · rw [if_pos c10] at H
            have LMc10 := Aside0.mk c10
            clear c10
            obtain ⟨y110, hy110⟩ : ∃ y_ : List Int, y_ = (x5_1 ++ [(x1_1) % 256]) := ⟨_, rfl⟩
            replace H : (some y110) = some r := by first | (rw [hy110]; with_reducible exact H) | (have H2_ := (Option.bind_some _ _).symm.trans H; rw [hy110]; with_reducible exact H2_) | (have H2_ := (Option.bind_some _ _).symm.trans H; with_reducible exact H2_) | with_reducible exact H | (rw [hy110]; exact H) | exact H
            have Ny110 := Aside0.mk hy110
            clear hy110
            obtain rfl := Option.some.inj H
            go_wp2_with (first | ((with_reducible refine gate_builtin (b := .append) (xs := #[.tmp 19, .tmp 22]) rfl ?_); at_builtin; refine Kd.R_append (Kd.int .u8) (w0 := w) w.heap.size rfl (.tmp 19) (.tmp 22) 36 5 (.int .u8 0) 1 rfl Try.underlying36 info5 rfl (by decide) (by omega) u5 x5_1 ((x1_1) % 256) [.int .u8 ((x1_1) % 256)] (fun _ => True) (fun _ => False) rfl rfl ?aP (fun _ hk => hk.elim) ?aF ?aO ?aB ?aS ?aL ?_; (case aP => exact rfl); (case aB => exact (by repeat (first | (with_reducible first | exact HB.out | apply below_alloc | apply pw_below_drewN | apply below_drew1) | exact HB.out))); (case aF => exact (fun _ _ => trivial)); (case aO => exact (by (with_reducible repeat (first | apply Kd.R_alloc | apply Kd.R_drewN | apply Kd.R_drew)); exact HO_5.out)); (case aS => exact (below_size (by repeat (first | (with_reducible first | exact HB.out | apply below_alloc | apply pw_below_drewN | apply below_drew1) | exact HB.out)))); (case aL => have := LMc10.out; omega); intro v111 w11 ho hb hg hat; rw [← Ny110.out] at ho; have n0_ := Aside0.mk (hb); have n1_ := Aside0.mk (ho); clear HB; clear HO_5; have HB := n0_; have HO112 := n1_; clear n0_ n1_; clear ho hb hg hat))
            go_ret
            exact ⟨_, by first | rfl | (simp [errW_none, errW_some] <;> rfl) | (simp [*, errW_none, errW_some] <;> rfl), by (with_reducible repeat (first | apply Kd.R_alloc | apply Kd.R_drewN | apply Kd.R_drew)); exact HO112.out, by repeat (first | (with_reducible first | exact HB.out | apply below_alloc | apply pw_below_drewN | apply below_drew1) | exact HB.out)⟩
          · rw [if_neg c10] at H
            exact absurd H (by simp)
  · rw [if_neg c3] at H
    exact absurd H (by simp)

mutual
def daw_key.j0 : Nat → Int → Bool → List (S84) → Option (ByteArray)
  | 0, _, _, _ => none
  | k + 1, x3, x114000, x114001 => (num_Put.f k ([] : List Int) x3).bind fun t114 => (daw_key.l0 k t114 x114001 (x114001.length : Int) 0)
def daw_key.l0 : Nat → List Int → List (S84) → Int → Int → Option (ByteArray)
  | 0, _, _, _, _ => none
  | k + 1, x4, x12, x13, x14 => if x14 < x13 then (if 0 ≤ x14 then (if x14 < (x12.length : Int) then (if x4.length < 140737488355328 then ((num_Put.f k (x4 ++ [(rd_T84 x12 x14).f0]) (IntKind.u64.wrap ((rd_T84 x12 x14).f1))).bind fun t122 => (daw_key.l0 k t122 x12 x13 (wrap64 (x14 + 1)))) else (none)) else (none)) else (none)) else (some (strOfNums x4))
end
def daw_key.f (k : Nat) (a0_0 : Bool) (l0_1 : List (S84)) : Option (ByteArray) := if a0_0 = true then (daw_key.j0 k 1 a0_0 l0_1) else (daw_key.j0 k 0 a0_0 l0_1)
def daw_key.T8 : Bool × List (List Nat × List Nat) := (true, [([], []), ([], []), ([1], [1]), ([2], [2]), ([0, 3], [0, 3]), ([], []), ([5], [5]), ([6], [6]), ([4, 7, 4], [4, 7]), ([8, 8, 0, 1, 2, 3, 4, 5, 6, 7, 8], [0, 8])])
def daw_key.B8 : List Nat := [0, 0, 2, 6, 15, 0, 32, 96, 255, 511]
theorem daw_key.tab8 : rtab .any (opsOf Try.f85 8) = daw_key.T8 := by kernel_rfl
theorem daw_key.bits8 : waitsOk daw_key.T8.2 daw_key.B8 = true := by kernel_rfl
set_option maxHeartbeats 8000000 in
set_option maxRecDepth 100000 in
theorem daw_key.calls (k : Nat) (a0_0 : Bool) (A0_1 : Option Addr) (c0_1 : Nat) (l0_1 : List (S84)) (r : ByteArray) (w : World) (hr0_1 : Kd.C k84 w A0_1 l0_1.length l0_1) (hc0_1 : l0_1.length ≤ c0_1) (h : daw_key.f k a0_0 l0_1 = some r) :
    Calls Try.prog 85 #[.agg #[.bool a0_0, .slice A0_1 l0_1.length c0_1]] w fun e w' => e = .returned (.string r) ∧ Below w.heap.size w w' := by
  have hu82 := Try.underlying82
  have hu84 := Try.underlying84
  have HR0_1 := Aside0.mk hr0_1
  have HC0_1 := Aside0.mk hc0_1
  clear hr0_1 hc0_1
  have HB := Aside0.mk (Below.refl w.heap.size w)
  have H : (if a0_0 = true then (daw_key.j0 k 1 a0_0 l0_1) else (daw_key.j0 k 0 a0_0 l0_1)) = some r := h
  clear h
  have HC2 := Aside0.mk H
  clear H
  go_enter Try.func85, Try.ntmps85
  go_upto_if 8 with (first | ((with_reducible refine gate_dst (N := 1) rfl ?_); refine box_event ?hg (N := 1) ?hd (cs := #[.bool a0_0, .slice A0_1 l0_1.length c0_1]) (t := 82) ?hr ?_; (case hd => rfl); (case hg => rfl); (case hr => first | (go_simp; done) | (go_simp; rfl)); intro gb113 hg w3 hbox hb; have n0_ := Aside0.mk (below_step (by repeat (first | (with_reducible first | exact HB.out | apply below_alloc | apply pw_below_drewN | apply below_drew1) | exact HB.out)) hb); have n1_ := Aside0.mk (hbox); have n2_ := Aside0.mk ((by rw [hg]; exact (below_size (by repeat (first | (with_reducible first | exact HB.out | apply below_alloc | apply pw_below_drewN | apply below_drew1) | exact HB.out))) : w.heap.size ≤ gb113)); have n3_ := Aside0.mk ((by rw [hg]; exact (below_size (by repeat (first | (with_reducible first | exact HB.out | apply below_alloc | apply pw_below_drewN | apply below_drew1) | exact HB.out))) : w.heap.size ≤ gb113)); clear HB; have HB := n0_; have BK113 := n1_; have GW113 := n2_; have GE113 := n3_; clear n0_ n1_ n2_ n3_; clear hb hbox hg; have hcz4_0 : w3.cell? ⟨gb113, 0, none⟩ = some (.bool a0_0) := (blk_cell BK113.out 0).trans rfl; have hcz4_1 : w3.cell? ⟨gb113, 1, none⟩ = some (.slice A0_1 l0_1.length c0_1) := (blk_cell BK113.out 1).trans rfl; have hfz4_0 := blk_frozen BK113.out 0; have hfz4_1 := blk_frozen BK113.out 1))
  (try simp only [Act.put, List.setIfInBounds_toArray, List.set_cons_zero, List.set_cons_succ])
  go_cut [3] (fun v3 wc => ∃ (kq : Nat) (x3_1 : Int), v3 = .int .u64 x3_1 ∧ Aside0 (daw_key.j0 kq x3_1 a0_0 l0_1 = some r) ∧ Aside0 (kq ≤ k) ∧ Aside0 (wc.heap[gb113]? = some (.cells #[.bool a0_0, (.slice A0_1 l0_1.length c0_1)] 82 (0, 0))) ∧ Aside0 (Below w.heap.size w wc))
  case first =>
    have H := HC2.out
    clear HC2
    by_cases c5 : a0_0 = true
    · subst c5
      have H1 : (daw_key.j0 k 1 true l0_1) = some r := by rw [if_pos rfl] at H; exact H
      clear H
      have H := H1
      clear H1
      have H' := Aside0.mk H
      clear H
      go_wp2
      go_meet
      case rel => exact ⟨_, (1), (by first | rfl | (simp; done) | (simp [*]; done)), H', ⟨by first | omega | exact Nat.le_refl _⟩, ⟨by (with_reducible repeat (first | refine blk_drewN ?_ _ | refine blk_drew ?_ | refine blk_alloc ?_ _)); exact BK113.out⟩, ⟨by repeat (first | (with_reducible first | exact HB.out | apply below_alloc | apply pw_below_drewN | apply below_drew1 | refine below_set ?_ GE113.out) | exact HB.out)⟩⟩
    · replace c5 := Bool.eq_false_iff.mpr c5
      subst c5
      have H1 : (daw_key.j0 k 0 false l0_1) = some r := by rw [if_neg (show ¬ (false = true) by decide)] at H; exact H
      clear H
      have H := H1
      clear H1
      have H' := Aside0.mk H
      clear H
      go_wp2
      go_meet
      case rel => exact ⟨_, (0), (by first | rfl | (simp; done) | (simp [*]; done)), H', ⟨by first | omega | exact Nat.le_refl _⟩, ⟨by (with_reducible repeat (first | refine blk_drewN ?_ _ | refine blk_drew ?_ | refine blk_alloc ?_ _)); exact BK113.out⟩, ⟨by repeat (first | (with_reducible first | exact HB.out | apply below_alloc | apply pw_below_drewN | apply below_drew1 | refine below_set ?_ GE113.out) | exact HB.out)⟩⟩
  case rest =>
    clear HC2
    try clear p2
    try clear c5
    try clear hcz4_0
    try clear hcz4_1
    try clear hfz4_0
    try clear hfz4_1
    obtain ⟨kq, x3_1, rfl, HA, HJ1, BK113, HB⟩ := hcut
    cases kq with
    | zero => exact absurd HA.out (by simp [daw_key.j0])
    | succ kj1 =>
      have H := HA.out
      clear HA
      simp only [daw_key.j0] at H
      replace H := Option.bind_eq_some_iff.mp H
      obtain ⟨t114, A60, H⟩ := H
      replace H : (daw_key.l0 kj1 t114 l0_1 (l0_1.length : Int) 0) = some r := H
      have A6 := Aside0.mk A60
      clear A60
      have H' := Aside0.mk H
      clear H
      go_wp2_with (first | ((with_reducible refine gate_callee (f := 37) rfl ?_); refine goesL_ (some 10) rfl rfl Try.func37 (by kernel_rfl) rfl #[.slice none 0 0, .int .u64 x3_1] rfl (by (try simp only [List.map_toArray, List.map_cons, List.map_nil]); first | done | rfl | (simp only [List.length_drop, List.length_take]; rfl)) ?_; (refine (num_Put.calls kj1 _ _ ([] : List Int) x3_1 t114 _ ?side1 ?side2 A6.out).mono ?_); (case side1 => exact Kd.C_nil _ _); (case side2 => exact Nat.le_refl _); rintro e w7 ⟨v115, rfl, ho0, hb⟩; refine ⟨_, rfl, ?_⟩; have n0_ := Aside0.mk (Kd.R_lower ho0 (below_size (by repeat (first | (with_reducible first | exact HB.out | apply below_alloc | apply pw_below_drewN | apply below_drew1 | refine below_set ?_ GE113.out) | exact HB.out)))); have n1_ := Aside0.mk (blk_below (g := gb113) (o := .cells #[.bool a0_0, .slice A0_1 l0_1.length c0_1] 82 (0, 0)) (by (with_reducible repeat (first | refine blk_drewN ?_ _ | refine blk_drew ?_ | refine blk_alloc ?_ _)); exact BK113.out) hb); have n2_ := Aside0.mk (below_step (by repeat (first | (with_reducible first | exact HB.out | apply below_alloc | apply pw_below_drewN | apply below_drew1 | refine below_set ?_ GE113.out) | exact HB.out)) hb); clear BK113; clear HB; have HO116 := n0_; have BK113 := n1_; have HB := n2_; clear n0_ n1_ n2_; (try clear hb); (try clear hb2); (try clear hk); (try clear hi); (try clear ho0); have hcz8_0 : w7.cell? ⟨gb113, 0, none⟩ = some (.bool a0_0) := (blk_cell BK113.out 0).trans rfl; have hcz8_1 : w7.cell? ⟨gb113, 1, none⟩ = some (.slice A0_1 l0_1.length c0_1) := (blk_cell BK113.out 1).trans rfl; have hfz8_0 := blk_frozen BK113.out 0; have hfz8_1 := blk_frozen BK113.out 1))
      go_loopg [4, 14] kj1 (fun kq v4 v14 w' => ∃ (x4_2 : List Int) (x14_2 : Int), v14 = .int .i64 x14_2 ∧ Aside0 (daw_key.l0 kq x4_2 l0_1 (l0_1.length : Int) x14_2 = some r) ∧ Aside0 (kq ≤ kj1) ∧ Aside0 (Kd.R (Kd.int .u8) 5 w' w.heap.size (fun _ => True) v4 x4_2) ∧ Aside0 (w'.heap[gb113]? = some (.cells #[.bool a0_0, (.slice A0_1 l0_1.length c0_1)] 82 (0, 0))) ∧ Aside0 (Below w.heap.size w w'))
      case atStart => exact ⟨(t114), (0), (by first | rfl | (simp; done) | (simp [*]; done)), H', ⟨Nat.le_refl _⟩, ⟨by (with_reducible repeat (first | apply Kd.R_alloc | apply Kd.R_drewN | apply Kd.R_drew)); exact HO116.out⟩, ⟨by (with_reducible repeat (first | refine blk_drewN ?_ _ | refine blk_drew ?_ | refine blk_alloc ?_ _)); exact BK113.out⟩, ⟨by repeat (first | (with_reducible first | exact HB.out | apply below_alloc | apply pw_below_drewN | apply below_drew1 | refine below_set ?_ GE113.out) | exact HB.out)⟩⟩
      case round =>
        clear H'
        try clear p2
        try clear c3
        try clear c5
        try clear c8
        try clear hcz4_0
        try clear hcz4_1
        try clear hcz8_0
        try clear hcz8_1
        try clear hfz4_0
        try clear hfz4_1
        try clear hfz8_0
        try clear hfz8_1
        try clear p2
        obtain ⟨x4_2, x14_2, rfl, HA, HK2, HO_4, BK113, HB⟩ := hrel
        cases gk with
        | zero => exact absurd HA.out (by simp [daw_key.l0])
        | succ k2 =>
          have H := HA.out
          clear HA
          simp only [daw_key.l0] at H
          by_cases c9 : x14_2 < (l0_1.length : Int)
          · rw [if_pos c9] at H
            have c9b0 : decide (x14_2 < (l0_1.length : Int)) = true := decide_eq_true c9
            clear c9
            by_cases c10 : 0 ≤ x14_2
            · rw [if_pos c10] at H
              have c10b0 : decide (0 ≤ x14_2) = true := decide_eq_true c10
              clear c10
              by_cases c11 : x14_2 < (l0_1.length : Int)
              · rw [if_pos c11] at H
                have c11b0 : decide (x14_2 < (l0_1.length : Int)) = true := decide_eq_true c11
                clear c11
                by_cases c12 : x4_2.length < 140737488355328
                · rw [if_pos c12] at H
                  have LMc12 := Aside0.mk c12
                  clear c12
                  obtain ⟨y119, hy119⟩ : ∃ y_ : List Int, y_ = (x4_2 ++ [(rd_T84 l0_1 x14_2).f0]) := ⟨_, rfl⟩
                  replace H : ((num_Put.f k2 y119 (IntKind.u64.wrap ((rd_T84 l0_1 x14_2).f1))).bind fun t122 => (daw_key.l0 k2 t122 l0_1 (l0_1.length : Int) (wrap64 (x14_2 + 1)))) = some r := by first | (rw [hy119]; with_reducible exact H) | (have H2_ := (Option.bind_some _ _).symm.trans H; rw [hy119]; with_reducible exact H2_) | (have H2_ := (Option.bind_some _ _).symm.trans H; with_reducible exact H2_) | with_reducible exact H | (rw [hy119]; exact H) | exact H
                  have Ny119 := Aside0.mk hy119
                  clear hy119
                  replace H := Option.bind_eq_some_iff.mp H
                  obtain ⟨t122, A130, H⟩ := H
                  replace H : (daw_key.l0 k2 t122 l0_1 (l0_1.length : Int) (wrap64 (x14_2 + 1))) = some r := H
                  have A13 := Aside0.mk A130
                  clear A130
                  have H' := Aside0.mk H
                  clear H
                  have p117 : 0 ≤ (x14_2 : Int) := of_decide_eq_true (by first | (with_reducible assumption) | assumption)
                  have q117 : x14_2 < (l0_1.length : Int) := of_decide_eq_true (by first | (with_reducible assumption) | assumption)
                  obtain ⟨ad117, e117, hx117_0, hx117_1⟩ := at_T84 HR0_1.out x14_2 p117 q117
                  cases e117
                  replace hx117_0 := (HB.out.cell (World.block_lt_of_cell? w _ hx117_0)).trans hx117_0
                  replace hx117_1 := (HB.out.cell (World.block_lt_of_cell? w _ hx117_1)).trans hx117_1
                  replace p117 := eq_true p117
                  replace q117 := eq_true q117
                  try go_wp2_with (first | ((with_reducible refine gate_dst (N := 6) rfl ?_); refine box_event ?hg (N := 6) ?hd (cs := #[.int .u8 0, .int .i64 0]) (t := 84) ?hr ?_; (case hd => rfl); (case hg => rfl); (case hr => first | (go_simp; done) | (go_simp; rfl)); intro gb118 hg w14 hbox hb; have n0_ := Aside0.mk (Kd.R_below (by (with_reducible repeat (first | apply Kd.R_alloc | apply Kd.R_drewN | apply Kd.R_drew)); exact HO_4.out) hb); have n1_ := Aside0.mk (blk_below (g := gb113) (o := .cells #[.bool a0_0, .slice (some ad117) l0_1.length c0_1] 82 (0, 0)) (by (with_reducible repeat (first | refine blk_drewN ?_ _ | refine blk_drew ?_ | refine blk_alloc ?_ _)); exact BK113.out) hb); have n2_ := Aside0.mk (below_step (by repeat (first | (with_reducible first | exact HB.out | apply below_alloc | apply pw_below_drewN | apply below_drew1 | refine below_set ?_ GE113.out) | exact HB.out)) hb); have n3_ := Aside0.mk (hbox); have n4_ := Aside0.mk ((by rw [hg]; exact (below_size (by repeat (first | (with_reducible first | exact HB.out | apply below_alloc | apply pw_below_drewN | apply below_drew1 | refine below_set ?_ GE113.out) | exact HB.out))) : w.heap.size ≤ gb118)); have n5_ := Aside0.mk ((by rw [hg]; exact (below_size (by repeat (first | (with_reducible first | exact HB.out | apply below_alloc | apply pw_below_drewN | apply below_drew1 | refine below_set ?_ GE113.out) | exact HB.out))) : w.heap.size ≤ gb118)); have n6_ := Aside0.mk ((by rw [hg]; exact Nat.ne_of_lt (blk_lt (g := gb113) (o := .cells #[.bool a0_0, .slice (some ad117) l0_1.length c0_1] 82 (0, 0)) (by (with_reducible repeat (first | refine blk_drewN ?_ _ | refine blk_drew ?_ | refine blk_alloc ?_ _)); exact BK113.out)) : gb113 ≠ gb118)); have n7_ := Aside0.mk ((by rw [hg]; exact Nat.ne_of_gt (blk_lt (g := gb113) (o := .cells #[.bool a0_0, .slice (some ad117) l0_1.length c0_1] 82 (0, 0)) (by (with_reducible repeat (first | refine blk_drewN ?_ _ | refine blk_drew ?_ | refine blk_alloc ?_ _)); exact BK113.out)) : gb118 ≠ gb113)); clear HO_4; clear BK113; clear HB; have HO_4 := n0_; have BK113 := n1_; have HB := n2_; have BK118 := n3_; have GW118 := n4_; have GE118 := n5_; have NB113_118 := n6_; have NB118_113 := n7_; clear n0_ n1_ n2_ n3_ n4_ n5_ n6_ n7_; clear hb hbox hg; have hnb15 := NB118_113.out; have hnc15 := NB113_118.out; have hcz16_0 : w14.cell? ⟨gb118, 0, none⟩ = some (.int .u8 0) := (blk_cell BK118.out 0).trans rfl; have hcz16_1 : w14.cell? ⟨gb118, 1, none⟩ = some (.int .i64 0) := (blk_cell BK118.out 1).trans rfl; have hfz16_0 := blk_frozen BK118.out 0; have hfz16_1 := blk_frozen BK118.out 1))
                  have n0_ : Aside0 (Kd.R (Kd.int .u8) 5 ((w14.setCell ⟨gb118, 0, none⟩ (.int .u8 ((rd_T84 l0_1 x14_2).f0))).setCell ⟨gb118, 1, none⟩ (.int .i64 ((rd_T84 l0_1 x14_2).f1))) w.heap.size (fun _ => True) u4 x4_2) := ⟨by (with_reducible repeat (first | apply Kd.R_alloc | apply Kd.R_drewN | apply Kd.R_drew)); exact Kd.R_mono (Kd.R_far (p := ⟨gb118, 1, none⟩) (Kd.R_far (p := ⟨gb118, 0, none⟩) (Kd.R_types HO_4.out BK118.out (by decide)) (fun _ hk => hk.2) (.int .u8 ((rd_T84 l0_1 x14_2).f0))) (fun _ hk => hk.2) (.int .i64 ((rd_T84 l0_1 x14_2).f1))) (fun _ hk => trivial)⟩
                  have n1_ : Aside0 (((w14.setCell ⟨gb118, 0, none⟩ (.int .u8 ((rd_T84 l0_1 x14_2).f0))).setCell ⟨gb118, 1, none⟩ (.int .i64 ((rd_T84 l0_1 x14_2).f1))).heap[gb113]? = some (.cells #[.bool a0_0, .slice (some ad117) l0_1.length c0_1] 82 (0, 0))) := ⟨by (with_reducible repeat (first | refine blk_drewN ?_ _ | refine blk_drew ?_ | refine blk_alloc ?_ _)); refine blk_far ?_ NB113_118.out _; (with_reducible repeat (first | refine blk_drewN ?_ _ | refine blk_drew ?_ | refine blk_alloc ?_ _)); refine blk_far ?_ NB113_118.out _; (with_reducible repeat (first | refine blk_drewN ?_ _ | refine blk_drew ?_ | refine blk_alloc ?_ _)); exact BK113.out⟩
                  have n2_ : Aside0 (((w14.setCell ⟨gb118, 0, none⟩ (.int .u8 ((rd_T84 l0_1 x14_2).f0))).setCell ⟨gb118, 1, none⟩ (.int .i64 ((rd_T84 l0_1 x14_2).f1))).heap[gb118]? = some (.cells #[.int .u8 ((rd_T84 l0_1 x14_2).f0), .int .i64 ((rd_T84 l0_1 x14_2).f1)] 84 (0, 0))) := ⟨by (with_reducible repeat (first | refine blk_drewN ?_ _ | refine blk_drew ?_ | refine blk_alloc ?_ _)); refine blk_put (cs := #[.int .u8 ((rd_T84 l0_1 x14_2).f0), .int .i64 0]) ?_ 1 _ rfl; (with_reducible repeat (first | refine blk_drewN ?_ _ | refine blk_drew ?_ | refine blk_alloc ?_ _)); refine blk_put (cs := #[.int .u8 0, .int .i64 0]) ?_ 0 _ rfl; (with_reducible repeat (first | refine blk_drewN ?_ _ | refine blk_drew ?_ | refine blk_alloc ?_ _)); exact BK118.out⟩
                  have n3_ : Aside0 (Below w.heap.size w ((w14.setCell ⟨gb118, 0, none⟩ (.int .u8 ((rd_T84 l0_1 x14_2).f0))).setCell ⟨gb118, 1, none⟩ (.int .i64 ((rd_T84 l0_1 x14_2).f1)))) := ⟨by repeat (first | (with_reducible first | exact HB.out | apply below_alloc | apply pw_below_drewN | apply below_drew1 | refine below_set ?_ GE113.out | refine below_set ?_ GE118.out) | exact HB.out)⟩
                  (try clear HO_4)
                  (try clear BK113)
                  (try clear BK118)
                  (try clear HB)
                  generalize ((w14.setCell ⟨gb118, 0, none⟩ (.int .u8 ((rd_T84 l0_1 x14_2).f0))).setCell ⟨gb118, 1, none⟩ (.int .i64 ((rd_T84 l0_1 x14_2).f1))) = w17 at n0_ n1_ n2_ n3_ ⊢
                  have HO_4 := n0_
                  have BK113 := n1_
                  have BK118 := n2_
                  have HB := n3_
                  clear n0_ n1_ n2_ n3_
                  have n0_ := Aside0.mk (Kd.R_drew HO_4.out)
                  have n1_ := Aside0.mk (blk_drew BK113.out)
                  have n2_ := Aside0.mk (blk_drew BK118.out)
                  have n3_ := Aside0.mk (below_drew1 HB.out)
                  clear HO_4
                  clear BK113
                  clear BK118
                  clear HB
                  have HO_4 := n0_
                  have BK113 := n1_
                  have BK118 := n2_
                  have HB := n3_
                  clear n0_ n1_ n2_ n3_
                  refine start_ (n := 10) (S := fun w' => w'.cell? ⟨gb118, 0, none⟩ = some (.int .u8 ((rd_T84 l0_1 x14_2).f0)) ∧ w'.cell? ⟨gb118, 1, none⟩ = some (.int .i64 ((rd_T84 l0_1 x14_2).f1))) (ds := []) #[false, false, false, false, false, false, false, false, false, false] (by kernel_rfl) rfl rfl ⟨(blk_cell BK118.out 0).trans rfl, (blk_cell BK118.out 1).trans rfl⟩ (fun hHeld => ?_); refine with_tabW daw_key.tab8 daw_key.bits8 (fun HT_ HW_ => ?_)
                  generalize w17.drew = w18 at HO_4 BK113 BK118 HB hHeld ⊢
                  refine pure_ (i := 0) (N := some 18) (v := ?_) (a' := ?_) #[true, false, false, false, false, false, false, false, false, false] rfl rfl (any_of HT_.out (by kernel_rfl)) (fun _ _ _ h => h) (Or.inl ⟨by rfl, ?_⟩) ?_ ?_
                  rotate_left
                  · intro w'
                    go_simp
                    with_reducible rfl
                  rotate_left
                  · simp only [Act.put, List.setIfInBounds_toArray, List.set_cons_zero, List.set_cons_succ, i64_w, i32_w]
                    rfl
                  refine pure_ (i := 1) (N := some 19) (v := ?_) (a' := ?_) #[true, true, false, false, false, false, false, false, false, false] rfl rfl (any_of HT_.out (by kernel_rfl)) (fun _ _ _ h => h) (Or.inl ⟨by rfl, ?_⟩) ?_ ?_
                  rotate_left
                  · intro w'
                    go_simp
                    with_reducible rfl
                  rotate_left
                  · simp only [Act.put, List.setIfInBounds_toArray, List.set_cons_zero, List.set_cons_succ, i64_w, i32_w]
                    rfl
                  refine pure_ (i := 5) (N := some 23) (v := ?_) (a' := ?_) #[true, true, false, false, false, true, false, false, false, false] rfl rfl (any_of HT_.out (by kernel_rfl)) (fun _ _ _ h => h) (Or.inl ⟨by rfl, ?_⟩) ?_ ?_
                  rotate_left
                  · intro w'
                    go_simp
                    with_reducible rfl
                  rotate_left
                  · simp only [Act.put, List.setIfInBounds_toArray, List.set_cons_zero, List.set_cons_succ, i64_w, i32_w]
                    rfl
                  refine take_ (i := 2) (N := some 20) (v := ?_) (a' := ?_) #[true, true, true, false, false, true, false, false, false, false] rfl rfl (take_ofW HT_.out HW_.out (by kernel_rfl)) (fun _ _ _ h => h) (Or.inl ⟨by rfl, ?_⟩) hHeld ?_ ?_
                  rotate_left
                  · rintro w' ⟨s0, s1⟩
                    go_simp
                    with_reducible rfl
                  rotate_left
                  · simp only [Act.put, List.setIfInBounds_toArray, List.set_cons_zero, List.set_cons_succ, i64_w, i32_w]
                    rfl
                  refine take_ (i := 6) (N := some 24) (v := ?_) (a' := ?_) #[true, true, true, false, false, true, true, false, false, false] rfl rfl (take_ofW HT_.out HW_.out (by kernel_rfl)) (fun _ _ _ h => h) (Or.inl ⟨by rfl, ?_⟩) hHeld ?_ ?_
                  rotate_left
                  · rintro w' ⟨s0, s1⟩
                    go_simp
                    with_reducible rfl
                  rotate_left
                  · simp only [Act.put, List.setIfInBounds_toArray, List.set_cons_zero, List.set_cons_succ, i64_w, i32_w]
                    rfl
                  refine pure_ (i := 7) (N := some 25) (v := ?_) (a' := ?_) #[true, true, true, false, false, true, true, true, false, false] rfl rfl (any_of HT_.out (by kernel_rfl)) (fun _ _ _ h => h) (Or.inl ⟨by rfl, ?_⟩) ?_ ?_
                  rotate_left
                  · intro w'
                    go_simp
                    with_reducible rfl
                  rotate_left
                  · simp only [Act.put, List.setIfInBounds_toArray, List.set_cons_zero, List.set_cons_succ, i64_w, i32_w]
                    rfl
                  refine one_ (i := 3) (N := some 21) #[true, true, true, true, false, true, true, true, false, false] rfl rfl (one_of HT_.out (by kernel_rfl)) (by decide) (fun K hK => ?_)
                  refine value_ (w1 := ?_) (v := ?_) (by rfl) rfl ?_ ?_
                  rotate_left 2
                  · go_simp
                    constructor
                    · rfl
                    · rfl
                  refine hK.out _ _ ⟨(blk_cell (blk_alloc BK118.out _) 0).trans rfl, (blk_cell (blk_alloc BK118.out _) 1).trans rfl⟩ (fun hHeld => ?_)
                  clear hK K
                  refine norm_ (a' := ?_) ?_ ?_
                  rotate_left
                  · show Act.put _ (some 21) _ = _
                    simp only [Act.put, List.setIfInBounds_toArray, List.set_cons_zero, List.set_cons_succ, i64_w, i32_w]
                    rfl
                  refine one_ (i := 4) (N := some 22) #[true, true, true, true, true, true, true, true, false, false] rfl rfl (one_of HT_.out (by kernel_rfl)) (by decide) (fun K hK => ?_)
                  refine Kd.R_append_step (Kd.int .u8) (w0 := w) w.heap.size (by rfl) (.tmp 18) (.tmp 21) 36 5 (.int .u8 0) 1 rfl Try.underlying36 info5 rfl (by decide) (by omega) u4 x4_2 ((rd_T84 l0_1 x14_2).f0) [.int .u8 ((rd_T84 l0_1 x14_2).f0)] (fun _ => True) (fun _ => False) rfl rfl ?aP (fun _ hk => hk.elim) ?aF ?aO ?aB ?aS ?aL ?_
                  (case aP => exact rfl)
                  (case aB => exact (by repeat (first | (with_reducible first | exact HB.out | apply below_alloc | apply pw_below_drewN | apply below_drew1 | refine below_set ?_ GE113.out | refine below_set ?_ GE118.out) | exact HB.out)))
                  (case aF => exact (fun _ _ => trivial))
                  (case aO => exact (by (with_reducible repeat (first | apply Kd.R_alloc | apply Kd.R_drewN | apply Kd.R_drew)); exact HO_4.out))
                  (case aS => exact (below_size (by repeat (first | (with_reducible first | exact HB.out | apply below_alloc | apply pw_below_drewN | apply below_drew1 | refine below_set ?_ GE113.out | refine below_set ?_ GE118.out) | exact HB.out))))
                  (case aL => have := LMc12.out; omega)
                  intro v120 w19 ho hb hg hat
                  rw [← Ny119.out] at ho
                  have n0_ := Aside0.mk (blk_grown (g := gb113) (o := .cells #[.bool a0_0, .slice (some ad117) l0_1.length c0_1] 82 (0, 0)) (by (with_reducible repeat (first | refine blk_drewN ?_ _ | refine blk_drew ?_ | refine blk_alloc ?_ _)); exact BK113.out) hg (Kd.R_ne HO_4.out BK113.out (by decide)))
                  have n1_ := Aside0.mk (blk_grown (g := gb118) (o := .cells #[.int .u8 ((rd_T84 l0_1 x14_2).f0), .int .i64 ((rd_T84 l0_1 x14_2).f1)] 84 (0, 0)) (by (with_reducible repeat (first | refine blk_drewN ?_ _ | refine blk_drew ?_ | refine blk_alloc ?_ _)); exact BK118.out) hg (Kd.R_ne HO_4.out BK118.out (by decide)))
                  have n2_ := Aside0.mk (hb)
                  have n3_ := Aside0.mk (ho)
                  clear BK113
                  clear BK118
                  clear HB
                  clear HO_4
                  have BK113 := n0_
                  have BK118 := n1_
                  have HB := n2_
                  have HO121 := n3_
                  clear n0_ n1_ n2_ n3_
                  clear ho hb hg hat
                  obtain ⟨Ao20, co20, eo20⟩ := Kd.R_slice HO121.out
                  (first | subst eo20 | (injection eo20 with f1_ f2_ f3_; have f4_ := f1_.symm; have f5_ := f3_.symm; clear f1_ f2_ f3_; subst f4_; subst f5_))
                  refine hK.out _ _ ⟨(blk_cell BK118.out 0).trans rfl, (blk_cell BK118.out 1).trans rfl⟩ (fun hHeld => ?_)
                  clear hK K
                  refine norm_ (a' := ?_) ?_ ?_
                  rotate_left
                  · show Act.put _ (some 22) _ = _
                    simp only [Act.put, List.setIfInBounds_toArray, List.set_cons_zero, List.set_cons_succ, i64_w, i32_w]
                    rfl
                  refine one_ (i := 8) (N := some 26) #[true, true, true, true, true, true, true, true, true, false] rfl rfl (one_of HT_.out (by kernel_rfl)) (by decide) (fun K hK => ?_)
                  refine goes_ Try.func37 (by kernel_rfl) rfl #[.slice Ao20 y119.length co20, .int .u64 (IntKind.u64.wrap ((rd_T84 l0_1 x14_2).f1))] (by rfl) rfl rfl (by (try simp only [List.map_toArray, List.map_cons, List.map_nil]); first | done | rfl | (simp only [List.length_drop, List.length_take]; rfl)) ?_
                  with_reducible refine (num_Put.calls k2 _ _ y119 (IntKind.u64.wrap ((rd_T84 l0_1 x14_2).f1)) t122 _ ?side1 ?side2 A13.out).mono ?_
                  (case side1 => repeat (first | exact (Kd.R_reads' HO121.out).2.2 | (with_reducible refine Kd.C_alloc ?_ _) | (with_reducible refine Kd.C_drewN ?_ _) | (with_reducible refine Kd.C_drew ?_)))
                  (case side2 => exact (Kd.R_reads' HO121.out).2.1)
                  rintro e w21 ⟨v123, rfl, ho0, hb⟩
                  refine ⟨_, rfl, ?_⟩
                  have n0_ := Aside0.mk (Kd.R_elder' (by (with_reducible repeat (first | apply Kd.R_alloc | apply Kd.R_drewN | apply Kd.R_drew)); exact HO121.out) (Kd.R_base ho0) hb)
                  have n1_ := Aside0.mk (Kd.R_lower (Kd.R_new' ho0 (Kd.R_lt (by (with_reducible repeat (first | apply Kd.R_alloc | apply Kd.R_drewN | apply Kd.R_drew)); exact HO121.out))) (below_size (by repeat (first | (with_reducible first | exact HB.out | apply below_alloc | apply pw_below_drewN | apply below_drew1 | refine below_set ?_ GE113.out | refine below_set ?_ GE118.out) | exact HB.out))))
                  have n2_ := Aside0.mk (blk_below (g := gb113) (o := .cells #[.bool a0_0, .slice (some ad117) l0_1.length c0_1] 82 (0, 0)) (by (with_reducible repeat (first | refine blk_drewN ?_ _ | refine blk_drew ?_ | refine blk_alloc ?_ _)); exact BK113.out) hb)
                  have n3_ := Aside0.mk (blk_below (g := gb118) (o := .cells #[.int .u8 ((rd_T84 l0_1 x14_2).f0), .int .i64 ((rd_T84 l0_1 x14_2).f1)] 84 (0, 0)) (by (with_reducible repeat (first | refine blk_drewN ?_ _ | refine blk_drew ?_ | refine blk_alloc ?_ _)); exact BK118.out) hb)
                  have n4_ := Aside0.mk (below_step (by repeat (first | (with_reducible first | exact HB.out | apply below_alloc | apply pw_below_drewN | apply below_drew1 | refine below_set ?_ GE113.out | refine below_set ?_ GE118.out) | exact HB.out)) hb)
                  clear HO121
                  clear BK113
                  clear BK118
                  clear HB
                  have HO121 := n0_
                  have HO124 := n1_
                  have BK113 := n2_
                  have BK118 := n3_
                  have HB := n4_
                  clear n0_ n1_ n2_ n3_ n4_
                  (try clear hb)
                  (try clear hb2)
                  (try clear hk)
                  (try clear hi)
                  (try clear ho0)
                  refine hK.out _ _ ⟨(blk_cell BK118.out 0).trans rfl, (blk_cell BK118.out 1).trans rfl⟩ (fun hHeld => ?_)
                  clear hK K
                  refine norm_ (a' := ?_) ?_ ?_
                  rotate_left
                  · show Act.put _ (some 26) _ = _
                    simp only [Act.put, List.setIfInBounds_toArray, List.set_cons_zero, List.set_cons_succ, i64_w, i32_w]
                    rfl
                  refine pure_ (i := 9) (N := some 4) (v := ?_) (a' := ?_) #[true, true, true, true, true, true, true, true, true, true] rfl rfl (any_of HT_.out (by kernel_rfl)) (fun _ _ _ h => h) (Or.inl ⟨by rfl, ?_⟩) ?_ ?_
                  rotate_left
                  · intro w'
                    go_simp
                    with_reducible rfl
                  rotate_left
                  · simp only [Act.put, List.setIfInBounds_toArray, List.set_cons_zero, List.set_cons_succ, i64_w, i32_w]
                    rfl
                  refine done_ (done_of HT_.out (by kernel_rfl)) ?_
                  try go_wp2
                  go_roundg k2
                  case measure => have := HJ1.out; have := HK2.out; omega
                  case rel => exact ⟨(t122), (wrap64 (x14_2 + 1)), (by first | rfl | (simp; done) | (simp [*]; done)), H', ⟨by have := HJ1.out; have := HK2.out; omega⟩, ⟨by (with_reducible repeat (first | apply Kd.R_alloc | apply Kd.R_drewN | apply Kd.R_drew)); exact Kd.R_mono HO124.out (fun _ hk => trivial)⟩, ⟨by (with_reducible repeat (first | refine blk_drewN ?_ _ | refine blk_drew ?_ | refine blk_alloc ?_ _)); exact BK113.out⟩, ⟨by repeat (first | (with_reducible first | exact HB.out | apply below_alloc | apply pw_below_drewN | apply below_drew1 | refine below_set ?_ GE113.out | refine below_set ?_ GE118.out) | exact HB.out)⟩⟩
                · rw [if_neg c12] at H
                  exact absurd H (by simp)
              · rw [if_neg c11] at H
                exact absurd H (by simp)
            · rw [if_neg c10] at H
              exact absurd H (by simp)
          · rw [if_neg c9] at H
            have c9b0 : decide (x14_2 < (l0_1.length : Int)) = false := decide_eq_false c9
            clear c9
            obtain rfl := Option.some.inj H
            obtain ⟨hcv22, hcvn⟩ := own_string2 (P := Try.prog) Try.underlying36 Try.underlying5 Try.underlying9 HO_4.out
            go_wp2
            go_ret
            exact ⟨by first | rfl | (simp [errW_none, errW_some] <;> rfl) | (simp [*, errW_none, errW_some] <;> rfl), by repeat (first | (with_reducible first | exact HB.out | apply below_alloc | apply pw_below_drewN | apply below_drew1 | refine below_set ?_ GE113.out) | exact HB.out)⟩

def slices_Index_string_string.l0 : Nat → List ByteArray → ByteArray → Int → Int → Option (Int)
  | 0, _, _, _, _ => none
  | k + 1, x0, x1, x7, x8 => if x8 < x7 then (if 0 ≤ x8 then (if x8 < (x0.length : Int) then (if x1.toList = (rdOf ByteArray.empty x0 x8).toList then (some x8) else (slices_Index_string_string.l0 k x0 x1 x7 (wrap64 (x8 + 1)))) else (none)) else (none)) else (some (-1))
def slices_Index_string_string.f (k : Nat) (l0 : List ByteArray) (a1 : ByteArray) : Option (Int) := slices_Index_string_string.l0 k l0 a1 (l0.length : Int) 0
set_option maxHeartbeats 8000000 in
set_option maxRecDepth 100000 in
theorem slices_Index_string_string.calls (k : Nat) (A0 : Option Addr) (c0 : Nat) (l0 : List ByteArray) (a1 : ByteArray) (r : Int) (w : World) (hr0 : Kd.C Kd.string w A0 l0.length l0) (hc0 : l0.length ≤ c0) (h : slices_Index_string_string.f k l0 a1 = some r) :
    Calls Try.prog 84 #[.slice A0 l0.length c0, .string a1] w fun e w' => e = .returned (.int .i64 r) ∧ Drawn0 w w' := by
  have HR0 := Aside0.mk hr0
  have HC0 := Aside0.mk hc0
  clear hr0 hc0
  have H : (slices_Index_string_string.l0 k l0 a1 (l0.length : Int) 0) = some r := h
  clear h
  have H' := Aside0.mk H
  clear H
  go_enter Try.func84, Try.ntmps84
  go_wp2
  go_loopg [8] k (fun kq v8 w' => ∃ (x8_1 : Int), v8 = .int .i64 x8_1 ∧ Aside0 (slices_Index_string_string.l0 kq l0 a1 (l0.length : Int) x8_1 = some r) ∧ Aside0 (kq ≤ k) ∧ Drawn0 w w')
  case atStart => exact ⟨(0), (by first | rfl | (simp; done) | (simp [*]; done)), H', ⟨Nat.le_refl _⟩, by repeat (first | exact Drawn0.refl _ | apply Drawn0.step)⟩
  case round =>
    clear H'
    try clear p2
    obtain ⟨x8_1, rfl, HA, HK1, ⟨m1, rfl⟩⟩ := hrel
    cases gk with
    | zero => exact absurd HA.out (by simp [slices_Index_string_string.l0])
    | succ k1 =>
      have H := HA.out
      clear HA
      simp only [slices_Index_string_string.l0] at H
      by_cases c3 : x8_1 < (l0.length : Int)
      · rw [if_pos c3] at H
        have c3b0 : decide (x8_1 < (l0.length : Int)) = true := decide_eq_true c3
        clear c3
        by_cases c4 : 0 ≤ x8_1
        · rw [if_pos c4] at H
          have c4b0 : decide (0 ≤ x8_1) = true := decide_eq_true c4
          clear c4
          by_cases c5 : x8_1 < (l0.length : Int)
          · rw [if_pos c5] at H
            have c5b0 : decide (x8_1 < (l0.length : Int)) = true := decide_eq_true c5
            clear c5
            by_cases c6 : a1.toList = (rdOf ByteArray.empty l0 x8_1).toList
            · rw [if_pos c6] at H
              have c6b0 : (a1.toList == (rdOf ByteArray.empty l0 x8_1).toList) = true := beq_iff_eq.mpr c6
              have c6b1 : (a1.toList != (rdOf ByteArray.empty l0 x8_1).toList) = false := bne_eq_false_iff_eq.mpr c6
              clear c6
              obtain rfl := Option.some.inj H
              have p125 : 0 ≤ (x8_1 : Int) := of_decide_eq_true (by first | (with_reducible assumption) | assumption)
              have q125 : x8_1 < (l0.length : Int) := of_decide_eq_true (by first | (with_reducible assumption) | assumption)
              obtain ⟨ad125, e125, hx125_0⟩ := Kd.at_string HR0.out x8_1 p125 q125
              cases e125
              replace p125 := eq_true p125
              replace q125 := eq_true q125
              go_wp2
              go_ret
              exact ⟨by first | rfl | (simp; done) | (simp [*]; done), by repeat (first | exact Drawn0.refl _ | apply Drawn0.step)⟩
            · rw [if_neg c6] at H
              have c6b0 : (a1.toList == (rdOf ByteArray.empty l0 x8_1).toList) = false := beq_eq_false_iff_ne.mpr c6
              have c6b1 : (a1.toList != (rdOf ByteArray.empty l0 x8_1).toList) = true := bne_iff_ne.mpr c6
              have H' := Aside0.mk H
              clear H
              have p125 : 0 ≤ (x8_1 : Int) := of_decide_eq_true (by first | (with_reducible assumption) | assumption)
              have q125 : x8_1 < (l0.length : Int) := of_decide_eq_true (by first | (with_reducible assumption) | assumption)
              obtain ⟨ad125, e125, hx125_0⟩ := Kd.at_string HR0.out x8_1 p125 q125
              cases e125
              replace p125 := eq_true p125
              replace q125 := eq_true q125
              go_wp2
              go_roundg k1
              case measure => have := HK1.out; omega
              case rel => exact ⟨(wrap64 (x8_1 + 1)), (by first | rfl | (simp; done) | (simp [*]; done)), H', ⟨by have := HK1.out; omega⟩, by repeat (first | exact Drawn0.refl _ | apply Drawn0.step)⟩
          · rw [if_neg c5] at H
            exact absurd H (by simp)
        · rw [if_neg c4] at H
          exact absurd H (by simp)
      · rw [if_neg c3] at H
        have c3b0 : decide (x8_1 < (l0.length : Int)) = false := decide_eq_false c3
        clear c3
        obtain rfl := Option.some.inj H
        go_wp2
        go_ret
        exact ⟨by first | rfl | (simp; done) | (simp [*]; done), by repeat (first | exact Drawn0.refl _ | apply Drawn0.step)⟩

def slices_Contains_string_string.f (k : Nat) (l0 : List ByteArray) (a1 : ByteArray) : Option (Bool) := (slices_Index_string_string.f k l0 a1).bind fun t126 => (some (decide (t126 ≥ 0)))
set_option maxHeartbeats 8000000 in
set_option maxRecDepth 100000 in
theorem slices_Contains_string_string.calls (k : Nat) (A0 : Option Addr) (c0 : Nat) (l0 : List ByteArray) (a1 : ByteArray) (r : Bool) (w : World) (hr0 : Kd.C Kd.string w A0 l0.length l0) (hc0 : l0.length ≤ c0) (h : slices_Contains_string_string.f k l0 a1 = some r) :
    Calls Try.prog 58 #[.slice A0 l0.length c0, .string a1] w fun e w' => e = .returned (.bool r) ∧ Drawn0 w w' := by
  have HR0 := Aside0.mk hr0
  have HC0 := Aside0.mk hc0
  clear hr0 hc0
  have H : ((slices_Index_string_string.f k l0 a1).bind fun t126 => (some (decide (t126 ≥ 0)))) = some r := h
  clear h
  replace H := Option.bind_eq_some_iff.mp H
  obtain ⟨t126, A30, H⟩ := H
  replace H : (some (decide (t126 ≥ 0))) = some r := H
  have A3 := Aside0.mk A30
  clear A30
  obtain rfl := Option.some.inj H
  go_enter Try.func58, Try.ntmps58
  go_wp2_with (first | ((with_reducible refine gate_callee (f := 84) rfl ?_); refine goesL_ (some 7) rfl rfl Try.func84 (by kernel_rfl) rfl #[.slice A0 l0.length c0, .string a1] rfl (by (try simp only [List.map_toArray, List.map_cons, List.map_nil]); first | done | rfl | (simp only [List.length_drop, List.length_take]; rfl)) ?_; (with_reducible refine (slices_Index_string_string.calls k _ _ l0 a1 t126 _ ?side1 ?side2 A3.out).mono ?_); (case side1 => repeat (first | exact HR0.out | (with_reducible refine Kd.C_alloc ?_ _) | (with_reducible refine Kd.C_drewN ?_ _) | (with_reducible refine Kd.C_drew ?_))); (case side2 => exact HC0.out); rintro e w' ⟨rfl, ⟨nd, rfl⟩⟩; refine ⟨_, rfl, ?_⟩))
  go_ret
  exact ⟨by first | rfl | (simp; done) | (simp [*]; done), by repeat (first | exact Drawn0.refl _ | apply Drawn0.step)⟩

end Go.Proofs.Ytgebhidpkcjpmaa.PDk

namespace Go.Proofs.Ytgebhidpkcjpmaa.PDk
open Go.RowKit Go.Proofs.YtgebhidpkcjpmaaW.PrintWords Go.Proofs.YtgebhidpkcjpmaaW.PrintLast Go.Proofs.YtgebhidpkcjpmaaW.PrintMore Go.Proofs.Ytgebhidpkcjpmaa.K
attribute [local go_sem] max2_int min2_int max_two min_two max_three min_three max_four min_four   -- for this text's walks alone
set_option linter.unusedVariables false
set_option linter.unusedSimpArgs false

attribute [local go_sem high] eqA84
mutual
def manteletref14_Same.l0 : Nat → List (S82) → List (S82) → Int → Option (Bool)
  | 0, _, _, _ => none
  | k + 1, x0, x1, x5 => if x5 < (x0.length : Int) then (if 0 ≤ x5 then (if x5 < (x1.length : Int) then (if (((rd_T82 x0 x5).f0) != ((rd_T82 x1 x5).f0)) = true then (manteletref14_Same.j1 k x0 x1 x5 true) else (manteletref14_Same.j1 k x0 x1 x5 ((((rd_T82 x0 x5).f1).length : Int) != (((rd_T82 x1 x5).f1).length : Int)))) else (none)) else (none)) else (some true)
def manteletref14_Same.j1 : Nat → List (S82) → List (S82) → Int → Bool → Option (Bool)
  | 0, _, _, _, _ => none
  | k + 1, x0, x1, x5, x43 => if x43 = true then (some false) else (manteletref14_Same.l1 k x0 x1 x5 0)
def manteletref14_Same.l1 : Nat → List (S82) → List (S82) → Int → Int → Option (Bool)
  | 0, _, _, _, _ => none
  | k + 1, x0, x1, x5, x6 => if 0 ≤ x5 then (if x5 < (x0.length : Int) then (if x6 < (((rd_T82 x0 x5).f1).length : Int) then (if 0 ≤ x6 then (if x5 < (x1.length : Int) then (if x6 < (((rd_T82 x1 x5).f1).length : Int) then (if (!(((rd_T84 ((rd_T82 x0 x5).f1) x6).f0) == ((rd_T84 ((rd_T82 x1 x5).f1) x6).f0)) || (!(((rd_T84 ((rd_T82 x0 x5).f1) x6).f1) == ((rd_T84 ((rd_T82 x1 x5).f1) x6).f1)))) = true then (some false) else (manteletref14_Same.l1 k x0 x1 x5 (wrap64 (x6 + 1)))) else (none)) else (none)) else (none)) else (manteletref14_Same.l0 k x0 x1 (wrap64 (x5 + 1)))) else (none)) else (none)
end
def manteletref14_Same.f (k : Nat) (l0 : List (S82)) (l1 : List (S82)) : Option (Bool) := if (l0.length : Int) = (l1.length : Int) then (manteletref14_Same.l0 k l0 l1 0) else (some false)
end Go.Proofs.Ytgebhidpkcjpmaa.PDk

namespace Go.Proofs.Ytgebhidpkcjpmaa.PDk
open Go.RowKit Go.Proofs.YtgebhidpkcjpmaaW.PrintWords Go.Proofs.YtgebhidpkcjpmaaW.PrintLast Go.Proofs.YtgebhidpkcjpmaaW.PrintMore Go.Proofs.Ytgebhidpkcjpmaa.K
attribute [local go_sem] max2_int min2_int max_two min_two max_three min_three max_four min_four   -- for this text's walks alone
set_option linter.unusedVariables false
set_option linter.unusedSimpArgs false

end Go.Proofs.Ytgebhidpkcjpmaa.PDk

namespace Go.Proofs.Ytgebhidpkcjpmaa.K
open Go.RowKit Go.Proofs.YtgebhidpkcjpmaaW.PrintWords Go.Proofs.YtgebhidpkcjpmaaW.PrintLast Go.Proofs.YtgebhidpkcjpmaaW.PrintMore Go.Proofs.Ytgebhidpkcjpmaa
attribute [local go_sem] max2_int min2_int max_two min_two max_three min_three max_four min_four
set_option linter.unusedVariables false
set_option linter.unusedSimpArgs false
open Go.Proofs.Ytgebhidpkcjpmaa.PDk Go.Proofs.Ytgebhidpkcjpmaa.Daw
def toE (e : DE) : S84 := ⟨(e.1 : Int), (e.2 : Int)⟩
def toS (s : DS) : S82 := ⟨s.1, s.2.map toE⟩
def OkE (e : DE) : Prop := e.1 < 256 ∧ e.2 < 4398046511104
def OkS (s : DS) : Prop := ∀ e ∈ s.2, OkE e
set_option maxRecDepth 100000 in
theorem or128 : ∀ m : Fin 256, Go.bits .or .u8 (m.val : Int) 128 = ((m.val % 128 + 128 : Nat) : Int) := by decide
theorem pow7 (k : Nat) : 2 ^ (7 * (k + 1)) = 2 ^ (7 * k) * 128 := by rw [show 7 * (k + 1) = 7 * k + 7 from by omega, Nat.pow_add]
theorem put_step (k n : Nat) (x : List Int) (hx : x.length < 140737488355328) : num_Put.l0 (k + 1) (n : Int) x = if n < 128 then some (x ++ (put n).map Int.ofNat) else num_Put.l0 k ((n / 128 : Nat) : Int) (x ++ [((n % 128 + 128 : Nat) : Int)]) := by
  conv => lhs; unfold num_Put.l0
  by_cases h1 : n < 128
  · rw [if_neg (by omega), if_pos (by omega), if_pos h1, put_low h1]
    have e : (n : Int) % 256 = n := by omega
    rw [e]; rfl
  · rw [if_pos (by omega), if_pos (by omega), if_neg h1]
    have e1 : (n : Int) / 128 = ((n / 128 : Nat) : Int) := by omega
    have e2 : (n : Int) % 256 = ((⟨n % 256, by omega⟩ : Fin 256).val : Int) := by simp
    rw [e1, e2, or128]
    have e3 : n % 256 % 128 + 128 = n % 128 + 128 := by omega
    simp only [e3]
theorem put_l0 : ∀ (k n : Nat) (x : List Int), n < 2 ^ (7 * (k + 1)) → x.length + k < 140737488355328 → num_Put.l0 (k + 1) (n : Int) x = some (x ++ (put n).map Int.ofNat)
  | 0, n, x, h, hx => by
    rw [put_step 0 n x (by omega), if_pos (by simpa using h)]
  | k + 1, n, x, h, hx => by
    rw [put_step (k + 1) n x (by omega)]
    by_cases h1 : n < 128
    · rw [if_pos h1]
    · rw [if_neg h1, put_l0 k (n / 128) _ (by rw [Nat.div_lt_iff_lt_mul (by decide)]; rw [pow7] at h; omega) (by simp; omega), put_high h1]
      simp
theorem put_len : ∀ (k n : Nat), n < 2 ^ (7 * k) → (put n).length ≤ k + 1
  | 0, n, h => by
    have : n = 0 := by simpa using h
    subst this; rw [put_low (by decide)]; decide
  | k + 1, n, h => by
    by_cases h1 : n < 128
    · rw [put_low h1]; simp
    · rw [put_high h1]
      have := put_len k (n / 128) (by
        rw [Nat.div_lt_iff_lt_mul (by decide)]; rw [pow7] at h; omega)
      simpa using this
theorem Put_eq (k n : Nat) (hk : 7 ≤ k) (hn : n < 2 ^ 42) (x : List Int) (hx : x.length + k < 140737488355328) : num_Put.f k x (n : Int) = some (x ++ (put n).map Int.ofNat) := by
  unfold num_Put.f
  simp only [Option.bind_some, List.length_nil, Nat.zero_add, List.nil_append]
  obtain ⟨m, rfl⟩ : ∃ m, k = m + 1 := ⟨k - 1, by omega⟩
  rw [if_pos (by omega), put_l0 m n x (Nat.lt_of_lt_of_le hn (Nat.pow_le_pow_right (by decide) (by omega))) (by omega)]
def keyZ (s : DS) : List Int := (keyL s).map Int.ofNat
def keyB (s : DS) : ByteArray := strOfNums (keyZ s)
theorem put_lt (n : Nat) : ∀ x ∈ put n, x < 256 := by
  induction n using Nat.strongRecOn with
  | _ n ih =>
    intro x hx
    by_cases h : n < 128
    · rw [put_low h] at hx; simp at hx; omega
    · rw [put_high h] at hx
      rcases List.mem_cons.1 hx with rfl | hx
      · omega
      · exact ih (n / 128) (by omega) x hx
theorem keyL_lt {s : DS} (h : OkS s) : ∀ x ∈ keyL s, x < 256 := by
  intro x hx
  unfold keyL keyE at hx
  rcases List.mem_append.1 hx with hx | hx
  · exact put_lt _ x hx
  · obtain ⟨e, he, hx⟩ := List.mem_flatMap.1 hx
    rcases List.mem_cons.1 hx with rfl | hx
    · exact (h e he).1
    · exact put_lt _ x hx
theorem keyB_inj {s t : DS} (hs : OkS s) (ht : OkS t) (h : (keyB s).data.toList = (keyB t).data.toList) : s = t := by
  apply keyL_inj
  have e : ∀ s, OkS s → (keyB s).data.toList.map (fun b => b.toNat) = keyL s := by
    intro s hs
    unfold keyB
    rw [strOfNums_data, List.map_map]
    unfold keyZ
    rw [List.map_map]
    refine (List.map_congr_left (fun x hx => ?_)).trans (List.map_id _)
    have := keyL_lt hs x hx
    simp [Function.comp]
    omega
  rw [← e s hs, ← e t ht, h]
theorem keyE_len : ∀ (es : List DE), (∀ e ∈ es, OkE e) → (keyE es).length ≤ 8 * es.length
  | [], _ => by simp [keyE]
  | e :: es, h => by
    have h1 := put_len 6 e.2 (Nat.lt_of_lt_of_le (h e (by simp)).2 (by decide))
    have h2 := keyE_len es (fun f hf => h f (by simp [hf]))
    have : keyE (e :: es) = e.1 :: put e.2 ++ keyE es := by simp [keyE]
    rw [this]
    simp
    omega
theorem key_l0 (es : List DE) (hes : ∀ e ∈ es, OkE e) (hl : es.length ≤ 8796093022208) : ∀ (m i : Nat) (k : Nat) (x : List Int), i + m = es.length → m + 8 ≤ k → k < 20000000000000 → x.length ≤ 8 * i + 2 →
    daw_key.l0 k x (es.map toE) (es.length : Int) (i : Int) = some (strOfNums (x ++ (keyE (es.drop i)).map Int.ofNat))
  | 0, i, k + 1, x, hm, hk, hk2, hx => by
    unfold daw_key.l0
    rw [if_neg (by omega), List.drop_eq_nil_of_le (by omega)]
    simp [keyE]
  | m + 1, i, k + 1, x, hm, hk, hk2, hx => by
    unfold daw_key.l0
    have hi : i < es.length := by omega
    have hd : es.drop i = es[i] :: es.drop (i + 1) := List.drop_eq_getElem_cons hi
    have hr : rd_T84 (es.map toE) (i : Int) = toE es[i] := by
      unfold rd_T84
      rw [Int.toNat_natCast, List.getD_eq_getElem?_getD, List.getElem?_map, List.getElem?_eq_getElem hi]; rfl
    have ho := hes es[i] (List.getElem_mem hi)
    rw [if_pos (by omega), if_pos (by omega), if_pos (by simp; omega), if_pos (by omega), hr]
    have hw : IntKind.u64.wrap ((toE es[i]).f1) = ((es[i].2 : Nat) : Int) := by
      have := ho.2
      simp [toE, IntKind.wrap, IntKind.bits, IntKind.signed]
      omega
    rw [hw, Put_eq k es[i].2 (by omega) (Nat.lt_of_lt_of_le ho.2 (by decide)) _ (by simp; omega)]
    simp only [Option.bind_some]
    have hw2 : Go.RowKit.wrap64 ((i : Int) + 1) = ((i + 1 : Nat) : Int) := by
      unfold Go.RowKit.wrap64; omega
    have hp := put_len 6 es[i].2 (Nat.lt_of_lt_of_le ho.2 (by decide))
    rw [hw2, key_l0 es hes hl m (i + 1) k _ (by omega) (by omega) (by omega) (by simp; omega), hd]
    have hk3 : keyE (es[i] :: es.drop (i + 1)) = es[i].1 :: put es[i].2 ++ keyE (es.drop (i + 1)) := by unfold keyE; rw [List.flatMap_cons]
    rw [hk3]
    simp only [toE, List.map_append, List.map_cons, List.append_assoc, List.cons_append, List.nil_append]
    rfl
theorem key_eq (s : DS) (hs : OkS s) (hl : s.2.length ≤ 8796093022208) (k : Nat) (hk : s.2.length + 9 ≤ k) (hk2 : k < 20000000000000) : daw_key.f k (toS s).f0 (toS s).f1 = some (keyB s) := by
  have hj : ∀ b : Nat, b ≤ 1 → daw_key.j0 k (b : Int) (toS s).f0 (toS s).f1 = some (strOfNums ((put b).map Int.ofNat ++ (keyE s.2).map Int.ofNat)) := by
    intro b hb
    cases k with
    | zero => omega
    | succ k =>
      simp only [daw_key.j0]
      rw [Put_eq k b (by omega) (by omega) [] (by simp; omega)]
      simp only [Option.bind_some, List.nil_append]
      have h2 := key_l0 s.2 hs hl s.2.length 0 k ((put b).map Int.ofNat) (by omega) (by omega) (by omega) (by rw [put_low (by omega)]; simp)
      have : ((toS s).f1.length : Int) = (s.2.length : Int) := by simp [toS]
      rw [this]
      simpa [toS] using h2
  unfold daw_key.f keyB keyZ keyL
  have h0 := hj 0 (by omega)
  have h1 := hj 1 (by omega)
  have e : (toS s).f0 = s.1 := rfl
  cases hb : s.1 with
  | true => rw [e, hb] at h1 ⊢; rw [if_pos rfl]; simp only [if_true, List.map_append]; exact_mod_cast h1
  | false => rw [e, hb] at h0 ⊢; rw [if_neg (by decide)]; simp only [Bool.false_eq_true, if_false, List.map_append]; exact_mod_cast h0
open Go.Maps
def kl (s : DS) : Lit := .string (keyB s).data.toList
theorem isKey (s : DS) : WideAt.IsKeyLit (kl s) := trivial
/-- The map holds each left state's number at its key, and no other key of a state. -/
def Link (D : DataW Unit) (left : List DS) : Prop :=
  IsMap D ∧ (∀ s, OkS s → has D (kl s) = decide (s ∈ left)) ∧ ∀ s, OkS s → s ∈ left → D.atKey (kl s) (.lit (.int .i64 0)) = .lit (.int .i64 (left.idxOf s : Nat))
theorem link_empty : Link (.map [] : DataW Unit) [] := ⟨⟨[], rfl⟩, fun s _ => by simp [has_eq], fun s _ h => by simp at h⟩
theorem kl_ne {s t : DS} (hs : OkS s) (ht : OkS t) (h : s ≠ t) : kl s ≠ kl t := fun e => h (keyB_inj hs ht (by injection e))
theorem link_put {D : DataW Unit} {left : List DS} {s : DS} (h : Link D left) (hs : OkS s) (hn : s ∉ left) : Link (D.put (kl s) (.lit (.int .i64 (left.length : Nat)))) (left ++ [s]) := by
  refine ⟨h.1.put _ _, fun t ht => ?_, fun t ht hm => ?_⟩
  · by_cases e : t = s
    · subst e; rw [has_put_same h.1 (isKey _)]; simp
    · rw [has_put_other (kl_ne ht hs e), h.2.1 t ht]; simp [e]
  · by_cases e : t = s
    · subst e
      rw [atKey_put_same h.1 (isKey _)]
      have : (left ++ [t]).idxOf t = left.length := by
        rw [List.idxOf_append, if_neg hn]; simp
      rw [this]
    · have hm2 : t ∈ left := by simpa [e] using hm
      rw [atKey_put_other (kl_ne ht hs e), h.2.2 t ht hm2, List.idxOf_append, if_pos hm2]
end Go.Proofs.Ytgebhidpkcjpmaa.K

namespace Go.Proofs.Ytgebhidpkcjpmaa.K
open Go.RowKit Go.Proofs.YtgebhidpkcjpmaaW.PrintWords Go.Proofs.YtgebhidpkcjpmaaW.PrintLast Go.Proofs.YtgebhidpkcjpmaaW.PrintMore Go.Proofs.Ytgebhidpkcjpmaa
attribute [local go_sem] max2_int min2_int max_two min_two max_three min_three max_four min_four
set_option linter.unusedVariables false
set_option linter.unusedSimpArgs false
section
variable {P : Program} {src dst e : TypeId}
theorem C_string2 (hs : P.underlying src = some (.slice e)) (he : P.underlying e = some (.int .u8)) (hd : P.underlying dst = some .string) {A : Option Addr} {c : Nat} {l : List Int} {w : World}
    (h : Kd.C (Kd.int .u8) w A l.length l) : (convert src dst (.slice A l.length c)).run P w = .ok (.string (strOfNums l)) w ∧ ∀ n, (convert src dst (.slice A l.length c)).run P (w.drewN n) = .ok (.string (strOfNums l)) (w.drewN n) :=
  ⟨Kd.C_string hs he hd h, fun n => Kd.C_string hs he hd (Kd.C_drewN h n)⟩
end
section
variable {α : Type} {d : Kd α} {e base t : Nat} {ok : Nat → Prop} {w w1 : World} {v : Value} {xs : List α} {g : Nat} {cs : Array Value}
end
end Go.Proofs.Ytgebhidpkcjpmaa.K

namespace Go.Proofs.Ytgebhidpkcjpmaa.K
open Go.RowKit Go.Proofs.YtgebhidpkcjpmaaW.PrintWords Go.Proofs.YtgebhidpkcjpmaaW.PrintLast Go.Proofs.YtgebhidpkcjpmaaW.PrintMore Go.Proofs.Ytgebhidpkcjpmaa
attribute [local go_sem] max2_int min2_int max_two min_two max_three min_three max_four min_four
set_option linter.unusedVariables false
set_option linter.unusedSimpArgs false
open Go.Proofs.Ytgebhidpkcjpmaa.PDk Go.Proofs.Ytgebhidpkcjpmaa.Daw Go.Maps
theorem string_law : Keyed Try.prog 9 := string_keyed Try.underlying9
theorem zeroE (w : World) : (zeroValue 3).run Try.prog w = .ok (.int .i64 0) w := by kernel_rfl
theorem map_move {w w' : World} {P : Program} {k : TypeId} {R : Value → Option (DataW Unit × List MemPlace)} {b n : Nat} {D : DataW Unit} (h : w.ownsMap P k R b n D) (e : w'.heap[b]? = w.heap[b]?) : w'.ownsMap P k R b n D := by
  obtain ⟨es, clock, hb, F, hs, hD⟩ := h
  exact ⟨es, clock, e.trans hb, F, hs, hD⟩
theorem wf_nat (n : Nat) (h : n ≤ 1000000000) : (Lit.int .i64 (n : Int)).wf = true := by
  simp only [Lit.wf, IntKind.min, IntKind.max, IntKind.signed, IntKind.bits, Bool.and_eq_true, decide_eq_true_eq, if_true]
  omega
theorem map_cells {w : World} {P : Program} {k : TypeId} {R : Value → Option (DataW Unit × List MemPlace)} {b n : Nat} {D : DataW Unit} (h : w.ownsMap P k R b n D) {g t : Nat} {cells : Array Value} (hg : w.heap[g]? = some (.cells cells t (0, 0))) : g ≠ b := by
  rintro rfl
  obtain ⟨es, cl, hb2, _⟩ := h
  rw [hg] at hb2
  cases hb2
theorem keyB_size (s : DS) (h : OkS s) (hl : s.2.length ≤ 1000000) : (keyB s).size ≤ 10000000 := by
  unfold keyB keyZ
  rw [strOfNums_size, List.length_map]
  unfold keyL
  have := keyE_len s.2 h
  rw [List.length_append, put_low (by split <;> decide)]
  simp; omega
theorem keyOf_key (s : DS) (h : OkS s) (hl : s.2.length ≤ 1000000) : keyOf Try.prog 9 (.string (keyB s)) = some (kl s) :=
  Go.WideMaps.keyOf_string_mk Try.underlying9 (Nat.le_trans (keyB_size s h hl) (by decide))
/-- What number leaves. -/
def NumQ (base g bm : Nat) (left : List DS) (s : DS) (vP : Value) (word : ByteArray) (okL okS : Nat → Prop) (w w' : World) : Prop :=
  ∃ vL' okL' n' D', w'.heap[g]? = some (.cells #[vL', .map (some bm), vP, .string word] 112 (0, 0)) ∧ w'.ownsMap Try.prog 9 (plainElem Try.prog 3) bm n' D' ∧ n' ≤ (num left s).1.length ∧ Link D' (num left s).1 ∧
      Kd.S k82 82 w' base okL' vL' ((num left s).1.map toS) ∧ (∀ k, okL' k → okL k ∨ okS k ∨ w.heap.size ≤ k) ∧ Below base w w' ∧ (∀ k, k < w.heap.size → ¬ okL k → k ≠ g → k ≠ bm → w'.heap[k]? = w.heap[k]?)
set_option maxHeartbeats 4000000 in
set_option maxRecDepth 100000 in
theorem number_k (base g bm n : Nat) (left : List DS) (s : DS) (vL vP vE : Value) (word : ByteArray) (D : DataW Unit) (okL okS : Nat → Prop) (w : World)
    (hg : w.heap[g]? = some (.cells #[vL, .map (some bm), vP, .string word] 112 (0, 0)))
    (hm : w.ownsMap Try.prog 9 (plainElem Try.prog 3) bm n D) (hn : n ≤ left.length) (hD : Link D left)
    (hL : Kd.S k82 82 w base okL vL (left.map toS)) (hE : Kd.R k84 84 w base okS vE (toS s).f1)
    (hLS : ∀ k, okL k → ¬ okS k) (hb : base ≤ w.heap.size) (hbg : base ≤ g) (hbm : base ≤ bm) (hs : OkS s) (hsl : s.2.length ≤ 1000000) (hll : left.length ≤ 1000000) :
    Calls Try.prog 61 #[.pointer (some ⟨g, 0, none⟩), .agg #[.bool s.1, vE]] w fun e w' => e = .returned (.int .i64 ((num left s).2 : Nat)) ∧ NumQ base g bm left s vP word okL okS w w' := by
  obtain ⟨A, c, rfl⟩ := Kd.R_slice hE
  obtain ⟨AL, cL, hvL⟩ := Kd.S_slice hL
  rw [List.length_map] at hvL
  subst hvL
  have hLb := Kd.S_mono (Kd.S_bound hL) (ok' := fun k => okL k ∧ k < w.heap.size ∧ k ≠ bm) (fun k hk => ⟨hk.1, hk.2.2.1, by obtain ⟨_, _, cells, hc⟩ := hk.2.2.2; exact map_cells hm hc⟩)
  have hEb := Kd.R_mono (Kd.R_bound hE) (ok' := fun k => okS k ∧ k < w.heap.size ∧ k ≠ bm) (fun k hk => ⟨hk.1, hk.2.2.1, by obtain ⟨_, _, cells, hc⟩ := hk.2.2.2; exact map_cells hm hc⟩)
  obtain ⟨K, hK5, hK6⟩ : ∃ K, s.2.length + 9 ≤ K ∧ K < 20000000000000 := ⟨s.2.length + 9, by omega, by omega⟩
  have hkey : daw_key.f K s.1 (toS s).f1 = some (keyB s) := key_eq s hs (by omega) K hK5 hK6
  have hkof := keyOf_key s hs hsl
  obtain ⟨kb, hkb⟩ : ∃ kb, kb = keyB s := ⟨_, rfl⟩
  rw [← hkb] at hkey hkof
  clear hkb
  have hmlt := hm.lt
  have hglt := blk_lt hg
  have hgm := map_cells hm hg
  have HG := Aside0.mk hg; have HM := Aside0.mk hm; have HL := Aside0.mk hLb; have HE := Aside0.mk hEb; have HK := Aside0.mk hkey; have HO := Aside0.mk hkof
  have HBG := Aside0.mk hbg; have HBM := Aside0.mk hbm; have HB := Aside0.mk hb; have HLL := Aside0.mk hll; have HNN := Aside0.mk hn
  have HGL := Aside0.mk hglt; have HML := Aside0.mk hmlt; have HGM := Aside0.mk hgm
  clear hg hm hL hE hLb hEb hkey hkof hbg hbm hb hll hn hK5 hK6 hglt hmlt hgm
  have huS := Try.underlying82
  have huE := Try.underlying84
  go_enter Try.func61, Try.ntmps61
  go_wp2_with (first | ((with_reducible refine gate_dst (N := 3) rfl ?_); refine box_event ?hg (N := 3) ?hd (cs := #[.bool s.1, .slice A (toS s).f1.length c]) (t := 82) ?hr ?_; (case hd => rfl); (case hg => rfl); (case hr => first | (go_simp; done) | (go_simp; rfl)); intro gp hgq_ w1 hp hb1; have gp_eq := Aside0.mk hgq_; clear hgq_; have c0 : w1.cell? ⟨gp, 0, none⟩ = some (.bool s.1) := (blk_cell hp 0).trans rfl; have c1 : w1.cell? ⟨gp, 1, none⟩ = some (.slice A (toS s).f1.length c) := (blk_cell hp 1).trans rfl) | (go_at_call 85; (with_reducible refine (daw_key.calls K s.1 A c (toS s).f1 kb _ ?sC ?sc HK.out).mono ?_); (case sC => exact (Kd.R_reads' (Kd.R_below HE.out hb1)).2.2); (case sc => exact (Kd.R_reads' HE.out).2.1)))
  rintro e w2 ⟨rfl, hb2⟩
  have hb12 := hb1.trans (hb2.mono hb1.size)
  have HG2 := Aside0.mk (blk_below HG.out hb12); have HM2 := Aside0.mk (map_move HM.out (hb12.block bm HML.out)); have HL2 := Aside0.mk (Kd.S_below HL.out hb12); have HE2 := Aside0.mk (Kd.R_below HE.out hb12); have HP2 := Aside0.mk (blk_below hp hb2); have HB12 := Aside0.mk hb12
  have hsz2 : w.heap.size < w2.heap.size := by
    have h1 := blk_lt hp; have h2 := hb2.size; have h3 := gp_eq.out; omega
  have HS2 := Aside0.mk hsz2
  clear hb1 hb2 hb12 hp hsz2 c0 c1 HK
  have d0 : w2.cell? ⟨g, 0, none⟩ = some (.slice AL left.length cL) := (blk_cell HG2.out 0).trans rfl
  have d1 : w2.cell? ⟨g, 1, none⟩ = some (.map (some bm)) := (blk_cell HG2.out 1).trans rfl
  have c0 : w2.cell? ⟨gp, 0, none⟩ = some (.bool s.1) := (blk_cell HP2.out 0).trans rfl
  have c1 : w2.cell? ⟨gp, 1, none⟩ = some (.slice A (toS s).f1.length c) := (blk_cell HP2.out 1).trans rfl
  by_cases hmem : s ∈ left
  · have hhas : Maps.has D (kl s) = true := by rw [hD.2.1 s hs]; simp [hmem]
    have hat0 := hD.2.2 s hs hmem
    have hnum : num left s = (left, left.idxOf s) := by unfold num; rw [if_pos hmem]
    go_wp2_with (first | (at_lookup; refine wpList_lookup_own_ok_int _ rfl _ _ 110 rfl 9 3 .i64 string_law Try.underlying110 Try.underlying3 (zeroE _) bm n D rfl HM2.out _ _ rfl HO.out ?_; intro cc hat hwc; rw [hhas]))
    go_ret
    unfold NumQ
    rw [hnum]
    rw [hat0] at hat
    injection hat with hat
    injection hat with _ hat
    refine ⟨by rw [← hat]; rfl, _, _, n, D, HG2.out, HM2.out, HNN.out, hD, HL2.out, fun k hk => Or.inl hk.1, HB12.out.mono HB.out, fun k hk _ _ _ => HB12.out.block k hk⟩
  · have hhas : Maps.has D (kl s) = false := by rw [hD.2.1 s hs]; simp [hmem]
    have hnum : num left s = (left ++ [s], left.length) := by unfold num; rw [if_neg hmem]
    have hnl : n < maxLen := by have := HNN.out; have := HLL.out; unfold maxLen; omega
    go_wp2_with (first | (at_lookup; refine wpList_lookup_own_ok_int _ rfl _ _ 110 rfl 9 3 .i64 string_law Try.underlying110 Try.underlying3 (zeroE _) bm n D rfl HM2.out _ _ rfl HO.out ?_; intro cc hat hwc; rw [hhas]) | (at_mapUpdate; refine wpList_mapUpdate_own _ rfl _ _ _ 110 rfl 9 3 string_law Try.underlying110 _ bm n D rfl HM2.out hnl _ _ _ rfl rfl HO.out _ [] (plainElem_int Try.underlying3 (wf_nat _ (Nat.le_trans HLL.out (by decide)))) ?_; intro w3 hm3 hg3))
    have hgp : gp ≠ bm := map_cells HM2.out HP2.out
    have hgg : g ≠ gp := by have h1 := gp_eq.out; have h2 := HGL.out; omega
    have HG3 := Aside0.mk (blk_drew (blk_grown HG2.out hg3 (by simpa using HGM.out)))
    have HP3 := Aside0.mk (blk_drew (blk_grown HP2.out hg3 (by simpa using hgp)))
    have HL3 := Aside0.mk (Kd.S_drew (Kd.S_grown HL2.out hg3 (fun k hk => by simpa using hk.2.2)))
    have HE3 := Aside0.mk (Kd.R_drew (Kd.R_grown HE2.out hg3 (fun k hk => by simpa using hk.2.2)))
    have HM3 := Aside0.mk hm3.drew
    have HB3 := Aside0.mk (below_drew ((HB12.out.mono HB.out).grown hg3 (Nat.le_trans HB.out HB12.out.size) (fun k hk => by cases hk; exact HBM.out)))
    have HF3 : Aside0 (∀ k, k < w.heap.size → k ≠ bm → w3.drew.heap[k]? = w.heap[k]?) := ⟨fun k hk hkm => (hg3.block k (Nat.lt_of_lt_of_le hk HB12.out.size) (by simpa using hkm)).trans (HB12.out.block k hk)⟩
    have HS3 : Aside0 (w.heap.size < w3.drew.heap.size) := ⟨Nat.lt_of_lt_of_le HS2.out hg3.size⟩
    clear HG2 HP2 HL2 HE2 HM2 hm3 hg3 d0 d1 c0 c1
    refine start_ (n := 11) (S := fun w' => w'.cell? ⟨g, 0, none⟩ = some (.slice AL left.length cL) ∧ w'.cell? ⟨gp, 0, none⟩ = some (.bool s.1) ∧ w'.cell? ⟨gp, 1, none⟩ = some (.slice A (toS s).f1.length c)) (ds := [7, 10]) #[false, false, false, false, false, false, false, false, false, false, false] (by kernel_rfl) rfl rfl ⟨(blk_cell HG3.out 0).trans rfl, (blk_cell HP3.out 0).trans rfl, (blk_cell HP3.out 1).trans rfl⟩ (fun hHeld => ?_)
    generalize w3.drew = w4 at HG3 HP3 HL3 HE3 HM3 HB3 HF3 HS3 hHeld ⊢
    (refine pure_ (i := 0) (N := some 32) (v := ?_) (a' := ?_) #[true, false, false, false, false, false, false, false, false, false, false] rfl rfl (by kernel_rfl) (fun _ _ _ h => h) (Or.inl ⟨by rfl, ?_⟩) ?_ ?_; rotate_left; (intro w'; go_simp; with_reducible rfl); rotate_left; (simp only [Act.put, List.setIfInBounds_toArray, List.set_cons_zero, List.set_cons_succ, i64_w, i32_w]; rfl)); (refine pure_ (i := 1) (N := some 33) (v := ?_) (a' := ?_) #[true, true, false, false, false, false, false, false, false, false, false] rfl rfl (by kernel_rfl) (fun _ _ _ h => h) (Or.inl ⟨by rfl, ?_⟩) ?_ ?_; rotate_left; (intro w'; go_simp; with_reducible rfl); rotate_left; (simp only [Act.put, List.setIfInBounds_toArray, List.set_cons_zero, List.set_cons_succ, i64_w, i32_w]; rfl)); (refine pure_ (i := 2) (N := some 34) (v := ?_) (a' := ?_) #[true, true, true, false, false, false, false, false, false, false, false] rfl rfl (by kernel_rfl) (fun _ _ _ h => h) (Or.inl ⟨by rfl, ?_⟩) ?_ ?_; rotate_left; (intro w'; go_simp; with_reducible rfl); rotate_left; (simp only [Act.put, List.setIfInBounds_toArray, List.set_cons_zero, List.set_cons_succ, i64_w, i32_w]; rfl)); (refine pure_ (i := 3) (N := some 35) (v := ?_) (a' := ?_) #[true, true, true, true, false, false, false, false, false, false, false] rfl rfl (by kernel_rfl) (fun _ _ _ h => h) (Or.inl ⟨by rfl, ?_⟩) ?_ ?_; rotate_left; (intro w'; go_simp; with_reducible rfl); rotate_left; (simp only [Act.put, List.setIfInBounds_toArray, List.set_cons_zero, List.set_cons_succ, i64_w, i32_w]; rfl))
    (refine take_ (i := 4) (N := some 36) (v := ?_) (a' := ?_) #[true, true, true, true, true, false, false, false, false, false, false] rfl rfl (by kernel_rfl) (fun _ _ _ h => h) (Or.inl ⟨by rfl, ?_⟩) hHeld ?_ ?_; rotate_left; (rintro w' ⟨s0, s1, s2⟩; go_simp; with_reducible rfl); rotate_left; (simp only [Act.put, List.setIfInBounds_toArray, List.set_cons_zero, List.set_cons_succ, i64_w, i32_w]; rfl)); (refine take_ (i := 5) (N := some 37) (v := ?_) (a' := ?_) #[true, true, true, true, true, true, false, false, false, false, false] rfl rfl (by kernel_rfl) (fun _ _ _ h => h) (Or.inl ⟨by rfl, ?_⟩) hHeld ?_ ?_; rotate_left; (rintro w' ⟨s0, s1, s2⟩; go_simp; with_reducible rfl); rotate_left; (simp only [Act.put, List.setIfInBounds_toArray, List.set_cons_zero, List.set_cons_succ, i64_w, i32_w]; rfl))
    refine one_ (i := 6) (N := some 38) #[true, true, true, true, true, true, true, false, false, false, false] rfl rfl (by kernel_rfl) (by decide) (fun K hK => ?_)
    (refine value_ (w1 := ?_) (v := ?_) (by rfl) rfl ?_ ?_; rotate_left 2; (go_simp; constructor; rfl; rfl))
    refine hK.out _ _ ⟨(blk_cell (blk_alloc HG3.out _) 0).trans rfl, (blk_cell (blk_alloc HP3.out _) 0).trans rfl, (blk_cell (blk_alloc HP3.out _) 1).trans rfl⟩ (fun hHeld => ?_)
    (clear hK K; refine norm_ (a' := ?_) ?_ ?_; rotate_left; (show Act.put _ (some 38) _ = _; simp only [Act.put, List.setIfInBounds_toArray, List.set_cons_zero, List.set_cons_succ, i64_w, i32_w]; rfl))
    refine last_ (i := 7) (N := some 39) #[true, true, true, true, true, true, true, true, false, false, false] rfl rfl (by kernel_rfl) (by decide) (fun K hK => ?_)
    refine Kd.S_append_step (k82) (w0 := w) (base) (by rfl) (.tmp 36) (.tmp 38) 25 82 (.agg #[(.bool false), (.slice none 0 0)]) 32 rfl Try.underlying25 info82 rfl (by decide) (by omega) (.slice AL left.length cL) (left.map toS) (toS s) [.bool s.1, .slice A (toS s).f1.length c] (fun k => okL k ∨ okS k ∨ w.heap.size ≤ k) okS rfl rfl ?aP ?aK ?aF ?aO ?aB ?aS ?aL ?_
    (case aP => exact k82_mkM _ _ _ (toS s) (Kd.R_mono HE3.out (fun k hk => hk.1)))
    (case aK => exact fun k hk => ⟨Or.inr (Or.inl hk), fun e => hLS k ((Kd.S_R HL3.out).1 k e.symm).1 hk⟩)
    (case aF => exact fun k hk => Or.inr (Or.inr (Nat.le_trans (Nat.le_of_lt HS3.out) hk)))
    (case aO => exact Kd.S_mono HL3.out (fun k hk => ⟨Or.inl hk.1, hLS k hk.1⟩))
    (case aB => exact HB3.out)
    (case aS => exact Nat.le_trans HB.out (Nat.le_of_lt HS3.out))
    (case aL => have := HLL.out; rw [List.length_map]; omega)
    intro v1 w5 hS5 hb5 hg5 hat5
    have hgne : some g ≠ (Value.slice AL left.length cL).ownBlock := fun e => (by have := ((Kd.S_R HL3.out).1 g e.symm); exact absurd (Kd.S_typed HL3.out g e.symm) (by rintro ⟨cells, hc⟩; rw [HG3.out] at hc; injection hc with hc; injection hc with _ hc; exact absurd hc (by decide)))
    have hmne : some bm ≠ (Value.slice AL left.length cL).ownBlock := fun e => ((Kd.S_R HL3.out).1 bm e.symm).2.2 rfl
    have HG5 := Aside0.mk (blk_grown HG3.out hg5 hgne)
    have HM5 := Aside0.mk (HM3.out.kept hg5 hmne)
    have HB5 := Aside0.mk hb5
    have HF5 : Aside0 (∀ k, k < w.heap.size → ¬ okL k → k ≠ bm → w5.heap[k]? = w.heap[k]?) := ⟨fun k hk hn hkm => (hg5.block k (Nat.lt_trans hk HS3.out) (fun e => hn ((Kd.S_R HL3.out).1 k e.symm).1)).trans (HF3.out k hk hkm)⟩
    obtain ⟨A5, c5, hv5⟩ := Kd.S_slice hS5
    rw [List.length_append, List.length_map] at hv5
    subst hv5
    have HS5 := Aside0.mk hS5
    clear hS5 hb5 hg5 hat5 hgne hmne
    refine hK.out _ _ ?_
    (clear hK K; refine norm_ (a' := ?_) ?_ ?_; rotate_left; (show Act.put _ (some 39) _ = _; simp only [Act.put, List.setIfInBounds_toArray, List.set_cons_zero, List.set_cons_succ, i64_w, i32_w]; rfl))
    (refine pure_ (i := 8) (N := some 40) (v := ?_) (a' := ?_) #[true, true, true, true, true, true, true, true, true, false, false] rfl rfl (by kernel_rfl) (fun _ _ _ h => h) (Or.inl ⟨by rfl, ?_⟩) ?_ ?_; rotate_left; (intro w'; go_simp; with_reducible rfl); rotate_left; (simp only [Act.put, List.setIfInBounds_toArray, List.set_cons_zero, List.set_cons_succ, i64_w, i32_w]; rfl)); (refine pure_ (i := 9) (N := some 41) (v := ?_) (a' := ?_) #[true, true, true, true, true, true, true, true, true, true, false] rfl rfl (by kernel_rfl) (fun _ _ _ h => h) (Or.inl ⟨by rfl, ?_⟩) ?_ ?_; rotate_left; (intro w'; go_simp; with_reducible rfl); rotate_left; (simp only [Act.put, List.setIfInBounds_toArray, List.set_cons_zero, List.set_cons_succ, i64_w, i32_w]; rfl))
    refine last_ (i := 10) (N := none) #[true, true, true, true, true, true, true, true, true, true, true] rfl rfl (by kernel_rfl) (by decide) (fun K hK => ?_)
    have d0 : w5.cell? ⟨g, 0, none⟩ = some (.slice AL left.length cL) := (blk_cell HG5.out 0).trans rfl
    have f0 := blk_frozen HG5.out 0
    refine skip_ (w1 := ?_) (by rfl) rfl ?_ ?_
    rotate_left
    · go_simp
      rfl
    refine hK.out _ _ ?_
    clear hK K
    refine done_ (by kernel_rfl) ?_
    try go_wp2
    go_ret
    unfold NumQ
    rw [hnum]
    refine ⟨rfl, _, _, n + 1, _, blk_put HG5.out 0 _ rfl, map_move HM5.out (Below.heap_setCell _ _ _ _ (Ne.symm HGM.out)), by have := HNN.out; simp; omega, link_put hD hs hmem, ?_, fun k hk => hk, HB5.out.setCell (p := ⟨g, 0, none⟩) HBG.out _, fun k hk hn hkg hkm => (Below.heap_setCell _ ⟨g, 0, none⟩ _ k hkg).trans (HF5.out k hk hn hkm)⟩
    have e1 : (left ++ [s]).map toS = left.map toS ++ [toS s] := by simp
    rw [e1]
    exact Kd.S_mono (Kd.S_set HS5.out HG5.out (by decide) 0 _) (fun k hk => hk)
end Go.Proofs.Ytgebhidpkcjpmaa.K

namespace Go.Proofs.Ytgebhidpkcjpmaa.PDm
open Go.RowKit Go.Proofs.YtgebhidpkcjpmaaW.PrintWords Go.Proofs.YtgebhidpkcjpmaaW.PrintLast Go.Proofs.YtgebhidpkcjpmaaW.PrintMore Go.Proofs.Ytgebhidpkcjpmaa.K Go.Proofs.Ytgebhidpkcjpmaa.PDk
attribute [local go_sem] max2_int min2_int max_two min_two max_three min_three max_four min_four   -- for this text's walks alone
set_option linter.unusedVariables false
set_option linter.unusedSimpArgs false



def errW : Option Int → Value
  | none => .nilIface
  | some c => .iface 0 (.int .i64 c)
theorem errW_none : errW none = .nilIface := rfl
theorem errW_some (c : Int) : errW (some c) = .iface 0 (.int .i64 c) := rfl

def rd_L4 (xs : List (List S84)) (i : Int) : (List S84) := xs.getD i.toNat ([] : List S84)
end Go.Proofs.Ytgebhidpkcjpmaa.PDm

