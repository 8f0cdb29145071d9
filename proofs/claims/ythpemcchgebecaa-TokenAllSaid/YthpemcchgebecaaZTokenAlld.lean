/- TokenAll: whatever bytes (5000 at most): the words told are the document's. (The texts that the proof is made of, one behind the other: part 4 of 13.) -/
import Derived.Test.YthpemcchgebecaaZTokenAlla
import Derived.Test.YthpemcchgebecaaZTokenAllb
import Derived.Test.YthpemcchgebecaaZTokenAllc
namespace Go.Proofs.Ythpemcchgebecaa.PFold
open Go.RowKit Go.Proofs.YthpemcchgebecaaW.PrintWords Go.Proofs.YthpemcchgebecaaW.PrintLast Go.Proofs.YthpemcchgebecaaW.PrintMore Go.Proofs.Ythpemcchgebecaa.K
attribute [local go_sem] max2_int min2_int max_two min_two max_three min_three max_four min_four   -- for this text's walks alone
set_option linter.unusedVariables false
set_option linter.unusedSimpArgs false

def fold_span_has.f (a0_0 : Int) (a0_1 : Int) (a0_2 : Int) (a0_3 : Int) (a1 : Int) : Option (Bool) := if a1 ≥ a0_0 then (if a1 ≤ a0_1 then (if a0_2 = 0 then (none) else (some ((Int.tmod (wrap32 (a1 - a0_0)) a0_2) == 0))) else (some false)) else (some false)
set_option maxHeartbeats 8000000 in
set_option maxRecDepth 100000 in
theorem fold_span_has.calls (a0_0 : Int) (a0_1 : Int) (a0_2 : Int) (a0_3 : Int) (a1 : Int) (r : Bool) (w : World) (h : fold_span_has.f a0_0 a0_1 a0_2 a0_3 a1 = some r) :
    Calls Try.prog 28 #[.agg #[.int .i32 a0_0, .int .i32 a0_1, .int .i32 a0_2, .int .i32 a0_3], .int .i32 a1] w fun e w' => e = .returned (.bool r) ∧ Below w.heap.size w w' := by
  have hu45 := Try.underlying45
  have HB := Aside0.mk (Below.refl w.heap.size w)
  have H : (if a1 ≥ a0_0 then (if a1 ≤ a0_1 then (if a0_2 = 0 then (none) else (some ((Int.tmod (wrap32 (a1 - a0_0)) a0_2) == 0))) else (some false)) else (some false)) = some r := h
  clear h
  by_cases c3 : a1 ≥ a0_0
  · rw [if_pos c3] at H
    have c3b0 : decide (a0_0 ≤ a1) = true := decide_eq_true c3
    clear c3
    by_cases c4 : a1 ≤ a0_1
    · rw [if_pos c4] at H
      have c4b0 : decide (a1 ≤ a0_1) = true := decide_eq_true c4
      clear c4
      by_cases c5 : a0_2 = 0
      · rw [if_pos c5] at H
        exact absurd H (by simp)
      · rw [if_neg c5] at H
        have c5b0 : (a0_2 == 0) = false := beq_eq_false_iff_ne.mpr c5
        have c5b1 : (a0_2 != 0) = true := bne_iff_ne.mpr c5
        obtain rfl := Option.some.inj H
        go_enter Try.func28, Try.ntmps28
        go_wp2_with (first | ((with_reducible refine gate_dst (N := 2) rfl ?_); refine box_event ?hg (N := 2) ?hd (cs := #[.int .i32 a0_0, .int .i32 a0_1, .int .i32 a0_2, .int .i32 a0_3]) (t := 45) ?hr ?_; (case hd => rfl); (case hg => rfl); (case hr => first | (go_simp; done) | (go_simp; rfl)); intro gb101 hg w6 hbox hb; have n0_ := Aside0.mk (below_step (by repeat (first | (with_reducible first | exact HB.out | apply below_alloc | apply pw_below_drewN | apply below_drew1) | exact HB.out)) hb); have n1_ := Aside0.mk (hbox); have n2_ := Aside0.mk ((by rw [hg]; exact (below_size (by repeat (first | (with_reducible first | exact HB.out | apply below_alloc | apply pw_below_drewN | apply below_drew1) | exact HB.out))) : w.heap.size ≤ gb101)); have n3_ := Aside0.mk ((by rw [hg]; exact (below_size (by repeat (first | (with_reducible first | exact HB.out | apply below_alloc | apply pw_below_drewN | apply below_drew1) | exact HB.out))) : w.heap.size ≤ gb101)); clear HB; have HB := n0_; have BK101 := n1_; have GW101 := n2_; have GE101 := n3_; clear n0_ n1_ n2_ n3_; clear hb hbox hg; have hcz7_0 : w6.cell? ⟨gb101, 0, none⟩ = some (.int .i32 a0_0) := (blk_cell BK101.out 0).trans rfl; have hcz7_1 : w6.cell? ⟨gb101, 1, none⟩ = some (.int .i32 a0_1) := (blk_cell BK101.out 1).trans rfl; have hcz7_2 : w6.cell? ⟨gb101, 2, none⟩ = some (.int .i32 a0_2) := (blk_cell BK101.out 2).trans rfl; have hcz7_3 : w6.cell? ⟨gb101, 3, none⟩ = some (.int .i32 a0_3) := (blk_cell BK101.out 3).trans rfl; have hfz7_0 := blk_frozen BK101.out 0; have hfz7_1 := blk_frozen BK101.out 1; have hfz7_2 := blk_frozen BK101.out 2; have hfz7_3 := blk_frozen BK101.out 3))
        go_ret
        exact ⟨by first | rfl | (simp [errW_none, errW_some] <;> rfl) | (simp [*, errW_none, errW_some] <;> rfl), by repeat (first | (with_reducible first | exact HB.out | apply below_alloc | apply pw_below_drewN | apply below_drew1 | refine below_set ?_ GE101.out) | exact HB.out)⟩
    · rw [if_neg c4] at H
      have c4b0 : decide (a1 ≤ a0_1) = false := decide_eq_false c4
      clear c4
      obtain rfl := Option.some.inj H
      go_enter Try.func28, Try.ntmps28
      go_wp2_with (first | ((with_reducible refine gate_dst (N := 2) rfl ?_); refine box_event ?hg (N := 2) ?hd (cs := #[.int .i32 a0_0, .int .i32 a0_1, .int .i32 a0_2, .int .i32 a0_3]) (t := 45) ?hr ?_; (case hd => rfl); (case hg => rfl); (case hr => first | (go_simp; done) | (go_simp; rfl)); intro gb101 hg w8 hbox hb; have n0_ := Aside0.mk (below_step (by repeat (first | (with_reducible first | exact HB.out | apply below_alloc | apply pw_below_drewN | apply below_drew1) | exact HB.out)) hb); have n1_ := Aside0.mk (hbox); have n2_ := Aside0.mk ((by rw [hg]; exact (below_size (by repeat (first | (with_reducible first | exact HB.out | apply below_alloc | apply pw_below_drewN | apply below_drew1) | exact HB.out))) : w.heap.size ≤ gb101)); have n3_ := Aside0.mk ((by rw [hg]; exact (below_size (by repeat (first | (with_reducible first | exact HB.out | apply below_alloc | apply pw_below_drewN | apply below_drew1) | exact HB.out))) : w.heap.size ≤ gb101)); clear HB; have HB := n0_; have BK101 := n1_; have GW101 := n2_; have GE101 := n3_; clear n0_ n1_ n2_ n3_; clear hb hbox hg; have hcz9_0 : w8.cell? ⟨gb101, 0, none⟩ = some (.int .i32 a0_0) := (blk_cell BK101.out 0).trans rfl; have hcz9_1 : w8.cell? ⟨gb101, 1, none⟩ = some (.int .i32 a0_1) := (blk_cell BK101.out 1).trans rfl; have hcz9_2 : w8.cell? ⟨gb101, 2, none⟩ = some (.int .i32 a0_2) := (blk_cell BK101.out 2).trans rfl; have hcz9_3 : w8.cell? ⟨gb101, 3, none⟩ = some (.int .i32 a0_3) := (blk_cell BK101.out 3).trans rfl; have hfz9_0 := blk_frozen BK101.out 0; have hfz9_1 := blk_frozen BK101.out 1; have hfz9_2 := blk_frozen BK101.out 2; have hfz9_3 := blk_frozen BK101.out 3))
      go_ret
      exact ⟨by first | rfl | (simp [errW_none, errW_some] <;> rfl) | (simp [*, errW_none, errW_some] <;> rfl), by repeat (first | (with_reducible first | exact HB.out | apply below_alloc | apply pw_below_drewN | apply below_drew1 | refine below_set ?_ GE101.out) | exact HB.out)⟩
  · rw [if_neg c3] at H
    have c3b0 : decide (a0_0 ≤ a1) = false := decide_eq_false c3
    clear c3
    obtain rfl := Option.some.inj H
    go_enter Try.func28, Try.ntmps28
    go_wp2_with (first | ((with_reducible refine gate_dst (N := 2) rfl ?_); refine box_event ?hg (N := 2) ?hd (cs := #[.int .i32 a0_0, .int .i32 a0_1, .int .i32 a0_2, .int .i32 a0_3]) (t := 45) ?hr ?_; (case hd => rfl); (case hg => rfl); (case hr => first | (go_simp; done) | (go_simp; rfl)); intro gb101 hg w10 hbox hb; have n0_ := Aside0.mk (below_step (by repeat (first | (with_reducible first | exact HB.out | apply below_alloc | apply pw_below_drewN | apply below_drew1) | exact HB.out)) hb); have n1_ := Aside0.mk (hbox); have n2_ := Aside0.mk ((by rw [hg]; exact (below_size (by repeat (first | (with_reducible first | exact HB.out | apply below_alloc | apply pw_below_drewN | apply below_drew1) | exact HB.out))) : w.heap.size ≤ gb101)); have n3_ := Aside0.mk ((by rw [hg]; exact (below_size (by repeat (first | (with_reducible first | exact HB.out | apply below_alloc | apply pw_below_drewN | apply below_drew1) | exact HB.out))) : w.heap.size ≤ gb101)); clear HB; have HB := n0_; have BK101 := n1_; have GW101 := n2_; have GE101 := n3_; clear n0_ n1_ n2_ n3_; clear hb hbox hg; have hcz11_0 : w10.cell? ⟨gb101, 0, none⟩ = some (.int .i32 a0_0) := (blk_cell BK101.out 0).trans rfl; have hcz11_1 : w10.cell? ⟨gb101, 1, none⟩ = some (.int .i32 a0_1) := (blk_cell BK101.out 1).trans rfl; have hcz11_2 : w10.cell? ⟨gb101, 2, none⟩ = some (.int .i32 a0_2) := (blk_cell BK101.out 2).trans rfl; have hcz11_3 : w10.cell? ⟨gb101, 3, none⟩ = some (.int .i32 a0_3) := (blk_cell BK101.out 3).trans rfl; have hfz11_0 := blk_frozen BK101.out 0; have hfz11_1 := blk_frozen BK101.out 1; have hfz11_2 := blk_frozen BK101.out 2; have hfz11_3 := blk_frozen BK101.out 3))
    go_ret
    exact ⟨by first | rfl | (simp [errW_none, errW_some] <;> rfl) | (simp [*, errW_none, errW_some] <;> rfl), by repeat (first | (with_reducible first | exact HB.out | apply below_alloc | apply pw_below_drewN | apply below_drew1 | refine below_set ?_ GE101.out) | exact HB.out)⟩

def fold_Fold.l0 : Nat → Int → List (S45) → Int → Int → Option (Int)
  | 0, _, _, _, _ => none
  | k + 1, x0, x19, x20, x21 => if x21 < x20 then (if 0 ≤ x21 then (if x21 < (x19.length : Int) then ((fold_span_has.f ((rd_T45 x19 x21).f0) ((rd_T45 x19 x21).f1) ((rd_T45 x19 x21).f2) ((rd_T45 x19 x21).f3) x0).bind fun t107 => (if t107 = true then (some (wrap32 (x0 + ((rd_T45 x19 x21).f3)))) else (fold_Fold.l0 k x0 x19 x20 (wrap64 (x21 + 1))))) else (none)) else (none)) else (some x0)
def fold_Fold.f (k : Nat) (a0 : Int) : Option (Int) := (some (([(⟨65, 90, 1, 32⟩ : S45), (⟨192, 214, 1, 32⟩ : S45), (⟨216, 222, 1, 32⟩ : S45), (⟨256, 302, 2, 1⟩ : S45), (⟨306, 310, 2, 1⟩ : S45), (⟨313, 327, 2, 1⟩ : S45), (⟨330, 374, 2, 1⟩ : S45), (⟨376, 376, 1, (-121)⟩ : S45), (⟨377, 381, 2, 1⟩ : S45), (⟨913, 929, 1, 32⟩ : S45), (⟨931, 939, 1, 32⟩ : S45), (⟨962, 962, 1, 1⟩ : S45), (⟨1024, 1039, 1, 80⟩ : S45), (⟨1040, 1071, 1, 32⟩ : S45)] : List (S45)) : List (S45))).bind fun y102 => (fold_Fold.l0 k a0 y102 (y102.length : Int) 0)
set_option maxHeartbeats 8000000 in
set_option maxRecDepth 100000 in
theorem fold_Fold.calls (k : Nat) (a0 : Int) (r : Int) (w : World) (h : fold_Fold.f k a0 = some r) :
    Calls Try.prog 16 #[.int .i32 a0] w fun e w' => e = .returned (.int .i32 r) ∧ Below w.heap.size w w' := by
  have hu45 := Try.underlying45
  have HB := Aside0.mk (Below.refl w.heap.size w)
  have H : ((some (([(⟨65, 90, 1, 32⟩ : S45), (⟨192, 214, 1, 32⟩ : S45), (⟨216, 222, 1, 32⟩ : S45), (⟨256, 302, 2, 1⟩ : S45), (⟨306, 310, 2, 1⟩ : S45), (⟨313, 327, 2, 1⟩ : S45), (⟨330, 374, 2, 1⟩ : S45), (⟨376, 376, 1, (-121)⟩ : S45), (⟨377, 381, 2, 1⟩ : S45), (⟨913, 929, 1, 32⟩ : S45), (⟨931, 939, 1, 32⟩ : S45), (⟨962, 962, 1, 1⟩ : S45), (⟨1024, 1039, 1, 80⟩ : S45), (⟨1040, 1071, 1, 32⟩ : S45)] : List (S45)) : List (S45))).bind fun y102 => (fold_Fold.l0 k a0 y102 (y102.length : Int) 0)) = some r := h
  clear h
  obtain ⟨y102, hy102⟩ : ∃ y_ : List (S45), y_ = (([(⟨65, 90, 1, 32⟩ : S45), (⟨192, 214, 1, 32⟩ : S45), (⟨216, 222, 1, 32⟩ : S45), (⟨256, 302, 2, 1⟩ : S45), (⟨306, 310, 2, 1⟩ : S45), (⟨313, 327, 2, 1⟩ : S45), (⟨330, 374, 2, 1⟩ : S45), (⟨376, 376, 1, (-121)⟩ : S45), (⟨377, 381, 2, 1⟩ : S45), (⟨913, 929, 1, 32⟩ : S45), (⟨931, 939, 1, 32⟩ : S45), (⟨962, 962, 1, 1⟩ : S45), (⟨1024, 1039, 1, 80⟩ : S45), (⟨1040, 1071, 1, 32⟩ : S45)] : List (S45))) := ⟨_, rfl⟩
  replace H : (fold_Fold.l0 k a0 y102 (y102.length : Int) 0) = some r := by first | (rw [hy102]; with_reducible exact H) | (have H2_ := (Option.bind_some _ _).symm.trans H; rw [hy102]; with_reducible exact H2_) | (have H2_ := (Option.bind_some _ _).symm.trans H; with_reducible exact H2_) | with_reducible exact H | (rw [hy102]; exact H) | exact H
  have Ny102 := Aside0.mk hy102
  clear hy102
  have H' := Aside0.mk H
  clear H
  go_enter Try.func16, Try.ntmps16
  go_wp2_with (first | ((with_reducible refine gate_dst (N := 19) rfl ?_); refine Kd.R_lit k45 _ 45 ?hg (N := 19) ?hd (xs := ([(⟨65, 90, 1, 32⟩ : S45), (⟨192, 214, 1, 32⟩ : S45), (⟨216, 222, 1, 32⟩ : S45), (⟨256, 302, 2, 1⟩ : S45), (⟨306, 310, 2, 1⟩ : S45), (⟨313, 327, 2, 1⟩ : S45), (⟨330, 374, 2, 1⟩ : S45), (⟨376, 376, 1, (-121)⟩ : S45), (⟨377, 381, 2, 1⟩ : S45), (⟨913, 929, 1, 32⟩ : S45), (⟨931, 939, 1, 32⟩ : S45), (⟨962, 962, 1, 1⟩ : S45), (⟨1024, 1039, 1, 80⟩ : S45), (⟨1040, 1071, 1, 32⟩ : S45)] : List (S45))) (inner := [.int .i32 65, .int .i32 90, .int .i32 1, .int .i32 32, .int .i32 192, .int .i32 214, .int .i32 1, .int .i32 32, .int .i32 216, .int .i32 222, .int .i32 1, .int .i32 32, .int .i32 256, .int .i32 302, .int .i32 2, .int .i32 1, .int .i32 306, .int .i32 310, .int .i32 2, .int .i32 1, .int .i32 313, .int .i32 327, .int .i32 2, .int .i32 1, .int .i32 330, .int .i32 374, .int .i32 2, .int .i32 1, .int .i32 376, .int .i32 376, .int .i32 1, .int .i32 (-121), .int .i32 377, .int .i32 381, .int .i32 2, .int .i32 1, .int .i32 913, .int .i32 929, .int .i32 1, .int .i32 32, .int .i32 931, .int .i32 939, .int .i32 1, .int .i32 32, .int .i32 962, .int .i32 962, .int .i32 1, .int .i32 1, .int .i32 1024, .int .i32 1039, .int .i32 1, .int .i32 80, .int .i32 1040, .int .i32 1071, .int .i32 1, .int .i32 32]) (ok := fun _ => True) (okp := fun _ => True) ?hr ?hp (fun _ hk => hk) trivial (Below.refl _ _) (Nat.le_refl _) (by simp) ?_; (case hd => rfl); (case hg => rfl); (case hr => first | (go_simp; done) | (go_simp; rfl)); (case hp => exact (Reps.c4 (show Kd.M k45 _ _ _ (⟨65, 90, 1, 32⟩ : S45) [.int .i32 65, .int .i32 90, .int .i32 1, .int .i32 32] from (k45_mkM _ _ _ (⟨65, 90, 1, 32⟩ : S45) )) (Reps.c4 (show Kd.M k45 _ _ _ (⟨192, 214, 1, 32⟩ : S45) [.int .i32 192, .int .i32 214, .int .i32 1, .int .i32 32] from (k45_mkM _ _ _ (⟨192, 214, 1, 32⟩ : S45) )) (Reps.c4 (show Kd.M k45 _ _ _ (⟨216, 222, 1, 32⟩ : S45) [.int .i32 216, .int .i32 222, .int .i32 1, .int .i32 32] from (k45_mkM _ _ _ (⟨216, 222, 1, 32⟩ : S45) )) (Reps.c4 (show Kd.M k45 _ _ _ (⟨256, 302, 2, 1⟩ : S45) [.int .i32 256, .int .i32 302, .int .i32 2, .int .i32 1] from (k45_mkM _ _ _ (⟨256, 302, 2, 1⟩ : S45) )) (Reps.c4 (show Kd.M k45 _ _ _ (⟨306, 310, 2, 1⟩ : S45) [.int .i32 306, .int .i32 310, .int .i32 2, .int .i32 1] from (k45_mkM _ _ _ (⟨306, 310, 2, 1⟩ : S45) )) (Reps.c4 (show Kd.M k45 _ _ _ (⟨313, 327, 2, 1⟩ : S45) [.int .i32 313, .int .i32 327, .int .i32 2, .int .i32 1] from (k45_mkM _ _ _ (⟨313, 327, 2, 1⟩ : S45) )) (Reps.c4 (show Kd.M k45 _ _ _ (⟨330, 374, 2, 1⟩ : S45) [.int .i32 330, .int .i32 374, .int .i32 2, .int .i32 1] from (k45_mkM _ _ _ (⟨330, 374, 2, 1⟩ : S45) )) (Reps.c4 (show Kd.M k45 _ _ _ (⟨376, 376, 1, (-121)⟩ : S45) [.int .i32 376, .int .i32 376, .int .i32 1, .int .i32 (-121)] from (k45_mkM _ _ _ (⟨376, 376, 1, (-121)⟩ : S45) )) (Reps.c4 (show Kd.M k45 _ _ _ (⟨377, 381, 2, 1⟩ : S45) [.int .i32 377, .int .i32 381, .int .i32 2, .int .i32 1] from (k45_mkM _ _ _ (⟨377, 381, 2, 1⟩ : S45) )) (Reps.c4 (show Kd.M k45 _ _ _ (⟨913, 929, 1, 32⟩ : S45) [.int .i32 913, .int .i32 929, .int .i32 1, .int .i32 32] from (k45_mkM _ _ _ (⟨913, 929, 1, 32⟩ : S45) )) (Reps.c4 (show Kd.M k45 _ _ _ (⟨931, 939, 1, 32⟩ : S45) [.int .i32 931, .int .i32 939, .int .i32 1, .int .i32 32] from (k45_mkM _ _ _ (⟨931, 939, 1, 32⟩ : S45) )) (Reps.c4 (show Kd.M k45 _ _ _ (⟨962, 962, 1, 1⟩ : S45) [.int .i32 962, .int .i32 962, .int .i32 1, .int .i32 1] from (k45_mkM _ _ _ (⟨962, 962, 1, 1⟩ : S45) )) (Reps.c4 (show Kd.M k45 _ _ _ (⟨1024, 1039, 1, 80⟩ : S45) [.int .i32 1024, .int .i32 1039, .int .i32 1, .int .i32 80] from (k45_mkM _ _ _ (⟨1024, 1039, 1, 80⟩ : S45) )) (Reps.c4 (show Kd.M k45 _ _ _ (⟨1040, 1071, 1, 32⟩ : S45) [.int .i32 1040, .int .i32 1071, .int .i32 1, .int .i32 32] from (k45_mkM _ _ _ (⟨1040, 1071, 1, 32⟩ : S45) )) (Reps.none _ _)))))))))))))))); intro v103 w2 ho3 hb hg_ hnew_; clear hg_ hnew_; (first | rw [← Ny102.out] at ho3 | (simp only [Int.reduceToNat] at ho3; rw [← Ny102.out] at ho3)); have n0_ := Aside0.mk (Kd.R_lower ho3 (below_size (by repeat (first | (with_reducible first | exact HB.out | apply below_alloc | apply pw_below_drewN | apply below_drew1) | exact HB.out)))); have n1_ := Aside0.mk (below_step (by repeat (first | (with_reducible first | exact HB.out | apply below_alloc | apply pw_below_drewN | apply below_drew1) | exact HB.out)) hb); clear HB; have HO104 := n0_; have HB := n1_; clear n0_ n1_; clear hb ho3; obtain ⟨Ao4, co4, eo4⟩ := Kd.R_slice HO104.out; subst eo4))
  go_loopg [21] k (fun kq v21 w' => ∃ (x21_1 : Int), v21 = .int .i64 x21_1 ∧ Aside0 (fold_Fold.l0 kq a0 y102 (y102.length : Int) x21_1 = some r) ∧ Aside0 (kq ≤ k) ∧ Aside0 (Kd.R k45 45 w' w.heap.size (fun _ => True) (.slice Ao4 y102.length co4) y102) ∧ Aside0 (Below w.heap.size w w'))
  case atStart => exact ⟨(0), (by first | rfl | (simp; done) | (simp [*]; done)), H', ⟨Nat.le_refl _⟩, ⟨by (with_reducible repeat (first | apply Kd.R_alloc | apply Kd.R_drewN | apply Kd.R_drew)); exact HO104.out⟩, ⟨by repeat (first | (with_reducible first | exact HB.out | apply below_alloc | apply pw_below_drewN | apply below_drew1) | exact HB.out)⟩⟩
  case round =>
    clear H'
    try clear c1
    try clear p2
    try clear c4
    obtain ⟨x21_1, rfl, HA, HK1, HO_19, HB⟩ := hrel
    cases gk with
    | zero => exact absurd HA.out (by simp [fold_Fold.l0])
    | succ k1 =>
      have H := HA.out
      clear HA
      simp only [fold_Fold.l0] at H
      by_cases c5 : x21_1 < (y102.length : Int)
      · rw [if_pos c5] at H
        have c5b0 : decide (x21_1 < (y102.length : Int)) = true := decide_eq_true c5
        clear c5
        by_cases c6 : 0 ≤ x21_1
        · rw [if_pos c6] at H
          have c6b0 : decide (0 ≤ x21_1) = true := decide_eq_true c6
          clear c6
          by_cases c7 : x21_1 < (y102.length : Int)
          · rw [if_pos c7] at H
            have c7b0 : decide (x21_1 < (y102.length : Int)) = true := decide_eq_true c7
            clear c7
            replace H := Option.bind_eq_some_iff.mp H
            obtain ⟨t107, A80, H⟩ := H
            replace H : (if t107 = true then (some (wrap32 (a0 + ((rd_T45 y102 x21_1).f3)))) else (fold_Fold.l0 k1 a0 y102 (y102.length : Int) (wrap64 (x21_1 + 1)))) = some r := H
            have A8 := Aside0.mk A80
            clear A80
            by_cases c9 : t107 = true
            · subst c9
              have H1 : (some (wrap32 (a0 + ((rd_T45 y102 x21_1).f3)))) = some r := by rw [if_pos rfl] at H; exact H
              clear H
              have H := H1
              clear H1
              obtain rfl := Option.some.inj H
              have p105 : 0 ≤ (x21_1 : Int) := of_decide_eq_true (by first | (with_reducible assumption) | assumption)
              have q105 : x21_1 < (y102.length : Int) := of_decide_eq_true (by first | (with_reducible assumption) | assumption)
              obtain ⟨ad105, e105, hx105_0, hx105_1, hx105_2, hx105_3⟩ := at_T45 (Kd.R_reads' HO_19.out).2.2 x21_1 p105 q105
              cases e105
              replace p105 := eq_true p105
              replace q105 := eq_true q105
              go_wp2_with (first | ((with_reducible refine gate_dst (N := 4) rfl ?_); refine box_event ?hg (N := 4) ?hd (cs := #[.int .i32 0, .int .i32 0, .int .i32 0, .int .i32 0]) (t := 45) ?hr ?_; (case hd => rfl); (case hg => rfl); (case hr => first | (go_simp; done) | (go_simp; rfl)); intro gb106 hg w10 hbox hb; have n0_ := Aside0.mk (Kd.R_below (Kd.R_elderB (by (with_reducible repeat (first | apply Kd.R_alloc | apply Kd.R_drewN | apply Kd.R_drew)); exact HO_19.out) gb106 (Nat.le_of_eq hg.symm)) hb); have n1_ := Aside0.mk (below_step (by repeat (first | (with_reducible first | exact HB.out | apply below_alloc | apply pw_below_drewN | apply below_drew1) | exact HB.out)) hb); have n2_ := Aside0.mk (hbox); have n3_ := Aside0.mk ((by rw [hg]; exact (below_size (by repeat (first | (with_reducible first | exact HB.out | apply below_alloc | apply pw_below_drewN | apply below_drew1) | exact HB.out))) : w.heap.size ≤ gb106)); have n4_ := Aside0.mk ((by rw [hg]; exact (below_size (by repeat (first | (with_reducible first | exact HB.out | apply below_alloc | apply pw_below_drewN | apply below_drew1) | exact HB.out))) : w.heap.size ≤ gb106)); clear HO_19; clear HB; have HO_19 := n0_; have HB := n1_; have BK106 := n2_; have GW106 := n3_; have GE106 := n4_; clear n0_ n1_ n2_ n3_ n4_; clear hb hbox hg; have hcz11_0 : w10.cell? ⟨gb106, 0, none⟩ = some (.int .i32 0) := (blk_cell BK106.out 0).trans rfl; have hcz11_1 : w10.cell? ⟨gb106, 1, none⟩ = some (.int .i32 0) := (blk_cell BK106.out 1).trans rfl; have hcz11_2 : w10.cell? ⟨gb106, 2, none⟩ = some (.int .i32 0) := (blk_cell BK106.out 2).trans rfl; have hcz11_3 : w10.cell? ⟨gb106, 3, none⟩ = some (.int .i32 0) := (blk_cell BK106.out 3).trans rfl; have hfz11_0 := blk_frozen BK106.out 0; have hfz11_1 := blk_frozen BK106.out 1; have hfz11_2 := blk_frozen BK106.out 2; have hfz11_3 := blk_frozen BK106.out 3) | ((with_reducible refine gate_callee (f := 28) rfl ?_); refine goesL_ (some 27) rfl rfl Try.func28 (by kernel_rfl) rfl #[.agg #[.int .i32 ((rd_T45 y102 x21_1).f0), .int .i32 ((rd_T45 y102 x21_1).f1), .int .i32 ((rd_T45 y102 x21_1).f2), .int .i32 ((rd_T45 y102 x21_1).f3)], .int .i32 a0] rfl (by (try simp only [List.map_toArray, List.map_cons, List.map_nil]); first | done | rfl | (simp only [List.length_drop, List.length_take]; rfl)) ?_; (with_reducible refine (fold_span_has.calls ((rd_T45 y102 x21_1).f0) ((rd_T45 y102 x21_1).f1) ((rd_T45 y102 x21_1).f2) ((rd_T45 y102 x21_1).f3) a0 true _ A8.out).mono ?_); rintro e w12 ⟨rfl, hb⟩; refine ⟨_, rfl, ?_⟩; have n0_ := Aside0.mk (Kd.R_below (by (with_reducible repeat (first | apply Kd.R_alloc | apply Kd.R_drewN | apply Kd.R_drew)); exact (Kd.R_mono (Kd.R_far (p := ⟨gb106, 3, none⟩) (Kd.R_far (p := ⟨gb106, 2, none⟩) (Kd.R_far (p := ⟨gb106, 1, none⟩) (Kd.R_far (p := ⟨gb106, 0, none⟩) (Kd.R_mono HO_19.out (fun k_ hk => (⟨hk, hk.2⟩ : _ ∧ k_ ≠ gb106))) (fun _ hk => hk.2) (.int .i32 ((rd_T45 y102 x21_1).f0))) (fun _ hk => hk.2) (.int .i32 ((rd_T45 y102 x21_1).f1))) (fun _ hk => hk.2) (.int .i32 ((rd_T45 y102 x21_1).f2))) (fun _ hk => hk.2) (.int .i32 ((rd_T45 y102 x21_1).f3))) (fun _ h_ => h_.1))) hb); have n1_ := Aside0.mk (blk_below (g := gb106) (o := .cells #[.int .i32 ((rd_T45 y102 x21_1).f0), .int .i32 ((rd_T45 y102 x21_1).f1), .int .i32 ((rd_T45 y102 x21_1).f2), .int .i32 ((rd_T45 y102 x21_1).f3)] 45 (0, 0)) (by (with_reducible repeat (first | refine blk_drewN ?_ _ | refine blk_drew ?_ | refine blk_alloc ?_ _)); refine blk_put (cs := #[.int .i32 ((rd_T45 y102 x21_1).f0), .int .i32 ((rd_T45 y102 x21_1).f1), .int .i32 ((rd_T45 y102 x21_1).f2), .int .i32 0]) ?_ 3 _ rfl; (with_reducible repeat (first | refine blk_drewN ?_ _ | refine blk_drew ?_ | refine blk_alloc ?_ _)); refine blk_put (cs := #[.int .i32 ((rd_T45 y102 x21_1).f0), .int .i32 ((rd_T45 y102 x21_1).f1), .int .i32 0, .int .i32 0]) ?_ 2 _ rfl; (with_reducible repeat (first | refine blk_drewN ?_ _ | refine blk_drew ?_ | refine blk_alloc ?_ _)); refine blk_put (cs := #[.int .i32 ((rd_T45 y102 x21_1).f0), .int .i32 0, .int .i32 0, .int .i32 0]) ?_ 1 _ rfl; (with_reducible repeat (first | refine blk_drewN ?_ _ | refine blk_drew ?_ | refine blk_alloc ?_ _)); refine blk_put (cs := #[.int .i32 0, .int .i32 0, .int .i32 0, .int .i32 0]) ?_ 0 _ rfl; (with_reducible repeat (first | refine blk_drewN ?_ _ | refine blk_drew ?_ | refine blk_alloc ?_ _)); exact BK106.out) hb); have n2_ := Aside0.mk (below_step (by repeat (first | (with_reducible first | exact HB.out | apply below_alloc | apply pw_below_drewN | apply below_drew1 | refine below_set ?_ GE106.out) | exact HB.out)) hb); clear HO_19; clear BK106; clear HB; have HO_19 := n0_; have BK106 := n1_; have HB := n2_; clear n0_ n1_ n2_; (try clear hb); (try clear hb2); (try clear hk); (try clear hi); have hcz13_0 : w12.cell? ⟨gb106, 0, none⟩ = some (.int .i32 ((rd_T45 y102 x21_1).f0)) := (blk_cell BK106.out 0).trans rfl; have hcz13_1 : w12.cell? ⟨gb106, 1, none⟩ = some (.int .i32 ((rd_T45 y102 x21_1).f1)) := (blk_cell BK106.out 1).trans rfl; have hcz13_2 : w12.cell? ⟨gb106, 2, none⟩ = some (.int .i32 ((rd_T45 y102 x21_1).f2)) := (blk_cell BK106.out 2).trans rfl; have hcz13_3 : w12.cell? ⟨gb106, 3, none⟩ = some (.int .i32 ((rd_T45 y102 x21_1).f3)) := (blk_cell BK106.out 3).trans rfl; have hfz13_0 := blk_frozen BK106.out 0; have hfz13_1 := blk_frozen BK106.out 1; have hfz13_2 := blk_frozen BK106.out 2; have hfz13_3 := blk_frozen BK106.out 3))
              go_ret
              exact ⟨by first | rfl | (simp [errW_none, errW_some] <;> rfl) | (simp [*, errW_none, errW_some] <;> rfl), by repeat (first | (with_reducible first | exact HB.out | apply below_alloc | apply pw_below_drewN | apply below_drew1 | refine below_set ?_ GE106.out) | exact HB.out)⟩
            · replace c9 := Bool.eq_false_iff.mpr c9
              subst c9
              have H1 : (fold_Fold.l0 k1 a0 y102 (y102.length : Int) (wrap64 (x21_1 + 1))) = some r := by rw [if_neg (show ¬ (false = true) by decide)] at H; exact H
              clear H
              have H := H1
              clear H1
              have H' := Aside0.mk H
              clear H
              have p105 : 0 ≤ (x21_1 : Int) := of_decide_eq_true (by first | (with_reducible assumption) | assumption)
              have q105 : x21_1 < (y102.length : Int) := of_decide_eq_true (by first | (with_reducible assumption) | assumption)
              obtain ⟨ad105, e105, hx105_0, hx105_1, hx105_2, hx105_3⟩ := at_T45 (Kd.R_reads' HO_19.out).2.2 x21_1 p105 q105
              cases e105
              replace p105 := eq_true p105
              replace q105 := eq_true q105
              go_wp2_with (first | ((with_reducible refine gate_dst (N := 4) rfl ?_); refine box_event ?hg (N := 4) ?hd (cs := #[.int .i32 0, .int .i32 0, .int .i32 0, .int .i32 0]) (t := 45) ?hr ?_; (case hd => rfl); (case hg => rfl); (case hr => first | (go_simp; done) | (go_simp; rfl)); intro gb106 hg w14 hbox hb; have n0_ := Aside0.mk (Kd.R_below (Kd.R_elderB (by (with_reducible repeat (first | apply Kd.R_alloc | apply Kd.R_drewN | apply Kd.R_drew)); exact HO_19.out) gb106 (Nat.le_of_eq hg.symm)) hb); have n1_ := Aside0.mk (below_step (by repeat (first | (with_reducible first | exact HB.out | apply below_alloc | apply pw_below_drewN | apply below_drew1) | exact HB.out)) hb); have n2_ := Aside0.mk (hbox); have n3_ := Aside0.mk ((by rw [hg]; exact (below_size (by repeat (first | (with_reducible first | exact HB.out | apply below_alloc | apply pw_below_drewN | apply below_drew1) | exact HB.out))) : w.heap.size ≤ gb106)); have n4_ := Aside0.mk ((by rw [hg]; exact (below_size (by repeat (first | (with_reducible first | exact HB.out | apply below_alloc | apply pw_below_drewN | apply below_drew1) | exact HB.out))) : w.heap.size ≤ gb106)); clear HO_19; clear HB; have HO_19 := n0_; have HB := n1_; have BK106 := n2_; have GW106 := n3_; have GE106 := n4_; clear n0_ n1_ n2_ n3_ n4_; clear hb hbox hg; have hcz15_0 : w14.cell? ⟨gb106, 0, none⟩ = some (.int .i32 0) := (blk_cell BK106.out 0).trans rfl; have hcz15_1 : w14.cell? ⟨gb106, 1, none⟩ = some (.int .i32 0) := (blk_cell BK106.out 1).trans rfl; have hcz15_2 : w14.cell? ⟨gb106, 2, none⟩ = some (.int .i32 0) := (blk_cell BK106.out 2).trans rfl; have hcz15_3 : w14.cell? ⟨gb106, 3, none⟩ = some (.int .i32 0) := (blk_cell BK106.out 3).trans rfl; have hfz15_0 := blk_frozen BK106.out 0; have hfz15_1 := blk_frozen BK106.out 1; have hfz15_2 := blk_frozen BK106.out 2; have hfz15_3 := blk_frozen BK106.out 3) | ((with_reducible refine gate_callee (f := 28) rfl ?_); refine goesL_ (some 27) rfl rfl Try.func28 (by kernel_rfl) rfl #[.agg #[.int .i32 ((rd_T45 y102 x21_1).f0), .int .i32 ((rd_T45 y102 x21_1).f1), .int .i32 ((rd_T45 y102 x21_1).f2), .int .i32 ((rd_T45 y102 x21_1).f3)], .int .i32 a0] rfl (by (try simp only [List.map_toArray, List.map_cons, List.map_nil]); first | done | rfl | (simp only [List.length_drop, List.length_take]; rfl)) ?_; (with_reducible refine (fold_span_has.calls ((rd_T45 y102 x21_1).f0) ((rd_T45 y102 x21_1).f1) ((rd_T45 y102 x21_1).f2) ((rd_T45 y102 x21_1).f3) a0 false _ A8.out).mono ?_); rintro e w16 ⟨rfl, hb⟩; refine ⟨_, rfl, ?_⟩; have n0_ := Aside0.mk (Kd.R_below (by (with_reducible repeat (first | apply Kd.R_alloc | apply Kd.R_drewN | apply Kd.R_drew)); exact (Kd.R_mono (Kd.R_far (p := ⟨gb106, 3, none⟩) (Kd.R_far (p := ⟨gb106, 2, none⟩) (Kd.R_far (p := ⟨gb106, 1, none⟩) (Kd.R_far (p := ⟨gb106, 0, none⟩) (Kd.R_mono HO_19.out (fun k_ hk => (⟨hk, hk.2⟩ : _ ∧ k_ ≠ gb106))) (fun _ hk => hk.2) (.int .i32 ((rd_T45 y102 x21_1).f0))) (fun _ hk => hk.2) (.int .i32 ((rd_T45 y102 x21_1).f1))) (fun _ hk => hk.2) (.int .i32 ((rd_T45 y102 x21_1).f2))) (fun _ hk => hk.2) (.int .i32 ((rd_T45 y102 x21_1).f3))) (fun _ h_ => h_.1))) hb); have n1_ := Aside0.mk (blk_below (g := gb106) (o := .cells #[.int .i32 ((rd_T45 y102 x21_1).f0), .int .i32 ((rd_T45 y102 x21_1).f1), .int .i32 ((rd_T45 y102 x21_1).f2), .int .i32 ((rd_T45 y102 x21_1).f3)] 45 (0, 0)) (by (with_reducible repeat (first | refine blk_drewN ?_ _ | refine blk_drew ?_ | refine blk_alloc ?_ _)); refine blk_put (cs := #[.int .i32 ((rd_T45 y102 x21_1).f0), .int .i32 ((rd_T45 y102 x21_1).f1), .int .i32 ((rd_T45 y102 x21_1).f2), .int .i32 0]) ?_ 3 _ rfl; (with_reducible repeat (first | refine blk_drewN ?_ _ | refine blk_drew ?_ | refine blk_alloc ?_ _)); refine blk_put (cs := #[.int .i32 ((rd_T45 y102 x21_1).f0), .int .i32 ((rd_T45 y102 x21_1).f1), .int .i32 0, .int .i32 0]) ?_ 2 _ rfl; (with_reducible repeat (first | refine blk_drewN ?_ _ | refine blk_drew ?_ | refine blk_alloc ?_ _)); refine blk_put (cs := #[.int .i32 ((rd_T45 y102 x21_1).f0), .int .i32 0, .int .i32 0, .int .i32 0]) ?_ 1 _ rfl; (with_reducible repeat (first | refine blk_drewN ?_ _ | refine blk_drew ?_ | refine blk_alloc ?_ _)); refine blk_put (cs := #[.int .i32 0, .int .i32 0, .int .i32 0, .int .i32 0]) ?_ 0 _ rfl; (with_reducible repeat (first | refine blk_drewN ?_ _ | refine blk_drew ?_ | refine blk_alloc ?_ _)); exact BK106.out) hb); have n2_ := Aside0.mk (below_step (by repeat (first | (with_reducible first | exact HB.out | apply below_alloc | apply pw_below_drewN | apply below_drew1 | refine below_set ?_ GE106.out) | exact HB.out)) hb); clear HO_19; clear BK106; clear HB; have HO_19 := n0_; have BK106 := n1_; have HB := n2_; clear n0_ n1_ n2_; (try clear hb); (try clear hb2); (try clear hk); (try clear hi)))
              go_roundg k1
              case measure => have := HK1.out; omega
              case rel => exact ⟨(wrap64 (x21_1 + 1)), (by first | rfl | (simp; done) | (simp [*]; done)), H', ⟨by have := HK1.out; omega⟩, ⟨by (with_reducible repeat (first | apply Kd.R_alloc | apply Kd.R_drewN | apply Kd.R_drew)); exact Kd.R_mono HO_19.out (fun _ hk => trivial)⟩, ⟨by repeat (first | (with_reducible first | exact HB.out | apply below_alloc | apply pw_below_drewN | apply below_drew1 | refine below_set ?_ GE106.out) | exact HB.out)⟩⟩
          · rw [if_neg c7] at H
            exact absurd H (by simp)
        · rw [if_neg c6] at H
          exact absurd H (by simp)
      · rw [if_neg c5] at H
        have c5b0 : decide (x21_1 < (y102.length : Int)) = false := decide_eq_false c5
        clear c5
        obtain rfl := Option.some.inj H
        go_wp2
        go_ret
        exact ⟨by first | rfl | (simp [errW_none, errW_some] <;> rfl) | (simp [*, errW_none, errW_some] <;> rfl), by repeat (first | (with_reducible first | exact HB.out | apply below_alloc | apply pw_below_drewN | apply below_drew1) | exact HB.out)⟩

def fold_Mark.f (a0 : Int) : Option (Bool) := if a0 = 39 then (some true) else (some (a0 == 8217))
set_option maxHeartbeats 8000000 in
set_option maxRecDepth 100000 in
theorem fold_Mark.calls (a0 : Int) (r : Bool) (w : World) (h : fold_Mark.f a0 = some r) :
    Calls Try.prog 14 #[.int .i32 a0] w fun e w' => e = .returned (.bool r) ∧ Drawn0 w w' := by
  have H : (if a0 = 39 then (some true) else (some (a0 == 8217))) = some r := h
  clear h
  by_cases c2 : a0 = 39
  · rw [if_pos c2] at H
    have c2b0 : (a0 == 39) = true := beq_iff_eq.mpr c2
    have c2b1 : (a0 != 39) = false := bne_eq_false_iff_eq.mpr c2
    clear c2
    obtain rfl := Option.some.inj H
    go_enter Try.func14, Try.ntmps14
    go_wp2
    go_ret
    exact ⟨by first | rfl | (simp; done) | (simp [*]; done), by repeat (first | exact Drawn0.refl _ | apply Drawn0.step)⟩
  · rw [if_neg c2] at H
    have c2b0 : (a0 == 39) = false := beq_eq_false_iff_ne.mpr c2
    have c2b1 : (a0 != 39) = true := bne_iff_ne.mpr c2
    obtain rfl := Option.some.inj H
    go_enter Try.func14, Try.ntmps14
    go_wp2
    go_ret
    exact ⟨by first | rfl | (simp; done) | (simp [*]; done), by repeat (first | exact Drawn0.refl _ | apply Drawn0.step)⟩

end Go.Proofs.Ythpemcchgebecaa.PFold

