/- TokenAll: whatever bytes (5000 at most): the words told are the document's. (The texts that the proof is made of, one behind the other: part 12 of 13.) -/
import Derived.Test.YthpemcchgebecaaZTokenAlla
import Derived.Test.YthpemcchgebecaaZTokenAllb
import Derived.Test.YthpemcchgebecaaZTokenAllc
import Derived.Test.YthpemcchgebecaaZTokenAlld
import Derived.Test.YthpemcchgebecaaZTokenAlle
import Derived.Test.YthpemcchgebecaaZTokenAllf
import Derived.Test.YthpemcchgebecaaZTokenAllg
import Derived.Test.YthpemcchgebecaaZTokenAllh
import Derived.Test.YthpemcchgebecaaZTokenAlli
import Derived.Test.YthpemcchgebecaaZTokenAllj
import Derived.Test.YthpemcchgebecaaZTokenAllk
namespace Go.Proofs.Ythpemcchgebecaa.PTk
open Go.RowKit Go.Proofs.YthpemcchgebecaaW.PrintWords Go.Proofs.YthpemcchgebecaaW.PrintLast Go.Proofs.YthpemcchgebecaaW.PrintMore Go.Proofs.Ythpemcchgebecaa.K Go.Proofs.Ythpemcchgebecaa.PFold Go.Proofs.Ythpemcchgebecaa.PRf04 Go.Proofs.Ythpemcchgebecaa.PWd
attribute [local go_sem] max2_int min2_int max_two min_two max_three min_three max_four min_four   -- for this text's walks alone
set_option linter.unusedVariables false
set_option linter.unusedSimpArgs false

def manteletlaw07_shown.f (k : Nat)  : Option (Bool) := (some (([68, 111, 110, 226, 128, 153, 116] : List Int) : List Int)).bind fun y158 => (if 4 ≤ (y158.length : Int) then ((token_Feed.f ([] : List Int) ([] : List Int) false false (y158.take 4)).bind fun bt165 => (if 4 ≤ 5 then (if 5 ≤ (y158.length : Int) then ((token_Feed.f bt165.2.1 bt165.2.2.1 bt165.2.2.2.1 bt165.2.2.2.2 ((y158.take 5).drop 4)).bind fun bt181 => ((token_Feed.f bt181.2.1 bt181.2.2.1 bt181.2.2.2.1 bt181.2.2.2.2 (y158.drop 5)).bind fun bt197 => ((token_End.f bt197.2.1 bt197.2.2.1 bt197.2.2.2.1 bt197.2.2.2.2).bind fun t209 => ((manteletref06_Same.f k t209 (([(⟨#[100, 111, 110, 39, 116]⟩ : ByteArray)] : List ByteArray))).bind fun t215 => (some t215))))) else (none)) else (none))) else (none))
def manteletlaw07_shown.T3 : Bool × List (List Nat × List Nat) := (true, [([], []), ([], []), ([1], [1]), ([0, 2], [0, 2]), ([3], [3]), ([4], [4]), ([4], [4]), ([], []), ([5, 3, 0, 1, 2, 3, 4, 5, 7], [5]), ([7, 6, 8, 0, 1, 2, 3, 4, 5, 6, 7, 8], [6, 7])])
def manteletlaw07_shown.B3 : List Nat := [0, 0, 2, 7, 15, 31, 31, 0, 191, 511]
theorem manteletlaw07_shown.tab3 : rtab .any (opsOf Try.f20 3) = manteletlaw07_shown.T3 := by kernel_rfl
theorem manteletlaw07_shown.bits3 : waitsOk manteletlaw07_shown.T3.2 manteletlaw07_shown.B3 = true := by kernel_rfl
def manteletlaw07_shown.T4 : Bool × List (List Nat × List Nat) := (true, [([], []), ([], []), ([1], [1]), ([0, 2], [0, 2]), ([3], [3]), ([4], [4]), ([4], [4]), ([], []), ([5, 3, 0, 1, 2, 3, 4, 5, 7], [5]), ([7, 6, 8, 0, 1, 2, 3, 4, 5, 6, 7, 8], [6, 7])])
def manteletlaw07_shown.B4 : List Nat := [0, 0, 2, 7, 15, 31, 31, 0, 191, 511]
theorem manteletlaw07_shown.tab4 : rtab .any (opsOf Try.f20 4) = manteletlaw07_shown.T4 := by kernel_rfl
theorem manteletlaw07_shown.bits4 : waitsOk manteletlaw07_shown.T4.2 manteletlaw07_shown.B4 = true := by kernel_rfl
set_option maxHeartbeats 8000000 in
set_option maxRecDepth 100000 in
theorem manteletlaw07_shown.calls (k : Nat)  (r : Bool) (w : World) (h : manteletlaw07_shown.f k  = some r) :
    Calls Try.prog 20 #[] w fun e w' => e = .returned (.bool r) ∧ Below w.heap.size w w' := by
  have hu39 := Try.underlying39
  have HB := Aside0.mk (Below.refl w.heap.size w)
  have H : ((some (([68, 111, 110, 226, 128, 153, 116] : List Int) : List Int)).bind fun y158 => (if 4 ≤ (y158.length : Int) then ((token_Feed.f ([] : List Int) ([] : List Int) false false (y158.take 4)).bind fun bt165 => (if 4 ≤ 5 then (if 5 ≤ (y158.length : Int) then ((token_Feed.f bt165.2.1 bt165.2.2.1 bt165.2.2.2.1 bt165.2.2.2.2 ((y158.take 5).drop 4)).bind fun bt181 => ((token_Feed.f bt181.2.1 bt181.2.2.1 bt181.2.2.2.1 bt181.2.2.2.2 (y158.drop 5)).bind fun bt197 => ((token_End.f bt197.2.1 bt197.2.2.1 bt197.2.2.2.1 bt197.2.2.2.2).bind fun t209 => ((manteletref06_Same.f k t209 (([(⟨#[100, 111, 110, 39, 116]⟩ : ByteArray)] : List ByteArray))).bind fun t215 => (some t215))))) else (none)) else (none))) else (none))) = some r := h
  clear h
  obtain ⟨y158, hy158⟩ : ∃ y_ : List Int, y_ = (([68, 111, 110, 226, 128, 153, 116] : List Int)) := ⟨_, rfl⟩
  replace H : (if 4 ≤ (y158.length : Int) then ((token_Feed.f ([] : List Int) ([] : List Int) false false (y158.take 4)).bind fun bt165 => (if 4 ≤ 5 then (if 5 ≤ (y158.length : Int) then ((token_Feed.f bt165.2.1 bt165.2.2.1 bt165.2.2.2.1 bt165.2.2.2.2 ((y158.take 5).drop 4)).bind fun bt181 => ((token_Feed.f bt181.2.1 bt181.2.2.1 bt181.2.2.2.1 bt181.2.2.2.2 (y158.drop 5)).bind fun bt197 => ((token_End.f bt197.2.1 bt197.2.2.1 bt197.2.2.2.1 bt197.2.2.2.2).bind fun t209 => ((manteletref06_Same.f k t209 (([(⟨#[100, 111, 110, 39, 116]⟩ : ByteArray)] : List ByteArray))).bind fun t215 => (some t215))))) else (none)) else (none))) else (none)) = some r := by first | (rw [hy158]; with_reducible exact H) | (have H2_ := (Option.bind_some _ _).symm.trans H; rw [hy158]; with_reducible exact H2_) | (have H2_ := (Option.bind_some _ _).symm.trans H; with_reducible exact H2_) | with_reducible exact H | (rw [hy158]; exact H) | exact H
  have Ny158 := Aside0.mk hy158
  clear hy158
  by_cases c1 : 4 ≤ (y158.length : Int)
  · rw [if_pos c1] at H
    have c1b0 := eq_true c1
    have c1b1 : decide (4 ≤ (y158.length : Int)) = true := decide_eq_true c1
    clear c1
    obtain ⟨y161, hy161⟩ : ∃ y_ : List Int, y_ = (y158.take 4) := ⟨_, rfl⟩
    replace H : ((token_Feed.f ([] : List Int) ([] : List Int) false false y161).bind fun bt165 => (if 4 ≤ 5 then (if 5 ≤ (y158.length : Int) then ((token_Feed.f bt165.2.1 bt165.2.2.1 bt165.2.2.2.1 bt165.2.2.2.2 ((y158.take 5).drop 4)).bind fun bt181 => ((token_Feed.f bt181.2.1 bt181.2.2.1 bt181.2.2.2.1 bt181.2.2.2.2 (y158.drop 5)).bind fun bt197 => ((token_End.f bt197.2.1 bt197.2.2.1 bt197.2.2.2.1 bt197.2.2.2.2).bind fun t209 => ((manteletref06_Same.f k t209 (([(⟨#[100, 111, 110, 39, 116]⟩ : ByteArray)] : List ByteArray))).bind fun t215 => (some t215))))) else (none)) else (none))) = some r := by first | (rw [hy161]; with_reducible exact H) | (have H2_ := (Option.bind_some _ _).symm.trans H; rw [hy161]; with_reducible exact H2_) | (have H2_ := (Option.bind_some _ _).symm.trans H; with_reducible exact H2_) | with_reducible exact H | (rw [hy161]; exact H) | exact H
    have Ny161 := Aside0.mk hy161
    clear hy161
    replace H := Option.bind_eq_some_iff.mp H
    obtain ⟨⟨t165, t168, t171, t174, t175⟩, A20, H⟩ := H
    replace H : (if 4 ≤ 5 then (if 5 ≤ (y158.length : Int) then ((token_Feed.f t168 t171 t174 t175 ((y158.take 5).drop 4)).bind fun bt181 => ((token_Feed.f bt181.2.1 bt181.2.2.1 bt181.2.2.2.1 bt181.2.2.2.2 (y158.drop 5)).bind fun bt197 => ((token_End.f bt197.2.1 bt197.2.2.1 bt197.2.2.2.1 bt197.2.2.2.2).bind fun t209 => ((manteletref06_Same.f k t209 (([(⟨#[100, 111, 110, 39, 116]⟩ : ByteArray)] : List ByteArray))).bind fun t215 => (some t215))))) else (none)) else (none)) = some r := H
    have A2 := Aside0.mk A20
    clear A20
    by_cases c3 : 4 ≤ 5
    · rw [if_pos c3] at H
      have c3b0 := eq_true c3
      have c3b1 : decide (4 ≤ 5) = true := decide_eq_true c3
      clear c3
      by_cases c4 : 5 ≤ (y158.length : Int)
      · rw [if_pos c4] at H
        have c4b0 := eq_true c4
        have c4b1 : decide (5 ≤ (y158.length : Int)) = true := decide_eq_true c4
        clear c4
        obtain ⟨y177, hy177⟩ : ∃ y_ : List Int, y_ = ((y158.take 5).drop 4) := ⟨_, rfl⟩
        replace H : ((token_Feed.f t168 t171 t174 t175 y177).bind fun bt181 => ((token_Feed.f bt181.2.1 bt181.2.2.1 bt181.2.2.2.1 bt181.2.2.2.2 (y158.drop 5)).bind fun bt197 => ((token_End.f bt197.2.1 bt197.2.2.1 bt197.2.2.2.1 bt197.2.2.2.2).bind fun t209 => ((manteletref06_Same.f k t209 (([(⟨#[100, 111, 110, 39, 116]⟩ : ByteArray)] : List ByteArray))).bind fun t215 => (some t215))))) = some r := by first | (rw [hy177]; with_reducible exact H) | (have H2_ := (Option.bind_some _ _).symm.trans H; rw [hy177]; with_reducible exact H2_) | (have H2_ := (Option.bind_some _ _).symm.trans H; with_reducible exact H2_) | with_reducible exact H | (rw [hy177]; exact H) | exact H
        have Ny177 := Aside0.mk hy177
        clear hy177
        replace H := Option.bind_eq_some_iff.mp H
        obtain ⟨⟨t181, t184, t187, t190, t191⟩, A50, H⟩ := H
        replace H : ((token_Feed.f t184 t187 t190 t191 (y158.drop 5)).bind fun bt197 => ((token_End.f bt197.2.1 bt197.2.2.1 bt197.2.2.2.1 bt197.2.2.2.2).bind fun t209 => ((manteletref06_Same.f k t209 (([(⟨#[100, 111, 110, 39, 116]⟩ : ByteArray)] : List ByteArray))).bind fun t215 => (some t215)))) = some r := H
        have A5 := Aside0.mk A50
        clear A50
        have c6b0 := eq_true (of_decide_eq_true (by first | (with_reducible assumption) | assumption) : 5 ≤ (y158.length : Int))
        obtain ⟨y193, hy193⟩ : ∃ y_ : List Int, y_ = (y158.drop 5) := ⟨_, rfl⟩
        replace H : ((token_Feed.f t184 t187 t190 t191 y193).bind fun bt197 => ((token_End.f bt197.2.1 bt197.2.2.1 bt197.2.2.2.1 bt197.2.2.2.2).bind fun t209 => ((manteletref06_Same.f k t209 (([(⟨#[100, 111, 110, 39, 116]⟩ : ByteArray)] : List ByteArray))).bind fun t215 => (some t215)))) = some r := by first | (rw [hy193]; with_reducible exact H) | (have H2_ := (Option.bind_some _ _).symm.trans H; rw [hy193]; with_reducible exact H2_) | (have H2_ := (Option.bind_some _ _).symm.trans H; with_reducible exact H2_) | with_reducible exact H | (rw [hy193]; exact H) | exact H
        have Ny193 := Aside0.mk hy193
        clear hy193
        replace H := Option.bind_eq_some_iff.mp H
        obtain ⟨⟨t197, t200, t203, t206, t207⟩, A70, H⟩ := H
        replace H : ((token_End.f t200 t203 t206 t207).bind fun t209 => ((manteletref06_Same.f k t209 (([(⟨#[100, 111, 110, 39, 116]⟩ : ByteArray)] : List ByteArray))).bind fun t215 => (some t215))) = some r := H
        have A7 := Aside0.mk A70
        clear A70
        replace H := Option.bind_eq_some_iff.mp H
        obtain ⟨t209, A80, H⟩ := H
        replace H : ((manteletref06_Same.f k t209 (([(⟨#[100, 111, 110, 39, 116]⟩ : ByteArray)] : List ByteArray))).bind fun t215 => (some t215)) = some r := H
        have A8 := Aside0.mk A80
        clear A80
        obtain ⟨y212, hy212⟩ : ∃ y_ : List ByteArray, y_ = (([(⟨#[100, 111, 110, 39, 116]⟩ : ByteArray)] : List ByteArray)) := ⟨_, rfl⟩
        replace H : ((manteletref06_Same.f k t209 y212).bind fun t215 => (some t215)) = some r := by first | (rw [hy212]; with_reducible exact H) | (have H2_ := (Option.bind_some _ _).symm.trans H; rw [hy212]; with_reducible exact H2_) | (have H2_ := (Option.bind_some _ _).symm.trans H; with_reducible exact H2_) | with_reducible exact H | (rw [hy212]; exact H) | exact H
        have Ny212 := Aside0.mk hy212
        clear hy212
        replace H := Option.bind_eq_some_iff.mp H
        obtain ⟨t215, A90, H⟩ := H
        replace H : (some t215) = some r := H
        have A9 := Aside0.mk A90
        clear A90
        obtain rfl := Option.some.inj H
        clear HB
        obtain ⟨w10, hw1_⟩ : ∃ W, W = w.alloc (.cells #[.int .u8 68, .int .u8 111, .int .u8 110, .int .u8 226, .int .u8 128, .int .u8 153, .int .u8 116] 5 (7, 7 + 1)) := ⟨_, rfl⟩
        obtain ⟨Ao13, hA_⟩ : ∃ A, A = some (⟨w.heap.size, 0, none⟩ : Addr) := ⟨_, rfl⟩
        obtain ⟨co13, hco_⟩ : ∃ c, c = 7 := ⟨_, rfl⟩
        have hyl_ : y158.length = 7 := by rw [Ny158.out]; rfl
        have hcv_ : (convert 31 31 (.slice (some ⟨w.heap.size, 0, none⟩) 7 7)).run Try.prog (w.alloc (.cells #[.int .u8 68, .int .u8 111, .int .u8 110, .int .u8 226, .int .u8 128, .int .u8 153, .int .u8 116] 5)) = .ok (.slice Ao13 y158.length co13) w10 := by rw [hw1_, hA_, hco_, hyl_]; exact Lib.run_convert_bytes_const w 31 5 #[.int .u8 68, .int .u8 111, .int .u8 110, .int .u8 226, .int .u8 128, .int .u8 153, .int .u8 116] 7 7 Try.underlying31 Try.underlying5
        have HO160 : Aside0 (RM w10 w.heap.size (fun _ => True) (.slice Ao13 y158.length co13) y158) := ⟨⟨w.heap.size, 7, (7, 7 + 1), by rw [hA_, hco_], by rw [hyl_]; exact Nat.le_refl _, by rw [hyl_]; decide, Nat.le_refl _, trivial, by rw [hw1_, Ny158.out]; exact heap_alloc_new w _⟩⟩
        have HB := Aside0.mk (show Below w.heap.size w w10 from by rw [hw1_]; exact below_alloc (Below.refl _ _) _)
        clear hw1_ hA_ hco_ hyl_
        have q12 : (4 : Int) ≤ ((y158.length : Int) : Int) := of_decide_eq_true (by first | (with_reducible assumption) | assumption)
        obtain ⟨i012, hi012, _, hsz12, _⟩ := info_parts info5
        have hroom12 : y158.length ≤ co13 := (RM_reads HO160.out).2.1
        have hC12 : Kd.C (Kd.int .u8) _ Ao13 y158.length y158 := (RM_reads HO160.out).2.2
        have hcut12 := cut_to (P := Try.prog) 31 5 .i64 Try.underlying31 hi012 Ao13 y158.length co13 4 (by omega) q12 hroom12
        have hr12 := Kd.C_take (m := 4) hC12 (by omega)
        have hy12 : y161.length = (4 : Int).toNat := (by rw [Ny161.out, List.length_take]; omega)
        rw [← Ny161.out] at hr12
        rw [← hy12] at hcut12
        have HR164 := Aside0.mk hr12
        have HC164 := Aside0.mk (show y161.length ≤ co13 from by omega)
        clear hr12 hC12 hroom12 hi012 hsz12
        have KY12 := Aside0.mk hy12
        clear hy12
        have KL12 := Aside0.mk (show 4 ≤ y158.length from by omega)
        replace q12 := eq_true q12
        go_enter Try.func20, Try.ntmps20
        try go_wp2_with (first | ((with_reducible refine gate_callee (f := 24) rfl ?_); refine goesL_ (some 14) rfl rfl Try.func24 (by kernel_rfl) rfl #[.agg #[.slice none 0 0, .slice none 0 0, .bool false, .bool false], .slice Ao13 y161.length co13] rfl (by (try simp only [List.map_toArray, List.map_cons, List.map_nil]); first | done | rfl | (simp only [List.length_drop, List.length_take]; rfl)) ?_; (refine (token_Feed.calls _ _ ([] : List Int) _ _ ([] : List Int) false false _ _ y161 t165 t168 t171 t174 t175 _ ?side1 ?side2 ?side3 ?side4 ?side5 ?side6 A2.out).mono ?_); (case side1 => exact Kd.C_nil _ _); (case side2 => exact Nat.le_refl _); (case side3 => exact Kd.C_nil _ _); (case side4 => exact Nat.le_refl _); (case side5 => repeat (first | exact (by repeat (first | (with_reducible exact HR164.out) | (with_reducible refine Kd.C_alloc ?_ _) | (with_reducible refine Kd.C_drewN ?_ _) | (with_reducible refine Kd.C_drew ?_) | exact HR164.out)) | (with_reducible refine Kd.C_alloc ?_ _) | (with_reducible refine Kd.C_drewN ?_ _) | (with_reducible refine Kd.C_drew ?_))); (case side6 => exact HC164.out); rintro e w14 ⟨v166, v169, v172, rfl, ho0, ho1, ho2, hb⟩; refine ⟨_, rfl, ?_⟩; have n0_ := Aside0.mk (RM_elder' HO160.out (Kd.Q_base ho1) hb); have n1_ := Aside0.mk (Kd.R_lower ho0 (below_size (by repeat (first | (with_reducible first | exact HB.out | apply below_alloc | apply pw_below_drewN | apply below_drew1) | exact HB.out)))); have n2_ := Aside0.mk (Kd.Q_lower (Kd.Q_new' ho1 (RM_lt HO160.out)) (below_size (by repeat (first | (with_reducible first | exact HB.out | apply below_alloc | apply pw_below_drewN | apply below_drew1) | exact HB.out)))); have n3_ := Aside0.mk (Kd.R_lower ho2 (below_size (by repeat (first | (with_reducible first | exact HB.out | apply below_alloc | apply pw_below_drewN | apply below_drew1) | exact HB.out)))); have n4_ := Aside0.mk (Kd.C_below (by repeat (first | (with_reducible exact HR164.out) | (with_reducible refine Kd.C_alloc ?_ _) | (with_reducible refine Kd.C_drewN ?_ _) | (with_reducible refine Kd.C_drew ?_) | exact HR164.out)) hb); have n5_ := Aside0.mk (below_step (by repeat (first | (with_reducible first | exact HB.out | apply below_alloc | apply pw_below_drewN | apply below_drew1) | exact HB.out)) hb); clear HO160; clear HR164; clear HB; have HO160 := n0_; have HO167 := n1_; have HO170 := n2_; have HO173 := n3_; have HR164 := n4_; have HB := n5_; clear n0_ n1_ n2_ n3_ n4_ n5_; (try clear hb); (try clear hb2); (try clear hk); (try clear hi); (try clear ho0); (try clear ho1); (try clear ho2)) | ((with_reducible refine gate_dst (N := 3) rfl ?_); refine box_event ?hg (N := 3) ?hd (cs := #[.slice none 0 0, .slice none 0 0, .bool false, .bool false]) (t := 39) ?hr ?_; (case hd => rfl); (case hg => rfl); (case hr => first | (go_simp; done) | (go_simp; rfl)); intro gb176 hg w15 hbox hb; have n0_ := Aside0.mk (RM_below HO160.out hb); have n1_ := Aside0.mk (Kd.R_below (by (with_reducible repeat (first | apply Kd.R_alloc | apply Kd.R_drewN | apply Kd.R_drew)); exact HO167.out) hb); have n2_ := Aside0.mk (Kd.Q_below (by (with_reducible repeat (first | apply Kd.Q_alloc | apply Kd.Q_drewN | apply Kd.Q_drew)); exact HO170.out) hb); have n3_ := Aside0.mk (Kd.R_below (by (with_reducible repeat (first | apply Kd.R_alloc | apply Kd.R_drewN | apply Kd.R_drew)); exact HO173.out) hb); have n4_ := Aside0.mk (Kd.C_below (by repeat (first | (with_reducible exact HR164.out) | (with_reducible refine Kd.C_alloc ?_ _) | (with_reducible refine Kd.C_drewN ?_ _) | (with_reducible refine Kd.C_drew ?_) | exact HR164.out)) hb); have n5_ := Aside0.mk (below_step (by repeat (first | (with_reducible first | exact HB.out | apply below_alloc | apply pw_below_drewN | apply below_drew1) | exact HB.out)) hb); have n6_ := Aside0.mk (hbox); have n7_ := Aside0.mk ((by rw [hg]; exact (below_size (by repeat (first | (with_reducible first | exact HB.out | apply below_alloc | apply pw_below_drewN | apply below_drew1) | exact HB.out))) : w.heap.size ≤ gb176)); have n8_ := Aside0.mk ((by rw [hg]; exact (below_size (by repeat (first | (with_reducible first | exact HB.out | apply below_alloc | apply pw_below_drewN | apply below_drew1) | exact HB.out))) : w.heap.size ≤ gb176)); clear HO160; clear HO167; clear HO170; clear HO173; clear HR164; clear HB; have HO160 := n0_; have HO167 := n1_; have HO170 := n2_; have HO173 := n3_; have HR164 := n4_; have HB := n5_; have BK176 := n6_; have GW176 := n7_; have GE176 := n8_; clear n0_ n1_ n2_ n3_ n4_ n5_ n6_ n7_ n8_; clear hb hbox hg; obtain ⟨Ao16, co16, eo16, _⟩ := Kd.Q_slice HO170.out; subst eo16; have hcz17_0 : w15.cell? ⟨gb176, 0, none⟩ = some (.slice none 0 0) := (blk_cell BK176.out 0).trans rfl; have hcz17_1 : w15.cell? ⟨gb176, 1, none⟩ = some (.slice none 0 0) := (blk_cell BK176.out 1).trans rfl; have hcz17_2 : w15.cell? ⟨gb176, 2, none⟩ = some (.bool false) := (blk_cell BK176.out 2).trans rfl; have hcz17_3 : w15.cell? ⟨gb176, 3, none⟩ = some (.bool false) := (blk_cell BK176.out 3).trans rfl; have hfz17_0 := blk_frozen BK176.out 0; have hfz17_1 := blk_frozen BK176.out 1; have hfz17_2 := blk_frozen BK176.out 2; have hfz17_3 := blk_frozen BK176.out 3; obtain ⟨Ao18, co18, eo18⟩ := Kd.R_slice HO173.out; subst eo18))
        have n0_ : Aside0 (RM ((((w15.setCell ⟨gb176, 0, none⟩ (.slice Ao16 t168.length co16)).setCell ⟨gb176, 1, none⟩ (.slice Ao18 t171.length co18)).setCell ⟨gb176, 2, none⟩ (.bool t174)).setCell ⟨gb176, 3, none⟩ (.bool t175)) w.heap.size (fun k_ => some k_ ≠ (.slice Ao16 t168.length co16 : Value).ownBlock) (.slice Ao13 y158.length co13) y158) := ⟨RM_mono (RM_butg HO160.out BK176.out (by decide) far4) (fun _ hk => hk.2)⟩
        have n1_ : Aside0 (Kd.R Kd.string 9 ((((w15.setCell ⟨gb176, 0, none⟩ (.slice Ao16 t168.length co16)).setCell ⟨gb176, 1, none⟩ (.slice Ao18 t171.length co18)).setCell ⟨gb176, 2, none⟩ (.bool t174)).setCell ⟨gb176, 3, none⟩ (.bool t175)) w.heap.size (fun _ => True) v166 t165) := ⟨Kd.R_mono (R_butg HO167.out BK176.out (by decide) far4) (fun _ hk => trivial)⟩
        have n2_ : Aside0 (Kd.Q (Kd.int .u8) 5 ((((w15.setCell ⟨gb176, 0, none⟩ (.slice Ao16 t168.length co16)).setCell ⟨gb176, 1, none⟩ (.slice Ao18 t171.length co18)).setCell ⟨gb176, 2, none⟩ (.bool t174)).setCell ⟨gb176, 3, none⟩ (.bool t175)) w.heap.size (fun k_ => some k_ ≠ (.slice Ao13 y158.length co13 : Value).ownBlock) (.slice Ao16 t168.length co16) t168) := ⟨Kd.Q_mono (Q_butg HO170.out BK176.out (by decide) far4) (fun _ hk => hk.2)⟩
        have n3_ : Aside0 (Kd.R (Kd.int .i32) 21 ((((w15.setCell ⟨gb176, 0, none⟩ (.slice Ao16 t168.length co16)).setCell ⟨gb176, 1, none⟩ (.slice Ao18 t171.length co18)).setCell ⟨gb176, 2, none⟩ (.bool t174)).setCell ⟨gb176, 3, none⟩ (.bool t175)) w.heap.size (fun _ => True) (.slice Ao18 t171.length co18) t171) := ⟨Kd.R_mono (R_butg HO173.out BK176.out (by decide) far4) (fun _ hk => trivial)⟩
        have n4_ : Aside0 (((((w15.setCell ⟨gb176, 0, none⟩ (.slice Ao16 t168.length co16)).setCell ⟨gb176, 1, none⟩ (.slice Ao18 t171.length co18)).setCell ⟨gb176, 2, none⟩ (.bool t174)).setCell ⟨gb176, 3, none⟩ (.bool t175)).heap[gb176]? = some (.cells #[.slice Ao16 t168.length co16, .slice Ao18 t171.length co18, .bool t174, .bool t175] 39 (0, 0))) := ⟨by (with_reducible repeat (first | refine blk_drewN ?_ _ | refine blk_drew ?_ | refine blk_alloc ?_ _)); refine blk_put (cs := #[.slice Ao16 t168.length co16, .slice Ao18 t171.length co18, .bool t174, .bool false]) ?_ 3 _ rfl; (with_reducible repeat (first | refine blk_drewN ?_ _ | refine blk_drew ?_ | refine blk_alloc ?_ _)); refine blk_put (cs := #[.slice Ao16 t168.length co16, .slice Ao18 t171.length co18, .bool false, .bool false]) ?_ 2 _ rfl; (with_reducible repeat (first | refine blk_drewN ?_ _ | refine blk_drew ?_ | refine blk_alloc ?_ _)); refine blk_put (cs := #[.slice Ao16 t168.length co16, .slice none 0 0, .bool false, .bool false]) ?_ 1 _ rfl; (with_reducible repeat (first | refine blk_drewN ?_ _ | refine blk_drew ?_ | refine blk_alloc ?_ _)); refine blk_put (cs := #[.slice none 0 0, .slice none 0 0, .bool false, .bool false]) ?_ 0 _ rfl; (with_reducible repeat (first | refine blk_drewN ?_ _ | refine blk_drew ?_ | refine blk_alloc ?_ _)); exact BK176.out⟩
        have n5_ : Aside0 (Below w.heap.size w ((((w15.setCell ⟨gb176, 0, none⟩ (.slice Ao16 t168.length co16)).setCell ⟨gb176, 1, none⟩ (.slice Ao18 t171.length co18)).setCell ⟨gb176, 2, none⟩ (.bool t174)).setCell ⟨gb176, 3, none⟩ (.bool t175))) := ⟨by repeat (first | (with_reducible first | exact HB.out | apply below_alloc | apply pw_below_drewN | apply below_drew1 | refine below_set ?_ GE176.out) | exact HB.out)⟩
        (try clear HO160)
        (try clear HO167)
        (try clear HO170)
        (try clear HO173)
        (try clear BK176)
        (try clear HB)
        generalize ((((w15.setCell ⟨gb176, 0, none⟩ (.slice Ao16 t168.length co16)).setCell ⟨gb176, 1, none⟩ (.slice Ao18 t171.length co18)).setCell ⟨gb176, 2, none⟩ (.bool t174)).setCell ⟨gb176, 3, none⟩ (.bool t175)) = w19 at n0_ n1_ n2_ n3_ n4_ n5_ ⊢
        have HO160 := n0_
        have HO167 := n1_
        have HO170 := n2_
        have HO173 := n3_
        have BK176 := n4_
        have HB := n5_
        clear n0_ n1_ n2_ n3_ n4_ n5_
        have n0_ := Aside0.mk (RM_drew HO160.out)
        have n1_ := Aside0.mk (Kd.R_drew HO167.out)
        have n2_ := Aside0.mk (Kd.Q_drew HO170.out)
        have n3_ := Aside0.mk (Kd.R_drew HO173.out)
        have n4_ := Aside0.mk (blk_drew BK176.out)
        have n5_ := Aside0.mk (below_drew1 HB.out)
        clear HO160
        clear HO167
        clear HO170
        clear HO173
        clear BK176
        clear HB
        have HO160 := n0_
        have HO167 := n1_
        have HO170 := n2_
        have HO173 := n3_
        have BK176 := n4_
        have HB := n5_
        clear n0_ n1_ n2_ n3_ n4_ n5_
        have q21 : (5 : Int) ≤ ((y158.length : Int) : Int) := of_decide_eq_true (by first | (with_reducible assumption) | assumption)
        obtain ⟨i021, hi021, _, hsz21, _⟩ := info_parts info5
        have hroom21 : y158.length ≤ co13 := (RM_reads HO160.out).2.1
        have hC21 : Kd.C (Kd.int .u8) _ Ao13 y158.length y158 := (RM_reads HO160.out).2.2
        have ql21 : (4 : Int) ≤ (5 : Int) := (by omega)
        have hcut21 := cut_mid (P := Try.prog) 31 5 .i64 .i64 Try.underlying31 hi021 1 hsz21 Ao13 y158.length co13 4 5 (by omega) ql21 q21 hroom21
        have hr21 := Kd.C_mid (lo := (4 : Int).toNat) (hi := (5 : Int).toNat) (c := co13) hC21 (by omega) (by omega) hroom21
        obtain ⟨A21, hA21⟩ : ∃ A1, A1 = (if co13 = (4 : Int).toNat then Ao13 else (Ao13 : Option Addr).map (·.add ((4 : Int).toNat * 1))) := ⟨_, rfl⟩
        obtain ⟨c21, hc21⟩ : ∃ c1, c1 = co13 - (4 : Int).toNat := ⟨_, rfl⟩
        have hy21 : y177.length = (5 : Int).toNat - (4 : Int).toNat := (by rw [Ny177.out, List.length_drop, List.length_take] <;> omega)
        rw [show ((y158).take (5 : Int).toNat).drop (4 : Int).toNat = y177 from Ny177.out.symm] at hr21
        replace hr21 : Kd.C (Kd.int .u8) _ A21 y177.length y177 := (by rw [hA21]; exact hr21)
        rw [← hy21, ← hA21, ← hc21] at hcut21
        have HR180 := Aside0.mk hr21
        have HC180 := Aside0.mk (show y177.length ≤ c21 from by rw [hy21, hc21]; exact Nat.sub_le_sub_right (Nat.le_trans (by omega) hroom21) _)
        clear hr21 hC21 hroom21 hi021 hsz21 hc21
        have KY21 := Aside0.mk hy21
        have KA21 := Aside0.mk hA21
        clear hy21 hA21
        have KL21 := Aside0.mk (show 5 ≤ y158.length from by omega)
        have KM21 := Aside0.mk (show 4 ≤ 5 from by omega)
        replace q21 := eq_true q21
        refine start_ (n := 10) (S := fun w' => w'.cell? ⟨gb176, 0, none⟩ = some (.slice Ao16 t168.length co16) ∧ w'.cell? ⟨gb176, 1, none⟩ = some (.slice Ao18 t171.length co18) ∧ w'.cell? ⟨gb176, 2, none⟩ = some (.bool t174) ∧ w'.cell? ⟨gb176, 3, none⟩ = some (.bool t175)) (ds := []) #[false, false, false, false, false, false, false, false, false, false] (by kernel_rfl) rfl rfl ⟨(blk_cell BK176.out 0).trans rfl, (blk_cell BK176.out 1).trans rfl, (blk_cell BK176.out 2).trans rfl, (blk_cell BK176.out 3).trans rfl⟩ (fun hHeld => ?_); refine with_tabW manteletlaw07_shown.tab3 manteletlaw07_shown.bits3 (fun HT_ HW_ => ?_)
        generalize w19.drew = w20 at HO160 HO167 HO170 HO173 BK176 HB HR180 hHeld ⊢
        refine pure_ (i := 1) (N := some 19) (v := ?_) (a' := ?_) #[false, true, false, false, false, false, false, false, false, false] rfl rfl (any_of HT_.out (by kernel_rfl)) (fun _ _ _ h => h) (Or.inl ⟨by rfl, ?_⟩) ?_ ?_
        rotate_left
        · intro w'
          go_simp
          with_reducible rfl
        rotate_left
        · simp only [Act.put, List.setIfInBounds_toArray, List.set_cons_zero, List.set_cons_succ, i64_w, i32_w]
          rfl
        refine pure_ (i := 2) (N := some 20) (v := ?_) (a' := ?_) #[false, true, true, false, false, false, false, false, false, false] rfl rfl (any_of HT_.out (by kernel_rfl)) (fun _ _ _ h => h) (Or.inl ⟨by rfl, ?_⟩) ?_ ?_
        rotate_left
        · intro w'
          go_simp
          with_reducible rfl
        rotate_left
        · simp only [Act.put, List.setIfInBounds_toArray, List.set_cons_zero, List.set_cons_succ, i64_w, i32_w]
          rfl
        refine take_ (i := 0) (N := some 18) (v := ?_) (a' := ?_) #[true, true, true, false, false, false, false, false, false, false] rfl rfl (take_ofW HT_.out HW_.out (by kernel_rfl)) (fun _ _ _ h => h) (Or.inl ⟨by rfl, ?_⟩) hHeld ?_ ?_
        rotate_left
        · rintro w' ⟨s0, s1, s2, s3⟩
          go_simp
          with_reducible rfl
        rotate_left
        · simp only [Act.put, List.setIfInBounds_toArray, List.set_cons_zero, List.set_cons_succ, i64_w, i32_w]
          rfl
        refine join_ (σ := Value × Value × Value × Nat) 2 #[true, true, true, true, true, true, true, true, false, false] (fun s_ => [(21, .tuple #[s_.1, .agg #[s_.2.1, s_.2.2.1, .bool t190, .bool t191]]), (5, .pointer (some ⟨s_.2.2.2, 0, none⟩)), (17, .tuple #[s_.1, .agg #[s_.2.1, s_.2.2.1, .bool t190, .bool t191]]), (22, s_.1), (23, .agg #[s_.2.1, s_.2.2.1, .bool t190, .bool t191])]) (fun s_ w' => (w'.cell? ⟨gb176, 0, none⟩ = some (.slice Ao16 t168.length co16) ∧ w'.cell? ⟨gb176, 1, none⟩ = some (.slice Ao18 t171.length co18) ∧ w'.cell? ⟨gb176, 2, none⟩ = some (.bool t174) ∧ w'.cell? ⟨gb176, 3, none⟩ = some (.bool t175)) ∧ (RM w' w.heap.size (fun k_ => some k_ ≠ (.slice Ao16 t168.length co16 : Value).ownBlock ∧ some k_ ≠ (s_.2.1 : Value).ownBlock) (.slice Ao13 y158.length co13) y158) ∧ (Kd.R Kd.string 9 w' w.heap.size (fun k_ => some k_ ≠ (s_.1 : Value).ownBlock) v166 t165) ∧ (Kd.Q (Kd.int .u8) 5 w' w.heap.size (fun k_ => some k_ ≠ (.slice Ao13 y158.length co13 : Value).ownBlock ∧ some k_ ≠ (s_.2.1 : Value).ownBlock) (.slice Ao16 t168.length co16) t168) ∧ (Kd.R (Kd.int .i32) 21 w' w.heap.size (fun k_ => some k_ ≠ (s_.2.2.1 : Value).ownBlock) (.slice Ao18 t171.length co18) t171) ∧ (Kd.R Kd.string 9 w' w.heap.size (fun k_ => some k_ ≠ (v166 : Value).ownBlock) s_.1 t181) ∧ (Kd.Q (Kd.int .u8) 5 w' w.heap.size (fun k_ => some k_ ≠ (.slice Ao13 y158.length co13 : Value).ownBlock ∧ some k_ ≠ (.slice Ao16 t168.length co16 : Value).ownBlock) s_.2.1 t184) ∧ (Kd.R (Kd.int .i32) 21 w' w.heap.size (fun k_ => some k_ ≠ (.slice Ao18 t171.length co18 : Value).ownBlock) s_.2.2.1 t187) ∧ (w'.heap[gb176]? = some (.cells #[.slice Ao16 t168.length co16, .slice Ao18 t171.length co18, .bool t174, .bool t175] 39 (0, 0))) ∧ (w'.heap[s_.2.2.2]? = some (.cells #[.slice none 0 0, .slice none 0 0, .bool false, .bool false] 39 (0, 0))) ∧ (w.heap.size ≤ s_.2.2.2) ∧ (w.heap.size ≤ s_.2.2.2) ∧ (gb176 ≠ s_.2.2.2) ∧ (s_.2.2.2 ≠ gb176) ∧ (Below w.heap.size w w')) ?_ ?_
        rotate_left
        · intro hCont
          refine two_ (i := 3) (j := 7) (Ni := some 21) (Nj := some 5) #[true, true, true, true, false, false, false, false, false, false] #[true, true, true, false, false, false, false, true, false, false] rfl rfl rfl rfl (two_of HT_.out (by kernel_rfl)) (by decide) (by decide) (fun K hK => ?_) (fun K hK => ?_)
          · skip
            refine goes_ Try.func24 (by kernel_rfl) rfl #[.agg #[.slice Ao16 t168.length co16, .slice Ao18 t171.length co18, .bool t174, .bool t175], .slice A21 y177.length c21] (by rfl) rfl rfl (by (try simp only [List.map_toArray, List.map_cons, List.map_nil]); first | done | rfl | (simp only [List.length_drop, List.length_take]; rfl)) ?_
            with_reducible refine (token_Feed.calls _ _ t168 _ _ t171 t174 t175 _ _ y177 t181 t184 t187 t190 t191 _ ?side1 ?side2 ?side3 ?side4 ?side5 ?side6 A5.out).mono ?_
            (case side1 => repeat (first | exact (Kd.Q_reads' HO170.out).2.2 | (with_reducible refine Kd.C_alloc ?_ _) | (with_reducible refine Kd.C_drewN ?_ _) | (with_reducible refine Kd.C_drew ?_)))
            (case side2 => exact (Kd.Q_reads' HO170.out).2.1)
            (case side3 => repeat (first | exact (Kd.R_reads' HO173.out).2.2 | (with_reducible refine Kd.C_alloc ?_ _) | (with_reducible refine Kd.C_drewN ?_ _) | (with_reducible refine Kd.C_drew ?_)))
            (case side4 => exact (Kd.R_reads' HO173.out).2.1)
            (case side5 => repeat (first | exact (by repeat (first | (with_reducible exact HR180.out) | (with_reducible refine Kd.C_alloc ?_ _) | (with_reducible refine Kd.C_drewN ?_ _) | (with_reducible refine Kd.C_drew ?_) | exact HR180.out)) | (with_reducible refine Kd.C_alloc ?_ _) | (with_reducible refine Kd.C_drewN ?_ _) | (with_reducible refine Kd.C_drew ?_)))
            (case side6 => exact HC180.out)
            rintro e w22 ⟨v182, v185, v188, rfl, ho0, ho1, ho2, hb⟩
            refine ⟨_, rfl, ?_⟩
            have n0_ := Aside0.mk (RM_elder' HO160.out (Kd.Q_base ho1) hb)
            have n1_ := Aside0.mk (Kd.R_elder' (by (with_reducible repeat (first | apply Kd.R_alloc | apply Kd.R_drewN | apply Kd.R_drew)); exact HO167.out) (Kd.R_base ho0) hb)
            have n2_ := Aside0.mk (Kd.Q_elder' (by (with_reducible repeat (first | apply Kd.Q_alloc | apply Kd.Q_drewN | apply Kd.Q_drew)); exact HO170.out) (Kd.Q_base ho1) hb)
            have n3_ := Aside0.mk (Kd.R_elder' (by (with_reducible repeat (first | apply Kd.R_alloc | apply Kd.R_drewN | apply Kd.R_drew)); exact HO173.out) (Kd.R_base ho2) hb)
            have n4_ := Aside0.mk (Kd.R_lower (Kd.R_new' ho0 (Kd.R_lt (by (with_reducible repeat (first | apply Kd.R_alloc | apply Kd.R_drewN | apply Kd.R_drew)); exact HO167.out))) (below_size (by repeat (first | (with_reducible first | exact HB.out | apply below_alloc | apply pw_below_drewN | apply below_drew1 | refine below_set ?_ GE176.out) | exact HB.out))))
            have n5_ := Aside0.mk (Kd.Q_lower (Kd.Q_new' (Kd.Q_new' ho1 (RM_lt HO160.out)) (Kd.Q_lt (by (with_reducible repeat (first | apply Kd.Q_alloc | apply Kd.Q_drewN | apply Kd.Q_drew)); exact HO170.out))) (below_size (by repeat (first | (with_reducible first | exact HB.out | apply below_alloc | apply pw_below_drewN | apply below_drew1 | refine below_set ?_ GE176.out) | exact HB.out))))
            have n6_ := Aside0.mk (Kd.R_lower (Kd.R_new' ho2 (Kd.R_lt (by (with_reducible repeat (first | apply Kd.R_alloc | apply Kd.R_drewN | apply Kd.R_drew)); exact HO173.out))) (below_size (by repeat (first | (with_reducible first | exact HB.out | apply below_alloc | apply pw_below_drewN | apply below_drew1 | refine below_set ?_ GE176.out) | exact HB.out))))
            have n7_ := Aside0.mk (blk_below (g := gb176) (o := .cells #[.slice Ao16 t168.length co16, .slice Ao18 t171.length co18, .bool t174, .bool t175] 39 (0, 0)) (by (with_reducible repeat (first | refine blk_drewN ?_ _ | refine blk_drew ?_ | refine blk_alloc ?_ _)); exact BK176.out) hb)
            have n8_ := Aside0.mk (Kd.C_below (by repeat (first | (with_reducible exact HR180.out) | (with_reducible refine Kd.C_alloc ?_ _) | (with_reducible refine Kd.C_drewN ?_ _) | (with_reducible refine Kd.C_drew ?_) | exact HR180.out)) hb)
            have n9_ := Aside0.mk (below_step (by repeat (first | (with_reducible first | exact HB.out | apply below_alloc | apply pw_below_drewN | apply below_drew1 | refine below_set ?_ GE176.out) | exact HB.out)) hb)
            clear HO160
            clear HO167
            clear HO170
            clear HO173
            clear BK176
            clear HR180
            clear HB
            have HO160 := n0_
            have HO167 := n1_
            have HO170 := n2_
            have HO173 := n3_
            have HO183 := n4_
            have HO186 := n5_
            have HO189 := n6_
            have BK176 := n7_
            have HR180 := n8_
            have HB := n9_
            clear n0_ n1_ n2_ n3_ n4_ n5_ n6_ n7_ n8_ n9_
            (try clear hb)
            (try clear hb2)
            (try clear hk)
            (try clear hi)
            (try clear ho0)
            (try clear ho1)
            (try clear ho2)
            refine hK.out _ _ ⟨(blk_cell BK176.out 0).trans rfl, (blk_cell BK176.out 1).trans rfl, (blk_cell BK176.out 2).trans rfl, (blk_cell BK176.out 3).trans rfl⟩ (fun hHeld => ?_)
            clear hK K
            refine norm_ (a' := ?_) ?_ ?_
            rotate_left
            · show Act.put _ (some 21) _ = _
              simp only [Act.put, List.setIfInBounds_toArray, List.set_cons_zero, List.set_cons_succ, i64_w, i32_w]
              rfl
            refine pure_ (i := 4) (N := some 17) (v := ?_) (a' := ?_) #[true, true, true, true, true, false, false, false, false, false] rfl rfl (any_of HT_.out (by kernel_rfl)) (fun _ _ _ h => h) (Or.inl ⟨by rfl, ?_⟩) ?_ ?_
            rotate_left
            · intro w'
              go_simp
              with_reducible rfl
            rotate_left
            · simp only [Act.put, List.setIfInBounds_toArray, List.set_cons_zero, List.set_cons_succ, i64_w, i32_w]
              rfl
            refine pure_ (i := 5) (N := some 22) (v := ?_) (a' := ?_) #[true, true, true, true, true, true, false, false, false, false] rfl rfl (any_of HT_.out (by kernel_rfl)) (fun _ _ _ h => h) (Or.inl ⟨by rfl, ?_⟩) ?_ ?_
            rotate_left
            · intro w'
              go_simp
              with_reducible rfl
            rotate_left
            · simp only [Act.put, List.setIfInBounds_toArray, List.set_cons_zero, List.set_cons_succ, i64_w, i32_w]
              rfl
            refine pure_ (i := 6) (N := some 23) (v := ?_) (a' := ?_) #[true, true, true, true, true, true, true, false, false, false] rfl rfl (any_of HT_.out (by kernel_rfl)) (fun _ _ _ h => h) (Or.inl ⟨by rfl, ?_⟩) ?_ ?_
            rotate_left
            · intro w'
              go_simp
              with_reducible rfl
            rotate_left
            · simp only [Act.put, List.setIfInBounds_toArray, List.set_cons_zero, List.set_cons_succ, i64_w, i32_w]
              rfl
            refine one_ (i := 7) (N := some 5) #[true, true, true, true, true, true, true, true, false, false] rfl rfl (one_of HT_.out (by kernel_rfl)) (by decide) (fun K hK => ?_)
            refine box_step ?hg (N := 5) ?hd (cs := #[.slice none 0 0, .slice none 0 0, .bool false, .bool false]) (t := 39) ?hr ?_; (case hd => rfl); (case hg => rfl); (case hr => first | (go_simp; done) | (go_simp; rfl))
            intro gb192 hg w23 hbox hb
            have n0_ := Aside0.mk (RM_below HO160.out hb)
            have n1_ := Aside0.mk (Kd.R_below (by (with_reducible repeat (first | apply Kd.R_alloc | apply Kd.R_drewN | apply Kd.R_drew)); exact HO167.out) hb)
            have n2_ := Aside0.mk (Kd.Q_below (by (with_reducible repeat (first | apply Kd.Q_alloc | apply Kd.Q_drewN | apply Kd.Q_drew)); exact HO170.out) hb)
            have n3_ := Aside0.mk (Kd.R_below (by (with_reducible repeat (first | apply Kd.R_alloc | apply Kd.R_drewN | apply Kd.R_drew)); exact HO173.out) hb)
            have n4_ := Aside0.mk (Kd.R_below (by (with_reducible repeat (first | apply Kd.R_alloc | apply Kd.R_drewN | apply Kd.R_drew)); exact HO183.out) hb)
            have n5_ := Aside0.mk (Kd.Q_below (by (with_reducible repeat (first | apply Kd.Q_alloc | apply Kd.Q_drewN | apply Kd.Q_drew)); exact HO186.out) hb)
            have n6_ := Aside0.mk (Kd.R_below (by (with_reducible repeat (first | apply Kd.R_alloc | apply Kd.R_drewN | apply Kd.R_drew)); exact HO189.out) hb)
            have n7_ := Aside0.mk (blk_below (g := gb176) (o := .cells #[.slice Ao16 t168.length co16, .slice Ao18 t171.length co18, .bool t174, .bool t175] 39 (0, 0)) (by (with_reducible repeat (first | refine blk_drewN ?_ _ | refine blk_drew ?_ | refine blk_alloc ?_ _)); exact BK176.out) hb)
            have n8_ := Aside0.mk (Kd.C_below (by repeat (first | (with_reducible exact HR180.out) | (with_reducible refine Kd.C_alloc ?_ _) | (with_reducible refine Kd.C_drewN ?_ _) | (with_reducible refine Kd.C_drew ?_) | exact HR180.out)) hb)
            have n9_ := Aside0.mk (below_step (by repeat (first | (with_reducible first | exact HB.out | apply below_alloc | apply pw_below_drewN | apply below_drew1 | refine below_set ?_ GE176.out) | exact HB.out)) hb)
            have n10_ := Aside0.mk (hbox)
            have n11_ := Aside0.mk ((by rw [hg]; exact (below_size (by repeat (first | (with_reducible first | exact HB.out | apply below_alloc | apply pw_below_drewN | apply below_drew1 | refine below_set ?_ GE176.out) | exact HB.out))) : w.heap.size ≤ gb192))
            have n12_ := Aside0.mk ((by rw [hg]; exact (below_size (by repeat (first | (with_reducible first | exact HB.out | apply below_alloc | apply pw_below_drewN | apply below_drew1 | refine below_set ?_ GE176.out) | exact HB.out))) : w.heap.size ≤ gb192))
            have n13_ := Aside0.mk ((by rw [hg]; exact Nat.ne_of_lt (blk_lt (g := gb176) (o := .cells #[.slice Ao16 t168.length co16, .slice Ao18 t171.length co18, .bool t174, .bool t175] 39 (0, 0)) (by (with_reducible repeat (first | refine blk_drewN ?_ _ | refine blk_drew ?_ | refine blk_alloc ?_ _)); exact BK176.out)) : gb176 ≠ gb192))
            have n14_ := Aside0.mk ((by rw [hg]; exact Nat.ne_of_gt (blk_lt (g := gb176) (o := .cells #[.slice Ao16 t168.length co16, .slice Ao18 t171.length co18, .bool t174, .bool t175] 39 (0, 0)) (by (with_reducible repeat (first | refine blk_drewN ?_ _ | refine blk_drew ?_ | refine blk_alloc ?_ _)); exact BK176.out)) : gb192 ≠ gb176))
            clear HO160
            clear HO167
            clear HO170
            clear HO173
            clear HO183
            clear HO186
            clear HO189
            clear BK176
            clear HR180
            clear HB
            have HO160 := n0_
            have HO167 := n1_
            have HO170 := n2_
            have HO173 := n3_
            have HO183 := n4_
            have HO186 := n5_
            have HO189 := n6_
            have BK176 := n7_
            have HR180 := n8_
            have HB := n9_
            have BK192 := n10_
            have GW192 := n11_
            have GE192 := n12_
            have NB176_192 := n13_
            have NB192_176 := n14_
            clear n0_ n1_ n2_ n3_ n4_ n5_ n6_ n7_ n8_ n9_ n10_ n11_ n12_ n13_ n14_
            clear hb hbox hg
            refine hK.out _ _ ⟨(blk_cell BK176.out 0).trans rfl, (blk_cell BK176.out 1).trans rfl, (blk_cell BK176.out 2).trans rfl, (blk_cell BK176.out 3).trans rfl⟩ (fun hHeld => ?_)
            clear hK K
            refine norm_ (a' := ?_) ?_ ?_
            rotate_left
            · show Act.put _ (some 5) _ = _
              simp only [Act.put, List.setIfInBounds_toArray, List.set_cons_zero, List.set_cons_succ, i64_w, i32_w]
              rfl
            exact norm_ (by simp only [putAll, Act.put, List.setIfInBounds_toArray, List.set_cons_zero, List.set_cons_succ]) (hCont (v182, v185, v188, gb192) _ ⟨hHeld, HO160.out, (by (with_reducible repeat (first | apply Kd.R_alloc | apply Kd.R_drewN | apply Kd.R_drew)); exact Kd.R_mono HO167.out (fun _ hk => hk.2)), (by (with_reducible repeat (first | apply Kd.Q_alloc | apply Kd.Q_drewN | apply Kd.Q_drew)); exact HO170.out), (by (with_reducible repeat (first | apply Kd.R_alloc | apply Kd.R_drewN | apply Kd.R_drew)); exact Kd.R_mono HO173.out (fun _ hk => hk.2)), (by (with_reducible repeat (first | apply Kd.R_alloc | apply Kd.R_drewN | apply Kd.R_drew)); exact Kd.R_mono HO183.out (fun _ hk => hk.2)), (by (with_reducible repeat (first | apply Kd.Q_alloc | apply Kd.Q_drewN | apply Kd.Q_drew)); exact Kd.Q_mono HO186.out (fun _ hk => ⟨hk.1.2, hk.2⟩)), (by (with_reducible repeat (first | apply Kd.R_alloc | apply Kd.R_drewN | apply Kd.R_drew)); exact Kd.R_mono HO189.out (fun _ hk => hk.2)), (by (with_reducible repeat (first | refine blk_drewN ?_ _ | refine blk_drew ?_ | refine blk_alloc ?_ _)); exact BK176.out), (by (with_reducible repeat (first | refine blk_drewN ?_ _ | refine blk_drew ?_ | refine blk_alloc ?_ _)); exact BK192.out), GW192.out, GE192.out, NB176_192.out, NB192_176.out, (by repeat (first | (with_reducible first | exact HB.out | apply below_alloc | apply pw_below_drewN | apply below_drew1 | refine below_set ?_ GE176.out | refine below_set ?_ GE192.out) | exact HB.out))⟩)
          · skip
            refine box_step ?hg (N := 5) ?hd (cs := #[.slice none 0 0, .slice none 0 0, .bool false, .bool false]) (t := 39) ?hr ?_; (case hd => rfl); (case hg => rfl); (case hr => first | (go_simp; done) | (go_simp; rfl))
            intro gb192 hg w22 hbox hb
            have n0_ := Aside0.mk (RM_below HO160.out hb)
            have n1_ := Aside0.mk (Kd.R_below (by (with_reducible repeat (first | apply Kd.R_alloc | apply Kd.R_drewN | apply Kd.R_drew)); exact HO167.out) hb)
            have n2_ := Aside0.mk (Kd.Q_below (by (with_reducible repeat (first | apply Kd.Q_alloc | apply Kd.Q_drewN | apply Kd.Q_drew)); exact HO170.out) hb)
            have n3_ := Aside0.mk (Kd.R_below (by (with_reducible repeat (first | apply Kd.R_alloc | apply Kd.R_drewN | apply Kd.R_drew)); exact HO173.out) hb)
            have n4_ := Aside0.mk (blk_below (g := gb176) (o := .cells #[.slice Ao16 t168.length co16, .slice Ao18 t171.length co18, .bool t174, .bool t175] 39 (0, 0)) (by (with_reducible repeat (first | refine blk_drewN ?_ _ | refine blk_drew ?_ | refine blk_alloc ?_ _)); exact BK176.out) hb)
            have n5_ := Aside0.mk (Kd.C_below (by repeat (first | (with_reducible exact HR180.out) | (with_reducible refine Kd.C_alloc ?_ _) | (with_reducible refine Kd.C_drewN ?_ _) | (with_reducible refine Kd.C_drew ?_) | exact HR180.out)) hb)
            have n6_ := Aside0.mk (below_step (by repeat (first | (with_reducible first | exact HB.out | apply below_alloc | apply pw_below_drewN | apply below_drew1 | refine below_set ?_ GE176.out) | exact HB.out)) hb)
            have n7_ := Aside0.mk (hbox)
            have n8_ := Aside0.mk ((by rw [hg]; exact (below_size (by repeat (first | (with_reducible first | exact HB.out | apply below_alloc | apply pw_below_drewN | apply below_drew1 | refine below_set ?_ GE176.out) | exact HB.out))) : w.heap.size ≤ gb192))
            have n9_ := Aside0.mk ((by rw [hg]; exact (below_size (by repeat (first | (with_reducible first | exact HB.out | apply below_alloc | apply pw_below_drewN | apply below_drew1 | refine below_set ?_ GE176.out) | exact HB.out))) : w.heap.size ≤ gb192))
            have n10_ := Aside0.mk ((by rw [hg]; exact Nat.ne_of_lt (blk_lt (g := gb176) (o := .cells #[.slice Ao16 t168.length co16, .slice Ao18 t171.length co18, .bool t174, .bool t175] 39 (0, 0)) (by (with_reducible repeat (first | refine blk_drewN ?_ _ | refine blk_drew ?_ | refine blk_alloc ?_ _)); exact BK176.out)) : gb176 ≠ gb192))
            have n11_ := Aside0.mk ((by rw [hg]; exact Nat.ne_of_gt (blk_lt (g := gb176) (o := .cells #[.slice Ao16 t168.length co16, .slice Ao18 t171.length co18, .bool t174, .bool t175] 39 (0, 0)) (by (with_reducible repeat (first | refine blk_drewN ?_ _ | refine blk_drew ?_ | refine blk_alloc ?_ _)); exact BK176.out)) : gb192 ≠ gb176))
            clear HO160
            clear HO167
            clear HO170
            clear HO173
            clear BK176
            clear HR180
            clear HB
            have HO160 := n0_
            have HO167 := n1_
            have HO170 := n2_
            have HO173 := n3_
            have BK176 := n4_
            have HR180 := n5_
            have HB := n6_
            have BK192 := n7_
            have GW192 := n8_
            have GE192 := n9_
            have NB176_192 := n10_
            have NB192_176 := n11_
            clear n0_ n1_ n2_ n3_ n4_ n5_ n6_ n7_ n8_ n9_ n10_ n11_
            clear hb hbox hg
            refine hK.out _ _ ⟨(blk_cell BK176.out 0).trans rfl, (blk_cell BK176.out 1).trans rfl, (blk_cell BK176.out 2).trans rfl, (blk_cell BK176.out 3).trans rfl⟩ (fun hHeld => ?_)
            clear hK K
            refine norm_ (a' := ?_) ?_ ?_
            rotate_left
            · show Act.put _ (some 5) _ = _
              simp only [Act.put, List.setIfInBounds_toArray, List.set_cons_zero, List.set_cons_succ, i64_w, i32_w]
              rfl
            refine one_ (i := 3) (N := some 21) #[true, true, true, true, false, false, false, true, false, false] rfl rfl (one_of HT_.out (by kernel_rfl)) (by decide) (fun K hK => ?_)
            refine goes_ Try.func24 (by kernel_rfl) rfl #[.agg #[.slice Ao16 t168.length co16, .slice Ao18 t171.length co18, .bool t174, .bool t175], .slice A21 y177.length c21] (by rfl) rfl rfl (by (try simp only [List.map_toArray, List.map_cons, List.map_nil]); first | done | rfl | (simp only [List.length_drop, List.length_take]; rfl)) ?_
            with_reducible refine (token_Feed.calls _ _ t168 _ _ t171 t174 t175 _ _ y177 t181 t184 t187 t190 t191 _ ?side1 ?side2 ?side3 ?side4 ?side5 ?side6 A5.out).mono ?_
            (case side1 => repeat (first | exact (Kd.Q_reads' HO170.out).2.2 | (with_reducible refine Kd.C_alloc ?_ _) | (with_reducible refine Kd.C_drewN ?_ _) | (with_reducible refine Kd.C_drew ?_)))
            (case side2 => exact (Kd.Q_reads' HO170.out).2.1)
            (case side3 => repeat (first | exact (Kd.R_reads' HO173.out).2.2 | (with_reducible refine Kd.C_alloc ?_ _) | (with_reducible refine Kd.C_drewN ?_ _) | (with_reducible refine Kd.C_drew ?_)))
            (case side4 => exact (Kd.R_reads' HO173.out).2.1)
            (case side5 => repeat (first | exact (by repeat (first | (with_reducible exact HR180.out) | (with_reducible refine Kd.C_alloc ?_ _) | (with_reducible refine Kd.C_drewN ?_ _) | (with_reducible refine Kd.C_drew ?_) | exact HR180.out)) | (with_reducible refine Kd.C_alloc ?_ _) | (with_reducible refine Kd.C_drewN ?_ _) | (with_reducible refine Kd.C_drew ?_)))
            (case side6 => exact HC180.out)
            rintro e w23 ⟨v182, v185, v188, rfl, ho0, ho1, ho2, hb⟩
            refine ⟨_, rfl, ?_⟩
            have n0_ := Aside0.mk (RM_elder' HO160.out (Kd.Q_base ho1) hb)
            have n1_ := Aside0.mk (Kd.R_elder' (by (with_reducible repeat (first | apply Kd.R_alloc | apply Kd.R_drewN | apply Kd.R_drew)); exact HO167.out) (Kd.R_base ho0) hb)
            have n2_ := Aside0.mk (Kd.Q_elder' (by (with_reducible repeat (first | apply Kd.Q_alloc | apply Kd.Q_drewN | apply Kd.Q_drew)); exact HO170.out) (Kd.Q_base ho1) hb)
            have n3_ := Aside0.mk (Kd.R_elder' (by (with_reducible repeat (first | apply Kd.R_alloc | apply Kd.R_drewN | apply Kd.R_drew)); exact HO173.out) (Kd.R_base ho2) hb)
            have n4_ := Aside0.mk (Kd.R_lower (Kd.R_new' ho0 (Kd.R_lt (by (with_reducible repeat (first | apply Kd.R_alloc | apply Kd.R_drewN | apply Kd.R_drew)); exact HO167.out))) (below_size (by repeat (first | (with_reducible first | exact HB.out | apply below_alloc | apply pw_below_drewN | apply below_drew1 | refine below_set ?_ GE176.out | refine below_set ?_ GE192.out) | exact HB.out))))
            have n5_ := Aside0.mk (Kd.Q_lower (Kd.Q_new' (Kd.Q_new' ho1 (RM_lt HO160.out)) (Kd.Q_lt (by (with_reducible repeat (first | apply Kd.Q_alloc | apply Kd.Q_drewN | apply Kd.Q_drew)); exact HO170.out))) (below_size (by repeat (first | (with_reducible first | exact HB.out | apply below_alloc | apply pw_below_drewN | apply below_drew1 | refine below_set ?_ GE176.out | refine below_set ?_ GE192.out) | exact HB.out))))
            have n6_ := Aside0.mk (Kd.R_lower (Kd.R_new' ho2 (Kd.R_lt (by (with_reducible repeat (first | apply Kd.R_alloc | apply Kd.R_drewN | apply Kd.R_drew)); exact HO173.out))) (below_size (by repeat (first | (with_reducible first | exact HB.out | apply below_alloc | apply pw_below_drewN | apply below_drew1 | refine below_set ?_ GE176.out | refine below_set ?_ GE192.out) | exact HB.out))))
            have n7_ := Aside0.mk (blk_below (g := gb176) (o := .cells #[.slice Ao16 t168.length co16, .slice Ao18 t171.length co18, .bool t174, .bool t175] 39 (0, 0)) (by (with_reducible repeat (first | refine blk_drewN ?_ _ | refine blk_drew ?_ | refine blk_alloc ?_ _)); exact BK176.out) hb)
            have n8_ := Aside0.mk (Kd.C_below (by repeat (first | (with_reducible exact HR180.out) | (with_reducible refine Kd.C_alloc ?_ _) | (with_reducible refine Kd.C_drewN ?_ _) | (with_reducible refine Kd.C_drew ?_) | exact HR180.out)) hb)
            have n9_ := Aside0.mk (blk_below (g := gb192) (o := .cells #[.slice none 0 0, .slice none 0 0, .bool false, .bool false] 39 (0, 0)) (by (with_reducible repeat (first | refine blk_drewN ?_ _ | refine blk_drew ?_ | refine blk_alloc ?_ _)); exact BK192.out) hb)
            have n10_ := Aside0.mk (below_step (by repeat (first | (with_reducible first | exact HB.out | apply below_alloc | apply pw_below_drewN | apply below_drew1 | refine below_set ?_ GE176.out | refine below_set ?_ GE192.out) | exact HB.out)) hb)
            clear HO160
            clear HO167
            clear HO170
            clear HO173
            clear BK176
            clear HR180
            clear BK192
            clear HB
            have HO160 := n0_
            have HO167 := n1_
            have HO170 := n2_
            have HO173 := n3_
            have HO183 := n4_
            have HO186 := n5_
            have HO189 := n6_
            have BK176 := n7_
            have HR180 := n8_
            have BK192 := n9_
            have HB := n10_
            clear n0_ n1_ n2_ n3_ n4_ n5_ n6_ n7_ n8_ n9_ n10_
            (try clear hb)
            (try clear hb2)
            (try clear hk)
            (try clear hi)
            (try clear ho0)
            (try clear ho1)
            (try clear ho2)
            refine hK.out _ _ ⟨(blk_cell BK176.out 0).trans rfl, (blk_cell BK176.out 1).trans rfl, (blk_cell BK176.out 2).trans rfl, (blk_cell BK176.out 3).trans rfl⟩ (fun hHeld => ?_)
            clear hK K
            refine norm_ (a' := ?_) ?_ ?_
            rotate_left
            · show Act.put _ (some 21) _ = _
              simp only [Act.put, List.setIfInBounds_toArray, List.set_cons_zero, List.set_cons_succ, i64_w, i32_w]
              rfl
            refine pure_ (i := 4) (N := some 17) (v := ?_) (a' := ?_) #[true, true, true, true, true, false, false, true, false, false] rfl rfl (any_of HT_.out (by kernel_rfl)) (fun _ _ _ h => h) (Or.inl ⟨by rfl, ?_⟩) ?_ ?_
            rotate_left
            · intro w'
              go_simp
              with_reducible rfl
            rotate_left
            · simp only [Act.put, List.setIfInBounds_toArray, List.set_cons_zero, List.set_cons_succ, i64_w, i32_w]
              rfl
            refine pure_ (i := 5) (N := some 22) (v := ?_) (a' := ?_) #[true, true, true, true, true, true, false, true, false, false] rfl rfl (any_of HT_.out (by kernel_rfl)) (fun _ _ _ h => h) (Or.inl ⟨by rfl, ?_⟩) ?_ ?_
            rotate_left
            · intro w'
              go_simp
              with_reducible rfl
            rotate_left
            · simp only [Act.put, List.setIfInBounds_toArray, List.set_cons_zero, List.set_cons_succ, i64_w, i32_w]
              rfl
            refine pure_ (i := 6) (N := some 23) (v := ?_) (a' := ?_) #[true, true, true, true, true, true, true, true, false, false] rfl rfl (any_of HT_.out (by kernel_rfl)) (fun _ _ _ h => h) (Or.inl ⟨by rfl, ?_⟩) ?_ ?_
            rotate_left
            · intro w'
              go_simp
              with_reducible rfl
            rotate_left
            · simp only [Act.put, List.setIfInBounds_toArray, List.set_cons_zero, List.set_cons_succ, i64_w, i32_w]
              rfl
            exact norm_ (by simp only [putAll, Act.put, List.setIfInBounds_toArray, List.set_cons_zero, List.set_cons_succ]) (hCont (v182, v185, v188, gb192) _ ⟨hHeld, HO160.out, (by (with_reducible repeat (first | apply Kd.R_alloc | apply Kd.R_drewN | apply Kd.R_drew)); exact Kd.R_mono HO167.out (fun _ hk => hk.2)), (by (with_reducible repeat (first | apply Kd.Q_alloc | apply Kd.Q_drewN | apply Kd.Q_drew)); exact HO170.out), (by (with_reducible repeat (first | apply Kd.R_alloc | apply Kd.R_drewN | apply Kd.R_drew)); exact Kd.R_mono HO173.out (fun _ hk => hk.2)), (by (with_reducible repeat (first | apply Kd.R_alloc | apply Kd.R_drewN | apply Kd.R_drew)); exact Kd.R_mono HO183.out (fun _ hk => hk.2)), (by (with_reducible repeat (first | apply Kd.Q_alloc | apply Kd.Q_drewN | apply Kd.Q_drew)); exact Kd.Q_mono HO186.out (fun _ hk => ⟨hk.1.2, hk.2⟩)), (by (with_reducible repeat (first | apply Kd.R_alloc | apply Kd.R_drewN | apply Kd.R_drew)); exact Kd.R_mono HO189.out (fun _ hk => hk.2)), (by (with_reducible repeat (first | refine blk_drewN ?_ _ | refine blk_drew ?_ | refine blk_alloc ?_ _)); exact BK176.out), (by (with_reducible repeat (first | refine blk_drewN ?_ _ | refine blk_drew ?_ | refine blk_alloc ?_ _)); exact BK192.out), GW192.out, GE192.out, NB176_192.out, NB192_176.out, (by repeat (first | (with_reducible first | exact HB.out | apply below_alloc | apply pw_below_drewN | apply below_drew1 | refine below_set ?_ GE176.out | refine below_set ?_ GE192.out) | exact HB.out))⟩)
        rintro ⟨v182, v185, v188, gb192⟩ w24 ⟨hS_, h0_, h1_, h2_, h3_, h4_, h5_, h6_, h7_, h8_, h9_, h10_, h11_, h12_, h13_⟩
        have n0_ : Aside0 (RM w24 w.heap.size (fun k_ => some k_ ≠ (.slice Ao16 t168.length co16 : Value).ownBlock ∧ some k_ ≠ (v185 : Value).ownBlock) (.slice Ao13 y158.length co13) y158) := ⟨h0_⟩
        have n1_ : Aside0 (Kd.R Kd.string 9 w24 w.heap.size (fun k_ => some k_ ≠ (v182 : Value).ownBlock) v166 t165) := ⟨h1_⟩
        have n2_ : Aside0 (Kd.Q (Kd.int .u8) 5 w24 w.heap.size (fun k_ => some k_ ≠ (.slice Ao13 y158.length co13 : Value).ownBlock ∧ some k_ ≠ (v185 : Value).ownBlock) (.slice Ao16 t168.length co16) t168) := ⟨h2_⟩
        have n3_ : Aside0 (Kd.R (Kd.int .i32) 21 w24 w.heap.size (fun k_ => some k_ ≠ (v188 : Value).ownBlock) (.slice Ao18 t171.length co18) t171) := ⟨h3_⟩
        have n4_ : Aside0 (Kd.R Kd.string 9 w24 w.heap.size (fun k_ => some k_ ≠ (v166 : Value).ownBlock) v182 t181) := ⟨h4_⟩
        have n5_ : Aside0 (Kd.Q (Kd.int .u8) 5 w24 w.heap.size (fun k_ => some k_ ≠ (.slice Ao13 y158.length co13 : Value).ownBlock ∧ some k_ ≠ (.slice Ao16 t168.length co16 : Value).ownBlock) v185 t184) := ⟨h5_⟩
        have n6_ : Aside0 (Kd.R (Kd.int .i32) 21 w24 w.heap.size (fun k_ => some k_ ≠ (.slice Ao18 t171.length co18 : Value).ownBlock) v188 t187) := ⟨h6_⟩
        have n7_ : Aside0 (w24.heap[gb176]? = some (.cells #[.slice Ao16 t168.length co16, .slice Ao18 t171.length co18, .bool t174, .bool t175] 39 (0, 0))) := ⟨h7_⟩
        have n8_ : Aside0 (w24.heap[gb192]? = some (.cells #[.slice none 0 0, .slice none 0 0, .bool false, .bool false] 39 (0, 0))) := ⟨h8_⟩
        have n9_ : Aside0 (w.heap.size ≤ gb192) := ⟨h9_⟩
        have n10_ : Aside0 (w.heap.size ≤ gb192) := ⟨h10_⟩
        have n11_ : Aside0 (gb176 ≠ gb192) := ⟨h11_⟩
        have n12_ : Aside0 (gb192 ≠ gb176) := ⟨h12_⟩
        have n13_ : Aside0 (Below w.heap.size w w24) := ⟨h13_⟩
        clear HO160
        clear HO167
        clear HO170
        clear HO173
        clear BK176
        clear HB
        clear h0_ h1_ h2_ h3_ h4_ h5_ h6_ h7_ h8_ h9_ h10_ h11_ h12_ h13_
        have HO160 := n0_
        have HO167 := n1_
        have HO170 := n2_
        have HO173 := n3_
        have HO183 := n4_
        have HO186 := n5_
        have HO189 := n6_
        have BK176 := n7_
        have BK192 := n8_
        have GW192 := n9_
        have GE192 := n10_
        have NB176_192 := n11_
        have NB192_176 := n12_
        have HB := n13_
        clear n0_ n1_ n2_ n3_ n4_ n5_ n6_ n7_ n8_ n9_ n10_ n11_ n12_ n13_
        have hHeld : w24.cell? ⟨gb176, 0, none⟩ = some (.slice Ao16 t168.length co16) ∧ w24.cell? ⟨gb176, 1, none⟩ = some (.slice Ao18 t171.length co18) ∧ w24.cell? ⟨gb176, 2, none⟩ = some (.bool t174) ∧ w24.cell? ⟨gb176, 3, none⟩ = some (.bool t175) := hS_
        obtain ⟨Ao25, co25, eo25, _⟩ := Kd.Q_slice HO186.out
        (first | subst eo25 | (injection eo25 with f1_ f2_ f3_; have f4_ := f1_.symm; have f5_ := f3_.symm; clear f1_ f2_ f3_; subst f4_; subst f5_))
        obtain ⟨Ao27, co27, eo27⟩ := Kd.R_slice HO189.out
        (first | subst eo27 | (injection eo27 with f1_ f2_ f3_; have f4_ := f1_.symm; have f5_ := f3_.symm; clear f1_ f2_ f3_; subst f4_; subst f5_))
        refine norm_ (a' := ?_) ?_ ?_
        rotate_left
        · simp only [putAll, Act.put, List.setIfInBounds_toArray, List.set_cons_zero, List.set_cons_succ]
          rfl
        refine pure_ (i := 8) (N := some 4) (v := ?_) (a' := ?_) #[true, true, true, true, true, true, true, true, true, false] rfl rfl (any_of HT_.out (by kernel_rfl)) (fun _ _ _ h => h) (Or.inl ⟨by rfl, ?_⟩) ?_ ?_
        rotate_left
        · intro w'
          go_simp
          with_reducible rfl
        rotate_left
        · simp only [Act.put, List.setIfInBounds_toArray, List.set_cons_zero, List.set_cons_succ, i64_w, i32_w]
          rfl
        refine one_ (i := 9) (N := none) #[true, true, true, true, true, true, true, true, true, true] rfl rfl (one_of HT_.out (by kernel_rfl)) (by decide) (fun K hK => ?_)
        have hs26 : w24.cell? ⟨gb192, 0, none⟩ = some (.slice none 0 0) := (blk_cell BK192.out 0).trans rfl
        have hfs26 := blk_frozen BK192.out 0
        have hns26_0 := NB176_192.out
        have hms26_0 := NB192_176.out
        have hs28 : w24.cell? ⟨gb192, 1, none⟩ = some (.slice none 0 0) := (blk_cell BK192.out 1).trans rfl
        have hfs28 := blk_frozen BK192.out 1
        have hns28_0 := NB176_192.out
        have hms28_0 := NB192_176.out
        have hs29 : w24.cell? ⟨gb192, 2, none⟩ = some (.bool false) := (blk_cell BK192.out 2).trans rfl
        have hfs29 := blk_frozen BK192.out 2
        have hns29_0 := NB176_192.out
        have hms29_0 := NB192_176.out
        have hs30 : w24.cell? ⟨gb192, 3, none⟩ = some (.bool false) := (blk_cell BK192.out 3).trans rfl
        have hfs30 := blk_frozen BK192.out 3
        have hns30_0 := NB176_192.out
        have hms30_0 := NB192_176.out
        refine skip_ (w1 := ?_) (by rfl) rfl ?_ ?_
        rotate_left
        · go_simp
          rfl
        refine hK.out _ _ ⟨((cell_far (p := ⟨gb192, _, none⟩) NB176_192.out _).trans (((cell_far (p := ⟨gb192, _, none⟩) NB176_192.out _).trans (((cell_far (p := ⟨gb192, _, none⟩) NB176_192.out _).trans (((cell_far (p := ⟨gb192, _, none⟩) NB176_192.out _).trans (hHeld.1)))))))), ((cell_far (p := ⟨gb192, _, none⟩) NB176_192.out _).trans (((cell_far (p := ⟨gb192, _, none⟩) NB176_192.out _).trans (((cell_far (p := ⟨gb192, _, none⟩) NB176_192.out _).trans (((cell_far (p := ⟨gb192, _, none⟩) NB176_192.out _).trans (hHeld.2.1)))))))), ((cell_far (p := ⟨gb192, _, none⟩) NB176_192.out _).trans (((cell_far (p := ⟨gb192, _, none⟩) NB176_192.out _).trans (((cell_far (p := ⟨gb192, _, none⟩) NB176_192.out _).trans (((cell_far (p := ⟨gb192, _, none⟩) NB176_192.out _).trans (hHeld.2.2.1)))))))), ((cell_far (p := ⟨gb192, _, none⟩) NB176_192.out _).trans (((cell_far (p := ⟨gb192, _, none⟩) NB176_192.out _).trans (((cell_far (p := ⟨gb192, _, none⟩) NB176_192.out _).trans (((cell_far (p := ⟨gb192, _, none⟩) NB176_192.out _).trans (hHeld.2.2.2))))))))⟩ (fun hHeld => ?_)
        clear hK K
        refine done_ (done_of HT_.out (by kernel_rfl)) ?_
        try go_wp2
        have n0_ : Aside0 (RM ((((w24.setCell ⟨gb192, 0, none⟩ (.slice Ao25 t184.length co25)).setCell ⟨gb192, 1, none⟩ (.slice Ao27 t187.length co27)).setCell ⟨gb192, 2, none⟩ (.bool t190)).setCell ⟨gb192, 3, none⟩ (.bool t191)) w.heap.size (fun k_ => some k_ ≠ (.slice Ao16 t168.length co16 : Value).ownBlock ∧ some k_ ≠ (.slice Ao25 t184.length co25 : Value).ownBlock) (.slice Ao13 y158.length co13) y158) := ⟨RM_mono (RM_butg HO160.out BK192.out (by decide) far4) (fun _ hk => ⟨hk.1, hk.2⟩)⟩
        have n1_ : Aside0 (Kd.R Kd.string 9 ((((w24.setCell ⟨gb192, 0, none⟩ (.slice Ao25 t184.length co25)).setCell ⟨gb192, 1, none⟩ (.slice Ao27 t187.length co27)).setCell ⟨gb192, 2, none⟩ (.bool t190)).setCell ⟨gb192, 3, none⟩ (.bool t191)) w.heap.size (fun k_ => some k_ ≠ (v182 : Value).ownBlock) v166 t165) := ⟨Kd.R_mono (R_butg HO167.out BK192.out (by decide) far4) (fun _ hk => hk)⟩
        have n2_ : Aside0 (Kd.Q (Kd.int .u8) 5 ((((w24.setCell ⟨gb192, 0, none⟩ (.slice Ao25 t184.length co25)).setCell ⟨gb192, 1, none⟩ (.slice Ao27 t187.length co27)).setCell ⟨gb192, 2, none⟩ (.bool t190)).setCell ⟨gb192, 3, none⟩ (.bool t191)) w.heap.size (fun k_ => some k_ ≠ (.slice Ao13 y158.length co13 : Value).ownBlock ∧ some k_ ≠ (.slice Ao25 t184.length co25 : Value).ownBlock) (.slice Ao16 t168.length co16) t168) := ⟨Kd.Q_mono (Q_butg HO170.out BK192.out (by decide) far4) (fun _ hk => ⟨hk.1, hk.2⟩)⟩
        have n3_ : Aside0 (Kd.R (Kd.int .i32) 21 ((((w24.setCell ⟨gb192, 0, none⟩ (.slice Ao25 t184.length co25)).setCell ⟨gb192, 1, none⟩ (.slice Ao27 t187.length co27)).setCell ⟨gb192, 2, none⟩ (.bool t190)).setCell ⟨gb192, 3, none⟩ (.bool t191)) w.heap.size (fun k_ => some k_ ≠ (.slice Ao27 t187.length co27 : Value).ownBlock) (.slice Ao18 t171.length co18) t171) := ⟨Kd.R_mono (R_butg HO173.out BK192.out (by decide) far4) (fun _ hk => hk)⟩
        have n4_ : Aside0 (Kd.R Kd.string 9 ((((w24.setCell ⟨gb192, 0, none⟩ (.slice Ao25 t184.length co25)).setCell ⟨gb192, 1, none⟩ (.slice Ao27 t187.length co27)).setCell ⟨gb192, 2, none⟩ (.bool t190)).setCell ⟨gb192, 3, none⟩ (.bool t191)) w.heap.size (fun k_ => some k_ ≠ (v166 : Value).ownBlock) v182 t181) := ⟨Kd.R_mono (R_butg HO183.out BK192.out (by decide) far4) (fun _ hk => hk)⟩
        have n5_ : Aside0 (Kd.Q (Kd.int .u8) 5 ((((w24.setCell ⟨gb192, 0, none⟩ (.slice Ao25 t184.length co25)).setCell ⟨gb192, 1, none⟩ (.slice Ao27 t187.length co27)).setCell ⟨gb192, 2, none⟩ (.bool t190)).setCell ⟨gb192, 3, none⟩ (.bool t191)) w.heap.size (fun k_ => some k_ ≠ (.slice Ao13 y158.length co13 : Value).ownBlock ∧ some k_ ≠ (.slice Ao16 t168.length co16 : Value).ownBlock) (.slice Ao25 t184.length co25) t184) := ⟨Kd.Q_mono (Q_butg HO186.out BK192.out (by decide) far4) (fun _ hk => ⟨hk.1, hk.2⟩)⟩
        have n6_ : Aside0 (Kd.R (Kd.int .i32) 21 ((((w24.setCell ⟨gb192, 0, none⟩ (.slice Ao25 t184.length co25)).setCell ⟨gb192, 1, none⟩ (.slice Ao27 t187.length co27)).setCell ⟨gb192, 2, none⟩ (.bool t190)).setCell ⟨gb192, 3, none⟩ (.bool t191)) w.heap.size (fun k_ => some k_ ≠ (.slice Ao18 t171.length co18 : Value).ownBlock) (.slice Ao27 t187.length co27) t187) := ⟨Kd.R_mono (R_butg HO189.out BK192.out (by decide) far4) (fun _ hk => hk)⟩
        have n7_ : Aside0 (((((w24.setCell ⟨gb192, 0, none⟩ (.slice Ao25 t184.length co25)).setCell ⟨gb192, 1, none⟩ (.slice Ao27 t187.length co27)).setCell ⟨gb192, 2, none⟩ (.bool t190)).setCell ⟨gb192, 3, none⟩ (.bool t191)).heap[gb176]? = some (.cells #[.slice Ao16 t168.length co16, .slice Ao18 t171.length co18, .bool t174, .bool t175] 39 (0, 0))) := ⟨by (with_reducible repeat (first | refine blk_drewN ?_ _ | refine blk_drew ?_ | refine blk_alloc ?_ _)); refine blk_far ?_ NB176_192.out _; (with_reducible repeat (first | refine blk_drewN ?_ _ | refine blk_drew ?_ | refine blk_alloc ?_ _)); refine blk_far ?_ NB176_192.out _; (with_reducible repeat (first | refine blk_drewN ?_ _ | refine blk_drew ?_ | refine blk_alloc ?_ _)); refine blk_far ?_ NB176_192.out _; (with_reducible repeat (first | refine blk_drewN ?_ _ | refine blk_drew ?_ | refine blk_alloc ?_ _)); refine blk_far ?_ NB176_192.out _; (with_reducible repeat (first | refine blk_drewN ?_ _ | refine blk_drew ?_ | refine blk_alloc ?_ _)); exact BK176.out⟩
        have n8_ : Aside0 (((((w24.setCell ⟨gb192, 0, none⟩ (.slice Ao25 t184.length co25)).setCell ⟨gb192, 1, none⟩ (.slice Ao27 t187.length co27)).setCell ⟨gb192, 2, none⟩ (.bool t190)).setCell ⟨gb192, 3, none⟩ (.bool t191)).heap[gb192]? = some (.cells #[.slice Ao25 t184.length co25, .slice Ao27 t187.length co27, .bool t190, .bool t191] 39 (0, 0))) := ⟨by (with_reducible repeat (first | refine blk_drewN ?_ _ | refine blk_drew ?_ | refine blk_alloc ?_ _)); refine blk_put (cs := #[.slice Ao25 t184.length co25, .slice Ao27 t187.length co27, .bool t190, .bool false]) ?_ 3 _ rfl; (with_reducible repeat (first | refine blk_drewN ?_ _ | refine blk_drew ?_ | refine blk_alloc ?_ _)); refine blk_put (cs := #[.slice Ao25 t184.length co25, .slice Ao27 t187.length co27, .bool false, .bool false]) ?_ 2 _ rfl; (with_reducible repeat (first | refine blk_drewN ?_ _ | refine blk_drew ?_ | refine blk_alloc ?_ _)); refine blk_put (cs := #[.slice Ao25 t184.length co25, .slice none 0 0, .bool false, .bool false]) ?_ 1 _ rfl; (with_reducible repeat (first | refine blk_drewN ?_ _ | refine blk_drew ?_ | refine blk_alloc ?_ _)); refine blk_put (cs := #[.slice none 0 0, .slice none 0 0, .bool false, .bool false]) ?_ 0 _ rfl; (with_reducible repeat (first | refine blk_drewN ?_ _ | refine blk_drew ?_ | refine blk_alloc ?_ _)); exact BK192.out⟩
        have n9_ : Aside0 (Below w.heap.size w ((((w24.setCell ⟨gb192, 0, none⟩ (.slice Ao25 t184.length co25)).setCell ⟨gb192, 1, none⟩ (.slice Ao27 t187.length co27)).setCell ⟨gb192, 2, none⟩ (.bool t190)).setCell ⟨gb192, 3, none⟩ (.bool t191))) := ⟨by repeat (first | (with_reducible first | exact HB.out | apply below_alloc | apply pw_below_drewN | apply below_drew1 | refine below_set ?_ GE176.out | refine below_set ?_ GE192.out) | exact HB.out)⟩
        (try clear HO160)
        (try clear HO167)
        (try clear HO170)
        (try clear HO173)
        (try clear HO183)
        (try clear HO186)
        (try clear HO189)
        (try clear BK176)
        (try clear BK192)
        (try clear HB)
        generalize ((((w24.setCell ⟨gb192, 0, none⟩ (.slice Ao25 t184.length co25)).setCell ⟨gb192, 1, none⟩ (.slice Ao27 t187.length co27)).setCell ⟨gb192, 2, none⟩ (.bool t190)).setCell ⟨gb192, 3, none⟩ (.bool t191)) = w31 at n0_ n1_ n2_ n3_ n4_ n5_ n6_ n7_ n8_ n9_ ⊢
        have HO160 := n0_
        have HO167 := n1_
        have HO170 := n2_
        have HO173 := n3_
        have HO183 := n4_
        have HO186 := n5_
        have HO189 := n6_
        have BK176 := n7_
        have BK192 := n8_
        have HB := n9_
        clear n0_ n1_ n2_ n3_ n4_ n5_ n6_ n7_ n8_ n9_
        have n0_ := Aside0.mk (RM_drew HO160.out)
        have n1_ := Aside0.mk (Kd.R_drew HO167.out)
        have n2_ := Aside0.mk (Kd.Q_drew HO170.out)
        have n3_ := Aside0.mk (Kd.R_drew HO173.out)
        have n4_ := Aside0.mk (Kd.R_drew HO183.out)
        have n5_ := Aside0.mk (Kd.Q_drew HO186.out)
        have n6_ := Aside0.mk (Kd.R_drew HO189.out)
        have n7_ := Aside0.mk (blk_drew BK176.out)
        have n8_ := Aside0.mk (blk_drew BK192.out)
        have n9_ := Aside0.mk (below_drew1 HB.out)
        clear HO160
        clear HO167
        clear HO170
        clear HO173
        clear HO183
        clear HO186
        clear HO189
        clear BK176
        clear BK192
        clear HB
        have HO160 := n0_
        have HO167 := n1_
        have HO170 := n2_
        have HO173 := n3_
        have HO183 := n4_
        have HO186 := n5_
        have HO189 := n6_
        have BK176 := n7_
        have BK192 := n8_
        have HB := n9_
        clear n0_ n1_ n2_ n3_ n4_ n5_ n6_ n7_ n8_ n9_
        have q33 : (5 : Int) ≤ ((y158.length : Int) : Int) := of_decide_eq_true (by first | (with_reducible assumption) | assumption)
        obtain ⟨i033, hi033, _, hsz33, _⟩ := info_parts info5
        have hroom33 : y158.length ≤ co13 := (RM_reads HO160.out).2.1
        have hC33 : Kd.C (Kd.int .u8) _ Ao13 y158.length y158 := (RM_reads HO160.out).2.2
        have hcut33 := cut_from (P := Try.prog) 31 5 .i64 Try.underlying31 hi033 1 hsz33 Ao13 y158.length co13 5 (by omega) q33
        have hr33 := Kd.C_drop (m := (5 : Int).toNat) (c := co13) hC33 (by omega) hroom33
        obtain ⟨A33, hA33⟩ : ∃ A1, A1 = (if co13 = (5 : Int).toNat then Ao13 else (Ao13 : Option Addr).map (·.add ((5 : Int).toNat * 1))) := ⟨_, rfl⟩
        obtain ⟨c33, hc33⟩ : ∃ c1, c1 = co13 - (5 : Int).toNat := ⟨_, rfl⟩
        have hy33 : y193.length = y158.length - (5 : Int).toNat := (by rw [Ny193.out, List.length_drop] <;> omega)
        rw [show (y158).drop (5 : Int).toNat = y193 from Ny193.out.symm] at hr33
        replace hr33 : Kd.C (Kd.int .u8) _ A33 y193.length y193 := (by rw [hA33]; exact hr33)
        rw [← hy33, ← hA33, ← hc33] at hcut33
        have HR196 := Aside0.mk hr33
        have HC196 := Aside0.mk (show y193.length ≤ c33 from by rw [hy33, hc33]; exact Nat.sub_le_sub_right hroom33 _)
        clear hr33 hC33 hroom33 hi033 hsz33 hc33
        have KY33 := Aside0.mk hy33
        have KA33 := Aside0.mk hA33
        clear hy33 hA33
        have KL33 := Aside0.mk (show 5 ≤ y158.length from by omega)
        replace q33 := eq_true q33
        refine start_ (n := 10) (S := fun w' => w'.cell? ⟨gb192, 0, none⟩ = some (.slice Ao25 t184.length co25) ∧ w'.cell? ⟨gb192, 1, none⟩ = some (.slice Ao27 t187.length co27) ∧ w'.cell? ⟨gb192, 2, none⟩ = some (.bool t190) ∧ w'.cell? ⟨gb192, 3, none⟩ = some (.bool t191)) (ds := []) #[false, false, false, false, false, false, false, false, false, false] (by kernel_rfl) rfl rfl ⟨(blk_cell BK192.out 0).trans rfl, (blk_cell BK192.out 1).trans rfl, (blk_cell BK192.out 2).trans rfl, (blk_cell BK192.out 3).trans rfl⟩ (fun hHeld => ?_); refine with_tabW manteletlaw07_shown.tab4 manteletlaw07_shown.bits4 (fun HT_ HW_ => ?_)
        generalize w31.drew = w32 at HO160 HO167 HO170 HO173 HO183 HO186 HO189 BK176 BK192 HB HR196 hHeld ⊢
        refine pure_ (i := 1) (N := some 26) (v := ?_) (a' := ?_) #[false, true, false, false, false, false, false, false, false, false] rfl rfl (any_of HT_.out (by kernel_rfl)) (fun _ _ _ h => h) (Or.inl ⟨by rfl, ?_⟩) ?_ ?_
        rotate_left
        · intro w'
          go_simp
          with_reducible rfl
        rotate_left
        · simp only [Act.put, List.setIfInBounds_toArray, List.set_cons_zero, List.set_cons_succ, i64_w, i32_w]
          rfl
        refine pure_ (i := 2) (N := some 27) (v := ?_) (a' := ?_) #[false, true, true, false, false, false, false, false, false, false] rfl rfl (any_of HT_.out (by kernel_rfl)) (fun _ _ _ h => h) (Or.inl ⟨by rfl, ?_⟩) ?_ ?_
        rotate_left
        · intro w'
          go_simp
          with_reducible rfl
        rotate_left
        · simp only [Act.put, List.setIfInBounds_toArray, List.set_cons_zero, List.set_cons_succ, i64_w, i32_w]
          rfl
        refine take_ (i := 0) (N := some 25) (v := ?_) (a' := ?_) #[true, true, true, false, false, false, false, false, false, false] rfl rfl (take_ofW HT_.out HW_.out (by kernel_rfl)) (fun _ _ _ h => h) (Or.inl ⟨by rfl, ?_⟩) hHeld ?_ ?_
        rotate_left
        · rintro w' ⟨s0, s1, s2, s3⟩
          go_simp
          with_reducible rfl
        rotate_left
        · simp only [Act.put, List.setIfInBounds_toArray, List.set_cons_zero, List.set_cons_succ, i64_w, i32_w]
          rfl
        refine join_ (σ := Value × Value × Value × Nat) 2 #[true, true, true, true, true, true, true, true, false, false] (fun s_ => [(28, .tuple #[s_.1, .agg #[s_.2.1, s_.2.2.1, .bool t206, .bool t207]]), (7, .pointer (some ⟨s_.2.2.2, 0, none⟩)), (24, .tuple #[s_.1, .agg #[s_.2.1, s_.2.2.1, .bool t206, .bool t207]]), (29, s_.1), (30, .agg #[s_.2.1, s_.2.2.1, .bool t206, .bool t207])]) (fun s_ w' => (w'.cell? ⟨gb192, 0, none⟩ = some (.slice Ao25 t184.length co25) ∧ w'.cell? ⟨gb192, 1, none⟩ = some (.slice Ao27 t187.length co27) ∧ w'.cell? ⟨gb192, 2, none⟩ = some (.bool t190) ∧ w'.cell? ⟨gb192, 3, none⟩ = some (.bool t191)) ∧ (RM w' w.heap.size (fun k_ => some k_ ≠ (.slice Ao16 t168.length co16 : Value).ownBlock ∧ some k_ ≠ (.slice Ao25 t184.length co25 : Value).ownBlock ∧ some k_ ≠ (s_.2.1 : Value).ownBlock) (.slice Ao13 y158.length co13) y158) ∧ (Kd.R Kd.string 9 w' w.heap.size (fun k_ => some k_ ≠ (v182 : Value).ownBlock ∧ some k_ ≠ (s_.1 : Value).ownBlock) v166 t165) ∧ (Kd.Q (Kd.int .u8) 5 w' w.heap.size (fun k_ => some k_ ≠ (.slice Ao13 y158.length co13 : Value).ownBlock ∧ some k_ ≠ (.slice Ao25 t184.length co25 : Value).ownBlock ∧ some k_ ≠ (s_.2.1 : Value).ownBlock) (.slice Ao16 t168.length co16) t168) ∧ (Kd.R (Kd.int .i32) 21 w' w.heap.size (fun k_ => some k_ ≠ (.slice Ao27 t187.length co27 : Value).ownBlock ∧ some k_ ≠ (s_.2.2.1 : Value).ownBlock) (.slice Ao18 t171.length co18) t171) ∧ (Kd.R Kd.string 9 w' w.heap.size (fun k_ => some k_ ≠ (v166 : Value).ownBlock ∧ some k_ ≠ (s_.1 : Value).ownBlock) v182 t181) ∧ (Kd.Q (Kd.int .u8) 5 w' w.heap.size (fun k_ => some k_ ≠ (.slice Ao13 y158.length co13 : Value).ownBlock ∧ some k_ ≠ (.slice Ao16 t168.length co16 : Value).ownBlock ∧ some k_ ≠ (s_.2.1 : Value).ownBlock) (.slice Ao25 t184.length co25) t184) ∧ (Kd.R (Kd.int .i32) 21 w' w.heap.size (fun k_ => some k_ ≠ (.slice Ao18 t171.length co18 : Value).ownBlock ∧ some k_ ≠ (s_.2.2.1 : Value).ownBlock) (.slice Ao27 t187.length co27) t187) ∧ (Kd.R Kd.string 9 w' w.heap.size (fun k_ => some k_ ≠ (v166 : Value).ownBlock ∧ some k_ ≠ (v182 : Value).ownBlock) s_.1 t197) ∧ (Kd.Q (Kd.int .u8) 5 w' w.heap.size (fun k_ => some k_ ≠ (.slice Ao13 y158.length co13 : Value).ownBlock ∧ some k_ ≠ (.slice Ao16 t168.length co16 : Value).ownBlock ∧ some k_ ≠ (.slice Ao25 t184.length co25 : Value).ownBlock) s_.2.1 t200) ∧ (Kd.R (Kd.int .i32) 21 w' w.heap.size (fun k_ => some k_ ≠ (.slice Ao18 t171.length co18 : Value).ownBlock ∧ some k_ ≠ (.slice Ao27 t187.length co27 : Value).ownBlock) s_.2.2.1 t203) ∧ (w'.heap[gb176]? = some (.cells #[.slice Ao16 t168.length co16, .slice Ao18 t171.length co18, .bool t174, .bool t175] 39 (0, 0))) ∧ (w'.heap[gb192]? = some (.cells #[.slice Ao25 t184.length co25, .slice Ao27 t187.length co27, .bool t190, .bool t191] 39 (0, 0))) ∧ (w'.heap[s_.2.2.2]? = some (.cells #[.slice none 0 0, .slice none 0 0, .bool false, .bool false] 39 (0, 0))) ∧ (w.heap.size ≤ s_.2.2.2) ∧ (w.heap.size ≤ s_.2.2.2) ∧ (gb176 ≠ s_.2.2.2) ∧ (s_.2.2.2 ≠ gb176) ∧ (gb192 ≠ s_.2.2.2) ∧ (s_.2.2.2 ≠ gb192) ∧ (Below w.heap.size w w')) ?_ ?_
        rotate_left
        · intro hCont
          refine two_ (i := 3) (j := 7) (Ni := some 28) (Nj := some 7) #[true, true, true, true, false, false, false, false, false, false] #[true, true, true, false, false, false, false, true, false, false] rfl rfl rfl rfl (two_of HT_.out (by kernel_rfl)) (by decide) (by decide) (fun K hK => ?_) (fun K hK => ?_)
          · skip
            refine goes_ Try.func24 (by kernel_rfl) rfl #[.agg #[.slice Ao25 t184.length co25, .slice Ao27 t187.length co27, .bool t190, .bool t191], .slice A33 y193.length c33] (by rfl) rfl rfl (by (try simp only [List.map_toArray, List.map_cons, List.map_nil]); first | done | rfl | (simp only [List.length_drop, List.length_take]; rfl)) ?_
            with_reducible refine (token_Feed.calls _ _ t184 _ _ t187 t190 t191 _ _ y193 t197 t200 t203 t206 t207 _ ?side1 ?side2 ?side3 ?side4 ?side5 ?side6 A7.out).mono ?_
            (case side1 => repeat (first | exact (Kd.Q_reads' HO186.out).2.2 | (with_reducible refine Kd.C_alloc ?_ _) | (with_reducible refine Kd.C_drewN ?_ _) | (with_reducible refine Kd.C_drew ?_)))
            (case side2 => exact (Kd.Q_reads' HO186.out).2.1)
            (case side3 => repeat (first | exact (Kd.R_reads' HO189.out).2.2 | (with_reducible refine Kd.C_alloc ?_ _) | (with_reducible refine Kd.C_drewN ?_ _) | (with_reducible refine Kd.C_drew ?_)))
            (case side4 => exact (Kd.R_reads' HO189.out).2.1)
            (case side5 => repeat (first | exact (by repeat (first | (with_reducible exact HR196.out) | (with_reducible refine Kd.C_alloc ?_ _) | (with_reducible refine Kd.C_drewN ?_ _) | (with_reducible refine Kd.C_drew ?_) | exact HR196.out)) | (with_reducible refine Kd.C_alloc ?_ _) | (with_reducible refine Kd.C_drewN ?_ _) | (with_reducible refine Kd.C_drew ?_)))
            (case side6 => exact HC196.out)
            rintro e w34 ⟨v198, v201, v204, rfl, ho0, ho1, ho2, hb⟩
            refine ⟨_, rfl, ?_⟩
            have n0_ := Aside0.mk (RM_elder' HO160.out (Kd.Q_base ho1) hb)
            have n1_ := Aside0.mk (Kd.R_elder' (by (with_reducible repeat (first | apply Kd.R_alloc | apply Kd.R_drewN | apply Kd.R_drew)); exact HO167.out) (Kd.R_base ho0) hb)
            have n2_ := Aside0.mk (Kd.Q_elder' (by (with_reducible repeat (first | apply Kd.Q_alloc | apply Kd.Q_drewN | apply Kd.Q_drew)); exact HO170.out) (Kd.Q_base ho1) hb)
            have n3_ := Aside0.mk (Kd.R_elder' (by (with_reducible repeat (first | apply Kd.R_alloc | apply Kd.R_drewN | apply Kd.R_drew)); exact HO173.out) (Kd.R_base ho2) hb)
            have n4_ := Aside0.mk (Kd.R_elder' (by (with_reducible repeat (first | apply Kd.R_alloc | apply Kd.R_drewN | apply Kd.R_drew)); exact HO183.out) (Kd.R_base ho0) hb)
            have n5_ := Aside0.mk (Kd.Q_elder' (by (with_reducible repeat (first | apply Kd.Q_alloc | apply Kd.Q_drewN | apply Kd.Q_drew)); exact HO186.out) (Kd.Q_base ho1) hb)
            have n6_ := Aside0.mk (Kd.R_elder' (by (with_reducible repeat (first | apply Kd.R_alloc | apply Kd.R_drewN | apply Kd.R_drew)); exact HO189.out) (Kd.R_base ho2) hb)
            have n7_ := Aside0.mk (Kd.R_lower (Kd.R_new' (Kd.R_new' ho0 (Kd.R_lt (by (with_reducible repeat (first | apply Kd.R_alloc | apply Kd.R_drewN | apply Kd.R_drew)); exact HO167.out))) (Kd.R_lt (by (with_reducible repeat (first | apply Kd.R_alloc | apply Kd.R_drewN | apply Kd.R_drew)); exact HO183.out))) (below_size (by repeat (first | (with_reducible first | exact HB.out | apply below_alloc | apply pw_below_drewN | apply below_drew1 | refine below_set ?_ GE176.out | refine below_set ?_ GE192.out) | exact HB.out))))
            have n8_ := Aside0.mk (Kd.Q_lower (Kd.Q_new' (Kd.Q_new' (Kd.Q_new' ho1 (RM_lt HO160.out)) (Kd.Q_lt (by (with_reducible repeat (first | apply Kd.Q_alloc | apply Kd.Q_drewN | apply Kd.Q_drew)); exact HO170.out))) (Kd.Q_lt (by (with_reducible repeat (first | apply Kd.Q_alloc | apply Kd.Q_drewN | apply Kd.Q_drew)); exact HO186.out))) (below_size (by repeat (first | (with_reducible first | exact HB.out | apply below_alloc | apply pw_below_drewN | apply below_drew1 | refine below_set ?_ GE176.out | refine below_set ?_ GE192.out) | exact HB.out))))
            have n9_ := Aside0.mk (Kd.R_lower (Kd.R_new' (Kd.R_new' ho2 (Kd.R_lt (by (with_reducible repeat (first | apply Kd.R_alloc | apply Kd.R_drewN | apply Kd.R_drew)); exact HO173.out))) (Kd.R_lt (by (with_reducible repeat (first | apply Kd.R_alloc | apply Kd.R_drewN | apply Kd.R_drew)); exact HO189.out))) (below_size (by repeat (first | (with_reducible first | exact HB.out | apply below_alloc | apply pw_below_drewN | apply below_drew1 | refine below_set ?_ GE176.out | refine below_set ?_ GE192.out) | exact HB.out))))
            have n10_ := Aside0.mk (blk_below (g := gb176) (o := .cells #[.slice Ao16 t168.length co16, .slice Ao18 t171.length co18, .bool t174, .bool t175] 39 (0, 0)) (by (with_reducible repeat (first | refine blk_drewN ?_ _ | refine blk_drew ?_ | refine blk_alloc ?_ _)); exact BK176.out) hb)
            have n11_ := Aside0.mk (blk_below (g := gb192) (o := .cells #[.slice Ao25 t184.length co25, .slice Ao27 t187.length co27, .bool t190, .bool t191] 39 (0, 0)) (by (with_reducible repeat (first | refine blk_drewN ?_ _ | refine blk_drew ?_ | refine blk_alloc ?_ _)); exact BK192.out) hb)
            have n12_ := Aside0.mk (Kd.C_below (by repeat (first | (with_reducible exact HR196.out) | (with_reducible refine Kd.C_alloc ?_ _) | (with_reducible refine Kd.C_drewN ?_ _) | (with_reducible refine Kd.C_drew ?_) | exact HR196.out)) hb)
            have n13_ := Aside0.mk (below_step (by repeat (first | (with_reducible first | exact HB.out | apply below_alloc | apply pw_below_drewN | apply below_drew1 | refine below_set ?_ GE176.out | refine below_set ?_ GE192.out) | exact HB.out)) hb)
            clear HO160
            clear HO167
            clear HO170
            clear HO173
            clear HO183
            clear HO186
            clear HO189
            clear BK176
            clear BK192
            clear HR196
            clear HB
            have HO160 := n0_
            have HO167 := n1_
            have HO170 := n2_
            have HO173 := n3_
            have HO183 := n4_
            have HO186 := n5_
            have HO189 := n6_
            have HO199 := n7_
            have HO202 := n8_
            have HO205 := n9_
            have BK176 := n10_
            have BK192 := n11_
            have HR196 := n12_
            have HB := n13_
            clear n0_ n1_ n2_ n3_ n4_ n5_ n6_ n7_ n8_ n9_ n10_ n11_ n12_ n13_
            (try clear hb)
            (try clear hb2)
            (try clear hk)
            (try clear hi)
            (try clear ho0)
            (try clear ho1)
            (try clear ho2)
            refine hK.out _ _ ⟨(blk_cell BK192.out 0).trans rfl, (blk_cell BK192.out 1).trans rfl, (blk_cell BK192.out 2).trans rfl, (blk_cell BK192.out 3).trans rfl⟩ (fun hHeld => ?_)
            clear hK K
            refine norm_ (a' := ?_) ?_ ?_
            rotate_left
            · show Act.put _ (some 28) _ = _
              simp only [Act.put, List.setIfInBounds_toArray, List.set_cons_zero, List.set_cons_succ, i64_w, i32_w]
              rfl
            refine pure_ (i := 4) (N := some 24) (v := ?_) (a' := ?_) #[true, true, true, true, true, false, false, false, false, false] rfl rfl (any_of HT_.out (by kernel_rfl)) (fun _ _ _ h => h) (Or.inl ⟨by rfl, ?_⟩) ?_ ?_
            rotate_left
            · intro w'
              go_simp
              with_reducible rfl
            rotate_left
            · simp only [Act.put, List.setIfInBounds_toArray, List.set_cons_zero, List.set_cons_succ, i64_w, i32_w]
              rfl
            refine pure_ (i := 5) (N := some 29) (v := ?_) (a' := ?_) #[true, true, true, true, true, true, false, false, false, false] rfl rfl (any_of HT_.out (by kernel_rfl)) (fun _ _ _ h => h) (Or.inl ⟨by rfl, ?_⟩) ?_ ?_
            rotate_left
            · intro w'
              go_simp
              with_reducible rfl
            rotate_left
            · simp only [Act.put, List.setIfInBounds_toArray, List.set_cons_zero, List.set_cons_succ, i64_w, i32_w]
              rfl
            refine pure_ (i := 6) (N := some 30) (v := ?_) (a' := ?_) #[true, true, true, true, true, true, true, false, false, false] rfl rfl (any_of HT_.out (by kernel_rfl)) (fun _ _ _ h => h) (Or.inl ⟨by rfl, ?_⟩) ?_ ?_
            rotate_left
            · intro w'
              go_simp
              with_reducible rfl
            rotate_left
            · simp only [Act.put, List.setIfInBounds_toArray, List.set_cons_zero, List.set_cons_succ, i64_w, i32_w]
              rfl
            refine one_ (i := 7) (N := some 7) #[true, true, true, true, true, true, true, true, false, false] rfl rfl (one_of HT_.out (by kernel_rfl)) (by decide) (fun K hK => ?_)
            refine box_step ?hg (N := 7) ?hd (cs := #[.slice none 0 0, .slice none 0 0, .bool false, .bool false]) (t := 39) ?hr ?_; (case hd => rfl); (case hg => rfl); (case hr => first | (go_simp; done) | (go_simp; rfl))
            intro gb208 hg w35 hbox hb
            have n0_ := Aside0.mk (RM_below HO160.out hb)
            have n1_ := Aside0.mk (Kd.R_below (by (with_reducible repeat (first | apply Kd.R_alloc | apply Kd.R_drewN | apply Kd.R_drew)); exact HO167.out) hb)
            have n2_ := Aside0.mk (Kd.Q_below (by (with_reducible repeat (first | apply Kd.Q_alloc | apply Kd.Q_drewN | apply Kd.Q_drew)); exact HO170.out) hb)
            have n3_ := Aside0.mk (Kd.R_below (by (with_reducible repeat (first | apply Kd.R_alloc | apply Kd.R_drewN | apply Kd.R_drew)); exact HO173.out) hb)
            have n4_ := Aside0.mk (Kd.R_below (by (with_reducible repeat (first | apply Kd.R_alloc | apply Kd.R_drewN | apply Kd.R_drew)); exact HO183.out) hb)
            have n5_ := Aside0.mk (Kd.Q_below (by (with_reducible repeat (first | apply Kd.Q_alloc | apply Kd.Q_drewN | apply Kd.Q_drew)); exact HO186.out) hb)
            have n6_ := Aside0.mk (Kd.R_below (by (with_reducible repeat (first | apply Kd.R_alloc | apply Kd.R_drewN | apply Kd.R_drew)); exact HO189.out) hb)
            have n7_ := Aside0.mk (Kd.R_below (by (with_reducible repeat (first | apply Kd.R_alloc | apply Kd.R_drewN | apply Kd.R_drew)); exact HO199.out) hb)
            have n8_ := Aside0.mk (Kd.Q_below (by (with_reducible repeat (first | apply Kd.Q_alloc | apply Kd.Q_drewN | apply Kd.Q_drew)); exact HO202.out) hb)
            have n9_ := Aside0.mk (Kd.R_below (by (with_reducible repeat (first | apply Kd.R_alloc | apply Kd.R_drewN | apply Kd.R_drew)); exact HO205.out) hb)
            have n10_ := Aside0.mk (blk_below (g := gb176) (o := .cells #[.slice Ao16 t168.length co16, .slice Ao18 t171.length co18, .bool t174, .bool t175] 39 (0, 0)) (by (with_reducible repeat (first | refine blk_drewN ?_ _ | refine blk_drew ?_ | refine blk_alloc ?_ _)); exact BK176.out) hb)
            have n11_ := Aside0.mk (blk_below (g := gb192) (o := .cells #[.slice Ao25 t184.length co25, .slice Ao27 t187.length co27, .bool t190, .bool t191] 39 (0, 0)) (by (with_reducible repeat (first | refine blk_drewN ?_ _ | refine blk_drew ?_ | refine blk_alloc ?_ _)); exact BK192.out) hb)
            have n12_ := Aside0.mk (Kd.C_below (by repeat (first | (with_reducible exact HR196.out) | (with_reducible refine Kd.C_alloc ?_ _) | (with_reducible refine Kd.C_drewN ?_ _) | (with_reducible refine Kd.C_drew ?_) | exact HR196.out)) hb)
            have n13_ := Aside0.mk (below_step (by repeat (first | (with_reducible first | exact HB.out | apply below_alloc | apply pw_below_drewN | apply below_drew1 | refine below_set ?_ GE176.out | refine below_set ?_ GE192.out) | exact HB.out)) hb)
            have n14_ := Aside0.mk (hbox)
            have n15_ := Aside0.mk ((by rw [hg]; exact (below_size (by repeat (first | (with_reducible first | exact HB.out | apply below_alloc | apply pw_below_drewN | apply below_drew1 | refine below_set ?_ GE176.out | refine below_set ?_ GE192.out) | exact HB.out))) : w.heap.size ≤ gb208))
            have n16_ := Aside0.mk ((by rw [hg]; exact (below_size (by repeat (first | (with_reducible first | exact HB.out | apply below_alloc | apply pw_below_drewN | apply below_drew1 | refine below_set ?_ GE176.out | refine below_set ?_ GE192.out) | exact HB.out))) : w.heap.size ≤ gb208))
            have n17_ := Aside0.mk ((by rw [hg]; exact Nat.ne_of_lt (blk_lt (g := gb176) (o := .cells #[.slice Ao16 t168.length co16, .slice Ao18 t171.length co18, .bool t174, .bool t175] 39 (0, 0)) (by (with_reducible repeat (first | refine blk_drewN ?_ _ | refine blk_drew ?_ | refine blk_alloc ?_ _)); exact BK176.out)) : gb176 ≠ gb208))
            have n18_ := Aside0.mk ((by rw [hg]; exact Nat.ne_of_gt (blk_lt (g := gb176) (o := .cells #[.slice Ao16 t168.length co16, .slice Ao18 t171.length co18, .bool t174, .bool t175] 39 (0, 0)) (by (with_reducible repeat (first | refine blk_drewN ?_ _ | refine blk_drew ?_ | refine blk_alloc ?_ _)); exact BK176.out)) : gb208 ≠ gb176))
            have n19_ := Aside0.mk ((by rw [hg]; exact Nat.ne_of_lt (blk_lt (g := gb192) (o := .cells #[.slice Ao25 t184.length co25, .slice Ao27 t187.length co27, .bool t190, .bool t191] 39 (0, 0)) (by (with_reducible repeat (first | refine blk_drewN ?_ _ | refine blk_drew ?_ | refine blk_alloc ?_ _)); exact BK192.out)) : gb192 ≠ gb208))
            have n20_ := Aside0.mk ((by rw [hg]; exact Nat.ne_of_gt (blk_lt (g := gb192) (o := .cells #[.slice Ao25 t184.length co25, .slice Ao27 t187.length co27, .bool t190, .bool t191] 39 (0, 0)) (by (with_reducible repeat (first | refine blk_drewN ?_ _ | refine blk_drew ?_ | refine blk_alloc ?_ _)); exact BK192.out)) : gb208 ≠ gb192))
            clear HO160
            clear HO167
            clear HO170
            clear HO173
            clear HO183
            clear HO186
            clear HO189
            clear HO199
            clear HO202
            clear HO205
            clear BK176
            clear BK192
            clear HR196
            clear HB
            have HO160 := n0_
            have HO167 := n1_
            have HO170 := n2_
            have HO173 := n3_
            have HO183 := n4_
            have HO186 := n5_
            have HO189 := n6_
            have HO199 := n7_
            have HO202 := n8_
            have HO205 := n9_
            have BK176 := n10_
            have BK192 := n11_
            have HR196 := n12_
            have HB := n13_
            have BK208 := n14_
            have GW208 := n15_
            have GE208 := n16_
            have NB176_208 := n17_
            have NB208_176 := n18_
            have NB192_208 := n19_
            have NB208_192 := n20_
            clear n0_ n1_ n2_ n3_ n4_ n5_ n6_ n7_ n8_ n9_ n10_ n11_ n12_ n13_ n14_ n15_ n16_ n17_ n18_ n19_ n20_
            clear hb hbox hg
            refine hK.out _ _ ⟨(blk_cell BK192.out 0).trans rfl, (blk_cell BK192.out 1).trans rfl, (blk_cell BK192.out 2).trans rfl, (blk_cell BK192.out 3).trans rfl⟩ (fun hHeld => ?_)
            clear hK K
            refine norm_ (a' := ?_) ?_ ?_
            rotate_left
            · show Act.put _ (some 7) _ = _
              simp only [Act.put, List.setIfInBounds_toArray, List.set_cons_zero, List.set_cons_succ, i64_w, i32_w]
              rfl
            exact norm_ (by simp only [putAll, Act.put, List.setIfInBounds_toArray, List.set_cons_zero, List.set_cons_succ]) (hCont (v198, v201, v204, gb208) _ ⟨hHeld, (RM_mono HO160.out (fun _ hk => ⟨hk.1.1, ⟨hk.1.2, hk.2⟩⟩)), (by (with_reducible repeat (first | apply Kd.R_alloc | apply Kd.R_drewN | apply Kd.R_drew)); exact HO167.out), (by (with_reducible repeat (first | apply Kd.Q_alloc | apply Kd.Q_drewN | apply Kd.Q_drew)); exact Kd.Q_mono HO170.out (fun _ hk => ⟨hk.1.1, ⟨hk.1.2, hk.2⟩⟩)), (by (with_reducible repeat (first | apply Kd.R_alloc | apply Kd.R_drewN | apply Kd.R_drew)); exact HO173.out), (by (with_reducible repeat (first | apply Kd.R_alloc | apply Kd.R_drewN | apply Kd.R_drew)); exact HO183.out), (by (with_reducible repeat (first | apply Kd.Q_alloc | apply Kd.Q_drewN | apply Kd.Q_drew)); exact Kd.Q_mono HO186.out (fun _ hk => ⟨hk.1.1, ⟨hk.1.2, hk.2⟩⟩)), (by (with_reducible repeat (first | apply Kd.R_alloc | apply Kd.R_drewN | apply Kd.R_drew)); exact HO189.out), (by (with_reducible repeat (first | apply Kd.R_alloc | apply Kd.R_drewN | apply Kd.R_drew)); exact Kd.R_mono HO199.out (fun _ hk => ⟨hk.1.2, hk.2⟩)), (by (with_reducible repeat (first | apply Kd.Q_alloc | apply Kd.Q_drewN | apply Kd.Q_drew)); exact Kd.Q_mono HO202.out (fun _ hk => ⟨hk.1.1.2, ⟨hk.1.2, hk.2⟩⟩)), (by (with_reducible repeat (first | apply Kd.R_alloc | apply Kd.R_drewN | apply Kd.R_drew)); exact Kd.R_mono HO205.out (fun _ hk => ⟨hk.1.2, hk.2⟩)), (by (with_reducible repeat (first | refine blk_drewN ?_ _ | refine blk_drew ?_ | refine blk_alloc ?_ _)); exact BK176.out), (by (with_reducible repeat (first | refine blk_drewN ?_ _ | refine blk_drew ?_ | refine blk_alloc ?_ _)); exact BK192.out), (by (with_reducible repeat (first | refine blk_drewN ?_ _ | refine blk_drew ?_ | refine blk_alloc ?_ _)); exact BK208.out), GW208.out, GE208.out, NB176_208.out, NB208_176.out, NB192_208.out, NB208_192.out, (by repeat (first | (with_reducible first | exact HB.out | apply below_alloc | apply pw_below_drewN | apply below_drew1 | refine below_set ?_ GE176.out | refine below_set ?_ GE192.out | refine below_set ?_ GE208.out) | exact HB.out))⟩)
          · skip
            refine box_step ?hg (N := 7) ?hd (cs := #[.slice none 0 0, .slice none 0 0, .bool false, .bool false]) (t := 39) ?hr ?_; (case hd => rfl); (case hg => rfl); (case hr => first | (go_simp; done) | (go_simp; rfl))
            intro gb208 hg w34 hbox hb
            have n0_ := Aside0.mk (RM_below HO160.out hb)
            have n1_ := Aside0.mk (Kd.R_below (by (with_reducible repeat (first | apply Kd.R_alloc | apply Kd.R_drewN | apply Kd.R_drew)); exact HO167.out) hb)
            have n2_ := Aside0.mk (Kd.Q_below (by (with_reducible repeat (first | apply Kd.Q_alloc | apply Kd.Q_drewN | apply Kd.Q_drew)); exact HO170.out) hb)
            have n3_ := Aside0.mk (Kd.R_below (by (with_reducible repeat (first | apply Kd.R_alloc | apply Kd.R_drewN | apply Kd.R_drew)); exact HO173.out) hb)
            have n4_ := Aside0.mk (Kd.R_below (by (with_reducible repeat (first | apply Kd.R_alloc | apply Kd.R_drewN | apply Kd.R_drew)); exact HO183.out) hb)
            have n5_ := Aside0.mk (Kd.Q_below (by (with_reducible repeat (first | apply Kd.Q_alloc | apply Kd.Q_drewN | apply Kd.Q_drew)); exact HO186.out) hb)
            have n6_ := Aside0.mk (Kd.R_below (by (with_reducible repeat (first | apply Kd.R_alloc | apply Kd.R_drewN | apply Kd.R_drew)); exact HO189.out) hb)
            have n7_ := Aside0.mk (blk_below (g := gb176) (o := .cells #[.slice Ao16 t168.length co16, .slice Ao18 t171.length co18, .bool t174, .bool t175] 39 (0, 0)) (by (with_reducible repeat (first | refine blk_drewN ?_ _ | refine blk_drew ?_ | refine blk_alloc ?_ _)); exact BK176.out) hb)
            have n8_ := Aside0.mk (blk_below (g := gb192) (o := .cells #[.slice Ao25 t184.length co25, .slice Ao27 t187.length co27, .bool t190, .bool t191] 39 (0, 0)) (by (with_reducible repeat (first | refine blk_drewN ?_ _ | refine blk_drew ?_ | refine blk_alloc ?_ _)); exact BK192.out) hb)
            have n9_ := Aside0.mk (Kd.C_below (by repeat (first | (with_reducible exact HR196.out) | (with_reducible refine Kd.C_alloc ?_ _) | (with_reducible refine Kd.C_drewN ?_ _) | (with_reducible refine Kd.C_drew ?_) | exact HR196.out)) hb)
            have n10_ := Aside0.mk (below_step (by repeat (first | (with_reducible first | exact HB.out | apply below_alloc | apply pw_below_drewN | apply below_drew1 | refine below_set ?_ GE176.out | refine below_set ?_ GE192.out) | exact HB.out)) hb)
            have n11_ := Aside0.mk (hbox)
            have n12_ := Aside0.mk ((by rw [hg]; exact (below_size (by repeat (first | (with_reducible first | exact HB.out | apply below_alloc | apply pw_below_drewN | apply below_drew1 | refine below_set ?_ GE176.out | refine below_set ?_ GE192.out) | exact HB.out))) : w.heap.size ≤ gb208))
            have n13_ := Aside0.mk ((by rw [hg]; exact (below_size (by repeat (first | (with_reducible first | exact HB.out | apply below_alloc | apply pw_below_drewN | apply below_drew1 | refine below_set ?_ GE176.out | refine below_set ?_ GE192.out) | exact HB.out))) : w.heap.size ≤ gb208))
            have n14_ := Aside0.mk ((by rw [hg]; exact Nat.ne_of_lt (blk_lt (g := gb176) (o := .cells #[.slice Ao16 t168.length co16, .slice Ao18 t171.length co18, .bool t174, .bool t175] 39 (0, 0)) (by (with_reducible repeat (first | refine blk_drewN ?_ _ | refine blk_drew ?_ | refine blk_alloc ?_ _)); exact BK176.out)) : gb176 ≠ gb208))
            have n15_ := Aside0.mk ((by rw [hg]; exact Nat.ne_of_gt (blk_lt (g := gb176) (o := .cells #[.slice Ao16 t168.length co16, .slice Ao18 t171.length co18, .bool t174, .bool t175] 39 (0, 0)) (by (with_reducible repeat (first | refine blk_drewN ?_ _ | refine blk_drew ?_ | refine blk_alloc ?_ _)); exact BK176.out)) : gb208 ≠ gb176))
            have n16_ := Aside0.mk ((by rw [hg]; exact Nat.ne_of_lt (blk_lt (g := gb192) (o := .cells #[.slice Ao25 t184.length co25, .slice Ao27 t187.length co27, .bool t190, .bool t191] 39 (0, 0)) (by (with_reducible repeat (first | refine blk_drewN ?_ _ | refine blk_drew ?_ | refine blk_alloc ?_ _)); exact BK192.out)) : gb192 ≠ gb208))
            have n17_ := Aside0.mk ((by rw [hg]; exact Nat.ne_of_gt (blk_lt (g := gb192) (o := .cells #[.slice Ao25 t184.length co25, .slice Ao27 t187.length co27, .bool t190, .bool t191] 39 (0, 0)) (by (with_reducible repeat (first | refine blk_drewN ?_ _ | refine blk_drew ?_ | refine blk_alloc ?_ _)); exact BK192.out)) : gb208 ≠ gb192))
            clear HO160
            clear HO167
            clear HO170
            clear HO173
            clear HO183
            clear HO186
            clear HO189
            clear BK176
            clear BK192
            clear HR196
            clear HB
            have HO160 := n0_
            have HO167 := n1_
            have HO170 := n2_
            have HO173 := n3_
            have HO183 := n4_
            have HO186 := n5_
            have HO189 := n6_
            have BK176 := n7_
            have BK192 := n8_
            have HR196 := n9_
            have HB := n10_
            have BK208 := n11_
            have GW208 := n12_
            have GE208 := n13_
            have NB176_208 := n14_
            have NB208_176 := n15_
            have NB192_208 := n16_
            have NB208_192 := n17_
            clear n0_ n1_ n2_ n3_ n4_ n5_ n6_ n7_ n8_ n9_ n10_ n11_ n12_ n13_ n14_ n15_ n16_ n17_
            clear hb hbox hg
            refine hK.out _ _ ⟨(blk_cell BK192.out 0).trans rfl, (blk_cell BK192.out 1).trans rfl, (blk_cell BK192.out 2).trans rfl, (blk_cell BK192.out 3).trans rfl⟩ (fun hHeld => ?_)
            clear hK K
            refine norm_ (a' := ?_) ?_ ?_
            rotate_left
            · show Act.put _ (some 7) _ = _
              simp only [Act.put, List.setIfInBounds_toArray, List.set_cons_zero, List.set_cons_succ, i64_w, i32_w]
              rfl
            refine one_ (i := 3) (N := some 28) #[true, true, true, true, false, false, false, true, false, false] rfl rfl (one_of HT_.out (by kernel_rfl)) (by decide) (fun K hK => ?_)
            refine goes_ Try.func24 (by kernel_rfl) rfl #[.agg #[.slice Ao25 t184.length co25, .slice Ao27 t187.length co27, .bool t190, .bool t191], .slice A33 y193.length c33] (by rfl) rfl rfl (by (try simp only [List.map_toArray, List.map_cons, List.map_nil]); first | done | rfl | (simp only [List.length_drop, List.length_take]; rfl)) ?_
            with_reducible refine (token_Feed.calls _ _ t184 _ _ t187 t190 t191 _ _ y193 t197 t200 t203 t206 t207 _ ?side1 ?side2 ?side3 ?side4 ?side5 ?side6 A7.out).mono ?_
            (case side1 => repeat (first | exact (Kd.Q_reads' HO186.out).2.2 | (with_reducible refine Kd.C_alloc ?_ _) | (with_reducible refine Kd.C_drewN ?_ _) | (with_reducible refine Kd.C_drew ?_)))
            (case side2 => exact (Kd.Q_reads' HO186.out).2.1)
            (case side3 => repeat (first | exact (Kd.R_reads' HO189.out).2.2 | (with_reducible refine Kd.C_alloc ?_ _) | (with_reducible refine Kd.C_drewN ?_ _) | (with_reducible refine Kd.C_drew ?_)))
            (case side4 => exact (Kd.R_reads' HO189.out).2.1)
            (case side5 => repeat (first | exact (by repeat (first | (with_reducible exact HR196.out) | (with_reducible refine Kd.C_alloc ?_ _) | (with_reducible refine Kd.C_drewN ?_ _) | (with_reducible refine Kd.C_drew ?_) | exact HR196.out)) | (with_reducible refine Kd.C_alloc ?_ _) | (with_reducible refine Kd.C_drewN ?_ _) | (with_reducible refine Kd.C_drew ?_)))
            (case side6 => exact HC196.out)
            rintro e w35 ⟨v198, v201, v204, rfl, ho0, ho1, ho2, hb⟩
            refine ⟨_, rfl, ?_⟩
            have n0_ := Aside0.mk (RM_elder' HO160.out (Kd.Q_base ho1) hb)
            have n1_ := Aside0.mk (Kd.R_elder' (by (with_reducible repeat (first | apply Kd.R_alloc | apply Kd.R_drewN | apply Kd.R_drew)); exact HO167.out) (Kd.R_base ho0) hb)
            have n2_ := Aside0.mk (Kd.Q_elder' (by (with_reducible repeat (first | apply Kd.Q_alloc | apply Kd.Q_drewN | apply Kd.Q_drew)); exact HO170.out) (Kd.Q_base ho1) hb)
            have n3_ := Aside0.mk (Kd.R_elder' (by (with_reducible repeat (first | apply Kd.R_alloc | apply Kd.R_drewN | apply Kd.R_drew)); exact HO173.out) (Kd.R_base ho2) hb)
            have n4_ := Aside0.mk (Kd.R_elder' (by (with_reducible repeat (first | apply Kd.R_alloc | apply Kd.R_drewN | apply Kd.R_drew)); exact HO183.out) (Kd.R_base ho0) hb)
            have n5_ := Aside0.mk (Kd.Q_elder' (by (with_reducible repeat (first | apply Kd.Q_alloc | apply Kd.Q_drewN | apply Kd.Q_drew)); exact HO186.out) (Kd.Q_base ho1) hb)
            have n6_ := Aside0.mk (Kd.R_elder' (by (with_reducible repeat (first | apply Kd.R_alloc | apply Kd.R_drewN | apply Kd.R_drew)); exact HO189.out) (Kd.R_base ho2) hb)
            have n7_ := Aside0.mk (Kd.R_lower (Kd.R_new' (Kd.R_new' ho0 (Kd.R_lt (by (with_reducible repeat (first | apply Kd.R_alloc | apply Kd.R_drewN | apply Kd.R_drew)); exact HO167.out))) (Kd.R_lt (by (with_reducible repeat (first | apply Kd.R_alloc | apply Kd.R_drewN | apply Kd.R_drew)); exact HO183.out))) (below_size (by repeat (first | (with_reducible first | exact HB.out | apply below_alloc | apply pw_below_drewN | apply below_drew1 | refine below_set ?_ GE176.out | refine below_set ?_ GE192.out | refine below_set ?_ GE208.out) | exact HB.out))))
            have n8_ := Aside0.mk (Kd.Q_lower (Kd.Q_new' (Kd.Q_new' (Kd.Q_new' ho1 (RM_lt HO160.out)) (Kd.Q_lt (by (with_reducible repeat (first | apply Kd.Q_alloc | apply Kd.Q_drewN | apply Kd.Q_drew)); exact HO170.out))) (Kd.Q_lt (by (with_reducible repeat (first | apply Kd.Q_alloc | apply Kd.Q_drewN | apply Kd.Q_drew)); exact HO186.out))) (below_size (by repeat (first | (with_reducible first | exact HB.out | apply below_alloc | apply pw_below_drewN | apply below_drew1 | refine below_set ?_ GE176.out | refine below_set ?_ GE192.out | refine below_set ?_ GE208.out) | exact HB.out))))
            have n9_ := Aside0.mk (Kd.R_lower (Kd.R_new' (Kd.R_new' ho2 (Kd.R_lt (by (with_reducible repeat (first | apply Kd.R_alloc | apply Kd.R_drewN | apply Kd.R_drew)); exact HO173.out))) (Kd.R_lt (by (with_reducible repeat (first | apply Kd.R_alloc | apply Kd.R_drewN | apply Kd.R_drew)); exact HO189.out))) (below_size (by repeat (first | (with_reducible first | exact HB.out | apply below_alloc | apply pw_below_drewN | apply below_drew1 | refine below_set ?_ GE176.out | refine below_set ?_ GE192.out | refine below_set ?_ GE208.out) | exact HB.out))))
            have n10_ := Aside0.mk (blk_below (g := gb176) (o := .cells #[.slice Ao16 t168.length co16, .slice Ao18 t171.length co18, .bool t174, .bool t175] 39 (0, 0)) (by (with_reducible repeat (first | refine blk_drewN ?_ _ | refine blk_drew ?_ | refine blk_alloc ?_ _)); exact BK176.out) hb)
            have n11_ := Aside0.mk (blk_below (g := gb192) (o := .cells #[.slice Ao25 t184.length co25, .slice Ao27 t187.length co27, .bool t190, .bool t191] 39 (0, 0)) (by (with_reducible repeat (first | refine blk_drewN ?_ _ | refine blk_drew ?_ | refine blk_alloc ?_ _)); exact BK192.out) hb)
            have n12_ := Aside0.mk (Kd.C_below (by repeat (first | (with_reducible exact HR196.out) | (with_reducible refine Kd.C_alloc ?_ _) | (with_reducible refine Kd.C_drewN ?_ _) | (with_reducible refine Kd.C_drew ?_) | exact HR196.out)) hb)
            have n13_ := Aside0.mk (blk_below (g := gb208) (o := .cells #[.slice none 0 0, .slice none 0 0, .bool false, .bool false] 39 (0, 0)) (by (with_reducible repeat (first | refine blk_drewN ?_ _ | refine blk_drew ?_ | refine blk_alloc ?_ _)); exact BK208.out) hb)
            have n14_ := Aside0.mk (below_step (by repeat (first | (with_reducible first | exact HB.out | apply below_alloc | apply pw_below_drewN | apply below_drew1 | refine below_set ?_ GE176.out | refine below_set ?_ GE192.out | refine below_set ?_ GE208.out) | exact HB.out)) hb)
            clear HO160
            clear HO167
            clear HO170
            clear HO173
            clear HO183
            clear HO186
            clear HO189
            clear BK176
            clear BK192
            clear HR196
            clear BK208
            clear HB
            have HO160 := n0_
            have HO167 := n1_
            have HO170 := n2_
            have HO173 := n3_
            have HO183 := n4_
            have HO186 := n5_
            have HO189 := n6_
            have HO199 := n7_
            have HO202 := n8_
            have HO205 := n9_
            have BK176 := n10_
            have BK192 := n11_
            have HR196 := n12_
            have BK208 := n13_
            have HB := n14_
            clear n0_ n1_ n2_ n3_ n4_ n5_ n6_ n7_ n8_ n9_ n10_ n11_ n12_ n13_ n14_
            (try clear hb)
            (try clear hb2)
            (try clear hk)
            (try clear hi)
            (try clear ho0)
            (try clear ho1)
            (try clear ho2)
            refine hK.out _ _ ⟨(blk_cell BK192.out 0).trans rfl, (blk_cell BK192.out 1).trans rfl, (blk_cell BK192.out 2).trans rfl, (blk_cell BK192.out 3).trans rfl⟩ (fun hHeld => ?_)
            clear hK K
            refine norm_ (a' := ?_) ?_ ?_
            rotate_left
            · show Act.put _ (some 28) _ = _
              simp only [Act.put, List.setIfInBounds_toArray, List.set_cons_zero, List.set_cons_succ, i64_w, i32_w]
              rfl
            refine pure_ (i := 4) (N := some 24) (v := ?_) (a' := ?_) #[true, true, true, true, true, false, false, true, false, false] rfl rfl (any_of HT_.out (by kernel_rfl)) (fun _ _ _ h => h) (Or.inl ⟨by rfl, ?_⟩) ?_ ?_
            rotate_left
            · intro w'
              go_simp
              with_reducible rfl
            rotate_left
            · simp only [Act.put, List.setIfInBounds_toArray, List.set_cons_zero, List.set_cons_succ, i64_w, i32_w]
              rfl
            refine pure_ (i := 5) (N := some 29) (v := ?_) (a' := ?_) #[true, true, true, true, true, true, false, true, false, false] rfl rfl (any_of HT_.out (by kernel_rfl)) (fun _ _ _ h => h) (Or.inl ⟨by rfl, ?_⟩) ?_ ?_
            rotate_left
            · intro w'
              go_simp
              with_reducible rfl
            rotate_left
            · simp only [Act.put, List.setIfInBounds_toArray, List.set_cons_zero, List.set_cons_succ, i64_w, i32_w]
              rfl
            refine pure_ (i := 6) (N := some 30) (v := ?_) (a' := ?_) #[true, true, true, true, true, true, true, true, false, false] rfl rfl (any_of HT_.out (by kernel_rfl)) (fun _ _ _ h => h) (Or.inl ⟨by rfl, ?_⟩) ?_ ?_
            rotate_left
            · intro w'
              go_simp
              with_reducible rfl
            rotate_left
            · simp only [Act.put, List.setIfInBounds_toArray, List.set_cons_zero, List.set_cons_succ, i64_w, i32_w]
              rfl
            exact norm_ (by simp only [putAll, Act.put, List.setIfInBounds_toArray, List.set_cons_zero, List.set_cons_succ]) (hCont (v198, v201, v204, gb208) _ ⟨hHeld, (RM_mono HO160.out (fun _ hk => ⟨hk.1.1, ⟨hk.1.2, hk.2⟩⟩)), (by (with_reducible repeat (first | apply Kd.R_alloc | apply Kd.R_drewN | apply Kd.R_drew)); exact HO167.out), (by (with_reducible repeat (first | apply Kd.Q_alloc | apply Kd.Q_drewN | apply Kd.Q_drew)); exact Kd.Q_mono HO170.out (fun _ hk => ⟨hk.1.1, ⟨hk.1.2, hk.2⟩⟩)), (by (with_reducible repeat (first | apply Kd.R_alloc | apply Kd.R_drewN | apply Kd.R_drew)); exact HO173.out), (by (with_reducible repeat (first | apply Kd.R_alloc | apply Kd.R_drewN | apply Kd.R_drew)); exact HO183.out), (by (with_reducible repeat (first | apply Kd.Q_alloc | apply Kd.Q_drewN | apply Kd.Q_drew)); exact Kd.Q_mono HO186.out (fun _ hk => ⟨hk.1.1, ⟨hk.1.2, hk.2⟩⟩)), (by (with_reducible repeat (first | apply Kd.R_alloc | apply Kd.R_drewN | apply Kd.R_drew)); exact HO189.out), (by (with_reducible repeat (first | apply Kd.R_alloc | apply Kd.R_drewN | apply Kd.R_drew)); exact Kd.R_mono HO199.out (fun _ hk => ⟨hk.1.2, hk.2⟩)), (by (with_reducible repeat (first | apply Kd.Q_alloc | apply Kd.Q_drewN | apply Kd.Q_drew)); exact Kd.Q_mono HO202.out (fun _ hk => ⟨hk.1.1.2, ⟨hk.1.2, hk.2⟩⟩)), (by (with_reducible repeat (first | apply Kd.R_alloc | apply Kd.R_drewN | apply Kd.R_drew)); exact Kd.R_mono HO205.out (fun _ hk => ⟨hk.1.2, hk.2⟩)), (by (with_reducible repeat (first | refine blk_drewN ?_ _ | refine blk_drew ?_ | refine blk_alloc ?_ _)); exact BK176.out), (by (with_reducible repeat (first | refine blk_drewN ?_ _ | refine blk_drew ?_ | refine blk_alloc ?_ _)); exact BK192.out), (by (with_reducible repeat (first | refine blk_drewN ?_ _ | refine blk_drew ?_ | refine blk_alloc ?_ _)); exact BK208.out), GW208.out, GE208.out, NB176_208.out, NB208_176.out, NB192_208.out, NB208_192.out, (by repeat (first | (with_reducible first | exact HB.out | apply below_alloc | apply pw_below_drewN | apply below_drew1 | refine below_set ?_ GE176.out | refine below_set ?_ GE192.out | refine below_set ?_ GE208.out) | exact HB.out))⟩)
        rintro ⟨v198, v201, v204, gb208⟩ w36 ⟨hS_, h0_, h1_, h2_, h3_, h4_, h5_, h6_, h7_, h8_, h9_, h10_, h11_, h12_, h13_, h14_, h15_, h16_, h17_, h18_, h19_⟩
        have n0_ : Aside0 (RM w36 w.heap.size (fun k_ => some k_ ≠ (.slice Ao16 t168.length co16 : Value).ownBlock ∧ some k_ ≠ (.slice Ao25 t184.length co25 : Value).ownBlock ∧ some k_ ≠ (v201 : Value).ownBlock) (.slice Ao13 y158.length co13) y158) := ⟨h0_⟩
        have n1_ : Aside0 (Kd.R Kd.string 9 w36 w.heap.size (fun k_ => some k_ ≠ (v182 : Value).ownBlock ∧ some k_ ≠ (v198 : Value).ownBlock) v166 t165) := ⟨h1_⟩
        have n2_ : Aside0 (Kd.Q (Kd.int .u8) 5 w36 w.heap.size (fun k_ => some k_ ≠ (.slice Ao13 y158.length co13 : Value).ownBlock ∧ some k_ ≠ (.slice Ao25 t184.length co25 : Value).ownBlock ∧ some k_ ≠ (v201 : Value).ownBlock) (.slice Ao16 t168.length co16) t168) := ⟨h2_⟩
        have n3_ : Aside0 (Kd.R (Kd.int .i32) 21 w36 w.heap.size (fun k_ => some k_ ≠ (.slice Ao27 t187.length co27 : Value).ownBlock ∧ some k_ ≠ (v204 : Value).ownBlock) (.slice Ao18 t171.length co18) t171) := ⟨h3_⟩
        have n4_ : Aside0 (Kd.R Kd.string 9 w36 w.heap.size (fun k_ => some k_ ≠ (v166 : Value).ownBlock ∧ some k_ ≠ (v198 : Value).ownBlock) v182 t181) := ⟨h4_⟩
        have n5_ : Aside0 (Kd.Q (Kd.int .u8) 5 w36 w.heap.size (fun k_ => some k_ ≠ (.slice Ao13 y158.length co13 : Value).ownBlock ∧ some k_ ≠ (.slice Ao16 t168.length co16 : Value).ownBlock ∧ some k_ ≠ (v201 : Value).ownBlock) (.slice Ao25 t184.length co25) t184) := ⟨h5_⟩
        have n6_ : Aside0 (Kd.R (Kd.int .i32) 21 w36 w.heap.size (fun k_ => some k_ ≠ (.slice Ao18 t171.length co18 : Value).ownBlock ∧ some k_ ≠ (v204 : Value).ownBlock) (.slice Ao27 t187.length co27) t187) := ⟨h6_⟩
        have n7_ : Aside0 (Kd.R Kd.string 9 w36 w.heap.size (fun k_ => some k_ ≠ (v166 : Value).ownBlock ∧ some k_ ≠ (v182 : Value).ownBlock) v198 t197) := ⟨h7_⟩
        have n8_ : Aside0 (Kd.Q (Kd.int .u8) 5 w36 w.heap.size (fun k_ => some k_ ≠ (.slice Ao13 y158.length co13 : Value).ownBlock ∧ some k_ ≠ (.slice Ao16 t168.length co16 : Value).ownBlock ∧ some k_ ≠ (.slice Ao25 t184.length co25 : Value).ownBlock) v201 t200) := ⟨h8_⟩
        have n9_ : Aside0 (Kd.R (Kd.int .i32) 21 w36 w.heap.size (fun k_ => some k_ ≠ (.slice Ao18 t171.length co18 : Value).ownBlock ∧ some k_ ≠ (.slice Ao27 t187.length co27 : Value).ownBlock) v204 t203) := ⟨h9_⟩
        have n10_ : Aside0 (w36.heap[gb176]? = some (.cells #[.slice Ao16 t168.length co16, .slice Ao18 t171.length co18, .bool t174, .bool t175] 39 (0, 0))) := ⟨h10_⟩
        have n11_ : Aside0 (w36.heap[gb192]? = some (.cells #[.slice Ao25 t184.length co25, .slice Ao27 t187.length co27, .bool t190, .bool t191] 39 (0, 0))) := ⟨h11_⟩
        have n12_ : Aside0 (w36.heap[gb208]? = some (.cells #[.slice none 0 0, .slice none 0 0, .bool false, .bool false] 39 (0, 0))) := ⟨h12_⟩
        have n13_ : Aside0 (w.heap.size ≤ gb208) := ⟨h13_⟩
        have n14_ : Aside0 (w.heap.size ≤ gb208) := ⟨h14_⟩
        have n15_ : Aside0 (gb176 ≠ gb208) := ⟨h15_⟩
        have n16_ : Aside0 (gb208 ≠ gb176) := ⟨h16_⟩
        have n17_ : Aside0 (gb192 ≠ gb208) := ⟨h17_⟩
        have n18_ : Aside0 (gb208 ≠ gb192) := ⟨h18_⟩
        have n19_ : Aside0 (Below w.heap.size w w36) := ⟨h19_⟩
        clear HO160
        clear HO167
        clear HO170
        clear HO173
        clear HO183
        clear HO186
        clear HO189
        clear BK176
        clear BK192
        clear HB
        clear h0_ h1_ h2_ h3_ h4_ h5_ h6_ h7_ h8_ h9_ h10_ h11_ h12_ h13_ h14_ h15_ h16_ h17_ h18_ h19_
        have HO160 := n0_
        have HO167 := n1_
        have HO170 := n2_
        have HO173 := n3_
        have HO183 := n4_
        have HO186 := n5_
        have HO189 := n6_
        have HO199 := n7_
        have HO202 := n8_
        have HO205 := n9_
        have BK176 := n10_
        have BK192 := n11_
        have BK208 := n12_
        have GW208 := n13_
        have GE208 := n14_
        have NB176_208 := n15_
        have NB208_176 := n16_
        have NB192_208 := n17_
        have NB208_192 := n18_
        have HB := n19_
        clear n0_ n1_ n2_ n3_ n4_ n5_ n6_ n7_ n8_ n9_ n10_ n11_ n12_ n13_ n14_ n15_ n16_ n17_ n18_ n19_
        have hHeld : w36.cell? ⟨gb192, 0, none⟩ = some (.slice Ao25 t184.length co25) ∧ w36.cell? ⟨gb192, 1, none⟩ = some (.slice Ao27 t187.length co27) ∧ w36.cell? ⟨gb192, 2, none⟩ = some (.bool t190) ∧ w36.cell? ⟨gb192, 3, none⟩ = some (.bool t191) := hS_
        obtain ⟨Ao37, co37, eo37, _⟩ := Kd.Q_slice HO202.out
        (first | subst eo37 | (injection eo37 with f1_ f2_ f3_; have f4_ := f1_.symm; have f5_ := f3_.symm; clear f1_ f2_ f3_; subst f4_; subst f5_))
        obtain ⟨Ao39, co39, eo39⟩ := Kd.R_slice HO205.out
        (first | subst eo39 | (injection eo39 with f1_ f2_ f3_; have f4_ := f1_.symm; have f5_ := f3_.symm; clear f1_ f2_ f3_; subst f4_; subst f5_))
        refine norm_ (a' := ?_) ?_ ?_
        rotate_left
        · simp only [putAll, Act.put, List.setIfInBounds_toArray, List.set_cons_zero, List.set_cons_succ]
          rfl
        refine pure_ (i := 8) (N := some 6) (v := ?_) (a' := ?_) #[true, true, true, true, true, true, true, true, true, false] rfl rfl (any_of HT_.out (by kernel_rfl)) (fun _ _ _ h => h) (Or.inl ⟨by rfl, ?_⟩) ?_ ?_
        rotate_left
        · intro w'
          go_simp
          with_reducible rfl
        rotate_left
        · simp only [Act.put, List.setIfInBounds_toArray, List.set_cons_zero, List.set_cons_succ, i64_w, i32_w]
          rfl
        refine one_ (i := 9) (N := none) #[true, true, true, true, true, true, true, true, true, true] rfl rfl (one_of HT_.out (by kernel_rfl)) (by decide) (fun K hK => ?_)
        have hs38 : w36.cell? ⟨gb208, 0, none⟩ = some (.slice none 0 0) := (blk_cell BK208.out 0).trans rfl
        have hfs38 := blk_frozen BK208.out 0
        have hns38_0 := NB176_208.out
        have hns38_1 := NB192_208.out
        have hms38_0 := NB208_176.out
        have hms38_1 := NB208_192.out
        have hs40 : w36.cell? ⟨gb208, 1, none⟩ = some (.slice none 0 0) := (blk_cell BK208.out 1).trans rfl
        have hfs40 := blk_frozen BK208.out 1
        have hns40_0 := NB176_208.out
        have hns40_1 := NB192_208.out
        have hms40_0 := NB208_176.out
        have hms40_1 := NB208_192.out
        have hs41 : w36.cell? ⟨gb208, 2, none⟩ = some (.bool false) := (blk_cell BK208.out 2).trans rfl
        have hfs41 := blk_frozen BK208.out 2
        have hns41_0 := NB176_208.out
        have hns41_1 := NB192_208.out
        have hms41_0 := NB208_176.out
        have hms41_1 := NB208_192.out
        have hs42 : w36.cell? ⟨gb208, 3, none⟩ = some (.bool false) := (blk_cell BK208.out 3).trans rfl
        have hfs42 := blk_frozen BK208.out 3
        have hns42_0 := NB176_208.out
        have hns42_1 := NB192_208.out
        have hms42_0 := NB208_176.out
        have hms42_1 := NB208_192.out
        refine skip_ (w1 := ?_) (by rfl) rfl ?_ ?_
        rotate_left
        · go_simp
          rfl
        refine hK.out _ _ ⟨((cell_far (p := ⟨gb208, _, none⟩) NB192_208.out _).trans (((cell_far (p := ⟨gb208, _, none⟩) NB192_208.out _).trans (((cell_far (p := ⟨gb208, _, none⟩) NB192_208.out _).trans (((cell_far (p := ⟨gb208, _, none⟩) NB192_208.out _).trans (hHeld.1)))))))), ((cell_far (p := ⟨gb208, _, none⟩) NB192_208.out _).trans (((cell_far (p := ⟨gb208, _, none⟩) NB192_208.out _).trans (((cell_far (p := ⟨gb208, _, none⟩) NB192_208.out _).trans (((cell_far (p := ⟨gb208, _, none⟩) NB192_208.out _).trans (hHeld.2.1)))))))), ((cell_far (p := ⟨gb208, _, none⟩) NB192_208.out _).trans (((cell_far (p := ⟨gb208, _, none⟩) NB192_208.out _).trans (((cell_far (p := ⟨gb208, _, none⟩) NB192_208.out _).trans (((cell_far (p := ⟨gb208, _, none⟩) NB192_208.out _).trans (hHeld.2.2.1)))))))), ((cell_far (p := ⟨gb208, _, none⟩) NB192_208.out _).trans (((cell_far (p := ⟨gb208, _, none⟩) NB192_208.out _).trans (((cell_far (p := ⟨gb208, _, none⟩) NB192_208.out _).trans (((cell_far (p := ⟨gb208, _, none⟩) NB192_208.out _).trans (hHeld.2.2.2))))))))⟩ (fun hHeld => ?_)
        clear hK K
        refine done_ (done_of HT_.out (by kernel_rfl)) ?_
        have hnb43 := NB208_176.out
        have hnc43 := NB176_208.out
        have hnb44 := NB208_192.out
        have hnc44 := NB192_208.out
        have hcz45_0 : w36.cell? ⟨gb208, 0, none⟩ = some (.slice none 0 0) := (blk_cell BK208.out 0).trans rfl
        have hcz45_1 : w36.cell? ⟨gb208, 1, none⟩ = some (.slice none 0 0) := (blk_cell BK208.out 1).trans rfl
        have hcz45_2 : w36.cell? ⟨gb208, 2, none⟩ = some (.bool false) := (blk_cell BK208.out 2).trans rfl
        have hcz45_3 : w36.cell? ⟨gb208, 3, none⟩ = some (.bool false) := (blk_cell BK208.out 3).trans rfl
        have hfz45_0 := blk_frozen BK208.out 0
        have hfz45_1 := blk_frozen BK208.out 1
        have hfz45_2 := blk_frozen BK208.out 2
        have hfz45_3 := blk_frozen BK208.out 3
        try go_wp2_with (first | ((with_reducible refine gate_callee (f := 25) rfl ?_); refine goesL_ (some 32) rfl rfl Try.func25 (by kernel_rfl) rfl #[.agg #[.slice Ao37 t200.length co37, .slice Ao39 t203.length co39, .bool t206, .bool t207]] rfl (by (try simp only [List.map_toArray, List.map_cons, List.map_nil]); first | done | rfl | (simp only [List.length_drop, List.length_take]; rfl)) ?_; (with_reducible refine (token_End.calls _ _ t200 _ _ t203 t206 t207 t209 _ ?side1 ?side2 ?side3 ?side4 A8.out).mono ?_); (case side1 => refine (Kd.Q_reads' (e := 5) (base := w.heap.size) (ok := fun k_ => (some k_ ≠ (.slice Ao13 y158.length co13 : Value).ownBlock ∧ (some k_ ≠ (.slice Ao16 t168.length co16 : Value).ownBlock ∧ some k_ ≠ (.slice Ao25 t184.length co25 : Value).ownBlock))) (n := t200.length) (c := co37) ?_).2.2; exact (by (with_reducible repeat (first | apply Kd.Q_alloc | apply Kd.Q_drewN | apply Kd.Q_drew)); exact (Kd.Q_mono (Kd.Q_far (p := ⟨gb208, 3, none⟩) (Kd.Q_far (p := ⟨gb208, 2, none⟩) (Kd.Q_far (p := ⟨gb208, 1, none⟩) (Kd.Q_far (p := ⟨gb208, 0, none⟩) (Kd.Q_types HO202.out BK208.out (by decide)) (fun _ hk => hk.2) (.slice Ao37 t200.length co37)) (fun _ hk => hk.2) (.slice Ao39 t203.length co39)) (fun _ hk => hk.2) (.bool t206)) (fun _ hk => hk.2) (.bool t207)) (fun _ h_ => h_.1)))); (case side2 => exact (Kd.Q_reads' HO202.out).2.1); (case side3 => refine (Kd.R_reads' (e := 21) (base := w.heap.size) (ok := fun k_ => (some k_ ≠ (.slice Ao18 t171.length co18 : Value).ownBlock ∧ some k_ ≠ (.slice Ao27 t187.length co27 : Value).ownBlock)) (n := t203.length) (c := co39) ?_).2.2; exact (by (with_reducible repeat (first | apply Kd.R_alloc | apply Kd.R_drewN | apply Kd.R_drew)); exact (Kd.R_mono (Kd.R_far (p := ⟨gb208, 3, none⟩) (Kd.R_far (p := ⟨gb208, 2, none⟩) (Kd.R_far (p := ⟨gb208, 1, none⟩) (Kd.R_far (p := ⟨gb208, 0, none⟩) (Kd.R_types HO205.out BK208.out (by decide)) (fun _ hk => hk.2) (.slice Ao37 t200.length co37)) (fun _ hk => hk.2) (.slice Ao39 t203.length co39)) (fun _ hk => hk.2) (.bool t206)) (fun _ hk => hk.2) (.bool t207)) (fun _ h_ => h_.1)))); (case side4 => exact (Kd.R_reads' HO205.out).2.1); rintro e w46 ⟨v210, rfl, ho0, hb⟩; refine ⟨_, rfl, ?_⟩; have n0_ := Aside0.mk (RM_below (RM_butg HO160.out BK208.out (by decide) far4) hb); have n1_ := Aside0.mk (Kd.R_elder' (by (with_reducible repeat (first | apply Kd.R_alloc | apply Kd.R_drewN | apply Kd.R_drew)); exact (Kd.R_mono (Kd.R_far (p := ⟨gb208, 3, none⟩) (Kd.R_far (p := ⟨gb208, 2, none⟩) (Kd.R_far (p := ⟨gb208, 1, none⟩) (Kd.R_far (p := ⟨gb208, 0, none⟩) (Kd.R_types HO167.out BK208.out (by decide)) (fun _ hk => hk.2) (.slice Ao37 t200.length co37)) (fun _ hk => hk.2) (.slice Ao39 t203.length co39)) (fun _ hk => hk.2) (.bool t206)) (fun _ hk => hk.2) (.bool t207)) (fun _ h_ => h_.1))) (Kd.R_base ho0) hb); have n2_ := Aside0.mk (Kd.Q_below (by (with_reducible repeat (first | apply Kd.Q_alloc | apply Kd.Q_drewN | apply Kd.Q_drew)); exact (Kd.Q_mono (Kd.Q_far (p := ⟨gb208, 3, none⟩) (Kd.Q_far (p := ⟨gb208, 2, none⟩) (Kd.Q_far (p := ⟨gb208, 1, none⟩) (Kd.Q_far (p := ⟨gb208, 0, none⟩) (Kd.Q_types HO170.out BK208.out (by decide)) (fun _ hk => hk.2) (.slice Ao37 t200.length co37)) (fun _ hk => hk.2) (.slice Ao39 t203.length co39)) (fun _ hk => hk.2) (.bool t206)) (fun _ hk => hk.2) (.bool t207)) (fun _ h_ => h_.1))) hb); have n3_ := Aside0.mk (Kd.R_below (by (with_reducible repeat (first | apply Kd.R_alloc | apply Kd.R_drewN | apply Kd.R_drew)); exact (Kd.R_mono (Kd.R_far (p := ⟨gb208, 3, none⟩) (Kd.R_far (p := ⟨gb208, 2, none⟩) (Kd.R_far (p := ⟨gb208, 1, none⟩) (Kd.R_far (p := ⟨gb208, 0, none⟩) (Kd.R_types HO173.out BK208.out (by decide)) (fun _ hk => hk.2) (.slice Ao37 t200.length co37)) (fun _ hk => hk.2) (.slice Ao39 t203.length co39)) (fun _ hk => hk.2) (.bool t206)) (fun _ hk => hk.2) (.bool t207)) (fun _ h_ => h_.1))) hb); have n4_ := Aside0.mk (Kd.R_elder' (by (with_reducible repeat (first | apply Kd.R_alloc | apply Kd.R_drewN | apply Kd.R_drew)); exact (Kd.R_mono (Kd.R_far (p := ⟨gb208, 3, none⟩) (Kd.R_far (p := ⟨gb208, 2, none⟩) (Kd.R_far (p := ⟨gb208, 1, none⟩) (Kd.R_far (p := ⟨gb208, 0, none⟩) (Kd.R_types HO183.out BK208.out (by decide)) (fun _ hk => hk.2) (.slice Ao37 t200.length co37)) (fun _ hk => hk.2) (.slice Ao39 t203.length co39)) (fun _ hk => hk.2) (.bool t206)) (fun _ hk => hk.2) (.bool t207)) (fun _ h_ => h_.1))) (Kd.R_base ho0) hb); have n5_ := Aside0.mk (Kd.Q_below (by (with_reducible repeat (first | apply Kd.Q_alloc | apply Kd.Q_drewN | apply Kd.Q_drew)); exact (Kd.Q_mono (Kd.Q_far (p := ⟨gb208, 3, none⟩) (Kd.Q_far (p := ⟨gb208, 2, none⟩) (Kd.Q_far (p := ⟨gb208, 1, none⟩) (Kd.Q_far (p := ⟨gb208, 0, none⟩) (Kd.Q_types HO186.out BK208.out (by decide)) (fun _ hk => hk.2) (.slice Ao37 t200.length co37)) (fun _ hk => hk.2) (.slice Ao39 t203.length co39)) (fun _ hk => hk.2) (.bool t206)) (fun _ hk => hk.2) (.bool t207)) (fun _ h_ => h_.1))) hb); have n6_ := Aside0.mk (Kd.R_below (by (with_reducible repeat (first | apply Kd.R_alloc | apply Kd.R_drewN | apply Kd.R_drew)); exact (Kd.R_mono (Kd.R_far (p := ⟨gb208, 3, none⟩) (Kd.R_far (p := ⟨gb208, 2, none⟩) (Kd.R_far (p := ⟨gb208, 1, none⟩) (Kd.R_far (p := ⟨gb208, 0, none⟩) (Kd.R_types HO189.out BK208.out (by decide)) (fun _ hk => hk.2) (.slice Ao37 t200.length co37)) (fun _ hk => hk.2) (.slice Ao39 t203.length co39)) (fun _ hk => hk.2) (.bool t206)) (fun _ hk => hk.2) (.bool t207)) (fun _ h_ => h_.1))) hb); have n7_ := Aside0.mk (Kd.R_elder' (by (with_reducible repeat (first | apply Kd.R_alloc | apply Kd.R_drewN | apply Kd.R_drew)); exact (Kd.R_mono (Kd.R_far (p := ⟨gb208, 3, none⟩) (Kd.R_far (p := ⟨gb208, 2, none⟩) (Kd.R_far (p := ⟨gb208, 1, none⟩) (Kd.R_far (p := ⟨gb208, 0, none⟩) (Kd.R_types HO199.out BK208.out (by decide)) (fun _ hk => hk.2) (.slice Ao37 t200.length co37)) (fun _ hk => hk.2) (.slice Ao39 t203.length co39)) (fun _ hk => hk.2) (.bool t206)) (fun _ hk => hk.2) (.bool t207)) (fun _ h_ => h_.1))) (Kd.R_base ho0) hb); have n8_ := Aside0.mk (Kd.Q_below (by (with_reducible repeat (first | apply Kd.Q_alloc | apply Kd.Q_drewN | apply Kd.Q_drew)); exact (Kd.Q_mono (Kd.Q_far (p := ⟨gb208, 3, none⟩) (Kd.Q_far (p := ⟨gb208, 2, none⟩) (Kd.Q_far (p := ⟨gb208, 1, none⟩) (Kd.Q_far (p := ⟨gb208, 0, none⟩) (Kd.Q_types HO202.out BK208.out (by decide)) (fun _ hk => hk.2) (.slice Ao37 t200.length co37)) (fun _ hk => hk.2) (.slice Ao39 t203.length co39)) (fun _ hk => hk.2) (.bool t206)) (fun _ hk => hk.2) (.bool t207)) (fun _ h_ => h_.1))) hb); have n9_ := Aside0.mk (Kd.R_below (by (with_reducible repeat (first | apply Kd.R_alloc | apply Kd.R_drewN | apply Kd.R_drew)); exact (Kd.R_mono (Kd.R_far (p := ⟨gb208, 3, none⟩) (Kd.R_far (p := ⟨gb208, 2, none⟩) (Kd.R_far (p := ⟨gb208, 1, none⟩) (Kd.R_far (p := ⟨gb208, 0, none⟩) (Kd.R_types HO205.out BK208.out (by decide)) (fun _ hk => hk.2) (.slice Ao37 t200.length co37)) (fun _ hk => hk.2) (.slice Ao39 t203.length co39)) (fun _ hk => hk.2) (.bool t206)) (fun _ hk => hk.2) (.bool t207)) (fun _ h_ => h_.1))) hb); have n10_ := Aside0.mk (Kd.R_lower (Kd.R_new' (Kd.R_new' (Kd.R_new' ho0 (Kd.R_lt (by (with_reducible repeat (first | apply Kd.R_alloc | apply Kd.R_drewN | apply Kd.R_drew)); exact (Kd.R_mono (Kd.R_far (p := ⟨gb208, 3, none⟩) (Kd.R_far (p := ⟨gb208, 2, none⟩) (Kd.R_far (p := ⟨gb208, 1, none⟩) (Kd.R_far (p := ⟨gb208, 0, none⟩) (Kd.R_types HO167.out BK208.out (by decide)) (fun _ hk => hk.2) (.slice Ao37 t200.length co37)) (fun _ hk => hk.2) (.slice Ao39 t203.length co39)) (fun _ hk => hk.2) (.bool t206)) (fun _ hk => hk.2) (.bool t207)) (fun _ h_ => h_.1))))) (Kd.R_lt (by (with_reducible repeat (first | apply Kd.R_alloc | apply Kd.R_drewN | apply Kd.R_drew)); exact (Kd.R_mono (Kd.R_far (p := ⟨gb208, 3, none⟩) (Kd.R_far (p := ⟨gb208, 2, none⟩) (Kd.R_far (p := ⟨gb208, 1, none⟩) (Kd.R_far (p := ⟨gb208, 0, none⟩) (Kd.R_types HO183.out BK208.out (by decide)) (fun _ hk => hk.2) (.slice Ao37 t200.length co37)) (fun _ hk => hk.2) (.slice Ao39 t203.length co39)) (fun _ hk => hk.2) (.bool t206)) (fun _ hk => hk.2) (.bool t207)) (fun _ h_ => h_.1))))) (Kd.R_lt (by (with_reducible repeat (first | apply Kd.R_alloc | apply Kd.R_drewN | apply Kd.R_drew)); exact (Kd.R_mono (Kd.R_far (p := ⟨gb208, 3, none⟩) (Kd.R_far (p := ⟨gb208, 2, none⟩) (Kd.R_far (p := ⟨gb208, 1, none⟩) (Kd.R_far (p := ⟨gb208, 0, none⟩) (Kd.R_types HO199.out BK208.out (by decide)) (fun _ hk => hk.2) (.slice Ao37 t200.length co37)) (fun _ hk => hk.2) (.slice Ao39 t203.length co39)) (fun _ hk => hk.2) (.bool t206)) (fun _ hk => hk.2) (.bool t207)) (fun _ h_ => h_.1))))) (below_size (by repeat (first | (with_reducible first | exact HB.out | apply below_alloc | apply pw_below_drewN | apply below_drew1 | refine below_set ?_ GE176.out | refine below_set ?_ GE192.out | refine below_set ?_ GE208.out) | exact HB.out)))); have n11_ := Aside0.mk (blk_below (g := gb176) (o := .cells #[.slice Ao16 t168.length co16, .slice Ao18 t171.length co18, .bool t174, .bool t175] 39 (0, 0)) (by (with_reducible repeat (first | refine blk_drewN ?_ _ | refine blk_drew ?_ | refine blk_alloc ?_ _)); refine blk_far ?_ NB176_208.out _; (with_reducible repeat (first | refine blk_drewN ?_ _ | refine blk_drew ?_ | refine blk_alloc ?_ _)); refine blk_far ?_ NB176_208.out _; (with_reducible repeat (first | refine blk_drewN ?_ _ | refine blk_drew ?_ | refine blk_alloc ?_ _)); refine blk_far ?_ NB176_208.out _; (with_reducible repeat (first | refine blk_drewN ?_ _ | refine blk_drew ?_ | refine blk_alloc ?_ _)); refine blk_far ?_ NB176_208.out _; (with_reducible repeat (first | refine blk_drewN ?_ _ | refine blk_drew ?_ | refine blk_alloc ?_ _)); exact BK176.out) hb); have n12_ := Aside0.mk (blk_below (g := gb192) (o := .cells #[.slice Ao25 t184.length co25, .slice Ao27 t187.length co27, .bool t190, .bool t191] 39 (0, 0)) (by (with_reducible repeat (first | refine blk_drewN ?_ _ | refine blk_drew ?_ | refine blk_alloc ?_ _)); refine blk_far ?_ NB192_208.out _; (with_reducible repeat (first | refine blk_drewN ?_ _ | refine blk_drew ?_ | refine blk_alloc ?_ _)); refine blk_far ?_ NB192_208.out _; (with_reducible repeat (first | refine blk_drewN ?_ _ | refine blk_drew ?_ | refine blk_alloc ?_ _)); refine blk_far ?_ NB192_208.out _; (with_reducible repeat (first | refine blk_drewN ?_ _ | refine blk_drew ?_ | refine blk_alloc ?_ _)); refine blk_far ?_ NB192_208.out _; (with_reducible repeat (first | refine blk_drewN ?_ _ | refine blk_drew ?_ | refine blk_alloc ?_ _)); exact BK192.out) hb); have n13_ := Aside0.mk (blk_below (g := gb208) (o := .cells #[.slice Ao37 t200.length co37, .slice Ao39 t203.length co39, .bool t206, .bool t207] 39 (0, 0)) (by (with_reducible repeat (first | refine blk_drewN ?_ _ | refine blk_drew ?_ | refine blk_alloc ?_ _)); refine blk_put (cs := #[.slice Ao37 t200.length co37, .slice Ao39 t203.length co39, .bool t206, .bool false]) ?_ 3 _ rfl; (with_reducible repeat (first | refine blk_drewN ?_ _ | refine blk_drew ?_ | refine blk_alloc ?_ _)); refine blk_put (cs := #[.slice Ao37 t200.length co37, .slice Ao39 t203.length co39, .bool false, .bool false]) ?_ 2 _ rfl; (with_reducible repeat (first | refine blk_drewN ?_ _ | refine blk_drew ?_ | refine blk_alloc ?_ _)); refine blk_put (cs := #[.slice Ao37 t200.length co37, .slice none 0 0, .bool false, .bool false]) ?_ 1 _ rfl; (with_reducible repeat (first | refine blk_drewN ?_ _ | refine blk_drew ?_ | refine blk_alloc ?_ _)); refine blk_put (cs := #[.slice none 0 0, .slice none 0 0, .bool false, .bool false]) ?_ 0 _ rfl; (with_reducible repeat (first | refine blk_drewN ?_ _ | refine blk_drew ?_ | refine blk_alloc ?_ _)); exact BK208.out) hb); have n14_ := Aside0.mk (below_step (by repeat (first | (with_reducible first | exact HB.out | apply below_alloc | apply pw_below_drewN | apply below_drew1 | refine below_set ?_ GE176.out | refine below_set ?_ GE192.out | refine below_set ?_ GE208.out) | exact HB.out)) hb); clear HO160; clear HO167; clear HO170; clear HO173; clear HO183; clear HO186; clear HO189; clear HO199; clear HO202; clear HO205; clear BK176; clear BK192; clear BK208; clear HB; have HO160 := n0_; have HO167 := n1_; have HO170 := n2_; have HO173 := n3_; have HO183 := n4_; have HO186 := n5_; have HO189 := n6_; have HO199 := n7_; have HO202 := n8_; have HO205 := n9_; have HO211 := n10_; have BK176 := n11_; have BK192 := n12_; have BK208 := n13_; have HB := n14_; clear n0_ n1_ n2_ n3_ n4_ n5_ n6_ n7_ n8_ n9_ n10_ n11_ n12_ n13_ n14_; (try clear hb); (try clear hb2); (try clear hk); (try clear hi); (try clear ho0)) | ((with_reducible refine gate_dst (N := 33) rfl ?_); refine Kd.R_lit Kd.string _ 9 ?hg (N := 33) ?hd (xs := ([(⟨#[100, 111, 110, 39, 116]⟩ : ByteArray)] : List ByteArray)) (inner := [.string (⟨#[100, 111, 110, 39, 116]⟩ : ByteArray)]) (ok := fun _ => True) (okp := fun _ => True) ?hr ?hp (fun _ hk => hk) trivial (Below.refl _ _) (Nat.le_refl _) (by simp) ?_; (case hd => rfl); (case hg => rfl); (case hr => first | (go_simp; done) | (go_simp; rfl)); (case hp => exact (Reps.one (show Kd.M Kd.string _ _ _ (⟨#[100, 111, 110, 39, 116]⟩ : ByteArray) [.string (⟨#[100, 111, 110, 39, 116]⟩ : ByteArray)] from rfl) (Reps.none _ _))); intro v213 w47 ho48 hb hg_ hnew_; clear hg_ hnew_; (first | rw [← Ny212.out] at ho48 | (simp only [Int.reduceToNat] at ho48; rw [← Ny212.out] at ho48)); have n0_ := Aside0.mk (RM_below HO160.out hb); have n1_ := Aside0.mk (Kd.R_elder' (by (with_reducible repeat (first | apply Kd.R_alloc | apply Kd.R_drewN | apply Kd.R_drew)); exact HO167.out) (Kd.R_base ho48) hb); have n2_ := Aside0.mk (Kd.Q_below (by (with_reducible repeat (first | apply Kd.Q_alloc | apply Kd.Q_drewN | apply Kd.Q_drew)); exact HO170.out) hb); have n3_ := Aside0.mk (Kd.R_below (by (with_reducible repeat (first | apply Kd.R_alloc | apply Kd.R_drewN | apply Kd.R_drew)); exact HO173.out) hb); have n4_ := Aside0.mk (Kd.R_elder' (by (with_reducible repeat (first | apply Kd.R_alloc | apply Kd.R_drewN | apply Kd.R_drew)); exact HO183.out) (Kd.R_base ho48) hb); have n5_ := Aside0.mk (Kd.Q_below (by (with_reducible repeat (first | apply Kd.Q_alloc | apply Kd.Q_drewN | apply Kd.Q_drew)); exact HO186.out) hb); have n6_ := Aside0.mk (Kd.R_below (by (with_reducible repeat (first | apply Kd.R_alloc | apply Kd.R_drewN | apply Kd.R_drew)); exact HO189.out) hb); have n7_ := Aside0.mk (Kd.R_elder' (by (with_reducible repeat (first | apply Kd.R_alloc | apply Kd.R_drewN | apply Kd.R_drew)); exact HO199.out) (Kd.R_base ho48) hb); have n8_ := Aside0.mk (Kd.Q_below (by (with_reducible repeat (first | apply Kd.Q_alloc | apply Kd.Q_drewN | apply Kd.Q_drew)); exact HO202.out) hb); have n9_ := Aside0.mk (Kd.R_below (by (with_reducible repeat (first | apply Kd.R_alloc | apply Kd.R_drewN | apply Kd.R_drew)); exact HO205.out) hb); have n10_ := Aside0.mk (Kd.R_elder' (by (with_reducible repeat (first | apply Kd.R_alloc | apply Kd.R_drewN | apply Kd.R_drew)); exact HO211.out) (Kd.R_base ho48) hb); have n11_ := Aside0.mk (Kd.R_lower (Kd.R_new' (Kd.R_new' (Kd.R_new' (Kd.R_new' ho48 (Kd.R_lt (by (with_reducible repeat (first | apply Kd.R_alloc | apply Kd.R_drewN | apply Kd.R_drew)); exact HO167.out))) (Kd.R_lt (by (with_reducible repeat (first | apply Kd.R_alloc | apply Kd.R_drewN | apply Kd.R_drew)); exact HO183.out))) (Kd.R_lt (by (with_reducible repeat (first | apply Kd.R_alloc | apply Kd.R_drewN | apply Kd.R_drew)); exact HO199.out))) (Kd.R_lt (by (with_reducible repeat (first | apply Kd.R_alloc | apply Kd.R_drewN | apply Kd.R_drew)); exact HO211.out))) (below_size (by repeat (first | (with_reducible first | exact HB.out | apply below_alloc | apply pw_below_drewN | apply below_drew1 | refine below_set ?_ GE176.out | refine below_set ?_ GE192.out | refine below_set ?_ GE208.out) | exact HB.out)))); have n12_ := Aside0.mk (blk_below (g := gb176) (o := .cells #[.slice Ao16 t168.length co16, .slice Ao18 t171.length co18, .bool t174, .bool t175] 39 (0, 0)) (by (with_reducible repeat (first | refine blk_drewN ?_ _ | refine blk_drew ?_ | refine blk_alloc ?_ _)); exact BK176.out) hb); have n13_ := Aside0.mk (blk_below (g := gb192) (o := .cells #[.slice Ao25 t184.length co25, .slice Ao27 t187.length co27, .bool t190, .bool t191] 39 (0, 0)) (by (with_reducible repeat (first | refine blk_drewN ?_ _ | refine blk_drew ?_ | refine blk_alloc ?_ _)); exact BK192.out) hb); have n14_ := Aside0.mk (blk_below (g := gb208) (o := .cells #[.slice Ao37 t200.length co37, .slice Ao39 t203.length co39, .bool t206, .bool t207] 39 (0, 0)) (by (with_reducible repeat (first | refine blk_drewN ?_ _ | refine blk_drew ?_ | refine blk_alloc ?_ _)); exact BK208.out) hb); have n15_ := Aside0.mk (below_step (by repeat (first | (with_reducible first | exact HB.out | apply below_alloc | apply pw_below_drewN | apply below_drew1 | refine below_set ?_ GE176.out | refine below_set ?_ GE192.out | refine below_set ?_ GE208.out) | exact HB.out)) hb); clear HO160; clear HO167; clear HO170; clear HO173; clear HO183; clear HO186; clear HO189; clear HO199; clear HO202; clear HO205; clear HO211; clear BK176; clear BK192; clear BK208; clear HB; have HO160 := n0_; have HO167 := n1_; have HO170 := n2_; have HO173 := n3_; have HO183 := n4_; have HO186 := n5_; have HO189 := n6_; have HO199 := n7_; have HO202 := n8_; have HO205 := n9_; have HO211 := n10_; have HO214 := n11_; have BK176 := n12_; have BK192 := n13_; have BK208 := n14_; have HB := n15_; clear n0_ n1_ n2_ n3_ n4_ n5_ n6_ n7_ n8_ n9_ n10_ n11_ n12_ n13_ n14_ n15_; clear hb ho48; obtain ⟨Ao49, co49, eo49⟩ := Kd.R_slice HO211.out; subst eo49; obtain ⟨Ao50, co50, eo50⟩ := Kd.R_slice HO214.out; subst eo50) | ((with_reducible refine gate_callee (f := 21) rfl ?_); refine goesL_ (some 34) rfl rfl Try.func21 (by kernel_rfl) rfl #[.slice Ao49 t209.length co49, .slice Ao50 y212.length co50] rfl (by (try simp only [List.map_toArray, List.map_cons, List.map_nil]); first | done | rfl | (simp only [List.length_drop, List.length_take]; rfl)) ?_; (with_reducible refine (manteletref06_Same.calls k _ _ t209 _ _ y212 t215 _ ?side1 ?side2 ?side3 ?side4 A9.out).mono ?_); (case side1 => repeat (first | exact (Kd.R_reads' HO211.out).2.2 | (with_reducible refine Kd.C_alloc ?_ _) | (with_reducible refine Kd.C_drewN ?_ _) | (with_reducible refine Kd.C_drew ?_))); (case side2 => exact (Kd.R_reads' HO211.out).2.1); (case side3 => repeat (first | exact (Kd.R_reads' HO214.out).2.2 | (with_reducible refine Kd.C_alloc ?_ _) | (with_reducible refine Kd.C_drewN ?_ _) | (with_reducible refine Kd.C_drew ?_))); (case side4 => exact (Kd.R_reads' HO214.out).2.1); rintro e w' ⟨rfl, ⟨nd, rfl⟩⟩; refine ⟨_, rfl, ?_⟩))
        go_ret
        exact ⟨by first | rfl | (simp [errW_none, errW_some] <;> rfl) | (simp [*, errW_none, errW_some] <;> rfl), by repeat (first | (with_reducible first | exact HB.out | apply below_alloc | apply pw_below_drewN | apply below_drew1 | refine below_set ?_ GE176.out | refine below_set ?_ GE192.out | refine below_set ?_ GE208.out) | exact HB.out)⟩
      · rw [if_neg c4] at H
        exact absurd H (by simp)
    · rw [if_neg c3] at H
      exact absurd H (by simp)
  · rw [if_neg c1] at H
    exact absurd H (by simp)

end Go.Proofs.Ythpemcchgebecaa.PTk

