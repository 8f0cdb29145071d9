/- The walk of FuzzySteps. -/
import Derived.Test.YtbnjakihgmhpdaaProg
import Derived.Below
import Derived.Deep.Draws
import Derived.Deep.AppendLies
import Derived.Maps.AppendAt
import Derived.OwnWalk
import Derived.Laws.BytesArg
import Derived.Laws.MakeOwn
import Derived.Laws.OwnMore
import Derived.Deep.OwnRows
import Derived.Tactics
import Derived.Lib.ConvBytes
import Derived.Laws.Slices
import Derived.WalkKit
import Derived.KernelRfl
import Derived.RowKit3
import Derived.Deep.LoopGhost
import Derived.Deep.QuietTactic
import Derived.BigQuiet
import Derived.WideLaws
import Derived.Deep.DeepCutAuto
import Derived.Deep.CutBlock
import Derived.Deep.RegionHeld3
import Derived.Laws.Rows
import Derived.Lib.AppendStr
import Derived.ArgAppend
import Derived.Laws.IdiomCopy
import Derived.OrdersHeld
import Derived.Laws.BitsLemmas
import Derived.RowKit
import Derived.Lib.OthersKept
import Derived.WalkSmall
import Derived.Deep.RegionLaw
import Derived.BigRegion
import Derived.Test.YtbnjakihgmhpdaaWWords
import Derived.Test.YtbnjakihgmhpdaaWLast
import Derived.Test.YtbnjakihgmhpdaaWTab
import Derived.Test.YtbnjakihgmhpdaaWFour
import Derived.Test.YtbnjakihgmhpdaaWQPut
import Derived.Test.YtbnjakihgmhpdaaWApart
import Derived.Test.YtbnjakihgmhpdaaWArr
import Derived.Test.YtbnjakihgmhpdaaWZeros
import Derived.Test.YtbnjakihgmhpdaaWFoot
import Derived.Test.YtbnjakihgmhpdaaWKept
import Derived.Test.YtbnjakihgmhpdaaWShare
import Derived.Test.YtbnjakihgmhpdaaWN
import Derived.Test.YtbnjakihgmhpdaaWFootNe
import Derived.Test.YtbnjakihgmhpdaaWAt
import Derived.Test.YtbnjakihgmhpdaaWEqStruct
import Derived.Test.YtbnjakihgmhpdaaWRepsOne
import Derived.Test.YtbnjakihgmhpdaaWInv
import Derived.Test.YtbnjakihgmhpdaaWInvWords
import Derived.Test.YtbnjakihgmhpdaaWGuard
import Derived.Test.YtbnjakihgmhpdaaWNEv
import Derived.Test.YtbnjakihgmhpdaaWMore
import Derived.Test.YtbnjakihgmhpdaaInfo
import Derived.Test.YtbnjakihgmhpdaaUtf
import Derived.Test.YtbnjakihgmhpdaaHelp
import Derived.Test.YtbnjakihgmhpdaaHelp2
import Derived.Test.YtbnjakihgmhpdaaHelp4
import Derived.Test.YtbnjakihgmhpdaaUtfE
import Derived.Test.YtbnjakihgmhpdaaFuzK
import Derived.Test.YtbnjakihgmhpdaaFuzL
import Derived.Test.YtbnjakihgmhpdaaPSh18x
namespace Go.Proofs.Ytbnjakihgmhpdaa.K
open Go.RowKit Go.Proofs.YtbnjakihgmhpdaaW.PrintWords Go.Proofs.YtbnjakihgmhpdaaW.PrintLast Go.Proofs.YtbnjakihgmhpdaaW.PrintMore Go.Proofs.Ytbnjakihgmhpdaa
attribute [local go_sem] max2_int min2_int max_two min_two max_three min_three max_four min_four
set_option linter.unusedVariables false
set_option linter.unusedSimpArgs false
open Go.Proofs.Ytbnjakihgmhpdaa.PSh18
/-- One rune put in is one step. -/
theorem put_one (t s1 s2 u : List Int) (c : Int) : Lev.dist (t ++ (s1 ++ s2) ++ u) (t ++ (s1 ++ [c] ++ s2) ++ u) = 1 := by
  have h1 : Lev.dist (t ++ (s1 ++ s2) ++ u) (t ++ (s1 ++ [c] ++ s2) ++ u) ≤ 1 := by
    have a := Lev.dist_append (t ++ s1) (t ++ s1 ++ [c]) (s2 ++ u) (s2 ++ u)
    rw [dist_front, Lev.dist_self] at a
    simpa [List.append_assoc] using a
  have h2 := (Lev.dist_len (t ++ (s1 ++ s2) ++ u) (t ++ (s1 ++ [c] ++ s2) ++ u)).2
  simp only [List.length_append, List.length_cons, List.length_nil] at h2
  omega
theorem emp_R (W : World) (b e : Nat) (hb : b ≤ W.heap.size) : Kd.R (Kd.int .i32) e (W.alloc (.cells #[] e)) b (fun k => k = W.heap.size) (.slice (some ⟨W.heap.size, 0, none⟩) 0 0) [] :=
  Kd.R_of_own (World.ownsRow_lit W #[] 0 hb (Nat.zero_le _) (by simp)) (fun k hk => by simpa [Value.ownBlock] using hk.symm)
theorem lit_R (W : World) (b e : Nat) (c : Int) (hb : b ≤ W.heap.size) : Kd.R (Kd.int .i32) e (W.alloc (.cells #[.int .i32 c] e)) b (fun k => k = W.heap.size) (.slice (some ⟨W.heap.size, 0, none⟩) 1 1) [c] :=
  Kd.R_of_own (World.ownsRow_lit W #[.int .i32 c] 1 hb (by decide) (by simp)) (fun k hk => by simpa [Value.ownBlock] using hk.symm)
set_option maxHeartbeats 4000000 in
set_option maxRecDepth 100000 in
theorem FuzzySteps_walk (a0 : Option Addr) (len0 cap0 : Nat) (z0 : List Int) (a1 : Int) (a2 : Int) (a3 : Option Addr) (len3 cap3 : Nat) (z3 : List Int) (w : World) (w0 : (a0 = none ∧ len0 = 0 ∧ cap0 = 0 ∧ z0 = []) ∨ ∃ x, a0 = some x ∧ len0 ≤ cap0 ∧ cap0 ≤ maxLen ∧ z0.length = cap0 ∧ (∀ i, i < z0.length → w.cell? (x.add i) = some (.int .i32 (z0.getD i 0))) ∧ ∀ n ∈ z0, (Lit.int .i32 n).wf = true) (y0 : len0 * 4 ≤ 140737488351232) (w1 : (Lit.int .u8 a1).wf = true) (w2 : (Lit.int .i32 a2).wf = true) (w3 : (a3 = none ∧ len3 = 0 ∧ cap3 = 0 ∧ z3 = []) ∨ ∃ x, a3 = some x ∧ len3 ≤ cap3 ∧ cap3 ≤ maxLen ∧ z3.length = cap3 ∧ (∀ i, i < z3.length → w.cell? (x.add i) = some (.int .i32 (z3.getD i 0))) ∧ ∀ n ∈ z3, (Lit.int .i32 n).wf = true) (y3 : len3 * 4 ≤ 140737488351232) :
    Calls Try.prog 6 #[.slice a0 len0 cap0, .int .u8 a1, .int .i32 a2, .slice a3 len3 cap3] w fun e w' => e = .returned (.bool true) ∧ Below w.heap.size w w' := by
  obtain ⟨l0, rfl, hr0_, hm0, hw0, hc0⟩ := ReadsInt.ofRowC w0
  have hC0 : Kd.C (Kd.int .i32) w a0 l0.length l0 := Kd.C_of_reads (d := (0 : Int)) (h1 := fun _ => rfl) hr0_
  clear hr0_ w0
  obtain ⟨l3, rfl, hr3_, hm3, hw3, hc3⟩ := ReadsInt.ofRowC w3
  have hC3 : Kd.C (Kd.int .i32) w a3 l3.length l3 := Kd.C_of_reads (d := (0 : Int)) (h1 := fun _ => rfl) hr3_
  clear hr3_ w3
  have hsh := Aside0.mk shown18
  simp only [Lit.wf, Bool.and_eq_true, decide_eq_true_eq] at w1 w2
  have ha0 : 0 ≤ a1 := w1.1
  have ha1 : a1 < 256 := Int.lt_of_le_of_lt w1.2 (by decide)
  clear w1 w2
  have HC0 := Aside0.mk hC0
  have HC3 := Aside0.mk hC3
  clear hC0 hC3 hw0 hw3 y0 y3
  by_cases hbig : 40 < l0.length
  · have t1 : decide (40 < l0.length) = true := decide_eq_true hbig
    have t2 : decide ((40 : Int) < (l0.length : Int)) = true := decide_eq_true (by omega)
    go_enter Try.func6, Try.ntmps6
    go_wp2_with (go_at_call 16; (with_reducible refine (manteletlaw18_shown.calls true w hsh.out).mono ?_))
    (first | rintro e w' rfl hb1 | rintro e w' ⟨rfl, hb1⟩)
    go_wp2
    go_ret
    exact ⟨rfl, hb1⟩
  have t1 : decide (40 < l0.length) = false := decide_eq_false hbig
  have t2 : decide ((40 : Int) < (l0.length : Int)) = false := decide_eq_false (by omega)
  by_cases hbig2 : 40 < l3.length
  · have t3 : decide (40 < l3.length) = true := decide_eq_true hbig2
    have t4 : decide ((40 : Int) < (l3.length : Int)) = true := decide_eq_true (by omega)
    go_enter Try.func6, Try.ntmps6
    go_wp2_with (go_at_call 16; (with_reducible refine (manteletlaw18_shown.calls true w hsh.out).mono ?_))
    (first | rintro e w' rfl hb1 | rintro e w' ⟨rfl, hb1⟩)
    go_wp2
    go_ret
    exact ⟨rfl, hb1⟩
  have t3 : decide (40 < l3.length) = false := decide_eq_false hbig2
  have t4 : decide ((40 : Int) < (l3.length : Int)) = false := decide_eq_false (by omega)
  go_enter Try.func6, Try.ntmps6
  go_wp2_with (go_at_call 16; (with_reducible refine (manteletlaw18_shown.calls true w hsh.out).mono ?_))
  (first | rintro e w' rfl hb1 | rintro e w' ⟨rfl, hb1⟩)
  obtain ⟨sb, hsb⟩ : ∃ s, s = runesBytes l0 := ⟨_, rfl⟩
  have hss : sb.size ≤ 160 := by have := Utf.size_bytes l0; rw [hsb]; omega
  have hcv1 := C_runes (P := Try.prog) (A := a0) (c := cap0) Try.underlying25 Try.underlying21 Try.underlying9 (Kd.C_below HC0.out hb1)
  rw [← hsb] at hcv1
  obtain ⟨s, hs⟩ : ∃ s, s = l0.map Utf.sane := ⟨_, rfl⟩
  have hsz : Utf.runesZ sb = s := by rw [hsb, Utf.runesZ_bytes, hs]
  have hsl : s.length = l0.length := by rw [hs, List.length_map]
  have hsane : s.map Utf.sane = s := by rw [hs, List.map_map]; exact List.map_congr_left fun x _ => Utf.sane_sane x
  obtain ⟨A1, c1, W1, hcv2, hc1, hC1, hB1⟩ := conv_runes (P := Try.prog) Try.underlying9 Try.underlying25 Try.underlying21 hb1 hb1.size sb (by omega)
  rw [hsz] at hcv2 hc1 hC1
  have hk0 : 0 ≤ a1 % ((s.length : Int) + 1) := Int.emod_nonneg _ (by omega)
  have hk1 : a1 % ((s.length : Int) + 1) < (s.length : Int) + 1 := Int.emod_lt_of_pos _ (by omega)
  obtain ⟨k, hk⟩ : ∃ k : Nat, a1 % ((s.length : Int) + 1) = (k : Int) := ⟨_, (Int.toNat_of_nonneg hk0).symm⟩
  have hkl : k ≤ s.length := by omega
  have hkli : (k : Int) ≤ (s.length : Int) := by omega
  clear hk0 hk1
  obtain ⟨D1, hD1, hrun1, hCD1, hcD1⟩ := take_came (P := Try.prog) 25 21 Try.underlying25 info21 hC1 hc1 k hkl
  obtain ⟨A2, D2, hD2, hrun2, hCD2, hcD2⟩ := drop_came (P := Try.prog) 25 21 Try.underlying25 info21 hC1 hc1 k hkl
  have HD1 := Aside0.mk hD1
  have HD2 := Aside0.mk hD2
  have HCD1 := Aside0.mk hCD1
  have HCD2 := Aside0.mk hCD2
  have HC1 := Aside0.mk hC1
  have HB1 := Aside0.mk hB1
  have HSB := Aside0.mk hsb
  have HS := Aside0.mk hs
  have HSZ := Aside0.mk hsz
  have HSA := Aside0.mk hsane
  have HSL := Aside0.mk hsl
  have hs40 : s.length ≤ 40 := by omega
  clear hD1 hD2 hCD1 hCD2 hC1 hB1 hsb hs hsz hsane hsl
  go_wp2_with (fail)
  refine wp_region_any (by kernel_rfl) ?_
  (try (change wpAny _ _ _ _ _ _ _ (World.drew _)))
  refine wpAny_take (i := 1) (v := ?_) rfl (by kernel_rfl) (by kernel_rfl) (by kernel_rfl) (fun _ _ _ h => h) (Or.inl ⟨by rfl, ?_⟩) ?_
  rotate_left
  · (intro w; go_simp; try with_reducible rfl)
  refine wpAny_take (i := 2) (v := ?_) rfl (by kernel_rfl) (by kernel_rfl) (by kernel_rfl) (fun _ _ _ h => h) (Or.inl ⟨by rfl, ?_⟩) ?_
  rotate_left
  · (intro w; go_simp; try with_reducible rfl)
  refine wpAny_take (i := 3) (v := ?_) rfl (by kernel_rfl) (by kernel_rfl) (by kernel_rfl) (fun _ _ _ h => h) (Or.inl ⟨by rfl, ?_⟩) ?_
  rotate_left
  · (intro w; go_simp; try with_reducible rfl)
  refine wpAny_take (i := 5) (v := ?_) rfl (by kernel_rfl) (by kernel_rfl) (by kernel_rfl) (fun _ _ _ h => h) (Or.inl ⟨by rfl, ?_⟩) ?_
  rotate_left
  · (intro w; go_simp; try with_reducible rfl)
  refine wpAny_take (i := 8) (v := ?_) rfl (by kernel_rfl) (by kernel_rfl) (by kernel_rfl) (fun _ _ _ h => h) (Or.inl ⟨by rfl, ?_⟩) ?_
  rotate_left
  · (intro w; go_simp; try with_reducible rfl)
  refine wpAny_take (i := 9) (v := ?_) rfl (by kernel_rfl) (by kernel_rfl) (by kernel_rfl) (fun _ _ _ h => h) (Or.inl ⟨by rfl, ?_⟩) ?_
  rotate_left
  · (intro w; go_simp; try with_reducible rfl)
  refine wpAny_take (i := 10) (v := ?_) rfl (by kernel_rfl) (by kernel_rfl) (by kernel_rfl) (fun _ _ _ h => h) (Or.inl ⟨by rfl, ?_⟩) ?_
  rotate_left
  · (intro w; go_simp; try with_reducible rfl)
  have hl1 : D1.length ≤ 40 := by have := HD1.out; have := congrArg List.length this; rw [List.length_take] at this; omega
  have hl2 : D2.length ≤ 40 := by have := HD2.out; have := congrArg List.length this; rw [List.length_drop] at this; omega
  obtain ⟨tb, htb⟩ : ∃ x, x = runesBytes l3 := ⟨_, rfl⟩
  obtain ⟨ss, hss'⟩ : ∃ x, x = runesBytes s := ⟨_, rfl⟩
  obtain ⟨pb, hpb⟩ : ∃ x, x = runesBytes (D1 ++ [a2] ++ D2) := ⟨_, rfl⟩
  have z1 : tb.size ≤ 160 := by have := Utf.size_bytes l3; rw [htb]; omega
  have z2 : ss.size ≤ 160 := by have := Utf.size_bytes s; rw [hss']; omega
  have z3 : pb.size ≤ 400 := by have := Utf.size_bytes (D1 ++ [a2] ++ D2); rw [List.length_append, List.length_append] at this; simp only [List.length_cons, List.length_nil] at this; rw [hpb]; omega
  have hDs : D1 ++ D2 = s := by rw [HD1.out, HD2.out, List.take_append_drop]
  have f1 : Aside0 (fuzzy_Dist.f ss pb = some 1) := ⟨by
    rw [distF (by omega) (by omega), hss', hpb, Utf.runesZ_bytes, Utf.runesZ_bytes, ← hDs]
    have := put_one [] (D1.map Utf.sane) (D2.map Utf.sane) [] (Utf.sane a2)
    simp only [List.nil_append, List.append_nil] at this
    simp only [List.map_append, List.map_cons, List.map_nil]
    rw [this]; rfl⟩
  have f2 : Aside0 (fuzzy_Dist.f (tb ++ ss) (tb ++ pb) = some 1) := ⟨by
    rw [distF (by rw [ByteArray.size_append]; omega) (by rw [ByteArray.size_append]; omega), htb, hss', hpb, runesL_app, runesL_app, Utf.runesZ_bytes, Utf.runesZ_bytes, ← hDs]
    have := put_one (l3.map Utf.sane) (D1.map Utf.sane) (D2.map Utf.sane) [] (Utf.sane a2)
    simp only [List.append_nil] at this
    simp only [List.map_append, List.map_cons, List.map_nil]
    rw [this]; rfl⟩
  have f3 : Aside0 (fuzzy_Dist.f (ss ++ tb) (pb ++ tb) = some 1) := ⟨by
    rw [distF (by rw [ByteArray.size_append]; omega) (by rw [ByteArray.size_append]; omega), htb, hss', hpb, runesL_app, runesL_app, Utf.runesZ_bytes, ← hDs]
    have := put_one [] (D1.map Utf.sane) (D2.map Utf.sane) (l3.map Utf.sane) (Utf.sane a2)
    simp only [List.nil_append] at this
    simp only [List.map_append, List.map_cons, List.map_nil]
    rw [this]; rfl⟩
  have q1 : tb.size + ss.size ≤ 9223372036854775807 := by omega
  have q2 : tb.size + pb.size ≤ 9223372036854775807 := by omega
  have q3 : ss.size + tb.size ≤ 9223372036854775807 := by omega
  have q4 : pb.size + tb.size ≤ 9223372036854775807 := by omega
  have HTB := Aside0.mk htb
  have HSS := Aside0.mk hss'
  have HPB := Aside0.mk hpb
  clear htb hss' hpb hDs
  have bE : Below W1.heap.size W1 (W1.alloc (.cells #[] 21)).drew := below_drew (Below.alloc (Below.refl _ _) (Nat.le_refl _) _)
  have bEL : Below W1.heap.size W1 ((W1.alloc (.cells #[] 21)).alloc (.cells #[.int .i32 a2] 21)).drew := below_drew (Below.alloc (Below.alloc (Below.refl _ _) (Nat.le_refl _) _) (by simp) _)
  have bLE : Below W1.heap.size W1 ((W1.alloc (.cells #[.int .i32 a2] 21)).alloc (.cells #[] 21)).drew := below_drew (Below.alloc (Below.alloc (Below.refl _ _) (Nat.le_refl _) _) (by simp) _)
  refine wpAny_ready (rs := [0, 6]) (by kernel_rfl) (by simp) ?_
  refine AllReady.cons rfl (fun K hK => ?_) (AllReady.cons rfl (fun K hK => ?_) AllReady.nil)
  · go_simp
    refine hK _ _ ?_
    clear hK K
    refine wpAny_ready (rs := [4, 6]) (by kernel_rfl) (by simp) ?_
    refine AllReady.cons rfl (fun K hK => ?_) (AllReady.cons rfl (fun K hK => ?_) AllReady.nil)
    · have rE := Kd.R_mono (Kd.R_drew (emp_R W1 W1.heap.size 21 (Nat.le_refl _))) (ok' := fun _ => True) (fun _ _ => trivial)
      refine Kd.R_append_rows_step (Kd.int .i32) (w0 := W1) W1.heap.size rfl (.tmp 33) (.tmp 36) 25 21 (.int .i32 0) 4 rfl Try.underlying25 info21 rfl (by decide) (by omega) _ [] D1 _ _ _ (fun _ => True) (fun _ => False) rfl rfl rE (Kd.C_below HCD1.out bE) (fun _ _ h => h) (fun _ h => h.elim) (fun _ _ => trivial) bE (bE).size (by first | omega | (simp; omega)) ?_
      intro v4 w4 hR4 hb4 hg4 hat4
      refine hK _ _ ?_
      clear hK K
      rw [List.nil_append] at hR4
      refine wpAny_ready (rs := [6]) (by kernel_rfl) (by simp) ?_
      refine AllReady.cons rfl (fun K hK => ?_) AllReady.nil
      go_simp
      refine hK _ _ ?_
      clear hK K
      have hle4 : W1.heap.size ≤ w4.heap.size := hb4.size
      have rL := lit_R w4 W1.heap.size 21 a2 hle4
      refine wpAny_ready (rs := [7]) (by kernel_rfl) (by simp) ?_
      refine AllReady.cons rfl (fun K hK => ?_) AllReady.nil
      refine Kd.R_append_rows_step (Kd.int .i32) (w0 := W1) W1.heap.size rfl (.tmp 37) (.tmp 39) 25 21 (.int .i32 0) 4 rfl Try.underlying25 info21 rfl (by decide) (by omega) _ D1 [a2] _ _ _ (fun _ => True) (fun _ => False) rfl rfl (Kd.R_alloc hR4 _) (Kd.R_reads' rL).2.2 (fun _ _ h => h) (fun _ h => h.elim) (fun _ _ => trivial) (Below.alloc hb4 hle4 _) ((Below.alloc hb4 hle4 _)).size (by first | omega | (simp; omega)) ?_
      intro v7 w7 hR7 hb7 hg7 hat7
      refine hK _ _ ?_
      clear hK K
      refine wpAny_ready (rs := [11]) (by kernel_rfl) (by simp) ?_
      refine AllReady.cons rfl (fun K hK => ?_) AllReady.nil
      refine Kd.R_append_rows_step (Kd.int .i32) (w0 := W1) W1.heap.size rfl (.tmp 40) (.tmp 43) 25 21 (.int .i32 0) 4 rfl Try.underlying25 info21 rfl (by decide) (by omega) _ (D1 ++ [a2]) D2 _ _ _ (fun _ => True) (fun _ => False) rfl rfl hR7 (Kd.C_below HCD2.out hb7) (fun _ _ h => h) (fun _ h => h.elim) (fun _ _ => trivial) hb7 (hb7).size (by first | omega | (simp; omega)) ?_
      intro v11 w11 hR11 hb11 hg11 hat11
      refine hK _ _ ?_
      clear hK K
      refine wpAny_take (i := 12) (v := ?_) rfl (by kernel_rfl) (by kernel_rfl) (by kernel_rfl) (fun _ _ _ h => h) (Or.inl ⟨by rfl, ?_⟩) ?_
      rotate_left
      · (intro w; go_simp; try with_reducible rfl)
      refine wpAny_done (by kernel_rfl) ?_ _
      have HR := Aside0.mk hR11
      have HB := Aside0.mk hb11
      clear hR7 hb7 hg7 hat7 hR4 hg4 hat4 hg11 hat11
      have hB11 := HB1.out.trans (hb11.mono HB1.out.size)
      obtain ⟨A12, c12, rfl⟩ := Kd.R_slice hR11
      have hP := Aside0.mk (Kd.R_reads' hR11).2.2
      have cT : Aside0 (∀ W, Below w.heap.size w W → (convert 25 9 (.slice a3 l3.length cap3)).run Try.prog W = .ok (.string tb) W) := ⟨fun W hW => by rw [HTB.out]; exact C_runes Try.underlying25 Try.underlying21 Try.underlying9 (Kd.C_below HC3.out hW)⟩
      have cS : Aside0 (∀ W, Below W1.heap.size W1 W → (convert 25 9 (.slice A1 s.length c1)).run Try.prog W = .ok (.string ss) W) := ⟨fun W hW => by rw [HSS.out]; exact C_runes Try.underlying25 Try.underlying21 Try.underlying9 (Kd.C_below HC1.out hW)⟩
      have cP : Aside0 (∀ W, Below w11.heap.size w11 W → (convert 25 9 (.slice A12 (D1 ++ [a2] ++ D2).length c12)).run Try.prog W = .ok (.string pb) W) := ⟨fun W hW => by rw [HPB.out]; exact C_runes Try.underlying25 Try.underlying21 Try.underlying9 (Kd.C_below hP.out hW)⟩
      obtain ⟨np, hnp⟩ : ∃ n, n = (D1 ++ [a2] ++ D2).length := ⟨_, rfl⟩
      rw [← hnp] at cP
      rw [← hnp]
      clear hnp
      have k1 := cT.out w11 hB11
      have k2 := cS.out w11 hb11
      have k3 := cP.out w11 (Below.refl _ _)
      go_wp2_with (go_at_call 17; (with_reducible refine (fuzzy_Dist.calls ss pb 1 _ f1.out).mono ?_))
      (first | rintro e w12 rfl hb12 | rintro e w12 ⟨rfl, hb12⟩)
      have b12 := hb11.trans (hb12.mono hb11.size)
      have k4 := cS.out w12 b12
      have k5 := cP.out w12 hb12
      clear k1 k2 k3
      go_wp2_with (go_at_call 17; (with_reducible refine (fuzzy_Dist.calls (tb ++ ss) (tb ++ pb) 1 _ f2.out).mono ?_))
      (first | rintro e w13 rfl hb13 | rintro e w13 ⟨rfl, hb13⟩)
      have b13 := b12.trans (hb13.mono b12.size)
      have p13 := hb12.trans (hb13.mono hb12.size)
      have k6 := cS.out w13 b13
      have k7 := cP.out w13 p13
      clear k4 k5
      go_wp2_with (go_at_call 17; (with_reducible refine (fuzzy_Dist.calls (ss ++ tb) (pb ++ tb) 1 _ f3.out).mono ?_))
      (first | rintro e w14 rfl hb14 | rintro e w14 ⟨rfl, hb14⟩)
      have b14 := b13.trans (hb14.mono b13.size)
      go_wp2
      go_ret
      exact ⟨rfl, HB1.out.trans (b14.mono HB1.out.size)⟩
    · go_simp
      refine hK _ _ ?_
      clear hK K
      have rE := Kd.R_mono (Kd.R_drew (Kd.R_alloc (emp_R W1 W1.heap.size 21 (Nat.le_refl _)) (.cells #[.int .i32 a2] 21))) (ok' := fun _ => True) (fun _ _ => trivial)
      have rL := Kd.R_drew (lit_R (W1.alloc (.cells #[] 21)) W1.heap.size 21 a2 (by simp))
      rw [show (W1.alloc (.cells #[] 21)).heap.size = W1.heap.size + 1 by simp] at rL
      refine wpAny_ready (rs := [4]) (by kernel_rfl) (by simp) ?_
      refine AllReady.cons rfl (fun K hK => ?_) AllReady.nil
      refine Kd.R_append_rows_step (Kd.int .i32) (w0 := W1) W1.heap.size rfl (.tmp 33) (.tmp 36) 25 21 (.int .i32 0) 4 rfl Try.underlying25 info21 rfl (by decide) (by omega) _ [] D1 _ _ _ (fun _ => True) (fun _ => False) rfl rfl rE (Kd.C_below HCD1.out bEL) (fun _ _ h => h) (fun _ h => h.elim) (fun _ _ => trivial) bEL (bEL).size (by first | omega | (simp; omega)) ?_
      intro v4 w4 hR4 hb4 hg4 hat4
      refine hK _ _ ?_
      clear hK K
      rw [List.nil_append] at hR4
      have rL4 := Kd.R_grown rL hg4 (fun k hk => by subst hk; show some _ ≠ (Value.slice (some ⟨W1.heap.size, 0, none⟩) 0 0).ownBlock; simp [Value.ownBlock])
      refine wpAny_ready (rs := [7]) (by kernel_rfl) (by simp) ?_
      refine AllReady.cons rfl (fun K hK => ?_) AllReady.nil
      refine Kd.R_append_rows_step (Kd.int .i32) (w0 := W1) W1.heap.size rfl (.tmp 37) (.tmp 39) 25 21 (.int .i32 0) 4 rfl Try.underlying25 info21 rfl (by decide) (by omega) _ D1 [a2] _ _ _ (fun _ => True) (fun _ => False) rfl rfl hR4 (Kd.R_reads' rL4).2.2 (fun _ _ h => h) (fun _ h => h.elim) (fun _ _ => trivial) hb4 (hb4).size (by first | omega | (simp; omega)) ?_
      intro v7 w7 hR7 hb7 hg7 hat7
      refine hK _ _ ?_
      clear hK K
      refine wpAny_ready (rs := [11]) (by kernel_rfl) (by simp) ?_
      refine AllReady.cons rfl (fun K hK => ?_) AllReady.nil
      refine Kd.R_append_rows_step (Kd.int .i32) (w0 := W1) W1.heap.size rfl (.tmp 40) (.tmp 43) 25 21 (.int .i32 0) 4 rfl Try.underlying25 info21 rfl (by decide) (by omega) _ (D1 ++ [a2]) D2 _ _ _ (fun _ => True) (fun _ => False) rfl rfl hR7 (Kd.C_below HCD2.out hb7) (fun _ _ h => h) (fun _ h => h.elim) (fun _ _ => trivial) hb7 (hb7).size (by first | omega | (simp; omega)) ?_
      intro v11 w11 hR11 hb11 hg11 hat11
      refine hK _ _ ?_
      clear hK K
      refine wpAny_take (i := 12) (v := ?_) rfl (by kernel_rfl) (by kernel_rfl) (by kernel_rfl) (fun _ _ _ h => h) (Or.inl ⟨by rfl, ?_⟩) ?_
      rotate_left
      · (intro w; go_simp; try with_reducible rfl)
      refine wpAny_done (by kernel_rfl) ?_ _
      have HR := Aside0.mk hR11
      have HB := Aside0.mk hb11
      clear hR7 hb7 hg7 hat7 hR4 hg4 hat4 hg11 hat11
      have hB11 := HB1.out.trans (hb11.mono HB1.out.size)
      obtain ⟨A12, c12, rfl⟩ := Kd.R_slice hR11
      have hP := Aside0.mk (Kd.R_reads' hR11).2.2
      have cT : Aside0 (∀ W, Below w.heap.size w W → (convert 25 9 (.slice a3 l3.length cap3)).run Try.prog W = .ok (.string tb) W) := ⟨fun W hW => by rw [HTB.out]; exact C_runes Try.underlying25 Try.underlying21 Try.underlying9 (Kd.C_below HC3.out hW)⟩
      have cS : Aside0 (∀ W, Below W1.heap.size W1 W → (convert 25 9 (.slice A1 s.length c1)).run Try.prog W = .ok (.string ss) W) := ⟨fun W hW => by rw [HSS.out]; exact C_runes Try.underlying25 Try.underlying21 Try.underlying9 (Kd.C_below HC1.out hW)⟩
      have cP : Aside0 (∀ W, Below w11.heap.size w11 W → (convert 25 9 (.slice A12 (D1 ++ [a2] ++ D2).length c12)).run Try.prog W = .ok (.string pb) W) := ⟨fun W hW => by rw [HPB.out]; exact C_runes Try.underlying25 Try.underlying21 Try.underlying9 (Kd.C_below hP.out hW)⟩
      obtain ⟨np, hnp⟩ : ∃ n, n = (D1 ++ [a2] ++ D2).length := ⟨_, rfl⟩
      rw [← hnp] at cP
      rw [← hnp]
      clear hnp
      have k1 := cT.out w11 hB11
      have k2 := cS.out w11 hb11
      have k3 := cP.out w11 (Below.refl _ _)
      go_wp2_with (go_at_call 17; (with_reducible refine (fuzzy_Dist.calls ss pb 1 _ f1.out).mono ?_))
      (first | rintro e w12 rfl hb12 | rintro e w12 ⟨rfl, hb12⟩)
      have b12 := hb11.trans (hb12.mono hb11.size)
      have k4 := cS.out w12 b12
      have k5 := cP.out w12 hb12
      clear k1 k2 k3
      go_wp2_with (go_at_call 17; (with_reducible refine (fuzzy_Dist.calls (tb ++ ss) (tb ++ pb) 1 _ f2.out).mono ?_))
      (first | rintro e w13 rfl hb13 | rintro e w13 ⟨rfl, hb13⟩)
      have b13 := b12.trans (hb13.mono b12.size)
      have p13 := hb12.trans (hb13.mono hb12.size)
      have k6 := cS.out w13 b13
      have k7 := cP.out w13 p13
      clear k4 k5
      go_wp2_with (go_at_call 17; (with_reducible refine (fuzzy_Dist.calls (ss ++ tb) (pb ++ tb) 1 _ f3.out).mono ?_))
      (first | rintro e w14 rfl hb14 | rintro e w14 ⟨rfl, hb14⟩)
      have b14 := b13.trans (hb14.mono b13.size)
      go_wp2
      go_ret
      exact ⟨rfl, HB1.out.trans (b14.mono HB1.out.size)⟩
  · go_simp
    refine hK _ _ ?_
    clear hK K
    refine wpAny_ready (rs := [0]) (by kernel_rfl) (by simp) ?_
    refine AllReady.cons rfl (fun K hK => ?_) AllReady.nil
    go_simp
    refine hK _ _ ?_
    clear hK K
    have rE := Kd.R_mono (Kd.R_drew (emp_R (W1.alloc (.cells #[.int .i32 a2] 21)) W1.heap.size 21 (by simp))) (ok' := fun _ => True) (fun _ _ => trivial)
    rw [show (W1.alloc (.cells #[.int .i32 a2] 21)).heap.size = W1.heap.size + 1 by simp] at rE
    have rL := Kd.R_drew (Kd.R_alloc (lit_R W1 W1.heap.size 21 a2 (Nat.le_refl _)) (.cells #[] 21))
    refine wpAny_ready (rs := [4]) (by kernel_rfl) (by simp) ?_
    refine AllReady.cons rfl (fun K hK => ?_) AllReady.nil
    refine Kd.R_append_rows_step (Kd.int .i32) (w0 := W1) W1.heap.size rfl (.tmp 33) (.tmp 36) 25 21 (.int .i32 0) 4 rfl Try.underlying25 info21 rfl (by decide) (by omega) _ [] D1 _ _ _ (fun _ => True) (fun _ => False) rfl rfl rE (Kd.C_below HCD1.out bLE) (fun _ _ h => h) (fun _ h => h.elim) (fun _ _ => trivial) bLE (bLE).size (by first | omega | (simp; omega)) ?_
    intro v4 w4 hR4 hb4 hg4 hat4
    refine hK _ _ ?_
    clear hK K
    rw [List.nil_append] at hR4
    have rL4 := Kd.R_grown rL hg4 (fun k hk => by subst hk; show some _ ≠ (Value.slice (some ⟨W1.heap.size + 1, 0, none⟩) 0 0).ownBlock; simp [Value.ownBlock])
    refine wpAny_ready (rs := [7]) (by kernel_rfl) (by simp) ?_
    refine AllReady.cons rfl (fun K hK => ?_) AllReady.nil
    refine Kd.R_append_rows_step (Kd.int .i32) (w0 := W1) W1.heap.size rfl (.tmp 37) (.tmp 39) 25 21 (.int .i32 0) 4 rfl Try.underlying25 info21 rfl (by decide) (by omega) _ D1 [a2] _ _ _ (fun _ => True) (fun _ => False) rfl rfl hR4 (Kd.R_reads' rL4).2.2 (fun _ _ h => h) (fun _ h => h.elim) (fun _ _ => trivial) hb4 (hb4).size (by first | omega | (simp; omega)) ?_
    intro v7 w7 hR7 hb7 hg7 hat7
    refine hK _ _ ?_
    clear hK K
    refine wpAny_ready (rs := [11]) (by kernel_rfl) (by simp) ?_
    refine AllReady.cons rfl (fun K hK => ?_) AllReady.nil
    refine Kd.R_append_rows_step (Kd.int .i32) (w0 := W1) W1.heap.size rfl (.tmp 40) (.tmp 43) 25 21 (.int .i32 0) 4 rfl Try.underlying25 info21 rfl (by decide) (by omega) _ (D1 ++ [a2]) D2 _ _ _ (fun _ => True) (fun _ => False) rfl rfl hR7 (Kd.C_below HCD2.out hb7) (fun _ _ h => h) (fun _ h => h.elim) (fun _ _ => trivial) hb7 (hb7).size (by first | omega | (simp; omega)) ?_
    intro v11 w11 hR11 hb11 hg11 hat11
    refine hK _ _ ?_
    clear hK K
    refine wpAny_take (i := 12) (v := ?_) rfl (by kernel_rfl) (by kernel_rfl) (by kernel_rfl) (fun _ _ _ h => h) (Or.inl ⟨by rfl, ?_⟩) ?_
    rotate_left
    · (intro w; go_simp; try with_reducible rfl)
    refine wpAny_done (by kernel_rfl) ?_ _
    have HR := Aside0.mk hR11
    have HB := Aside0.mk hb11
    clear hR7 hb7 hg7 hat7 hR4 hg4 hat4 hg11 hat11
    have hB11 := HB1.out.trans (hb11.mono HB1.out.size)
    obtain ⟨A12, c12, rfl⟩ := Kd.R_slice hR11
    have hP := Aside0.mk (Kd.R_reads' hR11).2.2
    have cT : Aside0 (∀ W, Below w.heap.size w W → (convert 25 9 (.slice a3 l3.length cap3)).run Try.prog W = .ok (.string tb) W) := ⟨fun W hW => by rw [HTB.out]; exact C_runes Try.underlying25 Try.underlying21 Try.underlying9 (Kd.C_below HC3.out hW)⟩
    have cS : Aside0 (∀ W, Below W1.heap.size W1 W → (convert 25 9 (.slice A1 s.length c1)).run Try.prog W = .ok (.string ss) W) := ⟨fun W hW => by rw [HSS.out]; exact C_runes Try.underlying25 Try.underlying21 Try.underlying9 (Kd.C_below HC1.out hW)⟩
    have cP : Aside0 (∀ W, Below w11.heap.size w11 W → (convert 25 9 (.slice A12 (D1 ++ [a2] ++ D2).length c12)).run Try.prog W = .ok (.string pb) W) := ⟨fun W hW => by rw [HPB.out]; exact C_runes Try.underlying25 Try.underlying21 Try.underlying9 (Kd.C_below hP.out hW)⟩
    obtain ⟨np, hnp⟩ : ∃ n, n = (D1 ++ [a2] ++ D2).length := ⟨_, rfl⟩
    rw [← hnp] at cP
    rw [← hnp]
    clear hnp
    have k1 := cT.out w11 hB11
    have k2 := cS.out w11 hb11
    have k3 := cP.out w11 (Below.refl _ _)
    go_wp2_with (go_at_call 17; (with_reducible refine (fuzzy_Dist.calls ss pb 1 _ f1.out).mono ?_))
    (first | rintro e w12 rfl hb12 | rintro e w12 ⟨rfl, hb12⟩)
    have b12 := hb11.trans (hb12.mono hb11.size)
    have k4 := cS.out w12 b12
    have k5 := cP.out w12 hb12
    clear k1 k2 k3
    go_wp2_with (go_at_call 17; (with_reducible refine (fuzzy_Dist.calls (tb ++ ss) (tb ++ pb) 1 _ f2.out).mono ?_))
    (first | rintro e w13 rfl hb13 | rintro e w13 ⟨rfl, hb13⟩)
    have b13 := b12.trans (hb13.mono b12.size)
    have p13 := hb12.trans (hb13.mono hb12.size)
    have k6 := cS.out w13 b13
    have k7 := cP.out w13 p13
    clear k4 k5
    go_wp2_with (go_at_call 17; (with_reducible refine (fuzzy_Dist.calls (ss ++ tb) (pb ++ tb) 1 _ f3.out).mono ?_))
    (first | rintro e w14 rfl hb14 | rintro e w14 ⟨rfl, hb14⟩)
    have b14 := b13.trans (hb14.mono b13.size)
    go_wp2
    go_ret
    exact ⟨rfl, HB1.out.trans (b14.mono HB1.out.size)⟩
end Go.Proofs.Ytbnjakihgmhpdaa.K
