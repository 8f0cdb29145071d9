/- The walk of UtfSplit. -/
import Derived.Test.YtbnjakihgmhpdaaProg
import Derived.Below
import Derived.Deep.Draws
import Derived.Deep.AppendLies
import Derived.Maps.AppendAt
import Derived.OwnWalk
import Derived.Laws.BytesArg
import Derived.Laws.MakeOwn
import Derived.Laws.OwnMore
import Derived.Deep.OwnRows
import Derived.Tactics
import Derived.Lib.ConvBytes
import Derived.Laws.Slices
import Derived.WalkKit
import Derived.KernelRfl
import Derived.RowKit3
import Derived.Deep.LoopGhost
import Derived.Deep.QuietTactic
import Derived.BigQuiet
import Derived.WideLaws
import Derived.Deep.DeepCutAuto
import Derived.Deep.CutBlock
import Derived.Deep.RegionHeld3
import Derived.Laws.Rows
import Derived.Lib.AppendStr
import Derived.ArgAppend
import Derived.Laws.IdiomCopy
import Derived.OrdersHeld
import Derived.Laws.BitsLemmas
import Derived.RowKit
import Derived.Lib.OthersKept
import Derived.WalkSmall
import Derived.Deep.RegionLaw
import Derived.BigRegion
import Derived.Test.YtbnjakihgmhpdaaWWords
import Derived.Test.YtbnjakihgmhpdaaWLast
import Derived.Test.YtbnjakihgmhpdaaWTab
import Derived.Test.YtbnjakihgmhpdaaWFour
import Derived.Test.YtbnjakihgmhpdaaWQPut
import Derived.Test.YtbnjakihgmhpdaaWApart
import Derived.Test.YtbnjakihgmhpdaaWArr
import Derived.Test.YtbnjakihgmhpdaaWZeros
import Derived.Test.YtbnjakihgmhpdaaWFoot
import Derived.Test.YtbnjakihgmhpdaaWKept
import Derived.Test.YtbnjakihgmhpdaaWShare
import Derived.Test.YtbnjakihgmhpdaaWN
import Derived.Test.YtbnjakihgmhpdaaWFootNe
import Derived.Test.YtbnjakihgmhpdaaWAt
import Derived.Test.YtbnjakihgmhpdaaWEqStruct
import Derived.Test.YtbnjakihgmhpdaaWRepsOne
import Derived.Test.YtbnjakihgmhpdaaWInv
import Derived.Test.YtbnjakihgmhpdaaWInvWords
import Derived.Test.YtbnjakihgmhpdaaWGuard
import Derived.Test.YtbnjakihgmhpdaaWNEv
import Derived.Test.YtbnjakihgmhpdaaWMore
import Derived.Test.YtbnjakihgmhpdaaInfo
import Derived.Test.YtbnjakihgmhpdaaUtf
import Derived.Test.YtbnjakihgmhpdaaHelp
import Derived.Test.YtbnjakihgmhpdaaUtfK
import Derived.Test.YtbnjakihgmhpdaaRef04K
import Derived.Test.YtbnjakihgmhpdaaUtfL
namespace Go.Proofs.Ytbnjakihgmhpdaa.K
open Go.RowKit Go.Proofs.YtbnjakihgmhpdaaW.PrintWords Go.Proofs.YtbnjakihgmhpdaaW.PrintLast Go.Proofs.YtbnjakihgmhpdaaW.PrintMore Go.Proofs.Ytbnjakihgmhpdaa
attribute [local go_sem] max2_int min2_int max_two min_two max_three min_three max_four min_four
set_option linter.unusedVariables false
set_option linter.unusedSimpArgs false
open Go.Proofs.Ytbnjakihgmhpdaa.PRf04
set_option maxHeartbeats 4000000 in
set_option maxRecDepth 100000 in
theorem UtfSplit_walk (a0 : Option Addr) (len0 cap0 : Nat) (z0 : List Int) (a1 : Int) (w : World) (w0 : (a0 = none ∧ len0 = 0 ∧ cap0 = 0 ∧ z0 = []) ∨ ∃ x, a0 = some x ∧ len0 ≤ cap0 ∧ cap0 ≤ maxLen ∧ z0.length = cap0 ∧ (∀ i, i < z0.length → w.cell? (x.add i) = some (.int .u8 (z0.getD i 0))) ∧ ∀ n ∈ z0, (Lit.int .u8 n).wf = true) (y0 : len0 * 1 ≤ 140737488351232) (w1 : (Lit.int .u16 a1).wf = true) :
    Calls Try.prog 3 #[.slice a0 len0 cap0, .int .u16 a1] w fun e w' => e = .returned (.bool true) ∧ Below w.heap.size w w' := by
  obtain ⟨l0, rfl, hr0_, hm0, hw0, hc0⟩ := ReadsInt.ofRowC w0
  have hC0 : Kd.C (Kd.int .u8) w a0 l0.length l0 := Kd.C_of_reads (d := (0 : Int)) (h1 := fun _ => rfl) hr0_
  clear hr0_ w0
  have b0 := wf_u8 hw0
  have hsh := Aside0.mk shown04
  simp only [Lit.wf, Bool.and_eq_true, decide_eq_true_eq] at w1
  have ha0 : 0 ≤ a1 := w1.1
  have ha1 : a1 < 65536 := Int.lt_of_le_of_lt w1.2 (by decide)
  clear w1 hw0 y0
  have HC0 := Aside0.mk hC0
  clear hC0
  by_cases hbig : 20000 < l0.length
  · have t1 : decide (20000 < l0.length) = true := decide_eq_true hbig
    have t2 : decide ((20000 : Int) < (l0.length : Int)) = true := decide_eq_true (by omega)
    go_enter Try.func3, Try.ntmps3
    go_wp2_with (go_at_call 13; (with_reducible refine (manteletlaw04_shown.calls true w hsh.out).mono ?_))
    (first | rintro e w' rfl hb1 | rintro e w' ⟨rfl, hb1⟩)
    go_wp2
    go_ret
    exact ⟨rfl, hb1⟩
  · have t1 : decide (20000 < l0.length) = false := decide_eq_false hbig
    have t2 : decide ((20000 : Int) < (l0.length : Int)) = false := decide_eq_false (by omega)
    go_enter Try.func3, Try.ntmps3
    go_wp2_with (go_at_call 13; (with_reducible refine (manteletlaw04_shown.calls true w hsh.out).mono ?_))
    (first | rintro e w' rfl hb1 | rintro e w' ⟨rfl, hb1⟩)
    have hk0 : 0 ≤ a1 % ((l0.length : Int) + 1) := Int.emod_nonneg _ (by omega)
    have hk1 : a1 % ((l0.length : Int) + 1) < (l0.length : Int) + 1 := Int.emod_lt_of_pos _ (by omega)
    obtain ⟨k, hk⟩ : ∃ k : Nat, a1 % ((l0.length : Int) + 1) = (k : Int) := ⟨_, (Int.toNat_of_nonneg hk0).symm⟩
    have hkl : k ≤ l0.length := by omega
    have hkli : (k : Int) ≤ (l0.length : Int) := by omega
    clear hk0 hk1
    obtain ⟨D1, hD1, hrun1, hCD1, hcD1⟩ := take_came (P := Try.prog) 22 5 Try.underlying22 info5 HC0.out hc0 k hkl
    obtain ⟨A2, D2, hD2, hrun2, hCD2, hcD2⟩ := drop_came (P := Try.prog) 22 5 Try.underlying22 info5 HC0.out hc0 k hkl
    have HD1 := Aside0.mk hD1
    have HD2 := Aside0.mk hD2
    have HC1 := Aside0.mk hCD1
    have HC2 := Aside0.mk hCD2
    clear hD1 hD2 hCD1 hCD2
    -- what the three calls tell
    have hx1 : ∃ r1 r2, utf_Feed.r D1 = (r1, r2) := ⟨_, _, rfl⟩
    obtain ⟨r1, r2, h12⟩ := hx1
    have hx2 : ∃ m1 m2, utf_Feed.r (r2 ++ D2) = (m1, m2) := ⟨_, _, rfl⟩
    obtain ⟨m1, m2, hm12⟩ := hx2
    have hx3 : ∃ n1 n2, utf_Feed.r l0 = (n1, n2) := ⟨_, _, rfl⟩
    obtain ⟨n1, n2, hn12⟩ := hx3
    have key := split_law (r1 := r1) (r2 := r2) (m1 := m1) (m2 := m2) (n1 := n1) (n2 := n2) l0 k hkl b0 (by rw [← HD1.out]; exact h12) (by rw [← HD2.out]; exact hm12) hn12
    rw [← HD1.out] at key
    have hl1 : D1.length = k := by rw [HD1.out, List.length_take]; omega
    have hl2 : D2.length = l0.length - k := by rw [HD2.out, List.length_drop]
    have f1 : Aside0 (utf_Feed.f [] D1 = some (r1, r2)) := ⟨by unfold utf_Feed.f; rw [if_pos (by simp; omega), List.nil_append, h12]⟩
    have f2 : Aside0 (utf_Feed.f r2 D2 = some (m1, m2)) := ⟨by unfold utf_Feed.f; rw [if_pos (by have := key.2.2.2.1; omega), hm12]⟩
    have f3 : Aside0 (utf_Feed.f [] l0 = some (n1, n2)) := ⟨by unfold utf_Feed.f; rw [if_pos (by simp; omega), List.nil_append, hn12]⟩
    have HK := Aside0.mk key
    have HL1 := Aside0.mk hl1
    clear h12 hm12 hn12 key hl1 hl2
    go_wp2_with (go_at_call 14; (with_reducible refine (utf_Feed.calls0 _ _ D1 r1 r2 _ (Kd.C_below HC1.out hb1) hcD1 f1.out).mono ?_))
    rintro e w2 ⟨v1, v2, rfl, hR1, hQ2, hb2⟩
    obtain ⟨A3, c3, rfl, hc3⟩ := Kd.Q_slice hQ2
    have hC3 := (Kd.Q_reads' hQ2).2.2
    have hB2 := hb1.trans (hb2.mono hb1.size)
    have HR1 := Aside0.mk hR1
    have HQ2 := Aside0.mk hQ2
    have HC3 := Aside0.mk hC3
    go_wp2_with (go_at_call 14; (with_reducible refine (utf_Feed.calls _ _ r2 _ _ D2 m1 m2 _ HC3.out hc3 (Kd.C_below HC2.out hB2) hcD2 f2.out).mono ?_))
    rintro e w3 ⟨v3, v4, rfl, hR3, hQ4, hb3⟩
    have hB3 := hB2.trans (hb3.mono hB2.size)
    have HR3 := Aside0.mk hR3
    have HQ4 := Aside0.mk hQ4
    go_wp2_with (go_at_call 14; (with_reducible refine (utf_Feed.calls0 _ _ l0 n1 n2 _ (Kd.C_below HC0.out hB3) hc0 f3.out).mono ?_))
    rintro e w4 ⟨v5, v6, rfl, hR5, hQ6, hb4⟩
    have hB4 := hB3.trans (hb4.mono hB3.size)
    have HR5 := Aside0.mk hR5
    have HQ6 := Aside0.mk hQ6
    -- what the last row asks, at each world from here on
    obtain ⟨A9, c9, rfl⟩ := Kd.R_slice hR3
    have hC9 : Kd.C (Kd.int .i32) w4 A9 m1.length m1 := Kd.C_below (Kd.R_reads' hR3).2.2 hb4
    obtain ⟨A11, c11, rfl⟩ := Kd.R_slice hR5
    obtain ⟨A10, c10, rfl, hc10⟩ := Kd.Q_slice hQ4
    obtain ⟨A12, c12, rfl, hc12⟩ := Kd.Q_slice hQ6
    have hR1' := Kd.R_lower (Kd.R_below (Kd.R_below hR1 hb3) hb4) hb1.size
    obtain ⟨-, hm12, hr2b, hr2k, hr2, hml, hr1l, hm1l⟩ := HK.out
    obtain ⟨A13, D3, hD3, hrun3, hCD3, hcD3⟩ := mid_came (P := Try.prog) 22 5 Try.underlying22 info5 HC0.out hc0 (k - r2.length) k (by omega) hkl
    have e1 : (r1 ++ m1) = n1 := HK.out.1
    have E1 := Aside0.mk e1
    have hsame : manteletref04_Same.f n1 n1 = some true := by simp [manteletref04_Same.f]
    have hstr1 : ((strOfNums m2).toList == (strOfNums n2).toList) = true := by rw [str_toN m2, str_toN n2, hm12]; simp
    have hD3' : D3 = r2 := hD3.trans (by rw [← HD1.out]; exact hr2.symm)
    have hsub : (k : Int) - (r2.length : Int) = ((k - r2.length : Nat) : Int) := by omega
    have hleq : decide (r2.length ≤ k) = true := decide_eq_true hr2k
    have hstr2 : ((strOfNums r2).toList == (strOfNums D3).toList) = true := by rw [hD3']; simp
    have hR5' : (Kd.int .i32).R 21 w4 w3.heap.size (fun k => True ∧ some k ≠ v1.ownBlock) (.slice A11 n1.length c11) n1 := Kd.R_new' (W := w3) hR5 (Kd.R_lt (Kd.R_below hR1 hb3))
    have hty : ∀ k, v1.ownBlock = some k → ∃ cells, w4.drew.heap[k]? = some (.cells cells 21 (0, 0)) := Kd.R_typed (Kd.R_drew hR1')
    have hQ4' := Kd.Q_drew (Kd.Q_below hQ4 hb4)
    have hQ6' := Kd.Q_drew hQ6
    have hQ2' := Kd.Q_drew (Kd.Q_below (Kd.Q_below hQ2 hb3) hb4)
    have hC9' := Kd.C_drew hC9
    have S1 := Aside0.mk (Kd.R_drew hR1')
    have S2 := Aside0.mk hC9'
    have S3 := Aside0.mk hsame
    have S4 := Aside0.mk hCD3
    have S5 := Aside0.mk hR5'
    have S6 := Aside0.mk hty
    have S7 := Aside0.mk hQ4'
    have S8 := Aside0.mk hQ6'
    have S9 := Aside0.mk hQ2'
    have S10 := Aside0.mk hc10
    have HB4 := Aside0.mk (below_drew hB4)
    clear hR1' hC9 hC9' hsame hCD3 hD3' hr2 e1 hR5 hQ6 hQ4 hm12 hml hD3 hrun1 hrun2 hk hr2b hR5' hty hQ4' hQ6' hQ2' hR1 hR3 hQ2 hC3
    go_wp2_with (fail)
    refine wp_region_any (by kernel_rfl) ?_
    (try (change wpAny _ _ _ _ _ _ _ (World.drew _)))
    refine wpAny_take (i := 0) (v := ?_) rfl (by kernel_rfl) (by kernel_rfl) (by kernel_rfl) (fun _ _ _ h => h) (Or.inl ⟨by rfl, ?_⟩) ?_
    rotate_left
    · (intro w; go_simp; try with_reducible rfl)
    refine wpAny_take (i := 1) (v := ?_) rfl (by kernel_rfl) (by kernel_rfl) (by kernel_rfl) (fun _ _ _ h => h) (Or.inl ⟨by rfl, ?_⟩) ?_
    rotate_left
    · (intro w; go_simp; try with_reducible rfl)
    refine wpAny_take (i := 2) (v := ?_) rfl (by kernel_rfl) (by kernel_rfl) (by kernel_rfl) (fun _ _ _ h => h) (Or.inl ⟨by rfl, ?_⟩) ?_
    rotate_left
    · (intro w; go_simp; try with_reducible rfl)
    refine wpAny_take (i := 3) (v := ?_) rfl (by kernel_rfl) (by kernel_rfl) (by kernel_rfl) (fun _ _ _ h => h) (Or.inl ⟨by rfl, ?_⟩) ?_
    rotate_left
    · (intro w; go_simp; try with_reducible rfl)
    refine wpAny_take (i := 5) (v := ?_) rfl (by kernel_rfl) (by kernel_rfl) (by kernel_rfl) (fun _ _ _ h => h) (Or.inl ⟨by rfl, ?_⟩) ?_
    rotate_left
    · (intro w; go_simp; try with_reducible rfl)
    refine wpAny_ready (rs := [4]) (by kernel_rfl) (by simp) ?_
    refine AllReady.cons rfl (fun K hK => ?_) AllReady.nil
    refine Kd.R_append_rows_step (Kd.int .i32) (w0 := w) w.heap.size rfl (.tmp 46) (.tmp 47) 25 21 (.int .i32 0) 4 rfl Try.underlying25 info21 rfl (by decide) (by omega) _ r1 m1 _ _ _ (fun _ => True) (fun _ => False) rfl rfl S1.out S2.out (fun _ _ h => h) (fun _ h => h.elim) (fun _ _ => trivial) HB4.out (HB4.out).size (by omega) ?_
    intro v5 w5 hR6 hb5 hg5 hat5
    rw [E1.out] at hR6
    obtain ⟨A5, c5, rfl⟩ := Kd.R_slice hR6
    have C5 := Aside0.mk (Kd.R_reads' hR6).2.2
    have hc5 := Aside0.mk (Kd.R_reads' hR6).2.1
    have C11 := Aside0.mk (Kd.R_reads' (Kd.R_grown (Kd.R_drew S5.out) hg5 (fun k hk => hk.2))).2
    have HB5 := Aside0.mk hb5
    have cv10 : ∀ n, (convert 22 9 (.slice A10 m2.length c10)).run Try.prog (w5.drewN n) = .ok (.string (strOfNums m2)) (w5.drewN n) := fun n => q_string Try.underlying22 Try.underlying5 Try.underlying9 (Kd.Q_drewN (Kd.Q_over' S7.out S6.out (by decide) hg5) n)
    have cv12 : ∀ n, (convert 22 9 (.slice A12 n2.length c12)).run Try.prog (w5.drewN n) = .ok (.string (strOfNums n2)) (w5.drewN n) := fun n => q_string Try.underlying22 Try.underlying5 Try.underlying9 (Kd.Q_drewN (Kd.Q_over' S8.out S6.out (by decide) hg5) n)
    have cv3 : ∀ n, (convert 22 9 (.slice A3 r2.length c3)).run Try.prog (w5.drewN n) = .ok (.string (strOfNums r2)) (w5.drewN n) := fun n => q_string Try.underlying22 Try.underlying5 Try.underlying9 (Kd.Q_drewN (Kd.Q_over' S9.out S6.out (by decide) hg5) n)
    have cv13 : ∀ n, (convert 22 9 (.slice A13 D3.length (cap0 - (k - r2.length)))).run Try.prog (w5.drewN n) = .ok (.string (strOfNums D3)) (w5.drewN n) := fun n => Kd.C_string Try.underlying22 Try.underlying5 Try.underlying9 (Kd.C_drewN (Kd.C_below S4.out hb5) n)
    clear hR6 hb5 hg5 hat5
    refine hK _ _ ?_
    clear hK K
    refine wpAny_ready (rs := [6]) (by kernel_rfl) (by simp) ?_
    refine AllReady.cons rfl (fun K hK => ?_) AllReady.nil
    go_simp
    go_at_call 15
    with_reducible refine (manteletref04_Same.calls _ _ n1 _ _ n1 true _ C5.out hc5.out C11.out.2 C11.out.1 S3.out).mono ?_
    rintro e w' ⟨rfl, ⟨nd, rfl⟩⟩
    go_simp
    refine hK _ _ ?_
    clear hK K
    refine wpAny_lex_lit 7 _ (by simp only [List.drop_succ_cons, List.drop_zero]; rfl) (by rfl) (by kernel_rfl) (by kernel_rfl) ?_
    repeat (go_big_quiet_step (fail))
    refine wpQuiet_nil ?_
    intro _ hw'
    obtain ⟨nq, hw''⟩ := hw'
    subst hw''
    go_wp2
    go_ret
    exact ⟨rfl, by first | exact pw_below_drewN (pw_below_drewN HB5.out _) _ | exact pw_below_drewN HB5.out _ | exact HB5.out⟩
end Go.Proofs.Ytbnjakihgmhpdaa.K
