/- The walk of the reference's Feed. -/
import Derived.Test.YtbnjakihgmhpdaaProg
import Derived.Below
import Derived.Deep.Draws
import Derived.Deep.AppendLies
import Derived.Maps.AppendAt
import Derived.OwnWalk
import Derived.Laws.BytesArg
import Derived.Laws.MakeOwn
import Derived.Laws.OwnMore
import Derived.Deep.OwnRows
import Derived.Tactics
import Derived.Lib.ConvBytes
import Derived.Laws.Slices
import Derived.WalkKit
import Derived.KernelRfl
import Derived.RowKit3
import Derived.Deep.LoopGhost
import Derived.Deep.QuietTactic
import Derived.BigQuiet
import Derived.WideLaws
import Derived.Deep.DeepCutAuto
import Derived.Deep.CutBlock
import Derived.Deep.RegionHeld3
import Derived.Laws.Rows
import Derived.Lib.AppendStr
import Derived.ArgAppend
import Derived.Laws.IdiomCopy
import Derived.OrdersHeld
import Derived.Laws.BitsLemmas
import Derived.RowKit
import Derived.Lib.OthersKept
import Derived.WalkSmall
import Derived.Test.YtbnjakihgmhpdaaWWords
import Derived.Test.YtbnjakihgmhpdaaWLast
import Derived.Test.YtbnjakihgmhpdaaWTab
import Derived.Test.YtbnjakihgmhpdaaWFour
import Derived.Test.YtbnjakihgmhpdaaWQPut
import Derived.Test.YtbnjakihgmhpdaaWApart
import Derived.Test.YtbnjakihgmhpdaaWArr
import Derived.Test.YtbnjakihgmhpdaaWZeros
import Derived.Test.YtbnjakihgmhpdaaWFoot
import Derived.Test.YtbnjakihgmhpdaaWKept
import Derived.Test.YtbnjakihgmhpdaaWShare
import Derived.Test.YtbnjakihgmhpdaaWN
import Derived.Test.YtbnjakihgmhpdaaWFootNe
import Derived.Test.YtbnjakihgmhpdaaWAt
import Derived.Test.YtbnjakihgmhpdaaWEqStruct
import Derived.Test.YtbnjakihgmhpdaaWRepsOne
import Derived.Test.YtbnjakihgmhpdaaWInv
import Derived.Test.YtbnjakihgmhpdaaWInvWords
import Derived.Test.YtbnjakihgmhpdaaWGuard
import Derived.Test.YtbnjakihgmhpdaaWNEv
import Derived.Test.YtbnjakihgmhpdaaWMore
import Derived.Test.YtbnjakihgmhpdaaInfo
import Derived.Test.YtbnjakihgmhpdaaUtf
import Derived.Test.YtbnjakihgmhpdaaHelp
import Derived.Test.YtbnjakihgmhpdaaUtfK
import Derived.Test.YtbnjakihgmhpdaaRef04P
import Derived.Test.YtbnjakihgmhpdaaPRf04x
namespace Go.Proofs.Ytbnjakihgmhpdaa.K
open Go.RowKit Go.Proofs.YtbnjakihgmhpdaaW.PrintWords Go.Proofs.YtbnjakihgmhpdaaW.PrintLast Go.Proofs.YtbnjakihgmhpdaaW.PrintMore Go.Proofs.Ytbnjakihgmhpdaa
attribute [local go_sem] max2_int min2_int max_two min_two max_three min_three max_four min_four
set_option linter.unusedVariables false
set_option linter.unusedSimpArgs false
open Go.Proofs.Ytbnjakihgmhpdaa.PRf04
def manteletref04_Feed.f (l0 l1 : List Int) : Option (List Int × List Int) := if byt (l0 ++ l1) = true then (if (l0 ++ l1).length < 35184372088832 then some (utf_Feed.r (l0 ++ l1)) else none) else none
set_option maxHeartbeats 2000000 in
set_option maxRecDepth 100000 in
theorem manteletref04_Feed.calls (A0 : Option Addr) (c0 : Nat) (l0 : List Int) (A1 : Option Addr) (c1 : Nat) (l1 : List Int) (r1 : List Int) (r2 : List Int) (w : World) (hr0 : Kd.C (Kd.int .u8) w A0 l0.length l0) (hc0 : l0.length ≤ c0) (hr1 : Kd.C (Kd.int .u8) w A1 l1.length l1) (hc1 : l1.length ≤ c1) (h : manteletref04_Feed.f l0 l1 = some (r1, r2)) :
    Calls Try.prog 20 #[.slice A0 l0.length c0, .slice A1 l1.length c1] w fun e w' => ∃ v0_ v1_ : Value, e = .returned (.tuple #[v0_, v1_]) ∧ Kd.R (Kd.int .i32) 21 w' w.heap.size (fun _ => True) v0_ r1 ∧ Kd.Q (Kd.int .u8) 5 w' w.heap.size (fun _ => True) v1_ r2 ∧ Below w.heap.size w w' := by
  unfold manteletref04_Feed.f at h
  by_cases hbt : byt (l0 ++ l1) = true
  rotate_left
  · rw [if_neg hbt] at h; cases h
  rw [if_pos hbt] at h
  by_cases hlen : (l0 ++ l1).length < 35184372088832
  rotate_left
  · rw [if_neg hlen] at h; cases h
  rw [if_pos hlen] at h
  have hr : utf_Feed.r (l0 ++ l1) = (r1, r2) := Option.some.inj h
  clear h
  have hbt := byt_iff.1 hbt
  have HBT := Aside0.mk hbt
  have HR0 := Aside0.mk hr0
  have HR1 := Aside0.mk hr1
  have HR := Aside0.mk hr
  have HLN := Aside0.mk hlen
  clear hr0 hr1 hr hlen hbt
  go_enter Try.func20, Try.ntmps20
  go_wp2_with ((with_reducible refine gate_dst (N := 11) rfl ?_); refine Kd.R_lit (Kd.int .u8) _ 5 ?hg (N := 11) ?hd (xs := []) (inner := []) (ok := fun _ => True) (okp := fun _ => True) ?hr ?hp (fun _ hk => hk) trivial (Below.refl _ _) (Nat.le_refl _) (by simp) ?_; (case hd => rfl); (case hg => rfl); (case hr => first | (go_simp; done) | (go_simp; rfl)); (case hp => exact (Reps.none _ _)))
  intro v0 w0 hR0 hb0 hg0 n0 hn0 hle0
  have hR0 := Aside0.mk hR0
  clear hg0 hle0 hn0 n0
  go_wp2_with ((with_reducible refine gate_builtin (b := .append) (xs := #[.tmp 11, .tmp 12]) rfl ?_); at_builtin; refine Kd.R_append_rows (Kd.int .u8) (w0 := w) w.heap.size rfl (.tmp 11) (.tmp 12) 22 5 (.int .u8 0) 1 rfl Try.underlying22 info5 rfl (by decide) (by omega) v0 [] l0 _ _ _ (fun _ => True) (fun _ => False) rfl rfl hR0.out (Kd.C_below HR0.out hb0) (fun _ _ h => h) (fun _ h => h.elim) (fun _ _ => trivial) hb0 (hb0).size (by have := HLN.out; simp at this ⊢; omega) ?_)
  intro v1 w1 hR1 hb1 hg1 hat1
  have hR1 := Aside0.mk hR1
  clear hg1 hat1 hb0 hR0
  go_wp2_with ((with_reducible refine gate_builtin (b := .append) (xs := #[.tmp 13, .tmp 14]) rfl ?_); at_builtin; refine Kd.R_append_rows (Kd.int .u8) (w0 := w) w.heap.size rfl (.tmp 13) (.tmp 14) 22 5 (.int .u8 0) 1 rfl Try.underlying22 info5 rfl (by decide) (by omega) v1 l0 l1 _ _ _ (fun _ => True) (fun _ => False) rfl rfl hR1.out (Kd.C_below HR1.out hb1) (fun _ _ h => h) (fun _ h => h.elim) (fun _ _ => trivial) hb1 (hb1).size (by have := HLN.out; simp at this ⊢; omega) ?_)
  intro v2 w2 hR2 hb2 hg2 hat2
  clear hg2 hat2 hb1 hR1
  obtain ⟨L, hL⟩ : ∃ L, L = l0 ++ l1 := ⟨_, rfl⟩
  rw [← hL] at hR2 HLN HR HBT
  clear hL HR0 HR1
  obtain ⟨A, c, rfl⟩ := Kd.R_slice hR2
  obtain ⟨_, hLc, hC⟩ := Kd.R_reads' hR2
  have hmx : L.length < 35184372088832 := HLN.out
  have HR2 := Aside0.mk hR2
  have HB2 := Aside0.mk hb2
  have HC := Aside0.mk hC
  have hsz : (strOfNums L).size = L.length := strOfNums_size L
  obtain ⟨s, hs⟩ : ∃ s, s = strOfNums L := ⟨_, rfl⟩
  rw [← hs] at hsz
  have HS := Aside0.mk hs
  have HSZ := Aside0.mk hsz
  have HN : Aside0 (Utf.nats s = toN L) := ⟨by rw [hs, toN_str HBT.out]⟩
  clear hR2 hb2 hC hs hsz
  go_wp2
  go_loopw [7, 8] (fun v i wr => ∃ (pos : Nat) (acc : List Int), i = .int .i64 pos ∧ Aside0 (Kd.R (Kd.int .i32) 21 wr w2.heap.size (fun _ => True) v acc) ∧ Aside0 (Below w2.heap.size w2 wr) ∧ Aside0 ((acc ++ (Utf.fedFrom s pos).1, (Utf.fedFrom s pos).2) = Utf.fedFrom s 0) ∧ Aside0 (acc.length ≤ pos) ∧ pos ≤ L.length) (fun _ i _ => L.length - (intOf i).toNat)
  case atStart => exact ⟨0, [], rfl, ⟨Kd.R_nil _ _ _ _ _⟩, ⟨Below.refl _ _⟩, ⟨by simp⟩, ⟨by simp⟩, by omega⟩
  case round =>
    obtain ⟨pos, acc, rfl, hRa, hbw, hacc, hal, hpl⟩ := hrel
    by_cases hp : pos < L.length
    · have hp' : pos < s.size := by have := HSZ.out; omega
      have t1 : decide (pos < L.length) = true := decide_eq_true hp
      have t2 : decide ((pos : Int) < (L.length : Int)) = true := decide_eq_true (by omega)
      obtain ⟨A', D, hD, hrun, hQ, hcl⟩ := drop_own (P := Try.prog) 22 5 Try.underlying22 info5 (Kd.Q_of_R HR2.out) pos (by omega)
      obtain ⟨_, _, hCd⟩ := Kd.Q_reads' hQ
      have HQ := Aside0.mk hQ
      have HCd := Aside0.mk hCd
      have hDb : ∀ x ∈ D, 0 ≤ x ∧ x < 256 := by rw [hD]; exact byt_drop HBT.out pos
      have hDn : toN D = (Utf.nats s).drop pos := by rw [hD, toN_drop, HN.out]
      have hDne : D ≠ [] := by rw [hD]; intro e; have := congrArg List.length e; simp at this; omega
      obtain ⟨b, hb⟩ : ∃ b, b = Utf.pend ((Utf.nats s).drop pos) := ⟨_, rfl⟩
      have HB := Aside0.mk hb
      have HF : Aside0 (manteletref04_Pending.f 8 D = some b) := ⟨by rw [Pending_eq 0 D hDb, hDn, ← HB.out]⟩
      have HDD := Aside0.mk hD
      have HDB := Aside0.mk hDb
      have HDN := Aside0.mk hDn
      have HDE := Aside0.mk hDne
      clear hb hD hDb hDn hDne hQ hCd
      go_wp2_with (go_at_call 23; (with_reducible refine (manteletref04_Pending.calls 8 A' (c - pos) D b wr (Kd.C_below HCd.out hbw.out) hcl HF.out).mono ?_))
      (first | rintro e w' rfl ⟨⟨nd, rfl⟩⟩ | rintro e w' ⟨rfl, ⟨⟨nd, rfl⟩⟩⟩)
      cases b with
      | true =>
        go_wp2
        go_quiet (fail)
        go_wp2
        go_ret2
        have e := Utf.fed_pend s pos HB.out.symm
        have ha := hacc.out
        rw [e, List.append_nil] at ha
        have hrr := HR.out
        unfold utf_Feed.r at hrr
        rw [← HS.out, ← ha] at hrr
        simp only [Prod.mk.injEq] at hrr
        obtain ⟨e1, e2⟩ := hrr
        have e3 : L.length - (s.size - pos) = pos := by have := HSZ.out; omega
        rw [e3, ← HDD.out] at e2
        subst e1 e2
        have hB := HB2.out.trans (hbw.out.mono HB2.out.size)
        exact ⟨_, _, rfl, by (with_reducible repeat (first | apply Kd.R_drewN)); exact Kd.R_mono (Kd.R_lower hRa.out HB2.out.size) (fun _ _ => trivial), by (with_reducible repeat (first | apply Kd.Q_drewN)); exact Kd.Q_below HQ.out hbw.out, by (with_reducible repeat (first | apply pw_below_drewN)); exact hB⟩
      | false =>
        obtain ⟨c2, wd2, hd2, hfed, hw2, hl2⟩ := Utf.fed_step s pos hp' HB.out.symm
        have ho : manteletref04_one.f 12 D = some ((c2 : Int), (wd2 : Int)) := by
          rw [one_eq 0 D HDE.out HDB.out, HDN.out]
          rw [Utf.decode_dec s pos hp'] at hd2
          rw [hd2]
        have HO := Aside0.mk ho
        have HFE := Aside0.mk hfed
        have hl2' : pos + wd2 ≤ L.length := by have := HSZ.out; omega
        clear hfed ho hd2 hl2
        have hcl2 := Aside0.mk hcl
        go_wp2_with (go_at_call 27; (with_reducible refine (manteletref04_one.calls 12 A' (c - pos) D c2 wd2 _ (Kd.C_drewN (Kd.C_below HCd.out hbw.out) _) hcl2.out HO.out).mono ?_))
        (first | rintro e w' rfl ⟨⟨nd2, rfl⟩⟩ | rintro e w' ⟨rfl, ⟨⟨nd2, rfl⟩⟩⟩)
        go_wp2_with ((with_reducible refine gate_builtin (b := .append) (xs := #[.tmp 35, .tmp 37]) rfl ?_); at_builtin; refine Kd.R_append (Kd.int .i32) (w0 := w2) w2.heap.size rfl (.tmp 35) (.tmp 37) 25 21 (.int .i32 0) 4 rfl Try.underlying25 info21 rfl (by decide) (by omega) _ acc (c2 : Int) [.int .i32 c2] (fun _ => True) (fun _ => False) rfl rfl rfl (fun _ hk => hk.elim) (fun k hk => trivial) (by (with_reducible repeat (first | apply Kd.R_drewN)); exact hRa.out) (pw_below_drewN hbw.out _) ((pw_below_drewN hbw.out _)).size (by have := hal.out; omega) ?_)
        intro v3 w3 hR3 hb3 hg3 hat3
        have hR3 := Aside0.mk hR3
        have hb3 := Aside0.mk hb3
        clear hat3 hg3
        go_wp2
        go_roundw
        case rel => exact ⟨pos + wd2, acc ++ [(c2 : Int)], by go_num, hR3, hb3, ⟨by rw [← hacc.out, HFE.out]; simp⟩, ⟨by have := hal.out; simp; omega⟩, hl2'⟩
        case measure => simp [intOf]; omega
    · have t1 : decide (pos < L.length) = false := decide_eq_false hp
      have t2 : decide ((pos : Int) < (L.length : Int)) = false := decide_eq_false (by omega)
      have HE := Aside0.mk (Utf.fed_end s pos (by have := HSZ.out; omega))
      go_wp2
      go_ret2
      have ha := hacc.out
      rw [HE.out, List.append_nil] at ha
      have hrr := HR.out
      unfold utf_Feed.r at hrr
      rw [← HS.out, ← ha] at hrr
      simp only [Prod.mk.injEq, Nat.sub_zero, List.drop_length] at hrr
      obtain ⟨e1, e2⟩ := hrr
      subst e1 e2
      exact ⟨_, _, rfl, Kd.R_mono (Kd.R_lower hRa.out HB2.out.size) (fun _ _ => trivial), Kd.Q_nil _ _ _ _ _, HB2.out.trans (hbw.out.mono HB2.out.size)⟩
end Go.Proofs.Ytbnjakihgmhpdaa.K
