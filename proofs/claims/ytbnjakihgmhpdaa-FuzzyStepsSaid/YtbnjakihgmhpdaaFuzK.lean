/- fuzzy.runes and fuzzy.Dist: what they tell, walked by hand. -/
import Derived.Test.YtbnjakihgmhpdaaProg
import Derived.Below
import Derived.Deep.Draws
import Derived.Deep.AppendLies
import Derived.Maps.AppendAt
import Derived.OwnWalk
import Derived.Laws.BytesArg
import Derived.Laws.MakeOwn
import Derived.Laws.OwnMore
import Derived.Deep.OwnRows
import Derived.Tactics
import Derived.Lib.ConvBytes
import Derived.Laws.Slices
import Derived.WalkKit
import Derived.KernelRfl
import Derived.RowKit3
import Derived.Deep.LoopGhost
import Derived.Deep.QuietTactic
import Derived.BigQuiet
import Derived.WideLaws
import Derived.Deep.DeepCutAuto
import Derived.Deep.CutBlock
import Derived.Deep.RegionHeld3
import Derived.Laws.Rows
import Derived.Lib.AppendStr
import Derived.ArgAppend
import Derived.Laws.IdiomCopy
import Derived.OrdersHeld
import Derived.Laws.BitsLemmas
import Derived.RowKit
import Derived.Lib.OthersKept
import Derived.WalkSmall
import Derived.Deep.RegionLaw
import Derived.BigRegion
import Derived.Test.YtbnjakihgmhpdaaWWords
import Derived.Test.YtbnjakihgmhpdaaWLast
import Derived.Test.YtbnjakihgmhpdaaWTab
import Derived.Test.YtbnjakihgmhpdaaWFour
import Derived.Test.YtbnjakihgmhpdaaWQPut
import Derived.Test.YtbnjakihgmhpdaaWApart
import Derived.Test.YtbnjakihgmhpdaaWArr
import Derived.Test.YtbnjakihgmhpdaaWZeros
import Derived.Test.YtbnjakihgmhpdaaWFoot
import Derived.Test.YtbnjakihgmhpdaaWKept
import Derived.Test.YtbnjakihgmhpdaaWShare
import Derived.Test.YtbnjakihgmhpdaaWN
import Derived.Test.YtbnjakihgmhpdaaWFootNe
import Derived.Test.YtbnjakihgmhpdaaWAt
import Derived.Test.YtbnjakihgmhpdaaWEqStruct
import Derived.Test.YtbnjakihgmhpdaaWRepsOne
import Derived.Test.YtbnjakihgmhpdaaWInv
import Derived.Test.YtbnjakihgmhpdaaWInvWords
import Derived.Test.YtbnjakihgmhpdaaWGuard
import Derived.Test.YtbnjakihgmhpdaaWNEv
import Derived.Test.YtbnjakihgmhpdaaWMore
import Derived.Test.YtbnjakihgmhpdaaInfo
import Derived.Test.YtbnjakihgmhpdaaUtf
import Derived.Test.YtbnjakihgmhpdaaHelp
import Derived.Test.YtbnjakihgmhpdaaPFzx
import Derived.Test.YtbnjakihgmhpdaaLev
import Derived.Test.YtbnjakihgmhpdaaFuzP
namespace Go.Proofs.Ytbnjakihgmhpdaa.K
open Go.RowKit Go.Proofs.YtbnjakihgmhpdaaW.PrintWords Go.Proofs.YtbnjakihgmhpdaaW.PrintLast Go.Proofs.YtbnjakihgmhpdaaW.PrintMore Go.Proofs.Ytbnjakihgmhpdaa
attribute [local go_sem] max2_int min2_int max_two min_two max_three min_three max_four min_four
set_option linter.unusedVariables false
set_option linter.unusedSimpArgs false
open Go.Proofs.Ytbnjakihgmhpdaa.PFz
/-! ### fuzzy.runes -/
def fuzzy_runes.f (a0 : ByteArray) : Option (List Int) := if a0.size < 35184372088832 then some (Utf.runesZ a0) else none
set_option maxHeartbeats 1000000 in
set_option maxRecDepth 100000 in
theorem fuzzy_runes.calls (a0 : ByteArray) (r : List Int) (w : World) (h : fuzzy_runes.f a0 = some r) :
    Calls Try.prog 25 #[.string a0] w fun e w' => ∃ v0_ : Value, e = .returned (v0_) ∧ Kd.R (Kd.int .i32) 21 w' w.heap.size (fun _ => True) v0_ r ∧ Below w.heap.size w w' := by
  have hsz : a0.size < 35184372088832 := by
    unfold fuzzy_runes.f at h; split at h
    · assumption
    · cases h
  have hr : Utf.runesZ a0 = r := by
    unfold fuzzy_runes.f at h; rw [if_pos hsz] at h; exact Option.some.inj h
  clear h
  obtain ⟨s, hs⟩ : ∃ s, s = a0 := ⟨_, rfl⟩
  subst hs
  have HR := Aside0.mk hr; clear hr
  have HSZ := Aside0.mk hsz; clear hsz
  go_enter Try.func25, Try.ntmps25
  go_wp2
  go_loopw [3] (fun v wr => ∃ (pos : Nat) (acc : List Int), Aside0 (wr.heap[w.heap.size]? = some (.stringIter s pos)) ∧ Aside0 (Kd.R (Kd.int .i32) 21 wr w.heap.size (fun k => k ≠ w.heap.size) v acc) ∧ Aside0 (Below w.heap.size w wr) ∧ Aside0 (acc ++ Utf.runesFrom s pos = r) ∧ Aside0 (acc.length ≤ pos) ∧ Aside0 (pos ≤ s.size)) (fun _ wr => s.size - wr.iterPos w.heap.size)
  case atStart => exact ⟨0, [], ⟨World.iter_heap w s 0⟩, ⟨Kd.R_nil _ _ _ _ _⟩, ⟨Below.alloc (Below.refl _ _) (Nat.le_refl _) _⟩, ⟨by rw [← HR.out]; rfl⟩, ⟨by simp⟩, ⟨by omega⟩⟩
  case round =>
    obtain ⟨pos, acc, hit, hR, hbw, hacc, hal, hpl⟩ := hrel
    have hsz : w.heap.size < wr.heap.size := (Array.getElem?_eq_some_iff.1 hit.out).1
    by_cases hp : pos < s.size
    · obtain ⟨c, wd, hdec, hrest, hwd, hle⟩ := Utf.step s pos hp
      have hnx0 : ∀ ty, (Instr.next (.pointer (some ⟨w.heap.size, 0, none⟩)) true ty).run Try.prog wr = _ := fun ty => Lib.run_next_any_at wr w.heap.size s pos ty hit.out hp
      rw [hdec] at hnx0
      have hit2 := Aside0.mk (Lib.iterAt_heap wr w.heap.size s pos (pos + wd) hit.out)
      have hbw2 := Aside0.mk (Lib.below_iterAt hbw.out (k := w.heap.size) (Nat.le_refl _) s (pos + wd))
      have hR2 := Aside0.mk (Kd.R_step hR.out (w1 := wr.iterAt w.heap.size s (pos + wd)) (fun k hk _ => Lib.iterAt_other wr w.heap.size k s (pos + wd) hk))
      have hs2 : (wr.iterAt w.heap.size s (pos + wd)).heap.size = wr.heap.size := Lib.iterAt_size ..
      obtain ⟨W2, hW2⟩ : ∃ W2, W2 = wr.iterAt w.heap.size s (pos + wd) := ⟨_, rfl⟩
      rw [← hW2] at hnx0 hit2 hbw2 hR2 hs2
      have hnx : ∀ ty, (Instr.next (.pointer (some ⟨w.heap.size, 0, none⟩)) true ty).run Try.prog wr = .ok (.tuple #[.bool true, .int .i64 pos, .int .i32 (c : Int)]) W2 := hnx0
      have hsz2 : w.heap.size < W2.heap.size := by omega
      have HA := Aside0.mk hs2
      clear hnx0 hdec hW2 hs2
      have HRE := Aside0.mk hrest; clear hrest
      go_wp2_with (((with_reducible refine gate_builtin (b := .append) (xs := #[.tmp 11, .tmp 13]) rfl ?_); at_builtin; refine Kd.R_append (Kd.int .i32) (w0 := w) w.heap.size rfl (.tmp 11) (.tmp 13) 25 21 (.int .i32 0) 4 rfl Try.underlying25 info21 rfl (by decide) (by omega) _ acc (c : Int) [.int .i32 c] (fun k => k ≠ w.heap.size) (fun _ => False) rfl rfl rfl (fun _ hk => hk.elim) (fun k hk => by omega) hR2.out hbw2.out (hbw2.out).size (by have := hal.out; have := HSZ.out; omega) ?_))
      intro v1 w1 hR3 hb3 hg3 hat3
      have hit3 : w1.heap[w.heap.size]? = some (.stringIter s (pos + wd)) := by
        rw [hg3.block _ hsz2 (fun e => hR2.out.1 _ e.symm rfl)]; exact hit2.out
      have hR3 := Aside0.mk hR3
      have hb3 := Aside0.mk hb3
      have hit3 := Aside0.mk hit3
      clear hat3 hg3
      go_wp2
      go_roundw
      case rel => exact ⟨pos + wd, acc ++ [(c : Int)], hit3, hR3, hb3, ⟨by rw [← hacc.out, HRE.out]; simp⟩, ⟨by have := hal.out; simp; omega⟩, ⟨hle⟩⟩
      case measure =>
        rw [iterPos_of hit3.out, iterPos_of hit.out]
        omega
    · have hnx : ∀ ty, (Instr.next (.pointer (some ⟨w.heap.size, 0, none⟩)) true ty).run Try.prog wr = _ := fun ty => Lib.run_next_end_at wr w.heap.size s pos ty hit.out hp
      have hend := Utf.runesFrom_end s pos hp
      have HE := Aside0.mk hend; clear hend
      go_wp2
      go_ret
      have e : acc = r := by have := hacc.out; rw [HE.out, List.append_nil] at this; exact this
      subst e
      exact ⟨_, rfl, Kd.R_mono hR.out (fun _ _ => trivial), hbw.out⟩
/-! ### fuzzy.Dist -/
def fuzzy_Dist.f (a0 a1 : ByteArray) : Option Int := if a0.size < 1000000000 ∧ a1.size < 1000000000 then some ((Lev.dist (Utf.runesZ a0) (Utf.runesZ a1) : Nat) : Int) else none
def iota (n : Nat) : List Int := (List.range n).map fun j : Nat => (j : Int)
theorem iota_length (n : Nat) : (iota n).length = n := by simp [iota]
theorem iota_succ (n : Nat) : iota (n + 1) = iota n ++ [(n : Int)] := by simp [iota, List.range_succ]
theorem iota_drow (t : List Int) : drow t [] = iota (t.length + 1) := by
  unfold drow iota
  apply List.map_congr_left
  intro i hi
  rw [List.mem_range] at hi
  rw [Lev.dist_nil_right, List.length_take]
  congr 1; omega
set_option maxHeartbeats 2000000 in
set_option maxRecDepth 100000 in
theorem fuzzy_Dist.calls (a0 a1 : ByteArray) (r : Int) (w : World) (h : fuzzy_Dist.f a0 a1 = some r) :
    Calls Try.prog 17 #[.string a0, .string a1] w fun e w' => e = .returned (.int .i64 r) ∧ Below w.heap.size w w' := by
  obtain ⟨hs0, hs1⟩ : a0.size < 1000000000 ∧ a1.size < 1000000000 := by
    unfold fuzzy_Dist.f at h; split at h
    · assumption
    · cases h
  have hr : ((Lev.dist (Utf.runesZ a0) (Utf.runesZ a1) : Nat) : Int) = r := by
    unfold fuzzy_Dist.f at h; rw [if_pos ⟨hs0, hs1⟩] at h; exact Option.some.inj h
  clear h
  have hl0 : (Utf.runesZ a0).length ≤ a0.size := by
    unfold Utf.runesZ Utf.runesFrom
    rw [List.length_map, List.drop_zero]
    exact Nat.le_trans (Utf.all_length _) (by simp [Utf.nats])
  have hl1 : (Utf.runesZ a1).length ≤ a1.size := by
    unfold Utf.runesZ Utf.runesFrom
    rw [List.length_map, List.drop_zero]
    exact Nat.le_trans (Utf.all_length _) (by simp [Utf.nats])
  have hf : Aside0 (fuzzy_runes.f a0 = some (Utf.runesZ a0)) := ⟨by unfold fuzzy_runes.f; rw [if_pos (by omega)]⟩
  generalize Utf.runesZ a0 = t at *
  have HR := Aside0.mk hr; clear hr
  have ht : t.length < 1000000000 := by omega
  have HL1 := Aside0.mk hl1; clear hl1 hl0 hs0
  go_enter Try.func17, Try.ntmps17
  go_wp2_with (go_at_call 25; (with_reducible refine (fuzzy_runes.calls a0 t _ hf.out).mono ?_))
  rintro e w2 ⟨v5, rfl, hR5, hb2⟩
  obtain ⟨A5, c5, rfl⟩ := Kd.R_slice hR5
  have hC5 := Aside0.mk (Kd.R_reads' hR5).2.2
  have hc5 := Aside0.mk (Kd.R_reads' hR5).2.1
  have HB2 := Aside0.mk hb2
  clear hR5 hf
  go_wp2
  go_loopw [6, 15] (fun v6 v15 wr => ∃ (i : Nat), v15 = .int .i64 i ∧ i ≤ t.length + 1 ∧ Aside0 (Kd.R (Kd.int .i64) 3 wr w2.heap.size (fun _ => True) v6 (iota i)) ∧ Aside0 (Below w2.heap.size w2 wr)) (fun _ v15 _ => match v15 with | .int _ i => t.length + 1 - i.toNat | _ => 0)
  case atStart => exact ⟨0, rfl, by omega, ⟨Kd.R_nil _ _ _ _ _⟩, ⟨Below.refl _ _⟩⟩
  case round =>
    obtain ⟨i, rfl, hi, hR, hbw⟩ := hrel
    by_cases hlt : i < t.length + 1
    · have d1 : decide ((i : Int) < (t.length : Int) + 1) = true := decide_eq_true (by omega)
      go_wp2_with (((with_reducible refine gate_builtin (b := .append) (xs := #[.tmp 18, .tmp 20]) rfl ?_); at_builtin; refine Kd.R_append (Kd.int .i64) (w0 := w2) w2.heap.size rfl (.tmp 18) (.tmp 20) 42 3 (.int .i64 0) 8 rfl Try.underlying42 info3 rfl (by decide) (by omega) _ (iota i) (i : Int) [.int .i64 i] (fun _ => True) (fun _ => False) rfl rfl rfl (fun _ hk => hk.elim) (fun _ _ => trivial) hR.out hbw.out (hbw.out).size (by rw [iota_length]; omega) ?_))
      intro v1 w1 hR3 hb3 hg3 hat3
      have hR3 := Aside0.mk hR3
      have hb3 := Aside0.mk hb3
      clear hat3 hg3
      go_wp2
      go_roundw
      case rel => exact ⟨i + 1, by first | rfl | (congr 1), by omega, ⟨by rw [iota_succ]; exact hR3.out⟩, hb3⟩
      case measure => simp; omega
    · have d1 : decide ((i : Int) < (t.length : Int) + 1) = false := decide_eq_false (by omega)
      have hit' : i = t.length + 1 := by omega
      subst hit'
      obtain ⟨s, hs⟩ : ∃ s, s = a1 := ⟨_, rfl⟩
      subst hs
      rw [← iota_drow] at hR
      have hR0 := hR
      clear hR
      obtain ⟨w3, hw3⟩ : ∃ w3, w3 = wr := ⟨_, rfl⟩
      subst hw3
      go_wp2
      go_loopw [6] (fun v6 wr => ∃ (pos : Nat) (p : List Int), Aside0 (wr.heap[w3.heap.size]? = some (.stringIter s pos)) ∧ Aside0 (Kd.R (Kd.int .i64) 3 wr w2.heap.size (fun k => k ≠ w3.heap.size) v6 (drow t p)) ∧ Aside0 (Below w2.heap.size w2 wr) ∧ Aside0 (p ++ Utf.runesFrom s pos = Utf.runesZ s) ∧ Aside0 (p.length ≤ pos) ∧ Aside0 (pos ≤ s.size)) (fun _ wr => s.size - wr.iterPos w3.heap.size)
      case atStart =>
        refine ⟨0, [], ⟨World.iter_heap w3 s 0⟩, ⟨?_⟩, ⟨?_⟩, ⟨by rfl⟩, ⟨by simp⟩, ⟨by omega⟩⟩
        · have h1 := Kd.R_bound hR0.out
          have h2 := Kd.R_mono h1 (ok' := fun k => k ≠ w3.heap.size) (fun k hk => by omega)
          exact Kd.R_below h2 (Below.alloc (Below.refl _ _) (Nat.le_refl _) _)
        · have hle : w2.heap.size ≤ w3.heap.size := hbw.out.size
          exact Below.alloc hbw.out hle _
      case round =>
        obtain ⟨pos, p, hit, hR, hbw', hacc, hal, hpl⟩ := hrel
        have hsz : w3.heap.size < wr.heap.size := (Array.getElem?_eq_some_iff.1 hit.out).1
        by_cases hp : pos < s.size
        · obtain ⟨c, wd, hdec, hrest, hwd, hle⟩ := Utf.step s pos hp
          have hnx0 : ∀ ty, (Instr.next (.pointer (some ⟨w3.heap.size, 0, none⟩)) true ty).run Try.prog wr = _ := fun ty => Lib.run_next_any_at wr w3.heap.size s pos ty hit.out hp
          rw [hdec] at hnx0
          have hit2 := Aside0.mk (Lib.iterAt_heap wr w3.heap.size s pos (pos + wd) hit.out)
          have hbw2 := Aside0.mk (Lib.below_iterAt hbw'.out (k := w3.heap.size) hbw.out.size s (pos + wd))
          have hR2 := Kd.R_step hR.out (w1 := wr.iterAt w3.heap.size s (pos + wd)) (fun k hk _ => Lib.iterAt_other wr w3.heap.size k s (pos + wd) hk)
          have hs2 : (wr.iterAt w3.heap.size s (pos + wd)).heap.size = wr.heap.size := Lib.iterAt_size ..
          obtain ⟨W2, hW2⟩ : ∃ W2, W2 = wr.iterAt w3.heap.size s (pos + wd) := ⟨_, rfl⟩
          rw [← hW2] at hnx0 hit2 hbw2 hR2 hs2
          have hnx : ∀ ty, (Instr.next (.pointer (some ⟨w3.heap.size, 0, none⟩)) true ty).run Try.prog wr = .ok (.tuple #[.bool true, .int .i64 pos, .int .i32 (c : Int)]) W2 := hnx0
          have hsz2 : w3.heap.size < W2.heap.size := by omega
          have HA := Aside0.mk hs2
          obtain ⟨A6, c6, rfl⟩ := Kd.R_slice hR2
          have hC6 := Aside0.mk (Kd.R_reads' hR2).2.2
          have hc6 := Aside0.mk (Kd.R_reads' hR2).2.1
          have hpp : p.length ≤ s.size := by have := hal.out; have := hpl.out; omega
          have hf : Aside0 (fuzzy_row.f (t.length + 1) (drow t p) t (c : Int) = some (drow t (p ++ [(c : Int)]))) := ⟨row_eq t p c (by omega) (by omega) _ (Nat.le_refl _)⟩
          clear hnx0 hdec hW2 hs2 hR2
          have HRE := Aside0.mk hrest; clear hrest
          have HSZ2 := Aside0.mk hsz2
          go_wp2_with (go_at_call 26; (with_reducible refine (fuzzy_row.calls (t.length + 1) A6 c6 (drow t p) A5 c5 t (c : Int) (drow t (p ++ [(c : Int)])) _ hC6.out hc6.out (Kd.C_below hC5.out hbw2.out) hc5.out hf.out).mono ?_))
          rintro e w5 ⟨v1, rfl, hR3, hb3⟩
          have hit3 := Aside0.mk ((hb3.block _ HSZ2.out).trans hit2.out)
          have hle2 : w2.heap.size ≤ W2.heap.size := hbw2.out.size
          have hR4 := Aside0.mk (Kd.R_lower (Kd.R_mono (Kd.R_bound hR3) (ok' := fun k => k ≠ w3.heap.size) (fun k hk => by have := HSZ2.out; omega)) hle2)
          have hb4 := Aside0.mk (hbw2.out.trans (hb3.mono hle2))
          clear hR3 hb3 hle2
          go_wp2
          go_roundw
          case rel => exact ⟨_, _, _, _, _, _, _, _, _, ⟨pos + wd, p ++ [(c : Int)], hit3, hR4, hb4, ⟨by rw [← hacc.out, HRE.out]; simp⟩, ⟨by have := hal.out; simp; omega⟩, ⟨hle⟩⟩, rfl⟩
          case measure =>
            rw [iterPos_of hit3.out, iterPos_of hit.out]
            omega
        · have hnx : ∀ ty, (Instr.next (.pointer (some ⟨w3.heap.size, 0, none⟩)) true ty).run Try.prog wr = _ := fun ty => Lib.run_next_end_at wr w3.heap.size s pos ty hit.out hp
          have hend := Utf.runesFrom_end s pos hp
          have e : p = Utf.runesZ s := by have := hacc.out; rw [hend, List.append_nil] at this; exact this
          have hr := HR.out
          rw [← e] at hr
          have hRo := hR.out
          obtain ⟨A6, c6, rfl⟩ := Kd.R_slice hRo
          obtain ⟨ad, rfl, hcell⟩ := Kd.at_int (Kd.R_reads' hRo).2.2 (t.length : Int) (by omega) (by rw [drow_length]; omega)
          rw [drow_get t p t.length (Nat.le_refl _), List.take_length, hr, Int.toNat_natCast] at hcell
          have hdl := drow_length t p
          rw [hdl]
          have d2 : ((t.length : Int) < ((t.length + 1 : Nat) : Int)) = True := eq_true (by omega)
          have d3 : (0 ≤ (t.length : Int)) = True := eq_true (by omega)
          have hB := Aside0.mk (HB2.out.trans (hbw'.out.mono HB2.out.size))
          clear hRo hend e hr hR
          go_wp2
          go_ret
          exact ⟨rfl, hB.out⟩
end Go.Proofs.Ytbnjakihgmhpdaa.K
