/- ConfChecks. (The texts that the proof is made of, one behind the other: part 5 of 10.) -/
import Derived.Test.YtkkkfgnaojhmeaaProg
import Derived.Below
import Derived.Deep.Draws
import Derived.Deep.AppendLies
import Derived.Maps.AppendAt
import Derived.OwnWalk
import Derived.Laws.BytesArg
import Derived.Laws.MakeOwn
import Derived.Laws.OwnMore
import Derived.Deep.OwnRows
import Derived.Tactics
import Derived.Lib.ConvBytes
import Derived.Laws.Slices
import Derived.WalkKit
import Derived.KernelRfl
import Derived.RowKit3
import Derived.Deep.LoopGhost
import Derived.Deep.QuietTactic
import Derived.BigQuiet
import Derived.WideLaws
import Derived.Deep.DeepCutAuto
import Derived.Deep.CutBlock
import Derived.Deep.RegionHeld3
import Derived.Laws.Rows
import Derived.Lib.AppendStr
import Derived.ArgAppend
import Derived.Laws.IdiomCopy
import Derived.OrdersHeld
import Derived.Laws.BitsLemmas
import Derived.RowKit
import Derived.Lib.OthersKept
import Derived.WalkSmall
import Derived.Deep.RegionLaw
import Derived.BigRegion
import Derived.Shelf.SlicesQ.IndexFunc
import Derived.Lib.SliceRun
import Derived.Test.YtkkkfgnaojhmeaaZConfChecksa
import Derived.Test.YtkkkfgnaojhmeaaZConfChecksb
import Derived.Test.YtkkkfgnaojhmeaaZConfChecksc
import Derived.Test.YtkkkfgnaojhmeaaZConfChecksd
namespace Go.Proofs.Ytkkkfgnaojhmeaa.K
open Go.RowKit Go.Proofs.YtkkkfgnaojhmeaaW.PrintWords Go.Proofs.YtkkkfgnaojhmeaaW.PrintLast Go.Proofs.YtkkkfgnaojhmeaaW.PrintMore Go.Proofs.Ytkkkfgnaojhmeaa
attribute [local go_sem] max2_int min2_int max_two min_two max_three min_three max_four min_four
set_option linter.unusedVariables false
set_option linter.unusedSimpArgs false
def utf_All.f (l0 : List Int) : Option (List Int) := if l0.length < 35184372088832 then some (Utf.runesZ (strOfNums l0)) else none
set_option maxHeartbeats 1000000 in
set_option maxRecDepth 100000 in
theorem utf_All.calls (A0 : Option Addr) (c0 : Nat) (l0 : List Int) (r : List Int) (w : World) (hr0 : Kd.C (Kd.int .u8) w A0 l0.length l0) (hc0 : l0.length ≤ c0) (h : utf_All.f l0 = some r) :
    Calls Try.prog 15 #[.slice A0 l0.length c0] w fun e w' => ∃ v0_ : Value, e = .returned (v0_) ∧ Kd.R (Kd.int .i32) 21 w' w.heap.size (fun _ => True) v0_ r ∧ Below w.heap.size w w' := by
  have hlen : l0.length < 35184372088832 := by
    unfold utf_All.f at h; split at h
    · assumption
    · cases h
  have hr : Utf.runesZ (strOfNums l0) = r := by
    unfold utf_All.f at h; rw [if_pos hlen] at h; exact Option.some.inj h
  clear h
  have hcv := Kd.C_string (P := Try.prog) (A := A0) (c := c0) Try.underlying33 Try.underlying5 Try.underlying9 hr0
  have hsz : (strOfNums l0).size < 35184372088832 := by rw [strOfNums_size]; exact hlen
  obtain ⟨s, hs⟩ : ∃ s, s = strOfNums l0 := ⟨_, rfl⟩
  rw [← hs] at hcv hr hsz
  clear hs hr0
  have HR := Aside0.mk hr; clear hr
  have HSZ := Aside0.mk hsz; clear hsz
  go_enter Try.func15, Try.ntmps15
  go_wp2
  go_loopw [3] (fun v wr => ∃ (pos : Nat) (acc : List Int), Aside0 (wr.heap[w.heap.size]? = some (.stringIter s pos)) ∧ Aside0 (Kd.R (Kd.int .i32) 21 wr w.heap.size (fun k => k ≠ w.heap.size) v acc) ∧ Aside0 (Below w.heap.size w wr) ∧ Aside0 (acc ++ Utf.runesFrom s pos = r) ∧ Aside0 (acc.length ≤ pos) ∧ Aside0 (pos ≤ s.size)) (fun _ wr => s.size - wr.iterPos w.heap.size)
  case atStart => exact ⟨0, [], ⟨World.iter_heap w s 0⟩, ⟨Kd.R_nil _ _ _ _ _⟩, ⟨Below.alloc (Below.refl _ _) (Nat.le_refl _) _⟩, ⟨by rw [← HR.out]; rfl⟩, ⟨by simp⟩, ⟨by omega⟩⟩
  case round =>
    obtain ⟨pos, acc, hit, hR, hbw, hacc, hal, hpl⟩ := hrel
    have hsz : w.heap.size < wr.heap.size := (Array.getElem?_eq_some_iff.1 hit.out).1
    by_cases hp : pos < s.size
    · obtain ⟨c, wd, hdec, hrest, hwd, hle⟩ := Utf.step s pos hp
      have hnx0 : ∀ ty, (Instr.next (.pointer (some ⟨w.heap.size, 0, none⟩)) true ty).run Try.prog wr = _ := fun ty => Lib.run_next_any_at wr w.heap.size s pos ty hit.out hp
      rw [hdec] at hnx0
      have hit2 := Aside0.mk (Lib.iterAt_heap wr w.heap.size s pos (pos + wd) hit.out)
      have hbw2 := Aside0.mk (Lib.below_iterAt hbw.out (k := w.heap.size) (Nat.le_refl _) s (pos + wd))
      have hR2 := Aside0.mk (Kd.R_step hR.out (w1 := wr.iterAt w.heap.size s (pos + wd)) (fun k hk _ => Lib.iterAt_other wr w.heap.size k s (pos + wd) hk))
      have hs2 : (wr.iterAt w.heap.size s (pos + wd)).heap.size = wr.heap.size := Lib.iterAt_size ..
      obtain ⟨W2, hW2⟩ : ∃ W2, W2 = wr.iterAt w.heap.size s (pos + wd) := ⟨_, rfl⟩
      rw [← hW2] at hnx0 hit2 hbw2 hR2 hs2
      have hnx : ∀ ty, (Instr.next (.pointer (some ⟨w.heap.size, 0, none⟩)) true ty).run Try.prog wr = .ok (.tuple #[.bool true, .int .i64 pos, .int .i32 (c : Int)]) W2 := hnx0
      have hsz2 : w.heap.size < W2.heap.size := by omega
      have HA := Aside0.mk hs2
      clear hnx0 hdec hW2 hs2
      have HRE := Aside0.mk hrest; clear hrest
      go_wp2_with (((with_reducible refine gate_builtin (b := .append) (xs := #[.tmp 12, .tmp 14]) rfl ?_); at_builtin; refine Kd.R_append (Kd.int .i32) (w0 := w) w.heap.size rfl (.tmp 12) (.tmp 14) 50 21 (.int .i32 0) 4 rfl Try.underlying50 info21 rfl (by decide) (by omega) _ acc (c : Int) [.int .i32 c] (fun k => k ≠ w.heap.size) (fun _ => False) rfl rfl rfl (fun _ hk => hk.elim) (fun k hk => by omega) hR2.out hbw2.out (hbw2.out).size (by have := hal.out; have := HSZ.out; omega) ?_))
      intro v1 w1 hR3 hb3 hg3 hat3
      have hit3 : w1.heap[w.heap.size]? = some (.stringIter s (pos + wd)) := by
        rw [hg3.block _ hsz2 (fun e => hR2.out.1 _ e.symm rfl)]; exact hit2.out
      have hR3 := Aside0.mk hR3
      have hb3 := Aside0.mk hb3
      have hit3 := Aside0.mk hit3
      clear hat3 hg3
      go_wp2
      go_roundw
      case rel => exact ⟨pos + wd, acc ++ [(c : Int)], hit3, hR3, hb3, ⟨by rw [← hacc.out, HRE.out]; simp⟩, ⟨by have := hal.out; simp; omega⟩, ⟨hle⟩⟩
      case measure =>
        rw [iterPos_of hit3.out, iterPos_of hit.out]
        omega
    · have hnx : ∀ ty, (Instr.next (.pointer (some ⟨w.heap.size, 0, none⟩)) true ty).run Try.prog wr = _ := fun ty => Lib.run_next_end_at wr w.heap.size s pos ty hit.out hp
      have hend := Utf.runesFrom_end s pos hp
      have HE := Aside0.mk hend; clear hend
      go_wp2
      go_ret
      have e : acc = r := by have := hacc.out; rw [HE.out, List.append_nil] at this; exact this
      subst e
      exact ⟨_, rfl, Kd.R_mono hR.out (fun _ _ => trivial), hbw.out⟩


end Go.Proofs.Ytkkkfgnaojhmeaa.K

namespace Go.Proofs.Ytkkkfgnaojhmeaa.PFold
open Go.RowKit Go.Proofs.YtkkkfgnaojhmeaaW.PrintWords Go.Proofs.YtkkkfgnaojhmeaaW.PrintLast Go.Proofs.YtkkkfgnaojhmeaaW.PrintMore Go.Proofs.Ytkkkfgnaojhmeaa.K
attribute [local go_sem] max2_int min2_int max_two min_two max_three min_three max_four min_four   -- for this text's walks alone
set_option linter.unusedVariables false
set_option linter.unusedSimpArgs false



def errW : Option Int → Value
  | none => .nilIface
  | some c => .iface 0 (.int .i64 c)
theorem errW_none : errW none = .nilIface := rfl
theorem errW_some (c : Int) : errW (some c) = .iface 0 (.int .i64 c) := rfl

structure S87 where
  f0 : Int
  f1 : Int
  f2 : Int
  f3 : Int
def z87 : S87 := ⟨(0 : Int), (0 : Int), (0 : Int), (0 : Int)⟩
def k87 : Kd S87 := Kd.iso (Kd.pair (Kd.int .i32) (Kd.pair (Kd.int .i32) (Kd.pair (Kd.int .i32) (Kd.int .i32)))) (fun x : S87 => (x.f0, x.f1, x.f2, x.f3))
theorem k87_open {w : World} {x : S87} {cs : List Value} (h : k87.K w x cs) : cs = [.int .i32 x.f0, .int .i32 x.f1, .int .i32 x.f2, .int .i32 x.f3] := by
  obtain ⟨_, _, rfl, rfl, ⟨_, _, rfl, rfl, ⟨_, _, rfl, rfl, rfl⟩⟩⟩ := h
  exact rfl
theorem k87_mkM (w : World) (base : Nat) (ok : Nat → Prop) (x : S87)  : k87.M w base ok x [.int .i32 x.f0, .int .i32 x.f1, .int .i32 x.f2, .int .i32 x.f3] := ⟨[.int .i32 x.f0], [.int .i32 x.f1, .int .i32 x.f2, .int .i32 x.f3], rfl, rfl, ⟨[.int .i32 x.f1], [.int .i32 x.f2, .int .i32 x.f3], rfl, rfl, ⟨[.int .i32 x.f2], [.int .i32 x.f3], rfl, rfl, rfl⟩⟩⟩
def rd_T87 (xs : List S87) (i : Int) : S87 := xs.getD i.toNat z87
theorem at_T87 {w : World} {A : Option Addr} {n : Nat} {xs : List S87} (h : Kd.C k87 w A n xs) (i : Int) (h0 : 0 ≤ i) (h1 : i < n) : ∃ ad , A = some ad ∧ w.cell? (ad.add (i.toNat * 4)) = some (.int .i32 (rd_T87 xs i).f0) ∧ w.cell? ⟨(ad.add (i.toNat * 4)).block, (ad.add (i.toNat * 4)).off + 1, none⟩ = some (.int .i32 (rd_T87 xs i).f1) ∧ w.cell? ⟨(ad.add (i.toNat * 4)).block, (ad.add (i.toNat * 4)).off + 2, none⟩ = some (.int .i32 (rd_T87 xs i).f2) ∧ w.cell? ⟨(ad.add (i.toNat * 4)).block, (ad.add (i.toNat * 4)).off + 3, none⟩ = some (.int .i32 (rd_T87 xs i).f3) := by
  obtain ⟨ad, c, e, _, hK, hc0⟩ := Kd.C_get h z87 i h0 h1
  have hc : ∀ j u, c[j]? = some u → w.cell? (ad.add (i.toNat * 4 + j)) = some u := hc0
  obtain rfl := k87_open hK
  exact ⟨ad, e, hc 0 _ rfl, by rw [← add_field _ _ 1 (by omega)]; exact hc 1 _ rfl, by rw [← add_field _ _ 2 (by omega)]; exact hc 2 _ rfl, by rw [← add_field _ _ 3 (by omega)]; exact hc 3 _ rfl⟩

end Go.Proofs.Ytkkkfgnaojhmeaa.PFold

namespace Go.Proofs.Ytkkkfgnaojhmeaa.PFold
open Go.RowKit Go.Proofs.YtkkkfgnaojhmeaaW.PrintWords Go.Proofs.YtkkkfgnaojhmeaaW.PrintLast Go.Proofs.YtkkkfgnaojhmeaaW.PrintMore Go.Proofs.Ytkkkfgnaojhmeaa.K
attribute [local go_sem] max2_int min2_int max_two min_two max_three min_three max_four min_four   -- for this text's walks alone
set_option linter.unusedVariables false
set_option linter.unusedSimpArgs false

def fold_span_has.f (a0_0 : Int) (a0_1 : Int) (a0_2 : Int) (a0_3 : Int) (a1 : Int) : Option (Bool) := if a1 ≥ a0_0 then (if a1 ≤ a0_1 then (if a0_2 = 0 then (none) else (some ((Int.tmod (wrap32 (a1 - a0_0)) a0_2) == 0))) else (some false)) else (some false)
set_option maxHeartbeats 8000000 in
set_option maxRecDepth 100000 in
theorem fold_span_has.calls (a0_0 : Int) (a0_1 : Int) (a0_2 : Int) (a0_3 : Int) (a1 : Int) (r : Bool) (w : World) (h : fold_span_has.f a0_0 a0_1 a0_2 a0_3 a1 = some r) :
    Calls Try.prog 47 #[.agg #[.int .i32 a0_0, .int .i32 a0_1, .int .i32 a0_2, .int .i32 a0_3], .int .i32 a1] w fun e w' => e = .returned (.bool r) ∧ Below w.heap.size w w' := by
  have hu87 := Try.underlying87
  have HB := Aside0.mk (Below.refl w.heap.size w)
  have H : (if a1 ≥ a0_0 then (if a1 ≤ a0_1 then (if a0_2 = 0 then (none) else (some ((Int.tmod (wrap32 (a1 - a0_0)) a0_2) == 0))) else (some false)) else (some false)) = some r := h
  clear h
  by_cases c3 : a1 ≥ a0_0
  · rw [if_pos c3] at H
    have c3b0 : decide (a0_0 ≤ a1) = true := decide_eq_true c3
    clear c3
    by_cases c4 : a1 ≤ a0_1
    · rw [if_pos c4] at H
      have c4b0 : decide (a1 ≤ a0_1) = true := decide_eq_true c4
      clear c4
      by_cases c5 : a0_2 = 0
      · rw [if_pos c5] at H
        exact absurd H (by simp)
      · rw [if_neg c5] at H
        have c5b0 : (a0_2 == 0) = false := beq_eq_false_iff_ne.mpr c5
        have c5b1 : (a0_2 != 0) = true := bne_iff_ne.mpr c5
        obtain rfl := Option.some.inj H
        go_enter Try.func47, Try.ntmps47
        go_wp2_with (first | ((with_reducible refine gate_dst (N := 2) rfl ?_); refine box_event ?hg (N := 2) ?hd (cs := #[.int .i32 a0_0, .int .i32 a0_1, .int .i32 a0_2, .int .i32 a0_3]) (t := 87) ?hr ?_; (case hd => rfl); (case hg => rfl); (case hr => first | (go_simp; done) | (go_simp; rfl)); intro gb101 hg w6 hbox hb; have n0_ := Aside0.mk (below_step (by repeat (first | (with_reducible first | exact HB.out | apply below_alloc | apply pw_below_drewN | apply below_drew1) | exact HB.out)) hb); have n1_ := Aside0.mk (hbox); have n2_ := Aside0.mk ((by rw [hg]; exact (below_size (by repeat (first | (with_reducible first | exact HB.out | apply below_alloc | apply pw_below_drewN | apply below_drew1) | exact HB.out))) : w.heap.size ≤ gb101)); have n3_ := Aside0.mk ((by rw [hg]; exact (below_size (by repeat (first | (with_reducible first | exact HB.out | apply below_alloc | apply pw_below_drewN | apply below_drew1) | exact HB.out))) : w.heap.size ≤ gb101)); clear HB; have HB := n0_; have BK101 := n1_; have GW101 := n2_; have GE101 := n3_; clear n0_ n1_ n2_ n3_; clear hb hbox hg; have hcz7_0 : w6.cell? ⟨gb101, 0, none⟩ = some (.int .i32 a0_0) := (blk_cell BK101.out 0).trans rfl; have hcz7_1 : w6.cell? ⟨gb101, 1, none⟩ = some (.int .i32 a0_1) := (blk_cell BK101.out 1).trans rfl; have hcz7_2 : w6.cell? ⟨gb101, 2, none⟩ = some (.int .i32 a0_2) := (blk_cell BK101.out 2).trans rfl; have hcz7_3 : w6.cell? ⟨gb101, 3, none⟩ = some (.int .i32 a0_3) := (blk_cell BK101.out 3).trans rfl; have hfz7_0 := blk_frozen BK101.out 0; have hfz7_1 := blk_frozen BK101.out 1; have hfz7_2 := blk_frozen BK101.out 2; have hfz7_3 := blk_frozen BK101.out 3))
        go_ret
        exact ⟨by first | rfl | (simp [errW_none, errW_some] <;> rfl) | (simp [*, errW_none, errW_some] <;> rfl), by repeat (first | (with_reducible first | exact HB.out | apply below_alloc | apply pw_below_drewN | apply below_drew1 | refine below_set ?_ GE101.out) | exact HB.out)⟩
    · rw [if_neg c4] at H
      have c4b0 : decide (a1 ≤ a0_1) = false := decide_eq_false c4
      clear c4
      obtain rfl := Option.some.inj H
      go_enter Try.func47, Try.ntmps47
      go_wp2_with (first | ((with_reducible refine gate_dst (N := 2) rfl ?_); refine box_event ?hg (N := 2) ?hd (cs := #[.int .i32 a0_0, .int .i32 a0_1, .int .i32 a0_2, .int .i32 a0_3]) (t := 87) ?hr ?_; (case hd => rfl); (case hg => rfl); (case hr => first | (go_simp; done) | (go_simp; rfl)); intro gb101 hg w8 hbox hb; have n0_ := Aside0.mk (below_step (by repeat (first | (with_reducible first | exact HB.out | apply below_alloc | apply pw_below_drewN | apply below_drew1) | exact HB.out)) hb); have n1_ := Aside0.mk (hbox); have n2_ := Aside0.mk ((by rw [hg]; exact (below_size (by repeat (first | (with_reducible first | exact HB.out | apply below_alloc | apply pw_below_drewN | apply below_drew1) | exact HB.out))) : w.heap.size ≤ gb101)); have n3_ := Aside0.mk ((by rw [hg]; exact (below_size (by repeat (first | (with_reducible first | exact HB.out | apply below_alloc | apply pw_below_drewN | apply below_drew1) | exact HB.out))) : w.heap.size ≤ gb101)); clear HB; have HB := n0_; have BK101 := n1_; have GW101 := n2_; have GE101 := n3_; clear n0_ n1_ n2_ n3_; clear hb hbox hg; have hcz9_0 : w8.cell? ⟨gb101, 0, none⟩ = some (.int .i32 a0_0) := (blk_cell BK101.out 0).trans rfl; have hcz9_1 : w8.cell? ⟨gb101, 1, none⟩ = some (.int .i32 a0_1) := (blk_cell BK101.out 1).trans rfl; have hcz9_2 : w8.cell? ⟨gb101, 2, none⟩ = some (.int .i32 a0_2) := (blk_cell BK101.out 2).trans rfl; have hcz9_3 : w8.cell? ⟨gb101, 3, none⟩ = some (.int .i32 a0_3) := (blk_cell BK101.out 3).trans rfl; have hfz9_0 := blk_frozen BK101.out 0; have hfz9_1 := blk_frozen BK101.out 1; have hfz9_2 := blk_frozen BK101.out 2; have hfz9_3 := blk_frozen BK101.out 3))
      go_ret
      exact ⟨by first | rfl | (simp [errW_none, errW_some] <;> rfl) | (simp [*, errW_none, errW_some] <;> rfl), by repeat (first | (with_reducible first | exact HB.out | apply below_alloc | apply pw_below_drewN | apply below_drew1 | refine below_set ?_ GE101.out) | exact HB.out)⟩
  · rw [if_neg c3] at H
    have c3b0 : decide (a0_0 ≤ a1) = false := decide_eq_false c3
    clear c3
    obtain rfl := Option.some.inj H
    go_enter Try.func47, Try.ntmps47
    go_wp2_with (first | ((with_reducible refine gate_dst (N := 2) rfl ?_); refine box_event ?hg (N := 2) ?hd (cs := #[.int .i32 a0_0, .int .i32 a0_1, .int .i32 a0_2, .int .i32 a0_3]) (t := 87) ?hr ?_; (case hd => rfl); (case hg => rfl); (case hr => first | (go_simp; done) | (go_simp; rfl)); intro gb101 hg w10 hbox hb; have n0_ := Aside0.mk (below_step (by repeat (first | (with_reducible first | exact HB.out | apply below_alloc | apply pw_below_drewN | apply below_drew1) | exact HB.out)) hb); have n1_ := Aside0.mk (hbox); have n2_ := Aside0.mk ((by rw [hg]; exact (below_size (by repeat (first | (with_reducible first | exact HB.out | apply below_alloc | apply pw_below_drewN | apply below_drew1) | exact HB.out))) : w.heap.size ≤ gb101)); have n3_ := Aside0.mk ((by rw [hg]; exact (below_size (by repeat (first | (with_reducible first | exact HB.out | apply below_alloc | apply pw_below_drewN | apply below_drew1) | exact HB.out))) : w.heap.size ≤ gb101)); clear HB; have HB := n0_; have BK101 := n1_; have GW101 := n2_; have GE101 := n3_; clear n0_ n1_ n2_ n3_; clear hb hbox hg; have hcz11_0 : w10.cell? ⟨gb101, 0, none⟩ = some (.int .i32 a0_0) := (blk_cell BK101.out 0).trans rfl; have hcz11_1 : w10.cell? ⟨gb101, 1, none⟩ = some (.int .i32 a0_1) := (blk_cell BK101.out 1).trans rfl; have hcz11_2 : w10.cell? ⟨gb101, 2, none⟩ = some (.int .i32 a0_2) := (blk_cell BK101.out 2).trans rfl; have hcz11_3 : w10.cell? ⟨gb101, 3, none⟩ = some (.int .i32 a0_3) := (blk_cell BK101.out 3).trans rfl; have hfz11_0 := blk_frozen BK101.out 0; have hfz11_1 := blk_frozen BK101.out 1; have hfz11_2 := blk_frozen BK101.out 2; have hfz11_3 := blk_frozen BK101.out 3))
    go_ret
    exact ⟨by first | rfl | (simp [errW_none, errW_some] <;> rfl) | (simp [*, errW_none, errW_some] <;> rfl), by repeat (first | (with_reducible first | exact HB.out | apply below_alloc | apply pw_below_drewN | apply below_drew1 | refine below_set ?_ GE101.out) | exact HB.out)⟩

def fold_Fold.l0 : Nat → Int → List (S87) → Int → Int → Option (Int)
  | 0, _, _, _, _ => none
  | k + 1, x0, x19, x20, x21 => if x21 < x20 then (if 0 ≤ x21 then (if x21 < (x19.length : Int) then ((fold_span_has.f ((rd_T87 x19 x21).f0) ((rd_T87 x19 x21).f1) ((rd_T87 x19 x21).f2) ((rd_T87 x19 x21).f3) x0).bind fun t107 => (if t107 = true then (some (wrap32 (x0 + ((rd_T87 x19 x21).f3)))) else (fold_Fold.l0 k x0 x19 x20 (wrap64 (x21 + 1))))) else (none)) else (none)) else (some x0)
def fold_Fold.f (k : Nat) (a0 : Int) : Option (Int) := (some (([(⟨65, 90, 1, 32⟩ : S87), (⟨192, 214, 1, 32⟩ : S87), (⟨216, 222, 1, 32⟩ : S87), (⟨256, 302, 2, 1⟩ : S87), (⟨306, 310, 2, 1⟩ : S87), (⟨313, 327, 2, 1⟩ : S87), (⟨330, 374, 2, 1⟩ : S87), (⟨376, 376, 1, (-121)⟩ : S87), (⟨377, 381, 2, 1⟩ : S87), (⟨913, 929, 1, 32⟩ : S87), (⟨931, 939, 1, 32⟩ : S87), (⟨962, 962, 1, 1⟩ : S87), (⟨1024, 1039, 1, 80⟩ : S87), (⟨1040, 1071, 1, 32⟩ : S87)] : List (S87)) : List (S87))).bind fun y102 => (fold_Fold.l0 k a0 y102 (y102.length : Int) 0)
set_option maxHeartbeats 8000000 in
set_option maxRecDepth 100000 in
theorem fold_Fold.calls (k : Nat) (a0 : Int) (r : Int) (w : World) (h : fold_Fold.f k a0 = some r) :
    Calls Try.prog 48 #[.int .i32 a0] w fun e w' => e = .returned (.int .i32 r) ∧ Below w.heap.size w w' := by
  have hu87 := Try.underlying87
  have HB := Aside0.mk (Below.refl w.heap.size w)
  have H : ((some (([(⟨65, 90, 1, 32⟩ : S87), (⟨192, 214, 1, 32⟩ : S87), (⟨216, 222, 1, 32⟩ : S87), (⟨256, 302, 2, 1⟩ : S87), (⟨306, 310, 2, 1⟩ : S87), (⟨313, 327, 2, 1⟩ : S87), (⟨330, 374, 2, 1⟩ : S87), (⟨376, 376, 1, (-121)⟩ : S87), (⟨377, 381, 2, 1⟩ : S87), (⟨913, 929, 1, 32⟩ : S87), (⟨931, 939, 1, 32⟩ : S87), (⟨962, 962, 1, 1⟩ : S87), (⟨1024, 1039, 1, 80⟩ : S87), (⟨1040, 1071, 1, 32⟩ : S87)] : List (S87)) : List (S87))).bind fun y102 => (fold_Fold.l0 k a0 y102 (y102.length : Int) 0)) = some r := h
  clear h
  obtain ⟨y102, hy102⟩ : ∃ y_ : List (S87), y_ = (([(⟨65, 90, 1, 32⟩ : S87), (⟨192, 214, 1, 32⟩ : S87), (⟨216, 222, 1, 32⟩ : S87), (⟨256, 302, 2, 1⟩ : S87), (⟨306, 310, 2, 1⟩ : S87), (⟨313, 327, 2, 1⟩ : S87), (⟨330, 374, 2, 1⟩ : S87), (⟨376, 376, 1, (-121)⟩ : S87), (⟨377, 381, 2, 1⟩ : S87), (⟨913, 929, 1, 32⟩ : S87), (⟨931, 939, 1, 32⟩ : S87), (⟨962, 962, 1, 1⟩ : S87), (⟨1024, 1039, 1, 80⟩ : S87), (⟨1040, 1071, 1, 32⟩ : S87)] : List (S87))) := ⟨_, rfl⟩
  replace H : (fold_Fold.l0 k a0 y102 (y102.length : Int) 0) = some r := by first | (rw [hy102]; with_reducible exact H) | (have H2_ := (Option.bind_some _ _).symm.trans H; rw [hy102]; with_reducible exact H2_) | (have H2_ := (Option.bind_some _ _).symm.trans H; with_reducible exact H2_) | with_reducible exact H | (rw [hy102]; exact H) | exact H
  have Ny102 := Aside0.mk hy102
  clear hy102
  have H' := Aside0.mk H
  clear H
  go_enter Try.func48, Try.ntmps48
  go_wp2_with (first | ((with_reducible refine gate_dst (N := 19) rfl ?_); refine Kd.R_lit k87 _ 87 ?hg (N := 19) ?hd (xs := ([(⟨65, 90, 1, 32⟩ : S87), (⟨192, 214, 1, 32⟩ : S87), (⟨216, 222, 1, 32⟩ : S87), (⟨256, 302, 2, 1⟩ : S87), (⟨306, 310, 2, 1⟩ : S87), (⟨313, 327, 2, 1⟩ : S87), (⟨330, 374, 2, 1⟩ : S87), (⟨376, 376, 1, (-121)⟩ : S87), (⟨377, 381, 2, 1⟩ : S87), (⟨913, 929, 1, 32⟩ : S87), (⟨931, 939, 1, 32⟩ : S87), (⟨962, 962, 1, 1⟩ : S87), (⟨1024, 1039, 1, 80⟩ : S87), (⟨1040, 1071, 1, 32⟩ : S87)] : List (S87))) (inner := [.int .i32 65, .int .i32 90, .int .i32 1, .int .i32 32, .int .i32 192, .int .i32 214, .int .i32 1, .int .i32 32, .int .i32 216, .int .i32 222, .int .i32 1, .int .i32 32, .int .i32 256, .int .i32 302, .int .i32 2, .int .i32 1, .int .i32 306, .int .i32 310, .int .i32 2, .int .i32 1, .int .i32 313, .int .i32 327, .int .i32 2, .int .i32 1, .int .i32 330, .int .i32 374, .int .i32 2, .int .i32 1, .int .i32 376, .int .i32 376, .int .i32 1, .int .i32 (-121), .int .i32 377, .int .i32 381, .int .i32 2, .int .i32 1, .int .i32 913, .int .i32 929, .int .i32 1, .int .i32 32, .int .i32 931, .int .i32 939, .int .i32 1, .int .i32 32, .int .i32 962, .int .i32 962, .int .i32 1, .int .i32 1, .int .i32 1024, .int .i32 1039, .int .i32 1, .int .i32 80, .int .i32 1040, .int .i32 1071, .int .i32 1, .int .i32 32]) (ok := fun _ => True) (okp := fun _ => True) ?hr ?hp (fun _ hk => hk) trivial (Below.refl _ _) (Nat.le_refl _) (by simp) ?_; (case hd => rfl); (case hg => rfl); (case hr => first | (go_simp; done) | (go_simp; rfl)); (case hp => exact (Reps.c4 (show Kd.M k87 _ _ _ (⟨65, 90, 1, 32⟩ : S87) [.int .i32 65, .int .i32 90, .int .i32 1, .int .i32 32] from (k87_mkM _ _ _ (⟨65, 90, 1, 32⟩ : S87) )) (Reps.c4 (show Kd.M k87 _ _ _ (⟨192, 214, 1, 32⟩ : S87) [.int .i32 192, .int .i32 214, .int .i32 1, .int .i32 32] from (k87_mkM _ _ _ (⟨192, 214, 1, 32⟩ : S87) )) (Reps.c4 (show Kd.M k87 _ _ _ (⟨216, 222, 1, 32⟩ : S87) [.int .i32 216, .int .i32 222, .int .i32 1, .int .i32 32] from (k87_mkM _ _ _ (⟨216, 222, 1, 32⟩ : S87) )) (Reps.c4 (show Kd.M k87 _ _ _ (⟨256, 302, 2, 1⟩ : S87) [.int .i32 256, .int .i32 302, .int .i32 2, .int .i32 1] from (k87_mkM _ _ _ (⟨256, 302, 2, 1⟩ : S87) )) (Reps.c4 (show Kd.M k87 _ _ _ (⟨306, 310, 2, 1⟩ : S87) [.int .i32 306, .int .i32 310, .int .i32 2, .int .i32 1] from (k87_mkM _ _ _ (⟨306, 310, 2, 1⟩ : S87) )) (Reps.c4 (show Kd.M k87 _ _ _ (⟨313, 327, 2, 1⟩ : S87) [.int .i32 313, .int .i32 327, .int .i32 2, .int .i32 1] from (k87_mkM _ _ _ (⟨313, 327, 2, 1⟩ : S87) )) (Reps.c4 (show Kd.M k87 _ _ _ (⟨330, 374, 2, 1⟩ : S87) [.int .i32 330, .int .i32 374, .int .i32 2, .int .i32 1] from (k87_mkM _ _ _ (⟨330, 374, 2, 1⟩ : S87) )) (Reps.c4 (show Kd.M k87 _ _ _ (⟨376, 376, 1, (-121)⟩ : S87) [.int .i32 376, .int .i32 376, .int .i32 1, .int .i32 (-121)] from (k87_mkM _ _ _ (⟨376, 376, 1, (-121)⟩ : S87) )) (Reps.c4 (show Kd.M k87 _ _ _ (⟨377, 381, 2, 1⟩ : S87) [.int .i32 377, .int .i32 381, .int .i32 2, .int .i32 1] from (k87_mkM _ _ _ (⟨377, 381, 2, 1⟩ : S87) )) (Reps.c4 (show Kd.M k87 _ _ _ (⟨913, 929, 1, 32⟩ : S87) [.int .i32 913, .int .i32 929, .int .i32 1, .int .i32 32] from (k87_mkM _ _ _ (⟨913, 929, 1, 32⟩ : S87) )) (Reps.c4 (show Kd.M k87 _ _ _ (⟨931, 939, 1, 32⟩ : S87) [.int .i32 931, .int .i32 939, .int .i32 1, .int .i32 32] from (k87_mkM _ _ _ (⟨931, 939, 1, 32⟩ : S87) )) (Reps.c4 (show Kd.M k87 _ _ _ (⟨962, 962, 1, 1⟩ : S87) [.int .i32 962, .int .i32 962, .int .i32 1, .int .i32 1] from (k87_mkM _ _ _ (⟨962, 962, 1, 1⟩ : S87) )) (Reps.c4 (show Kd.M k87 _ _ _ (⟨1024, 1039, 1, 80⟩ : S87) [.int .i32 1024, .int .i32 1039, .int .i32 1, .int .i32 80] from (k87_mkM _ _ _ (⟨1024, 1039, 1, 80⟩ : S87) )) (Reps.c4 (show Kd.M k87 _ _ _ (⟨1040, 1071, 1, 32⟩ : S87) [.int .i32 1040, .int .i32 1071, .int .i32 1, .int .i32 32] from (k87_mkM _ _ _ (⟨1040, 1071, 1, 32⟩ : S87) )) (Reps.none _ _)))))))))))))))); intro v103 w2 ho3 hb hg_ hnew_; clear hg_ hnew_; (first | rw [← Ny102.out] at ho3 | (simp only [Int.reduceToNat] at ho3; rw [← Ny102.out] at ho3)); have n0_ := Aside0.mk (Kd.R_lower ho3 (below_size (by repeat (first | (with_reducible first | exact HB.out | apply below_alloc | apply pw_below_drewN | apply below_drew1) | exact HB.out)))); have n1_ := Aside0.mk (below_step (by repeat (first | (with_reducible first | exact HB.out | apply below_alloc | apply pw_below_drewN | apply below_drew1) | exact HB.out)) hb); clear HB; have HO104 := n0_; have HB := n1_; clear n0_ n1_; clear hb ho3; obtain ⟨Ao4, co4, eo4⟩ := Kd.R_slice HO104.out; subst eo4))
  go_loopg [21] k (fun kq v21 w' => ∃ (x21_1 : Int), v21 = .int .i64 x21_1 ∧ Aside0 (fold_Fold.l0 kq a0 y102 (y102.length : Int) x21_1 = some r) ∧ Aside0 (kq ≤ k) ∧ Aside0 (Kd.R k87 87 w' w.heap.size (fun _ => True) (.slice Ao4 y102.length co4) y102) ∧ Aside0 (Below w.heap.size w w'))
  case atStart => exact ⟨(0), (by first | rfl | (simp; done) | (simp [*]; done)), H', ⟨Nat.le_refl _⟩, ⟨by (with_reducible repeat (first | apply Kd.R_alloc | apply Kd.R_drewN | apply Kd.R_drew)); exact HO104.out⟩, ⟨by repeat (first | (with_reducible first | exact HB.out | apply below_alloc | apply pw_below_drewN | apply below_drew1) | exact HB.out)⟩⟩
  case round =>
    clear H'
    try clear p2
    try clear c4
    obtain ⟨x21_1, rfl, HA, HK1, HO_19, HB⟩ := hrel
    cases gk with
    | zero => exact absurd HA.out (by simp [fold_Fold.l0])
    | succ k1 =>
      have H := HA.out
      clear HA
      simp only [fold_Fold.l0] at H
      by_cases c5 : x21_1 < (y102.length : Int)
      · rw [if_pos c5] at H
        have c5b0 : decide (x21_1 < (y102.length : Int)) = true := decide_eq_true c5
        clear c5
        by_cases c6 : 0 ≤ x21_1
        · rw [if_pos c6] at H
          have c6b0 : decide (0 ≤ x21_1) = true := decide_eq_true c6
          clear c6
          by_cases c7 : x21_1 < (y102.length : Int)
          · rw [if_pos c7] at H
            have c7b0 : decide (x21_1 < (y102.length : Int)) = true := decide_eq_true c7
            clear c7
            replace H := Option.bind_eq_some_iff.mp H
            obtain ⟨t107, A80, H⟩ := H
            replace H : (if t107 = true then (some (wrap32 (a0 + ((rd_T87 y102 x21_1).f3)))) else (fold_Fold.l0 k1 a0 y102 (y102.length : Int) (wrap64 (x21_1 + 1)))) = some r := H
            have A8 := Aside0.mk A80
            clear A80
            by_cases c9 : t107 = true
            · subst c9
              have H1 : (some (wrap32 (a0 + ((rd_T87 y102 x21_1).f3)))) = some r := by rw [if_pos rfl] at H; exact H
              clear H
              have H := H1
              clear H1
              obtain rfl := Option.some.inj H
              have p105 : 0 ≤ (x21_1 : Int) := of_decide_eq_true (by first | (with_reducible assumption) | assumption)
              have q105 : x21_1 < (y102.length : Int) := of_decide_eq_true (by first | (with_reducible assumption) | assumption)
              obtain ⟨ad105, e105, hx105_0, hx105_1, hx105_2, hx105_3⟩ := at_T87 (Kd.R_reads' HO_19.out).2.2 x21_1 p105 q105
              cases e105
              replace p105 := eq_true p105
              replace q105 := eq_true q105
              go_wp2_with (first | ((with_reducible refine gate_dst (N := 4) rfl ?_); refine box_event ?hg (N := 4) ?hd (cs := #[.int .i32 0, .int .i32 0, .int .i32 0, .int .i32 0]) (t := 87) ?hr ?_; (case hd => rfl); (case hg => rfl); (case hr => first | (go_simp; done) | (go_simp; rfl)); intro gb106 hg w10 hbox hb; have n0_ := Aside0.mk (Kd.R_below (Kd.R_elderB (by (with_reducible repeat (first | apply Kd.R_alloc | apply Kd.R_drewN | apply Kd.R_drew)); exact HO_19.out) gb106 (Nat.le_of_eq hg.symm)) hb); have n1_ := Aside0.mk (below_step (by repeat (first | (with_reducible first | exact HB.out | apply below_alloc | apply pw_below_drewN | apply below_drew1) | exact HB.out)) hb); have n2_ := Aside0.mk (hbox); have n3_ := Aside0.mk ((by rw [hg]; exact (below_size (by repeat (first | (with_reducible first | exact HB.out | apply below_alloc | apply pw_below_drewN | apply below_drew1) | exact HB.out))) : w.heap.size ≤ gb106)); have n4_ := Aside0.mk ((by rw [hg]; exact (below_size (by repeat (first | (with_reducible first | exact HB.out | apply below_alloc | apply pw_below_drewN | apply below_drew1) | exact HB.out))) : w.heap.size ≤ gb106)); clear HO_19; clear HB; have HO_19 := n0_; have HB := n1_; have BK106 := n2_; have GW106 := n3_; have GE106 := n4_; clear n0_ n1_ n2_ n3_ n4_; clear hb hbox hg; have hcz11_0 : w10.cell? ⟨gb106, 0, none⟩ = some (.int .i32 0) := (blk_cell BK106.out 0).trans rfl; have hcz11_1 : w10.cell? ⟨gb106, 1, none⟩ = some (.int .i32 0) := (blk_cell BK106.out 1).trans rfl; have hcz11_2 : w10.cell? ⟨gb106, 2, none⟩ = some (.int .i32 0) := (blk_cell BK106.out 2).trans rfl; have hcz11_3 : w10.cell? ⟨gb106, 3, none⟩ = some (.int .i32 0) := (blk_cell BK106.out 3).trans rfl; have hfz11_0 := blk_frozen BK106.out 0; have hfz11_1 := blk_frozen BK106.out 1; have hfz11_2 := blk_frozen BK106.out 2; have hfz11_3 := blk_frozen BK106.out 3) | ((with_reducible refine gate_callee (f := 47) rfl ?_); refine goesL_ (some 27) rfl rfl Try.func47 (by kernel_rfl) rfl #[.agg #[.int .i32 ((rd_T87 y102 x21_1).f0), .int .i32 ((rd_T87 y102 x21_1).f1), .int .i32 ((rd_T87 y102 x21_1).f2), .int .i32 ((rd_T87 y102 x21_1).f3)], .int .i32 a0] rfl (by (try simp only [List.map_toArray, List.map_cons, List.map_nil]); first | done | rfl | (simp only [List.length_drop, List.length_take]; rfl)) ?_; (with_reducible refine (fold_span_has.calls ((rd_T87 y102 x21_1).f0) ((rd_T87 y102 x21_1).f1) ((rd_T87 y102 x21_1).f2) ((rd_T87 y102 x21_1).f3) a0 true _ A8.out).mono ?_); rintro e w12 ⟨rfl, hb⟩; refine ⟨_, rfl, ?_⟩; have n0_ := Aside0.mk (Kd.R_below (by (with_reducible repeat (first | apply Kd.R_alloc | apply Kd.R_drewN | apply Kd.R_drew)); exact (Kd.R_mono (Kd.R_far (p := ⟨gb106, 3, none⟩) (Kd.R_far (p := ⟨gb106, 2, none⟩) (Kd.R_far (p := ⟨gb106, 1, none⟩) (Kd.R_far (p := ⟨gb106, 0, none⟩) (Kd.R_mono HO_19.out (fun k_ hk => (⟨hk, hk.2⟩ : _ ∧ k_ ≠ gb106))) (fun _ hk => hk.2) (.int .i32 ((rd_T87 y102 x21_1).f0))) (fun _ hk => hk.2) (.int .i32 ((rd_T87 y102 x21_1).f1))) (fun _ hk => hk.2) (.int .i32 ((rd_T87 y102 x21_1).f2))) (fun _ hk => hk.2) (.int .i32 ((rd_T87 y102 x21_1).f3))) (fun _ h_ => h_.1))) hb); have n1_ := Aside0.mk (blk_below (g := gb106) (o := .cells #[.int .i32 ((rd_T87 y102 x21_1).f0), .int .i32 ((rd_T87 y102 x21_1).f1), .int .i32 ((rd_T87 y102 x21_1).f2), .int .i32 ((rd_T87 y102 x21_1).f3)] 87 (0, 0)) (by (with_reducible repeat (first | refine blk_drewN ?_ _ | refine blk_drew ?_ | refine blk_alloc ?_ _)); refine blk_put (cs := #[.int .i32 ((rd_T87 y102 x21_1).f0), .int .i32 ((rd_T87 y102 x21_1).f1), .int .i32 ((rd_T87 y102 x21_1).f2), .int .i32 0]) ?_ 3 _ rfl; (with_reducible repeat (first | refine blk_drewN ?_ _ | refine blk_drew ?_ | refine blk_alloc ?_ _)); refine blk_put (cs := #[.int .i32 ((rd_T87 y102 x21_1).f0), .int .i32 ((rd_T87 y102 x21_1).f1), .int .i32 0, .int .i32 0]) ?_ 2 _ rfl; (with_reducible repeat (first | refine blk_drewN ?_ _ | refine blk_drew ?_ | refine blk_alloc ?_ _)); refine blk_put (cs := #[.int .i32 ((rd_T87 y102 x21_1).f0), .int .i32 0, .int .i32 0, .int .i32 0]) ?_ 1 _ rfl; (with_reducible repeat (first | refine blk_drewN ?_ _ | refine blk_drew ?_ | refine blk_alloc ?_ _)); refine blk_put (cs := #[.int .i32 0, .int .i32 0, .int .i32 0, .int .i32 0]) ?_ 0 _ rfl; (with_reducible repeat (first | refine blk_drewN ?_ _ | refine blk_drew ?_ | refine blk_alloc ?_ _)); exact BK106.out) hb); have n2_ := Aside0.mk (below_step (by repeat (first | (with_reducible first | exact HB.out | apply below_alloc | apply pw_below_drewN | apply below_drew1 | refine below_set ?_ GE106.out) | exact HB.out)) hb); clear HO_19; clear BK106; clear HB; have HO_19 := n0_; have BK106 := n1_; have HB := n2_; clear n0_ n1_ n2_; (try clear hb); (try clear hb2); (try clear hk); (try clear hi); have hcz13_0 : w12.cell? ⟨gb106, 0, none⟩ = some (.int .i32 ((rd_T87 y102 x21_1).f0)) := (blk_cell BK106.out 0).trans rfl; have hcz13_1 : w12.cell? ⟨gb106, 1, none⟩ = some (.int .i32 ((rd_T87 y102 x21_1).f1)) := (blk_cell BK106.out 1).trans rfl; have hcz13_2 : w12.cell? ⟨gb106, 2, none⟩ = some (.int .i32 ((rd_T87 y102 x21_1).f2)) := (blk_cell BK106.out 2).trans rfl; have hcz13_3 : w12.cell? ⟨gb106, 3, none⟩ = some (.int .i32 ((rd_T87 y102 x21_1).f3)) := (blk_cell BK106.out 3).trans rfl; have hfz13_0 := blk_frozen BK106.out 0; have hfz13_1 := blk_frozen BK106.out 1; have hfz13_2 := blk_frozen BK106.out 2; have hfz13_3 := blk_frozen BK106.out 3))
              go_ret
              exact ⟨by first | rfl | (simp [errW_none, errW_some] <;> rfl) | (simp [*, errW_none, errW_some] <;> rfl), by repeat (first | (with_reducible first | exact HB.out | apply below_alloc | apply pw_below_drewN | apply below_drew1 | refine below_set ?_ GE106.out) | exact HB.out)⟩
            · replace c9 := Bool.eq_false_iff.mpr c9
              subst c9
              have H1 : (fold_Fold.l0 k1 a0 y102 (y102.length : Int) (wrap64 (x21_1 + 1))) = some r := by rw [if_neg (show ¬ (false = true) by decide)] at H; exact H
              clear H
              have H := H1
              clear H1
              have H' := Aside0.mk H
              clear H
              have p105 : 0 ≤ (x21_1 : Int) := of_decide_eq_true (by first | (with_reducible assumption) | assumption)
              have q105 : x21_1 < (y102.length : Int) := of_decide_eq_true (by first | (with_reducible assumption) | assumption)
              obtain ⟨ad105, e105, hx105_0, hx105_1, hx105_2, hx105_3⟩ := at_T87 (Kd.R_reads' HO_19.out).2.2 x21_1 p105 q105
              cases e105
              replace p105 := eq_true p105
              replace q105 := eq_true q105
              go_wp2_with (first | ((with_reducible refine gate_dst (N := 4) rfl ?_); refine box_event ?hg (N := 4) ?hd (cs := #[.int .i32 0, .int .i32 0, .int .i32 0, .int .i32 0]) (t := 87) ?hr ?_; (case hd => rfl); (case hg => rfl); (case hr => first | (go_simp; done) | (go_simp; rfl)); intro gb106 hg w14 hbox hb; have n0_ := Aside0.mk (Kd.R_below (Kd.R_elderB (by (with_reducible repeat (first | apply Kd.R_alloc | apply Kd.R_drewN | apply Kd.R_drew)); exact HO_19.out) gb106 (Nat.le_of_eq hg.symm)) hb); have n1_ := Aside0.mk (below_step (by repeat (first | (with_reducible first | exact HB.out | apply below_alloc | apply pw_below_drewN | apply below_drew1) | exact HB.out)) hb); have n2_ := Aside0.mk (hbox); have n3_ := Aside0.mk ((by rw [hg]; exact (below_size (by repeat (first | (with_reducible first | exact HB.out | apply below_alloc | apply pw_below_drewN | apply below_drew1) | exact HB.out))) : w.heap.size ≤ gb106)); have n4_ := Aside0.mk ((by rw [hg]; exact (below_size (by repeat (first | (with_reducible first | exact HB.out | apply below_alloc | apply pw_below_drewN | apply below_drew1) | exact HB.out))) : w.heap.size ≤ gb106)); clear HO_19; clear HB; have HO_19 := n0_; have HB := n1_; have BK106 := n2_; have GW106 := n3_; have GE106 := n4_; clear n0_ n1_ n2_ n3_ n4_; clear hb hbox hg; have hcz15_0 : w14.cell? ⟨gb106, 0, none⟩ = some (.int .i32 0) := (blk_cell BK106.out 0).trans rfl; have hcz15_1 : w14.cell? ⟨gb106, 1, none⟩ = some (.int .i32 0) := (blk_cell BK106.out 1).trans rfl; have hcz15_2 : w14.cell? ⟨gb106, 2, none⟩ = some (.int .i32 0) := (blk_cell BK106.out 2).trans rfl; have hcz15_3 : w14.cell? ⟨gb106, 3, none⟩ = some (.int .i32 0) := (blk_cell BK106.out 3).trans rfl; have hfz15_0 := blk_frozen BK106.out 0; have hfz15_1 := blk_frozen BK106.out 1; have hfz15_2 := blk_frozen BK106.out 2; have hfz15_3 := blk_frozen BK106.out 3) | ((with_reducible refine gate_callee (f := 47) rfl ?_); refine goesL_ (some 27) rfl rfl Try.func47 (by kernel_rfl) rfl #[.agg #[.int .i32 ((rd_T87 y102 x21_1).f0), .int .i32 ((rd_T87 y102 x21_1).f1), .int .i32 ((rd_T87 y102 x21_1).f2), .int .i32 ((rd_T87 y102 x21_1).f3)], .int .i32 a0] rfl (by (try simp only [List.map_toArray, List.map_cons, List.map_nil]); first | done | rfl | (simp only [List.length_drop, List.length_take]; rfl)) ?_; (with_reducible refine (fold_span_has.calls ((rd_T87 y102 x21_1).f0) ((rd_T87 y102 x21_1).f1) ((rd_T87 y102 x21_1).f2) ((rd_T87 y102 x21_1).f3) a0 false _ A8.out).mono ?_); rintro e w16 ⟨rfl, hb⟩; refine ⟨_, rfl, ?_⟩; have n0_ := Aside0.mk (Kd.R_below (by (with_reducible repeat (first | apply Kd.R_alloc | apply Kd.R_drewN | apply Kd.R_drew)); exact (Kd.R_mono (Kd.R_far (p := ⟨gb106, 3, none⟩) (Kd.R_far (p := ⟨gb106, 2, none⟩) (Kd.R_far (p := ⟨gb106, 1, none⟩) (Kd.R_far (p := ⟨gb106, 0, none⟩) (Kd.R_mono HO_19.out (fun k_ hk => (⟨hk, hk.2⟩ : _ ∧ k_ ≠ gb106))) (fun _ hk => hk.2) (.int .i32 ((rd_T87 y102 x21_1).f0))) (fun _ hk => hk.2) (.int .i32 ((rd_T87 y102 x21_1).f1))) (fun _ hk => hk.2) (.int .i32 ((rd_T87 y102 x21_1).f2))) (fun _ hk => hk.2) (.int .i32 ((rd_T87 y102 x21_1).f3))) (fun _ h_ => h_.1))) hb); have n1_ := Aside0.mk (blk_below (g := gb106) (o := .cells #[.int .i32 ((rd_T87 y102 x21_1).f0), .int .i32 ((rd_T87 y102 x21_1).f1), .int .i32 ((rd_T87 y102 x21_1).f2), .int .i32 ((rd_T87 y102 x21_1).f3)] 87 (0, 0)) (by (with_reducible repeat (first | refine blk_drewN ?_ _ | refine blk_drew ?_ | refine blk_alloc ?_ _)); refine blk_put (cs := #[.int .i32 ((rd_T87 y102 x21_1).f0), .int .i32 ((rd_T87 y102 x21_1).f1), .int .i32 ((rd_T87 y102 x21_1).f2), .int .i32 0]) ?_ 3 _ rfl; (with_reducible repeat (first | refine blk_drewN ?_ _ | refine blk_drew ?_ | refine blk_alloc ?_ _)); refine blk_put (cs := #[.int .i32 ((rd_T87 y102 x21_1).f0), .int .i32 ((rd_T87 y102 x21_1).f1), .int .i32 0, .int .i32 0]) ?_ 2 _ rfl; (with_reducible repeat (first | refine blk_drewN ?_ _ | refine blk_drew ?_ | refine blk_alloc ?_ _)); refine blk_put (cs := #[.int .i32 ((rd_T87 y102 x21_1).f0), .int .i32 0, .int .i32 0, .int .i32 0]) ?_ 1 _ rfl; (with_reducible repeat (first | refine blk_drewN ?_ _ | refine blk_drew ?_ | refine blk_alloc ?_ _)); refine blk_put (cs := #[.int .i32 0, .int .i32 0, .int .i32 0, .int .i32 0]) ?_ 0 _ rfl; (with_reducible repeat (first | refine blk_drewN ?_ _ | refine blk_drew ?_ | refine blk_alloc ?_ _)); exact BK106.out) hb); have n2_ := Aside0.mk (below_step (by repeat (first | (with_reducible first | exact HB.out | apply below_alloc | apply pw_below_drewN | apply below_drew1 | refine below_set ?_ GE106.out) | exact HB.out)) hb); clear HO_19; clear BK106; clear HB; have HO_19 := n0_; have BK106 := n1_; have HB := n2_; clear n0_ n1_ n2_; (try clear hb); (try clear hb2); (try clear hk); (try clear hi)))
              go_roundg k1
              case measure => have := HK1.out; omega
              case rel => exact ⟨(wrap64 (x21_1 + 1)), (by first | rfl | (simp; done) | (simp [*]; done)), H', ⟨by have := HK1.out; omega⟩, ⟨by (with_reducible repeat (first | apply Kd.R_alloc | apply Kd.R_drewN | apply Kd.R_drew)); exact Kd.R_mono HO_19.out (fun _ hk => trivial)⟩, ⟨by repeat (first | (with_reducible first | exact HB.out | apply below_alloc | apply pw_below_drewN | apply below_drew1 | refine below_set ?_ GE106.out) | exact HB.out)⟩⟩
          · rw [if_neg c7] at H
            exact absurd H (by simp)
        · rw [if_neg c6] at H
          exact absurd H (by simp)
      · rw [if_neg c5] at H
        have c5b0 : decide (x21_1 < (y102.length : Int)) = false := decide_eq_false c5
        clear c5
        obtain rfl := Option.some.inj H
        go_wp2
        go_ret
        exact ⟨by first | rfl | (simp [errW_none, errW_some] <;> rfl) | (simp [*, errW_none, errW_some] <;> rfl), by repeat (first | (with_reducible first | exact HB.out | apply below_alloc | apply pw_below_drewN | apply below_drew1) | exact HB.out)⟩

def fold_Mark.f (a0 : Int) : Option (Bool) := if a0 = 39 then (some true) else (some (a0 == 8217))
set_option maxHeartbeats 8000000 in
set_option maxRecDepth 100000 in
theorem fold_Mark.calls (a0 : Int) (r : Bool) (w : World) (h : fold_Mark.f a0 = some r) :
    Calls Try.prog 32 #[.int .i32 a0] w fun e w' => e = .returned (.bool r) ∧ Drawn0 w w' := by
  have H : (if a0 = 39 then (some true) else (some (a0 == 8217))) = some r := h
  clear h
  by_cases c2 : a0 = 39
  · rw [if_pos c2] at H
    have c2b0 : (a0 == 39) = true := beq_iff_eq.mpr c2
    have c2b1 : (a0 != 39) = false := bne_eq_false_iff_eq.mpr c2
    clear c2
    obtain rfl := Option.some.inj H
    go_enter Try.func32, Try.ntmps32
    go_wp2
    go_ret
    exact ⟨by first | rfl | (simp; done) | (simp [*]; done), by repeat (first | exact Drawn0.refl _ | apply Drawn0.step)⟩
  · rw [if_neg c2] at H
    have c2b0 : (a0 == 39) = false := beq_eq_false_iff_ne.mpr c2
    have c2b1 : (a0 != 39) = true := bne_iff_ne.mpr c2
    obtain rfl := Option.some.inj H
    go_enter Try.func32, Try.ntmps32
    go_wp2
    go_ret
    exact ⟨by first | rfl | (simp; done) | (simp [*]; done), by repeat (first | exact Drawn0.refl _ | apply Drawn0.step)⟩

end Go.Proofs.Ytkkkfgnaojhmeaa.PFold

namespace Go.Proofs.Ytkkkfgnaojhmeaa.PFold
open Go.RowKit Go.Proofs.YtkkkfgnaojhmeaaW.PrintWords Go.Proofs.YtkkkfgnaojhmeaaW.PrintLast Go.Proofs.YtkkkfgnaojhmeaaW.PrintMore Go.Proofs.Ytkkkfgnaojhmeaa.K
attribute [local go_sem] max2_int min2_int max_two min_two max_three min_three max_four min_four   -- for this text's walks alone
set_option linter.unusedVariables false
set_option linter.unusedSimpArgs false

end Go.Proofs.Ytkkkfgnaojhmeaa.PFold

namespace Go.Proofs.Ytkkkfgnaojhmeaa.K
open Go.RowKit Go.Proofs.YtkkkfgnaojhmeaaW.PrintWords Go.Proofs.YtkkkfgnaojhmeaaW.PrintLast Go.Proofs.YtkkkfgnaojhmeaaW.PrintMore Go.Proofs.Ytkkkfgnaojhmeaa
attribute [local go_sem] max2_int min2_int max_two min_two max_three min_three max_four min_four
set_option linter.unusedVariables false
set_option linter.unusedSimpArgs false
open Go.Shelf Go.Proofs.Ytkkkfgnaojhmeaa.PFold
def renC : Go.Shelf.Ren := ⟨fun | 8 => 45 | 6 => 54 | n => n, fun | 22 => 88 | 23 => 87 | 25 => 90 | 4 => 4 | 3 => 3 | 0 => 0 | n => n, fun | n => n⟩
theorem laysC : Go.Proofs.SlLaysH0.n8 Try.prog renC := {
  mixed := by kernel_rfl
  f6 := ⟨Try.f54.name, by decide, Try.func54.trans (congrArg some (by kernel_rfl))⟩
  f8 := ⟨Try.f45.name, by decide, Try.func45.trans (congrArg some (by kernel_rfl))⟩
  t0 := Try.underlying0
  a0 := Try.isAgg0
  z0 := Try.sizeOf0
  v0 := Try.zeroValue0
  t3 := Try.underlying3
  a3 := Try.isAgg3
  z3 := Try.sizeOf3
  v3 := Try.zeroValue3
  t4 := Try.underlying4
  a4 := Try.isAgg4
  z4 := Try.sizeOf4
  v4 := Try.zeroValue4
  t22 := Try.underlying88
  a22 := Try.isAgg88
  z22 := Try.sizeOf88
  v22 := Try.zeroValue88
  t25 := Try.underlying90
  a25 := Try.isAgg90
  z25 := Try.sizeOf90
  v25 := Try.zeroValue90 }
def encSp (x : Int × Int) : List Value := [.int .i32 x.1, .int .i32 x.2, .int .i32 1, .int .i32 0]
def inSpan (c : Int) (x : Int × Int) : Bool := decide (x.1 ≤ c) && decide (c ≤ x.2)
def letterL : List (Int × Int) := [(65, 90), (97, 122), (192, 214), (216, 246), (248, 383), (913, 929), (931, 974), (1024, 1119)]
def isLetter (c : Int) : Bool := letterL.any (inSpan c)
theorem has_span (a b c : Int) : fold_span_has.f a b 1 0 c = some (inSpan c (a, b)) := by
  unfold fold_span_has.f inSpan
  by_cases h1 : a ≤ c <;> by_cases h2 : c ≤ b <;> simp [h1, h2]
set_option maxHeartbeats 1000000 in
set_option maxRecDepth 100000 in
theorem letter_pred (c : Int) (B : Nat) (w : World) (hB : B < w.heap.size) (hcell : w.cell? ⟨B, 0, none⟩ = some (.int .i32 c)) :
    PredBelow Try.prog 46 #[.pointer (some ⟨B, 0, none⟩)] (fun x => .agg (encSp x).toArray) (inSpan c) w := fun W x hb => by
  have hc : W.cell? ⟨B, 0, none⟩ = some (.int .i32 c) := (hb.cell (p := ⟨B, 0, none⟩) hB).trans hcell
  have hBW : B < W.heap.size := Nat.lt_of_lt_of_le hB hb.size
  obtain ⟨a, b⟩ := x
  have hs := has_span a b c
  generalize inSpan c (a, b) = r at hs ⊢
  show Calls Try.prog 46 #[.agg #[.int .i32 a, .int .i32 b, .int .i32 1, .int .i32 0], .pointer (some ⟨B, 0, none⟩)] W _
  go_enter Try.func46, Try.ntmps46
  go_wp2_with (first | ((with_reducible refine gate_dst (N := 2) rfl ?_); refine box_event ?hg (N := 2) ?hd (cs := #[.int .i32 a, .int .i32 b, .int .i32 1, .int .i32 0]) (t := 87) ?hr ?_; (case hd => rfl); (case hg => rfl); (case hr => first | (go_simp; done) | (go_simp; rfl)); intro g hg w1 hbox hb1; have hc1 := Aside0.mk ((hb1.cell (p := ⟨B, 0, none⟩) hBW).trans hc); have BX := Aside0.mk hbox; have HB1 := Aside0.mk (hb.trans (hb1.mono hb.size)); clear hc hBW hb hbox hb1 hg; have hc := hc1.out; have z0 : w1.cell? ⟨g, 0, none⟩ = some (.int .i32 a) := (blk_cell BX.out 0).trans rfl; have z1 : w1.cell? ⟨g, 1, none⟩ = some (.int .i32 b) := (blk_cell BX.out 1).trans rfl; have z2 : w1.cell? ⟨g, 2, none⟩ = some (.int .i32 1) := (blk_cell BX.out 2).trans rfl; have z3 : w1.cell? ⟨g, 3, none⟩ = some (.int .i32 0) := (blk_cell BX.out 3).trans rfl) | (go_at_call 47; (with_reducible refine (fold_span_has.calls a b 1 0 c r _ hs).mono ?_); rintro e w' ⟨rfl, hb2⟩; have n0 := Aside0.mk (HB1.out.trans (hb2.mono HB1.out.size)); clear hb2))
  go_ret
  exact ⟨rfl, n0.out⟩
def fold_Letter.f (a0 : Int) : Option Bool := some (isLetter a0)
theorem eg1 : ∀ args w, (callFunc 46 args).run Try.prog w = .ok (.enter 46 args) w := enters_of Try.func46 (by kernel_rfl) rfl
theorem letter_cells {w : World} {e base : Nat} {ok : Nat → Prop} {v : Value} (h : Kd.R k87 e w base ok v ([(⟨65, 90, 1, 0⟩ : S87), (⟨97, 122, 1, 0⟩ : S87), (⟨192, 214, 1, 0⟩ : S87), (⟨216, 246, 1, 0⟩ : S87), (⟨248, 383, 1, 0⟩ : S87), (⟨913, 929, 1, 0⟩ : S87), (⟨931, 974, 1, 0⟩ : S87), (⟨1024, 1119, 1, 0⟩ : S87)] : List S87)) : ∃ b c, v = .slice (some ⟨b, 0, none⟩) 8 c ∧ b < w.heap.size ∧ ∀ j, j < letterL.length → ∀ i v, (encSp letterL[j]!)[i]? = some v → w.cell? ⟨b, 0 + j * 4 + i, none⟩ = some v := by
  have hb := (Kd.R_bound h).1
  obtain ⟨A, cap0, rfl⟩ := Kd.R_slice h
  have hC := (Kd.R_reads' h).2.2
  obtain ⟨_, inner, ho, _⟩ := h
  rcases ho.2 with ⟨_, h0⟩ | ⟨g, cap, cells, hv, _⟩
  · exact absurd h0 (by simp)
  · obtain ⟨rfl, _, rfl⟩ := Value.slice.inj hv
    refine ⟨g, _, rfl, (hb g rfl).2.2.1, ?_⟩
    intro j hj i v hi
    have hj8 : j < 8 := hj
    obtain ⟨ad, e0, a0, a1, a2, a3⟩ := at_T87 hC (j : Int) (by omega) (by show (j : Int) < 8; omega)
    cases e0
    have hi4 : i < 4 := by
      have := (List.getElem?_eq_some_iff.1 hi).1
      simpa [encSp] using this
    have key : ∀ j : Nat, j < 8 → ∀ i : Nat, i < 4 → (encSp letterL[j]!)[i]? = some ((match i with | 0 => Value.int .i32 (rd_T87 [(⟨65, 90, 1, 0⟩ : S87), (⟨97, 122, 1, 0⟩ : S87), (⟨192, 214, 1, 0⟩ : S87), (⟨216, 246, 1, 0⟩ : S87), (⟨248, 383, 1, 0⟩ : S87), (⟨913, 929, 1, 0⟩ : S87), (⟨931, 974, 1, 0⟩ : S87), (⟨1024, 1119, 1, 0⟩ : S87)] (j : Int)).f0 | 1 => Value.int .i32 (rd_T87 [(⟨65, 90, 1, 0⟩ : S87), (⟨97, 122, 1, 0⟩ : S87), (⟨192, 214, 1, 0⟩ : S87), (⟨216, 246, 1, 0⟩ : S87), (⟨248, 383, 1, 0⟩ : S87), (⟨913, 929, 1, 0⟩ : S87), (⟨931, 974, 1, 0⟩ : S87), (⟨1024, 1119, 1, 0⟩ : S87)] (j : Int)).f1 | 2 => Value.int .i32 (rd_T87 [(⟨65, 90, 1, 0⟩ : S87), (⟨97, 122, 1, 0⟩ : S87), (⟨192, 214, 1, 0⟩ : S87), (⟨216, 246, 1, 0⟩ : S87), (⟨248, 383, 1, 0⟩ : S87), (⟨913, 929, 1, 0⟩ : S87), (⟨931, 974, 1, 0⟩ : S87), (⟨1024, 1119, 1, 0⟩ : S87)] (j : Int)).f2 | _ => Value.int .i32 (rd_T87 [(⟨65, 90, 1, 0⟩ : S87), (⟨97, 122, 1, 0⟩ : S87), (⟨192, 214, 1, 0⟩ : S87), (⟨216, 246, 1, 0⟩ : S87), (⟨248, 383, 1, 0⟩ : S87), (⟨913, 929, 1, 0⟩ : S87), (⟨931, 974, 1, 0⟩ : S87), (⟨1024, 1119, 1, 0⟩ : S87)] (j : Int)).f3)) := by
      intro j hj i hi
      have hj' : j = 0 ∨ j = 1 ∨ j = 2 ∨ j = 3 ∨ j = 4 ∨ j = 5 ∨ j = 6 ∨ j = 7 := by omega
      have hi' : i = 0 ∨ i = 1 ∨ i = 2 ∨ i = 3 := by omega
      rcases hj' with rfl | rfl | rfl | rfl | rfl | rfl | rfl | rfl <;> rcases hi' with rfl | rfl | rfl | rfl <;> rfl
    have hk := (hi.symm.trans (key j hj8 i hi4))
    obtain rfl := Option.some.inj hk
    have : i = 0 ∨ i = 1 ∨ i = 2 ∨ i = 3 := by omega
    rcases this with rfl | rfl | rfl | rfl
    all_goals rw [Addr.add_lit] at a0 a1 a2 a3; first | simpa using a0 | simpa using a1 | simpa using a2 | simpa using a3
set_option maxHeartbeats 4000000 in
set_option maxRecDepth 100000 in
theorem fold_Letter.calls (a0 : Int) (r : Bool) (w : World) (h : fold_Letter.f a0 = some r) :
    Calls Try.prog 30 #[.int .i32 a0] w fun e w' => e = .returned (.bool r) ∧ Below w.heap.size w w' := by
  obtain rfl : isLetter a0 = r := Option.some.inj h
  have hcon : ∀ (b c : Nat) (W : World), Below w.heap.size w W → W.cell? ⟨w.heap.size, 0, none⟩ = some (.int .i32 a0) → w.heap.size < W.heap.size → b < W.heap.size → (∀ j, j < letterL.length → ∀ i v, (encSp letterL[j]!)[i]? = some v → W.cell? ⟨b, 0 + j * 4 + i, none⟩ = some v) →
      Calls Try.prog 45 #[.slice (some ⟨b, 0, none⟩) 8 c, .func (.func 46) #[] #[.pointer (some ⟨w.heap.size, 0, none⟩)]] W fun e w' => e = .returned (.bool (isLetter a0)) ∧ Below w.heap.size w w' := by
    intro b c W hb hc hs hbs hcs
    have := AnyQ.slices_ContainsFunc laysC 4 Try.isAgg87 Try.sizeOf87 encSp (fun _ => rfl) (inSpan a0) 46 #[.pointer (some ⟨w.heap.size, 0, none⟩)] eg1 b 0 8 c letterL W
      (letter_pred a0 w.heap.size W hs hc) (by decide) (by decide) hbs hcs
    exact this.mono fun e w' ⟨he, hw⟩ => ⟨he, hb.trans (hw.mono hb.size)⟩
  generalize isLetter a0 = r at hcon ⊢
  go_enter Try.func30, Try.ntmps30
  go_wp2_with (first | ((with_reducible refine gate_dst (N := 12) rfl ?_); refine Kd.R_lit k87 _ 87 ?hg (N := 12) ?hd (xs := ([(⟨65, 90, 1, 0⟩ : S87), (⟨97, 122, 1, 0⟩ : S87), (⟨192, 214, 1, 0⟩ : S87), (⟨216, 246, 1, 0⟩ : S87), (⟨248, 383, 1, 0⟩ : S87), (⟨913, 929, 1, 0⟩ : S87), (⟨931, 974, 1, 0⟩ : S87), (⟨1024, 1119, 1, 0⟩ : S87)] : List S87)) (inner := [.int .i32 65, .int .i32 90, .int .i32 1, .int .i32 0, .int .i32 97, .int .i32 122, .int .i32 1, .int .i32 0, .int .i32 192, .int .i32 214, .int .i32 1, .int .i32 0, .int .i32 216, .int .i32 246, .int .i32 1, .int .i32 0, .int .i32 248, .int .i32 383, .int .i32 1, .int .i32 0, .int .i32 913, .int .i32 929, .int .i32 1, .int .i32 0, .int .i32 931, .int .i32 974, .int .i32 1, .int .i32 0, .int .i32 1024, .int .i32 1119, .int .i32 1, .int .i32 0]) (ok := fun _ => True) (okp := fun _ => True) ?hr ?hp (fun _ hk => hk) trivial (Below.refl _ _) (Nat.le_refl _) (by simp) ?_; (case hd => rfl); (case hg => rfl); (case hr => first | (go_simp; done) | (go_simp; rfl)); (case hp => exact (Reps.c4 (show Kd.M k87 _ _ _ (⟨65, 90, 1, 0⟩ : S87) [.int .i32 65, .int .i32 90, .int .i32 1, .int .i32 0] from (k87_mkM _ _ _ (⟨65, 90, 1, 0⟩ : S87) )) (Reps.c4 (show Kd.M k87 _ _ _ (⟨97, 122, 1, 0⟩ : S87) [.int .i32 97, .int .i32 122, .int .i32 1, .int .i32 0] from (k87_mkM _ _ _ (⟨97, 122, 1, 0⟩ : S87) )) (Reps.c4 (show Kd.M k87 _ _ _ (⟨192, 214, 1, 0⟩ : S87) [.int .i32 192, .int .i32 214, .int .i32 1, .int .i32 0] from (k87_mkM _ _ _ (⟨192, 214, 1, 0⟩ : S87) )) (Reps.c4 (show Kd.M k87 _ _ _ (⟨216, 246, 1, 0⟩ : S87) [.int .i32 216, .int .i32 246, .int .i32 1, .int .i32 0] from (k87_mkM _ _ _ (⟨216, 246, 1, 0⟩ : S87) )) (Reps.c4 (show Kd.M k87 _ _ _ (⟨248, 383, 1, 0⟩ : S87) [.int .i32 248, .int .i32 383, .int .i32 1, .int .i32 0] from (k87_mkM _ _ _ (⟨248, 383, 1, 0⟩ : S87) )) (Reps.c4 (show Kd.M k87 _ _ _ (⟨913, 929, 1, 0⟩ : S87) [.int .i32 913, .int .i32 929, .int .i32 1, .int .i32 0] from (k87_mkM _ _ _ (⟨913, 929, 1, 0⟩ : S87) )) (Reps.c4 (show Kd.M k87 _ _ _ (⟨931, 974, 1, 0⟩ : S87) [.int .i32 931, .int .i32 974, .int .i32 1, .int .i32 0] from (k87_mkM _ _ _ (⟨931, 974, 1, 0⟩ : S87) )) (Reps.c4 (show Kd.M k87 _ _ _ (⟨1024, 1119, 1, 0⟩ : S87) [.int .i32 1024, .int .i32 1119, .int .i32 1, .int .i32 0] from (k87_mkM _ _ _ (⟨1024, 1119, 1, 0⟩ : S87) )) (Reps.none _ _)))))))))); intro v103 w2 ho3 hb hg_ hnew_; clear hg_ hnew_; obtain ⟨b, cc, rfl, hbs, hcs⟩ := letter_cells ho3; have hcell : w2.cell? ⟨w.heap.size, 0, none⟩ = some (.int .i32 a0) := (hb.cell (p := ⟨w.heap.size, 0, none⟩) (by simp)).trans (by simp); have hsz := hb.size; have hcc := hcon b cc w2 ((below_alloc (Below.refl _ _) _).trans (hb.mono (by simp))) hcell (by simp at hsz; omega) hbs hcs; clear hcon hcs hbs ho3 hb hsz hcell) | (go_at_call 45; (with_reducible refine hcc.mono ?_); rintro e w' ⟨rfl, hb2⟩; have n0 := Aside0.mk hb2; clear hb2))
  go_ret
  exact ⟨rfl, n0.out⟩
end Go.Proofs.Ytkkkfgnaojhmeaa.K

namespace Go.Proofs.Ytkkkfgnaojhmeaa.K
open Go.RowKit Go.Proofs.YtkkkfgnaojhmeaaW.PrintWords Go.Proofs.YtkkkfgnaojhmeaaW.PrintLast Go.Proofs.YtkkkfgnaojhmeaaW.PrintMore Go.Proofs.Ytkkkfgnaojhmeaa
attribute [local go_sem] max2_int min2_int max_two min_two max_three min_three max_four min_four
set_option linter.unusedVariables false
set_option linter.unusedSimpArgs false
open Go.Proofs.Ytkkkfgnaojhmeaa.PFold
def foldL : List S87 := [(⟨65, 90, 1, 32⟩ : S87), (⟨192, 214, 1, 32⟩ : S87), (⟨216, 222, 1, 32⟩ : S87), (⟨256, 302, 2, 1⟩ : S87), (⟨306, 310, 2, 1⟩ : S87), (⟨313, 327, 2, 1⟩ : S87), (⟨330, 374, 2, 1⟩ : S87), (⟨376, 376, 1, (-121)⟩ : S87), (⟨377, 381, 2, 1⟩ : S87), (⟨913, 929, 1, 32⟩ : S87), (⟨931, 939, 1, 32⟩ : S87), (⟨962, 962, 1, 1⟩ : S87), (⟨1024, 1039, 1, 80⟩ : S87), (⟨1040, 1071, 1, 32⟩ : S87)]
def hasB (s : S87) (c : Int) : Bool := decide (s.f0 ≤ c) && (decide (c ≤ s.f1) && (Int.tmod (wrap32 (c - s.f0)) s.f2 == 0))
def foldAux : List S87 → Int → Int
  | [], c => c
  | s :: t, c => if hasB s c = true then wrap32 (c + s.f3) else foldAux t c
def foldZ (c : Int) : Int := foldAux foldL c
theorem has_B (s : S87) (c : Int) (h : s.f2 ≠ 0) : fold_span_has.f s.f0 s.f1 s.f2 s.f3 c = some (hasB s c) := by
  unfold fold_span_has.f hasB
  by_cases h1 : s.f0 ≤ c <;> by_cases h2 : c ≤ s.f1 <;> simp [h1, h2, h]
theorem l0_aux (c : Int) (L : List S87) (hL : ∀ s ∈ L, s.f2 ≠ 0) (hlen : L.length < 1000) : ∀ (k i : Nat), i ≤ L.length → L.length < i + k → fold_Fold.l0 k c L (L.length : Int) (i : Int) = some (foldAux (L.drop i) c)
  | 0, i, hi, h => by omega
  | k + 1, i, hle, h => by
    unfold fold_Fold.l0
    by_cases hi : i < L.length
    · rw [if_pos (by omega), if_pos (by omega), if_pos (by omega)]
      have e : rd_T87 L (i : Int) = L[i] := by simp [rd_T87, hi]
      have hd : L.drop i = L[i] :: L.drop (i + 1) := List.drop_eq_getElem_cons hi
      rw [e, has_B _ c (hL _ (List.getElem_mem hi)), hd]
      have hw : wrap64 ((i : Int) + 1) = ((i + 1 : Nat) : Int) := by unfold wrap64; omega
      rw [hw, l0_aux c L hL hlen k (i + 1) (by omega) (by omega)]
      simp only [Option.bind_some, foldAux]
      by_cases hb : hasB L[i] c = true
      · rw [if_pos hb, if_pos hb]
      · rw [if_neg hb, if_neg hb]
    · rw [if_neg (by omega), List.drop_eq_nil_of_le (by omega)]
      rfl
theorem fold_Fold_eq (k : Nat) (hk : 14 < k) (c : Int) : fold_Fold.f k c = some (foldZ c) := by
  show fold_Fold.l0 k c foldL (foldL.length : Int) ((0 : Nat) : Int) = _
  exact l0_aux c foldL (by decide) (by decide) k 0 (by omega) (by simp [foldL]; omega)
def near (p : Int → Bool) : Bool := (List.range 1200).all fun n => p (n : Int)
end Go.Proofs.Ytkkkfgnaojhmeaa.K

namespace Go.Proofs.Ytkkkfgnaojhmeaa.K
open Go.RowKit Go.Proofs.YtkkkfgnaojhmeaaW.PrintWords Go.Proofs.YtkkkfgnaojhmeaaW.PrintLast Go.Proofs.YtkkkfgnaojhmeaaW.PrintMore Go.Proofs.Ytkkkfgnaojhmeaa
attribute [local go_sem] max2_int min2_int max_two min_two max_three min_three max_four min_four
set_option linter.unusedVariables false
set_option linter.unusedSimpArgs false
def slices_Clone_rune_rune.f (l0 : List Int) : Option (List Int) := if l0.length < 35184372088832 then some l0 else none
set_option maxHeartbeats 2000000 in
set_option maxRecDepth 100000 in
theorem slices_Clone_rune_rune.calls (A0 : Option Addr) (c0 : Nat) (l0 : List Int) (r : List Int) (w : World) (hr0 : Kd.C (Kd.int .i32) w A0 l0.length l0) (hc0 : l0.length ≤ c0) (h : slices_Clone_rune_rune.f l0 = some r) :
    Calls Try.prog 29 #[.slice A0 l0.length c0] w fun e w' => ∃ v0_ : Value, e = .returned (v0_) ∧ Kd.R (Kd.int .i32) 21 w' w.heap.size (fun _ => True) v0_ r ∧ Below w.heap.size w w' := by
  have hlen : l0.length < 35184372088832 := by
    unfold slices_Clone_rune_rune.f at h; split at h
    · assumption
    · cases h
  have hr : l0 = r := by
    unfold slices_Clone_rune_rune.f at h; rw [if_pos hlen] at h; exact Option.some.inj h
  clear h
  subst hr
  have hq : ∀ (W : World) (a : Option Addr) (n c n' c' : Nat), (binOp .eql 50 (.slice a n c) (.slice none n' c')).run Try.prog W = .ok (.bool a.isNone) W := fun W a n c n' c' => Lib.run_eql_slice_nil W _ _ a n c n' c' Try.underlying50
  cases A0 with
  | none =>
    have h0 : l0 = [] := by
      cases l0 with
      | nil => rfl
      | cons x l =>
        obtain ⟨ad, _, e, _⟩ := Kd.C_get hr0 (0 : Int) 0 (by omega) (by simp)
        cases e
    subst h0
    go_enter Try.func29, Try.ntmps29
    go_wp2
    go_ret
    exact ⟨_, rfl, Kd.R_nil _ _ _ _ _, Below.refl _ _⟩
  | some ad =>
    have HR := Aside0.mk hr0; clear hr0
    have HL := Aside0.mk hlen; clear hlen
    go_enter Try.func29, Try.ntmps29
    go_wp2_with ((with_reducible refine gate_dst (N := 5) rfl ?_); refine Kd.R_lit (Kd.int .i32) _ 21 ?hg (N := 5) ?hd (xs := []) (inner := []) (ok := fun _ => True) (okp := fun _ => True) ?hr ?hp (fun _ hk => hk) trivial (Below.refl _ _) (Nat.le_refl _) (by simp) ?_; (case hd => rfl); (case hg => rfl); (case hr => first | (go_simp; done) | (go_simp; rfl)); (case hp => exact (Reps.none _ _)))
    intro v1 w1 hR1 hb1 hg1 n1 hn1 hle1
    have HB1 := Aside0.mk hb1
    have HR1 := Aside0.mk hR1
    have HC1 := Aside0.mk (Kd.C_below HR.out hb1)
    clear hR1 hb1 hg1 hn1 hle1 n1
    go_wp2_with ((with_reducible refine gate_builtin (b := .append) (xs := #[.tmp 5, .tmp 6]) rfl ?_); at_builtin; refine Kd.R_append_rows (Kd.int .i32) (w0 := w) w.heap.size rfl (.tmp 5) (.tmp 6) 50 21 (.int .i32 0) 4 rfl Try.underlying50 info21 rfl (by decide) (by omega) v1 [] l0 _ _ _ (fun _ => True) (fun _ => False) rfl rfl HR1.out HC1.out (fun _ _ h => h) (fun _ h => h.elim) (fun _ _ => trivial) HB1.out (HB1.out).size (by have := HL.out; simp; omega) ?_)
    intro v2 w2 hR2 hb2 hg2 hat2
    have HB2 := Aside0.mk hb2
    have HR2 := Aside0.mk hR2
    clear hR2 hb2 hg2 hat2
    go_wp2
    go_ret
    exact ⟨_, rfl, by simpa using HR2.out, HB2.out⟩
end Go.Proofs.Ytkkkfgnaojhmeaa.K

namespace Go.Proofs.Ytkkkfgnaojhmeaa.PWd
open Go.RowKit Go.Proofs.YtkkkfgnaojhmeaaW.PrintWords Go.Proofs.YtkkkfgnaojhmeaaW.PrintLast Go.Proofs.YtkkkfgnaojhmeaaW.PrintMore Go.Proofs.Ytkkkfgnaojhmeaa.K Go.Proofs.Ytkkkfgnaojhmeaa.PFold
attribute [local go_sem] max2_int min2_int max_two min_two max_three min_three max_four min_four   -- for this text's walks alone
set_option linter.unusedVariables false
set_option linter.unusedSimpArgs false



def errW : Option Int → Value
  | none => .nilIface
  | some c => .iface 0 (.int .i64 c)
theorem errW_none : errW none = .nilIface := rfl
theorem errW_some (c : Int) : errW (some c) = .iface 0 (.int .i64 c) := rfl

end Go.Proofs.Ytkkkfgnaojhmeaa.PWd

