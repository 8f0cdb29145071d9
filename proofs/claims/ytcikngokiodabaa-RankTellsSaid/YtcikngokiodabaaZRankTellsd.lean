/- RankTells. (The texts that the proof is made of, one behind the other: part 4 of 6.) -/
import Derived.Test.YtcikngokiodabaaProg
import Derived.Below
import Derived.Deep.Draws
import Derived.Deep.AppendLies
import Derived.Maps.AppendAt
import Derived.OwnWalk
import Derived.Laws.BytesArg
import Derived.Laws.MakeOwn
import Derived.Laws.OwnMore
import Derived.Deep.OwnRows
import Derived.Tactics
import Derived.Lib.ConvBytes
import Derived.Laws.Slices
import Derived.WalkKit
import Derived.KernelRfl
import Derived.RowKit3
import Derived.Deep.LoopGhost
import Derived.Deep.QuietTactic
import Derived.BigQuiet
import Derived.WideLaws
import Derived.Deep.DeepCutAuto
import Derived.Deep.CutBlock
import Derived.Deep.RegionHeld3
import Derived.Laws.Rows
import Derived.Lib.AppendStr
import Derived.ArgAppend
import Derived.Laws.IdiomCopy
import Derived.OrdersHeld
import Derived.Laws.BitsLemmas
import Derived.RowKit
import Derived.Lib.OthersKept
import Derived.WalkSmall
import Derived.Deep.RegionLaw
import Derived.BigRegion
import Derived.Maps.OwnSet
import Derived.Maps.OwnOps
import Derived.Maps.Views
import Derived.Carry
import Derived.Laws.EntriesVeiled
import Derived.Lib.SliceRun
import Derived.Shelf.Abstract
import Derived.Test.YtcikngokiodabaaZRankTellsa
import Derived.Test.YtcikngokiodabaaZRankTellsb
import Derived.Test.YtcikngokiodabaaZRankTellsc
namespace Go.Proofs.Ytcikngokiodabaa.K
open Go.RowKit Go.Proofs.YtcikngokiodabaaW.PrintWords Go.Proofs.YtcikngokiodabaaW.PrintLast Go.Proofs.YtcikngokiodabaaW.PrintMore Go.Proofs.Ytcikngokiodabaa
attribute [local go_sem] max2_int min2_int max_two min_two max_three min_three max_four min_four
set_option linter.unusedVariables false
set_option linter.unusedSimpArgs false
open Go Go.RowKit Go.Maps Go.Sort
attribute [local go_sem] Oper.semAt_some
theorem infoU : (Try.prog.info? 23).map (fun i => (i.zero, i.size, i.bytes)) = some (some (.int .u64 0), 1, 8) := by kernel_rfl
set_option maxRecDepth 100000 in
set_option maxHeartbeats 4000000 in
theorem appendSeq_in (F : Fence) (n : Nat) (hf : F.fn 31) (hro : F.round = none) (hn : 2 ≤ n) (g : Nat) (lb : Array Value) (hFg : F.fn g) (eg : ∀ args w, (callFunc g args).run Try.prog w = .ok (.enter g args) w)
    (S Sp : List Int → Prop) (N : Nat) (hN : N ≤ maxLen) (hNb : N * 8 ≤ 140737488355328) (w : World) (hseq : SeqStops F (n - 1) Try.prog g lb encU S Sp N w) :
    CallsIn F n Try.prog 31 #[.slice none 0 0, .func (.func g) #[] lb] w fun e w' => ∃ (v : Value) (ss : List Int), e = .returned v ∧ S ss ∧ w'.ownsRow w.heap.size 23 1 v ss.length (ss.map encU) ∧ Below w.heap.size w w' := by
  have h1 : 1 ≤ n := by omega
  obtain ⟨i0, hi, hz0, hz1, hz2⟩ := info_parts infoU
  refine callsIn_of_wp_marks Try.func31 rfl hf ?_ hro
  simp only [Try.ntmps31, List.size_toArray, List.length_cons, List.length_nil, Nat.reduceAdd, Nat.reduceSub, Array.replicate_succ, Array.replicate_zero, List.push_toArray, List.append_toArray, List.nil_append, List.cons_append]
  gi_wp2
  have bO := Boxed.new w 32 (.slice none 0 0)
  have hB0 : Below w.heap.size w (w.alloc (.cells #[.slice none 0 0] 32)) := (Below.refl _ w).alloc (Nat.le_refl _) _
  have hsq : SeqStopsK F (n - 1) Try.prog g lb (fun x : Int => #[encU x]) KeepsWalks S Sp N w := hseq
  refine wpIn_rangeFunc_ownG (α := Int) hro h1 (gf := g) (lb := lb) rfl hFg eg
    (hsq) walksK_t walksK_b hB0 (fun _ => rfl)
    (fun (pre : List Int) W => (∃ v, Boxed W w.heap.size 32 v ∧ W.ownsRow w.heap.size 23 1 v pre.length (pre.map encU) ∧ True) ∧ Below w.heap.size w W)
    (fun _ _ _ => False)
    (OwnFrom.and (Own.from (holdsRow_own w.heap.size w.heap.size 32 23 1 (fun pre : List Int => pre.length) (fun pre : List Int => pre.map encU) (fun (pre : List Int) v => True)) _) (ownFrom_below (Nat.le_refl _) (by simp)))
    (fun _ _ _ _ _ hs _ _ => hs)
    ⟨⟨_, bO, World.ownsRow_nil _ _ _ _, trivial⟩, hB0⟩
    (fun x => { tmps := #[.slice none 0 0, .func (.func g) #[] lb, .pointer (some ⟨w.heap.size, 0, none⟩), undef, .slice none 0 0, encU x, .func (.func g) #[] lb, encU x, undef, undef, undef, undef, undef], defers := [] }) ?assign ?body ?done ?stop
  case assign =>
    intro l x W K hK
    gi_wp2
    exact hK
  case body =>
    rintro l pre x W ⟨⟨v, hv, hrow, _⟩, hB⟩ hlt
    have hc := hv.cell
    gi_wp2_with (gi_at_builtin; refine wpListIn_append_own _ rfl _ _ 32 rfl w.heap.size 23 i0 (.int .u64 0) 1 8 Try.underlying32 hi hz0 hz1 hz2 rfl (by decide) _ _ _ rfl (hrow.alloc _) ⟨W.heap.size, 0, none⟩ 1 1 [encU x] rfl rfl (cell_one_new _ _ _) (by simp [Value.oneCell']) (by omega) (by omega) (by have := hB.size; simp; omega) ?_; intro v' w1 hown' hgrow _; obtain ⟨g', cap', rfl⟩ := ownsRow_succ hown'; obtain ⟨hv1, hv2, hr2, hk2, hb2⟩ := hv.appended (by decide) hrow hB.size (Nat.le_refl _) hown' hgrow; have hc1 := hv1.cell; have hf1 := hv1.frozen)
    exact ⟨hk2.from _, hk2.walks, ⟨_, hv2, by simpa using hr2, trivial⟩, hB.trans hb2⟩
  case done =>
    rintro D ys W hD hS ⟨⟨v, hv, hrow, _⟩, hB⟩ hK
    have hc := hv.cell
    gi_wp2
    refine ⟨by simp, .inl ⟨_, _, rfl, run_takeDeferred hK, ?_⟩⟩
    exact ⟨_, results_tmp rfl _ _ _, v, ys, rfl, hS, ownsRow_putObj hrow _ hK rfl, hB.trans (belowK_b (w := w) (Nat.le_refl _) W D _ _ (by simp at hD; omega) hK rfl rfl)⟩
  case stop =>
    rintro D c pre W _ _ h _
    exact h.elim

set_option maxHeartbeats 1000000 in
theorem collect_in (F : Fence) (n : Nat) (hf : F.fn 28) (hf2 : F.fn 31) (hro : F.round = none) (hn : 3 ≤ n) (g : Nat) (lb : Array Value) (hFg : F.fn g) (eg : ∀ args w, (callFunc g args).run Try.prog w = .ok (.enter g args) w)
    (S Sp : List Int → Prop) (N : Nat) (hN : N ≤ maxLen) (hNb : N * 8 ≤ 140737488355328) (w : World) (hseq : SeqStops F (n - 1 - 1) Try.prog g lb encU S Sp N w) :
    CallsIn F n Try.prog 28 #[.func (.func g) #[] lb] w fun e w' => ∃ (v : Value) (ss : List Int), e = .returned v ∧ S ss ∧ w'.ownsRow w.heap.size 23 1 v ss.length (ss.map encU) ∧ Below w.heap.size w w' := by
  have h1 : 1 ≤ n := by omega
  refine callsIn_of_wp Try.func28 rfl hf ?_ hro
  simp only [Try.ntmps28, List.size_toArray, List.length_cons, List.length_nil, Nat.reduceAdd, Nat.reduceSub, Array.replicate_succ, Array.replicate_zero, List.push_toArray, List.append_toArray, List.nil_append, List.cons_append]
  gi_wp2_with (gi_at_call 31; refine (appendSeq_in F (n - 1) hf2 hro (by omega) g lb hFg eg S Sp N hN hNb _ hseq).mono ?_; rintro e w' ⟨v, ss, rfl, hS, hrow, hb⟩)
  go_ret
  exact ⟨v, ss, rfl, hS, hrow, hb⟩

def cmpD (x y : Int) : Int := if y < x then -1 else if x < y then 1 else 0
theorem ltOf_cmpD (x y : Int) : Go.Proofs.ltOf cmpD x y = decide (y < x) := by
  unfold Go.Proofs.ltOf cmpD
  by_cases h : y < x
  · simp [h]
  · by_cases h2 : x < y <;> simp [h, h2]
theorem swoD : Go.Sort.SWO (Go.Proofs.ltOf cmpD) where
  irrefl x := by rw [ltOf_cmpD]; simp
  trans x y z h1 h2 := by rw [ltOf_cmpD] at *; simp at *; omega
  ntrans x y z h1 h2 := by rw [ltOf_cmpD] at *; simp at *; omega
set_option maxHeartbeats 4000000 in
set_option maxRecDepth 100000 in
theorem isNaN_k (a : Int) (W : World) : Calls Try.prog 27 #[.int .u64 a] W fun e w' => e = .returned (.bool false) ∧ w' = W := by
  go_enter Try.func27, Try.ntmps27
  go_wp2
  go_ret
  exact ⟨rfl, rfl⟩
set_option maxHeartbeats 4000000 in
set_option maxRecDepth 100000 in
theorem compare_k (a b : Int) (W : World) : Calls Try.prog 22 #[.int .u64 a, .int .u64 b] W fun e w' => e = .returned (.int .i64 (cmpD b a)) ∧ w' = W := by
  have hn := isNaN_k
  go_enter Try.func22, Try.ntmps22
  by_cases h1 : a < b
  · have h1b : decide (a < b) = true := decide_eq_true h1
    have er : cmpD b a = -1 := by unfold cmpD; rw [if_pos h1]
    rw [er]
    go_wp2_with (first | (go_at_call 27; refine (hn _ _).mono ?_; rintro e w' ⟨rfl, rfl⟩))
    go_ret
    exact ⟨rfl, rfl⟩
  · have h1b : decide (a < b) = false := decide_eq_false h1
    by_cases h2 : b < a
    · have h2b : decide (b < a) = true := decide_eq_true h2
      have er : cmpD b a = 1 := by unfold cmpD; rw [if_neg h1, if_pos h2]
      rw [er]
      go_wp2_with (first | (go_at_call 27; refine (hn _ _).mono ?_; rintro e w' ⟨rfl, rfl⟩))
      go_ret
      exact ⟨rfl, rfl⟩
    · have h2b : decide (b < a) = false := decide_eq_false h2
      have er : cmpD b a = 0 := by unfold cmpD; rw [if_neg h1, if_neg h2]
      rw [er]
      go_wp2_with (first | (go_at_call 27; refine (hn _ _).mono ?_; rintro e w' ⟨rfl, rfl⟩))
      go_ret
      exact ⟨rfl, rfl⟩
set_option maxHeartbeats 4000000 in
set_option maxRecDepth 100000 in
theorem down_k (x y : Int) (W : World) : Calls Try.prog 21 (#[encU x, encU y] ++ #[]) W fun e w' => e = .returned (.int .i64 (cmpD x y)) ∧ w' = W := by
  show Calls Try.prog 21 #[.int .u64 x, .int .u64 y] W _
  have hcon := compare_k y x
  generalize cmpD x y = r at hcon ⊢
  go_enter Try.func21, Try.ntmps21
  go_wp2_with (first | (go_at_call 22; refine (hcon _).mono ?_; rintro e w' ⟨rfl, rfl⟩))
  go_ret
  exact ⟨rfl, rfl⟩
end Go.Proofs.Ytcikngokiodabaa.K

namespace Go.Proofs.Ytcikngokiodabaa.K
open Go.RowKit Go.Proofs.YtcikngokiodabaaW.PrintWords Go.Proofs.YtcikngokiodabaaW.PrintLast Go.Proofs.YtcikngokiodabaaW.PrintMore Go.Proofs.Ytcikngokiodabaa
attribute [local go_sem] max2_int min2_int max_two min_two max_three min_three max_four min_four
set_option linter.unusedVariables false
set_option linter.unusedSimpArgs false
open Go Go.RowKit Go.Maps Go.Sort
attribute [local go_sem] Oper.semAt_some
theorem oneU : Go.Proofs.OneCell encU := fun _ => rfl
theorem holdsU {w : World} {base g cap : Nat} {es : List Int} (h : w.ownsRow base 23 1 (.slice (some ⟨g, 0, none⟩) es.length cap) es.length (es.map encU)) : Go.Sort.Holds encU w g 0 es.toArray := by
  obtain ⟨_, h2⟩ := h
  rcases h2 with ⟨hv, _⟩ | ⟨g', cap', cur, hv, hb, hh, hnc, hcm, hcs, ht⟩
  · cases hv
  injection hv with ha _ hc
  injection ha with ha
  injection ha with hg
  subst hg
  intro j hj
  have hj' : j < es.length := by simpa using hj
  refine ⟨?_, by simp [World.frozen?, hh]⟩
  rw [Nat.mul_one] at ht
  have h3 : (cur.toList.take es.length)[j]? = (es.map encU)[j]? := by rw [ht]
  rw [List.getElem?_take_of_lt hj'] at h3
  simp only [World.cell?, hh, Nat.zero_add]
  simp only [Option.isSome_none, Bool.false_eq_true, if_false]
  rw [← Array.getElem?_toList, h3]
  simp [hj']
theorem sortedU {w : World} {base g cap n : Nat} {os : Array Obj} {es ts : List Int} (h : w.ownsRow base 23 1 (.slice (some ⟨g, 0, none⟩) es.length cap) es.length (es.map encU)) (hd : ts.length = es.length) :
    (Go.Proofs.sortWorld encU w g 0 n ts.toArray os).ownsRow base 23 1 (.slice (some ⟨g, 0, none⟩) es.length cap) ts.length (ts.map encU) ∧ w.grownBy (Go.Proofs.sortWorld encU w g 0 n ts.toArray os) (some g) := by
  obtain ⟨_, h2⟩ := h
  rcases h2 with ⟨hv, _⟩ | ⟨g', cap', cur, hv, hb, hh, hnc, hcm, hcs, ht⟩
  · cases hv
  injection hv with ha _ hc
  injection ha with ha
  injection ha with hg
  subst hg; subst hc
  have hgl : g < w.heap.size := (Array.getElem?_eq_some_iff.1 hh).1
  have hheap : (Go.Proofs.sortWorld encU w g 0 n ts.toArray os).heap[g]? = some (.cells (Go.Sort.putCells encU 0 ts.toArray cur) 23 (0, 0)) := by
    unfold Go.Proofs.sortWorld
    rw [Go.Sort.heap_grow_old _ _ (by simpa [Go.Sort.putRow, Go.Sort.mapBlock, Go.Sort.ahead] using hgl)]
    simp [Go.Sort.putRow, Go.Sort.mapBlock, Go.Sort.ahead, Array.getElem?_modify, hh, Go.Sort.onCells]
  have hgr : w.grownBy (Go.Proofs.sortWorld encU w g 0 n ts.toArray os) (some g) := by
    refine ⟨rfl, rfl, rfl, by simp [Go.Proofs.sortWorld, Go.Sort.grow, Go.Sort.putRow, Go.Sort.mapBlock, Go.Sort.ahead], fun k hk hne => ?_⟩
    unfold Go.Proofs.sortWorld
    rw [Go.Sort.heap_grow_old _ _ (by simpa [Go.Sort.putRow, Go.Sort.mapBlock, Go.Sort.ahead] using hk)]
    have : g ≠ k := fun e => hne (by rw [e])
    simp [Go.Sort.putRow, Go.Sort.mapBlock, Go.Sort.ahead, Array.getElem?_modify, this]
  refine ⟨⟨by simp, Or.inr ⟨g, cap, _, by rw [hd], hb, hheap, by rw [hd]; exact hnc, hcm, by simp [Go.Sort.putCells, hcs], ?_⟩⟩, hgr⟩
  have hfit : ts.length ≤ cur.size := by rw [hcs, hd]; omega
  rw [Nat.mul_one]
  apply List.ext_getElem?
  intro j
  by_cases hj : j < ts.length
  · rw [List.getElem?_take_of_lt hj, Array.getElem?_toList]
    have hj3 : j < cur.size := by omega
    simp [Go.Sort.putCells, hj, hj3]
  · rw [List.getElem?_take_eq_none (by omega), List.getElem?_eq_none (by simp; omega)]

/-- slices.SortFunc(row, down). -/
theorem sortU_k (w : World) (base : Nat) (v : Value) (es : List Int) (h : w.ownsRow base 23 1 v es.length (es.map encU)) (hsz : es.length < 4611686018427387904) :
    Calls Try.prog 29 #[v, .func (.func 21) #[] #[]] w fun e w' => e = .returned (.tuple #[]) ∧ ∃ ts : List Int, ts.Perm es ∧ ts.Pairwise (fun a b => b ≤ a) ∧ w'.ownsRow base 23 1 v ts.length (ts.map encU) ∧ w.grownBy w' v.ownBlock := by
  have h0 := h
  rcases h0.2 with ⟨rfl, hz⟩ | ⟨g, cap, cur, rfl, hbase, hgb, r1, r2, r3, r4⟩
  · have hnil : es = [] := List.length_eq_zero_iff.1 hz
    subst hnil
    have hcon := Go.Proofs.AnyF.slices_SortFunc_none (P := Try.prog) (ρ := sortU_ren) { sortU with } none 0 (.func (.func 21) #[] #[]) w
    change Calls Try.prog 29 _ _ _ at hcon
    refine hcon.mono ?_
    rintro e w' ⟨rfl, rfl⟩
    exact ⟨rfl, [], List.Perm.refl _, List.Pairwise.nil, h, ⟨rfl, rfl, rfl, Nat.le_refl _, fun _ _ _ => rfl⟩⟩
  · have hgl : g < w.heap.size := (Array.getElem?_eq_some_iff.1 hgb).1
    have eg : ∀ args w, (callFunc 21 args).run Try.prog w = .ok (.enter 21 args) w := enters_of Try.func21 (by kernel_rfl) rfl
    have hcon := Go.Proofs.Any.slices_SortFunc_total sortU encU oneU cmpD swoD 21 #[] g 0 cap es.toArray w eg (fun m os dk _ x y => (down_k x y _).mono (fun e w' hh => ⟨hh.1, 0, #[], by rw [hh.2]; simp [World.drewN]⟩)) (holdsU h) hgl (by simpa using hsz) (fun x y h1 h2 => by
      rw [ltOf_cmpD] at h1 h2; simp at h1 h2; omega)
    change Calls Try.prog 29 _ _ _ at hcon
    rw [List.size_toArray] at hcon
    refine hcon.mono ?_
    rintro e w' ⟨rfl, n, os, rfl⟩
    have hperm : (es.mergeSort (fun x y => !(Go.Proofs.ltOf cmpD) y x)).Perm es := List.mergeSort_perm _ _
    have hpw : (es.mergeSort (fun x y => !(Go.Proofs.ltOf cmpD) y x)).Pairwise (fun a b => (!(Go.Proofs.ltOf cmpD) b a) = true) := List.pairwise_mergeSort (fun a b c h1 h2 => by
      rw [ltOf_cmpD] at *; simp at *; omega) (fun a b => by rw [ltOf_cmpD, ltOf_cmpD]; simp; omega) es
    obtain ⟨hR, hgr⟩ := sortedU (n := n) (os := os) h hperm.length_eq
    refine ⟨rfl, _, hperm, hpw.imp (fun {a b} hh => by rw [ltOf_cmpD] at hh; simpa using hh), hR, hgr⟩

set_option maxHeartbeats 2000000 in
/-- slices.SortedFunc(seq, down). -/
theorem sortedFunc_k (g : Nat) (lb : Array Value) (eg : ∀ args w, (callFunc g args).run Try.prog w = .ok (.enter g args) w)
    (S Sp : List Int → Prop) (N : Nat) (hN : N ≤ maxLen) (hNb : N * 8 ≤ 140737488355328) (w : World) (hseq : SeqStops Fence.wide 2 Try.prog g lb encU (fun ss => S ss ∧ ss.length ≤ N) Sp N w) :
    Calls Try.prog 23 #[.func (.func g) #[] lb, .func (.func 21) #[] #[]] w fun e w' => ∃ (v : Value) (ss ts : List Int), e = .returned v ∧ S ss ∧ ss.length ≤ N ∧ ts.Perm ss ∧ ts.Pairwise (fun a b => b ≤ a) ∧ w'.ownsRow w.heap.size 23 1 v ts.length (ts.map encU) ∧ Below w.heap.size w w' := by
  refine (callsIn_wide (n := 5)).1 ?_
  have hcol := collect_in Fence.wide 4 trivial trivial rfl (by omega) g lb trivial eg _ Sp N hN hNb w hseq
  have hsrt := fun (W : World) (v : Value) (es : List Int) h hsz => callsIn_wide (n := 4) |>.2 (sortU_k W w.heap.size v es h hsz)
  have hfc : Fence.wide.fn 28 := trivial
  have hfs : Fence.wide.fn 29 := trivial
  refine callsIn_of_wp Try.func23 rfl trivial ?_ rfl
  simp only [Try.ntmps23, List.size_toArray, List.length_cons, List.length_nil, Nat.reduceAdd, Nat.reduceSub, Array.replicate_succ, Array.replicate_zero, List.push_toArray, List.append_toArray, List.nil_append, List.cons_append]
  gi_wp2_with (first
    | (gi_at_call 28; refine hcol.mono ?_; rintro e w' ⟨v, ss, rfl, ⟨hS, hlen⟩, hrow, hb⟩)
    | (gi_at_call 29; refine (hsrt _ _ ss hrow (by omega)).mono ?_; rintro e w'' ⟨rfl, ts, hp, hpw, hrow2, hgr⟩))
  go_ret
  exact ⟨v, ss, ts, rfl, hS, hlen, hp, hpw, hrow2, hb.grown hgr hb.size (fun k hk => own_base hrow k hk)⟩
end Go.Proofs.Ytcikngokiodabaa.K

namespace Go.Proofs.Ytcikngokiodabaa.K
open Go.RowKit Go.Proofs.YtcikngokiodabaaW.PrintWords Go.Proofs.YtcikngokiodabaaW.PrintLast Go.Proofs.YtcikngokiodabaaW.PrintMore Go.Proofs.Ytcikngokiodabaa
attribute [local go_sem] max2_int min2_int max_two min_two max_three min_three max_four min_four
set_option linter.unusedVariables false
set_option linter.unusedSimpArgs false
open Go
def dist (cs : List Int) : List Int := cs.foldl (fun acc x => if x ∈ acc then acc else acc ++ [x]) []
theorem dist_snoc (cs : List Int) (x : Int) : dist (cs ++ [x]) = if x ∈ dist cs then dist cs else dist cs ++ [x] := by
  unfold dist; rw [List.foldl_append]; rfl
theorem snoc_ind {p : List Int → Prop} (h0 : p []) (hs : ∀ l x, p l → p (l ++ [x])) (l : List Int) : p l := by
  have : ∀ r : List Int, p r.reverse := fun r => by
    induction r with
    | nil => exact h0
    | cons x r ih => rw [List.reverse_cons]; exact hs _ _ ih
  simpa using this l.reverse
theorem mem_dist (x : Int) (cs : List Int) : x ∈ dist cs ↔ x ∈ cs := by
  induction cs using snoc_ind with
  | h0 => simp [dist]
  | hs l y ih =>
    rw [dist_snoc]
    by_cases h : y ∈ dist l
    · rw [if_pos h, ih, List.mem_append, List.mem_singleton]
      constructor
      · exact Or.inl
      · rintro (h1 | rfl)
        · exact h1
        · exact ih.1 h
    · rw [if_neg h, List.mem_append, List.mem_append, ih]
theorem nodup_dist (cs : List Int) : (dist cs).Nodup := by
  induction cs using snoc_ind with
  | h0 => simp [dist]
  | hs l y ih =>
    rw [dist_snoc]
    by_cases h : y ∈ dist l
    · rw [if_pos h]; exact ih
    · rw [if_neg h, List.nodup_append]
      exact ⟨ih, by simp, fun a ha b hb e => by rw [List.mem_singleton] at hb; subst hb; subst e; exact h ha⟩
/-- How many unlike counts are greater. -/
def abv (cs : List Int) (x : Int) : Nat := (dist cs).countP (fun y => decide (x < y))
/-- A class. -/
def cls (cs : List Int) (x : Int) : Int := if 255 < (abv cs x : Int) then 255 else (abv cs x : Int)
theorem abv_of (cs ts : List Int) (hn : ts.Nodup) (hm : ∀ x, x ∈ ts ↔ x ∈ cs) (x : Int) : abv cs x = ts.countP (fun y => decide (x < y)) := by
  unfold abv
  refine List.Perm.countP_eq _ ((List.perm_ext_iff_of_nodup (nodup_dist cs) hn).2 (fun y => ?_))
  rw [mem_dist, hm]
theorem abv_idx (cs ts : List Int) (hn : ts.Nodup) (hm : ∀ x, x ∈ ts ↔ x ∈ cs) (hp : ts.Pairwise (fun a b => b ≤ a)) (i : Nat) (hi : i < ts.length) : abv cs ts[i] = i := by
  rw [abv_of cs ts hn hm]
  have hs : ts.Pairwise (fun a b => b < a) := (hp.and hn).imp (fun {a b} h => by omega)
  rw [List.pairwise_iff_getElem] at hs
  have e : ts.countP (fun y => decide (ts[i] < y)) = (ts.take i ++ ts.drop i).countP (fun y => decide (ts[i] < y)) := by rw [List.take_append_drop]
  rw [e, List.countP_append]
  have h1 : (ts.take i).countP (fun y => decide (ts[i] < y)) = (ts.take i).length := by
    rw [List.countP_eq_length]
    intro a ha
    obtain ⟨j, hj, rfl⟩ := List.mem_iff_getElem.1 ha
    rw [List.length_take] at hj
    rw [List.getElem_take]
    exact decide_eq_true (hs j i (by omega) hi (by omega))
  have h2 : (ts.drop i).countP (fun y => decide (ts[i] < y)) = 0 := by
    rw [List.countP_eq_zero]
    intro a ha
    obtain ⟨j, hj, rfl⟩ := List.mem_iff_getElem.1 ha
    rw [List.length_drop] at hj
    rw [List.getElem_drop]
    have h3 : ¬ ts[i] < ts[i + j] := by
      by_cases h : j = 0
      · subst h; simp
      · have := hs i (i + j) hi (by omega) (by omega); omega
    simpa using h3
  rw [h1, h2, List.length_take]
  omega
end Go.Proofs.Ytcikngokiodabaa.K

namespace Go.Proofs.Ytcikngokiodabaa.K
open Go.RowKit Go.Proofs.YtcikngokiodabaaW.PrintWords Go.Proofs.YtcikngokiodabaaW.PrintLast Go.Proofs.YtcikngokiodabaaW.PrintMore Go.Proofs.Ytcikngokiodabaa
attribute [local go_sem] max2_int min2_int max_two min_two max_three min_three max_four min_four
set_option linter.unusedVariables false
set_option linter.unusedSimpArgs false
open Go Go.RowKit Go.Maps Go.Proofs.Ytcikngokiodabaa.PR13
abbrev MapW (w : World) (b n : Nat) (D : DataW Nat) : Prop := w.ownsMap Try.prog 23 (plainElem Try.prog 3) b n D
theorem MapW.below {w w' : World} {b n : Nat} {D : DataW Nat} (h : MapW w b n D) (hb : Below w.heap.size w w') : MapW w' b n D := by
  have hbl := World.ownsMap.lt h
  obtain ⟨es, clock, hbk, Ft, hs, hD⟩ := h
  exact ⟨es, clock, (hb.block b hbl).trans hbk, Ft, hs, hD⟩
/-- The map's keys are just these. -/
def KeysL (D : DataW Nat) (cs : List Int) : Prop := ∀ x, has D (.int .u64 x) = true ↔ x ∈ cs
/-- The classes of the first i of ts are in the map. -/
def Given (D : DataW Nat) (ts : List Int) (i : Nat) : Prop := ∀ (j : Nat) (h : j < ts.length), j < i → ∀ zd, D.atKey (.int .u64 ts[j]) zd = .lit (.int .i64 (if 255 < (j : Int) then 255 else (j : Int)))
theorem isKeyU (x : Int) : WideAt.IsKeyLit (.int .u64 x) := by first | exact trivial | simp [WideAt.IsKeyLit]
theorem KeysL.put {D : DataW Nat} {cs : List Int} (h : KeysL D cs) (hD : IsMap D) (x : Int) (d : DataW Nat) : KeysL (D.put (.int .u64 x) d) (cs ++ [x]) := fun y => by
  by_cases hy : y = x
  · subst hy; rw [has_put_same hD (isKeyU y)]; simp
  · rw [has_put_other (by simp [hy]), h y]; simp [hy]
theorem KeysL.put_same {D : DataW Nat} {cs : List Int} (h : KeysL D cs) (hD : IsMap D) (x : Int) (hx : x ∈ cs) (d : DataW Nat) : KeysL (D.put (.int .u64 x) d) cs := fun y => by
  by_cases hy : y = x
  · subst hy; rw [has_put_same hD (isKeyU y)]; simp [hx]
  · rw [has_put_other (by simp [hy]), h y]
theorem Given.put {D : DataW Nat} {ts : List Int} {i : Nat} (h : Given D ts i) (hD : IsMap D) (hn : ts.Nodup) (hi : i < ts.length) : Given (D.put (.int .u64 ts[i]) (.lit (.int .i64 (if 255 < (i : Int) then 255 else (i : Int))))) ts (i + 1) := fun j hj hji zd => by
  by_cases e : j = i
  · subst e; exact atKey_put_same hD (isKeyU _) _ _
  · rw [atKey_put_other (by
      simp only [ne_eq, Lit.int.injEq, true_and]
      intro h2
      have h3 := List.pairwise_iff_getElem.1 hn
      rcases (show j < i ∨ i < j by omega) with h4 | h4
      · exact h3 j i hj hi h4 h2
      · exact h3 i j hi hj h4 h2.symm)]
    exact h j hj (by omega) zd
theorem rdE (l : List S35) (i : Nat) (h : i < l.length) : rd_T35 l (i : Int) = l[i] := by
  unfold rd_T35
  rw [Int.toNat_natCast, List.getD_eq_getElem?_getD, List.getElem?_eq_getElem h]; rfl
theorem take_f1 (l : List S35) (i : Nat) (h : i < l.length) : (l.take (i + 1)).map S35.f1 = (l.take i).map S35.f1 ++ [(l[i]).f1] := by
  rw [List.take_add_one, List.getElem?_eq_getElem h, List.map_append]; rfl
theorem row_slice {w : World} {base e size n : Nat} {v : Value} {xs : List Value} (h : w.ownsRow base e size v n xs) : ∃ A c, v = .slice A n c ∧ n ≤ c := by
  rcases h.2 with ⟨rfl, h0⟩ | ⟨g, cap, _, rfl, _, _, h1, _⟩
  · exact ⟨none, 0, by rw [h0], by omega⟩
  · exact ⟨_, _, rfl, h1⟩
theorem keyU {x : Int} (h : (Lit.int .u64 x).wf = true) : keyOf Try.prog 23 (.int .u64 x) = some (.int .u64 x) := by
  simp [keyOf, Try.underlying23, mapKey, h]
def classesL (l : List S35) : List Int := l.map (fun x => cls (l.map S35.f1) x.f1)

set_option maxHeartbeats 4000000 in
set_option maxRecDepth 100000 in
theorem classes_k (A : Option Addr) (c : Nat) (l : List S35) (w : World) (hC : Kd.C k35 w A l.length l) (hc : l.length ≤ c) (hl : l.length ≤ 1048576) (hw : ∀ x ∈ l, (Lit.int .u64 x.f1).wf = true) :
    Calls Try.prog 13 #[.slice A l.length c] w fun e w' => ∃ v : Value, e = .returned v ∧ Kd.R (Kd.int .i64) 3 w' w.heap.size (fun _ => True) v (classesL l) ∧ Below w.heap.size w w' := by
  have HC := Aside0.mk hC; have HW := Aside0.mk hw
  clear hC hw
  have hmx : 1048577 * 4 ≤ maxLen := by decide
  have hmm := @run_makeMap Try.prog
  have huE := Try.underlying35
  go_enter Try.func13, Try.ntmps13
  go_wp2
  have HB0 : Aside0 (Below w.heap.size w (w.alloc (.map #[] 0))) := ⟨(Below.refl _ w).alloc (Nat.le_refl _) _⟩
  have HM0 : Aside0 (MapW (w.alloc (.map #[] 0)) w.heap.size 0 (.map [])) := ⟨World.ownsMap_made w Try.prog _ _⟩
  go_loopg [15] l.length (fun gg v15 wr => ∃ (i : Nat) (D : DataW Nat), v15 = .int .i64 i ∧ Aside0 (i ≤ l.length ∧ l.length ≤ gg + i) ∧ Aside0 (MapW wr w.heap.size i D) ∧ Aside0 (KeysL D ((l.take i).map S35.f1)) ∧ Aside0 (Below w.heap.size w wr))
  case atStart => exact ⟨0, _, rfl, ⟨by omega⟩, HM0, ⟨fun x => by simp [has]⟩, HB0⟩
  case round =>
    obtain ⟨i, D, rfl, HI, HM, HK, HB⟩ := hrel
    by_cases hlt : i < l.length
    · have hcb : decide ((i : Int) < (l.length : Int)) = true := decide_eq_true (by omega)
      have q0 : (0 : Int) ≤ (i : Int) := by omega
      have q1 : (i : Int) < (l.length : Int) := by omega
      obtain ⟨ad, e0, a0, a1⟩ := at_T35 (Kd.C_below HC.out HB.out) (i : Int) q0 q1
      cases e0
      have hwf := HW.out l[i] (List.getElem_mem hlt)
      have htk := take_f1 l i hlt
      have hrd := rdE l i hlt
      rw [← hrd] at hwf htk
      generalize rd_T35 l (i : Int) = x at a0 a1 hwf htk
      have HTK := Aside0.mk htk; have HKX := Aside0.mk (keyU hwf)
      clear hrd htk hwf
      rw [Int.toNat_natCast] at a0 a1
      have hnl : i < maxLen := by omega
      go_wp2_with (first | (at_mapUpdate; refine wpList_mapUpdate_own _ rfl _ _ _ 45 rfl 23 3 keyedU Try.underlying45 _ w.heap.size i D rfl (by repeat (first | exact HM.out | apply World.ownsMap.alloc | apply World.ownsMap.drew)) hnl _ _ (.int .u64 x.f1) rfl rfl HKX.out (.lit (.int .i64 0)) [] (plainElem_int Try.underlying3 (by decide)) ?_; intro w1 hown1 hgrow1))
      have hsz := HB.out.size
      have hsz0 : w.heap.size + 1 ≤ wr.heap.size := World.ownsMap.lt HM.out
      go_roundg (l.length - (i + 1))
      case measure => have := HI.out; omega
      case rel =>
        exact ⟨i + 1, _, congrArg (Value.int .i64) (by omega), ⟨by omega⟩, ⟨hown1⟩, ⟨by rw [HTK.out]; exact HK.out.put (World.ownsMap.isMap HM.out) _ _⟩, ⟨(HB.out.alloc HB.out.size _).grown hgrow1 (by simp; omega) (fun k e => by cases e; exact Nat.le_refl _)⟩⟩
    · have hcb : decide ((i : Int) < (l.length : Int)) = false := decide_eq_false (by omega)
      have ei : i = l.length := by have := HI.out; omega
      subst ei
      have hK : KeysL D (l.map S35.f1) := by have := HK.out; rwa [List.take_length] at this
      have HK2 := Aside0.mk hK
      have hms : Maps.size D ≤ l.length := World.ownsMap.size_le HM.out
      have hMW : MapW (wr.alloc (.cells #[.map (some w.heap.size)] 45)) w.heap.size l.length D := World.ownsMap.alloc HM.out _
      have hseq := keys_stops Fence.wide 2 trivial rfl (by omega) wr.heap.size w.heap.size l.length D (wr.alloc (.cells #[.map (some w.heap.size)] 45)) (by simp) (by simp) hMW
      have cS := sortedFunc_k 30 #[.pointer (some ⟨wr.heap.size, 0, none⟩)] (enters_of Try.func30 (by kernel_rfl) rfl) (Keys D) (fun _ => True) (Maps.size D) (by omega) (by omega) _ hseq
      have cK : ∀ mb W, Calls Try.prog 24 #[.map mb] W fun e w' => e = .returned (.func (.func 30) #[] #[.pointer (some ⟨W.heap.size, 0, none⟩)]) ∧ w' = W.alloc (.cells #[.map mb] 45) := fun mb W => callsIn_wide.1 (keys_in Fence.wide 5 trivial rfl mb W)
      have CS := Aside0.mk cS
      have HMW := Aside0.mk hMW
      have hsz0 : w.heap.size < wr.heap.size := World.ownsMap.lt HM.out
      clear cS hMW hseq hK HK
      go_wp2_with (first
        | (go_at_call 24; refine (cK _ _).mono ?_; rintro e w' ⟨rfl, rfl⟩)
        | (go_at_call 23; refine CS.out.mono ?_; rintro e w2 ⟨v, ss, ts, rfl, hS, hlen, hp, hpw, hrow, hb2⟩; obtain ⟨A2, c2, rfl, hc2⟩ := row_slice hrow))
      have hR : Kd.R (Kd.int .u64) 23 w2 (w.heap.size + 1) (fun k => w.heap.size < k) (.slice A2 ts.length c2) ts := Kd.R_lower (Kd.R_of_own hrow (fun k hk => by have := own_base hrow k hk; simp at this; omega)) (by simp; omega)
      have hMW2 : MapW w2 w.heap.size l.length D := MapW.below HMW.out hb2
      have hB2 : Below w.heap.size w w2 := (HB.out.alloc HB.out.size _).trans (hb2.mono (by simp; omega))
      have hnd : ts.Nodup := hp.nodup_iff.2 hS.1
      have hmem : ∀ x, x ∈ ts ↔ x ∈ l.map S35.f1 := fun x => by rw [hp.mem_iff, hS.2 x, HK2.out x]
      have htl : ts.length ≤ l.length := by rw [hp.length_eq]; omega
      have htw : ∀ x ∈ ts, (Lit.int .u64 x).wf = true := fun x hx => by
        obtain ⟨y, hy, rfl⟩ := List.mem_map.1 ((hmem x).1 hx)
        exact HW.out y hy
      have hcl : ∀ (j : Nat) (h : j < ts.length), cls (l.map S35.f1) ts[j] = if 255 < (j : Int) then 255 else (j : Int) := fun j h => by
        unfold cls; rw [abv_idx _ ts hnd hmem hpw j h]
      have HR2 := Aside0.mk hR; have HMW2 := Aside0.mk hMW2; have HB2 := Aside0.mk hB2; have HND := Aside0.mk hnd; have HMEM := Aside0.mk hmem; have HTW := Aside0.mk htw; have HCL := Aside0.mk hcl
      clear hR hMW2 hB2 hnd hmem htw hcl hS hlen hp hpw hrow hb2 CS HMW HM HB cK
      go_loopg [28] ts.length (fun gg v28 wr2 => ∃ (j : Nat) (E : DataW Nat), v28 = .int .i64 j ∧ Aside0 (j ≤ ts.length ∧ ts.length ≤ gg + j) ∧ Aside0 (MapW wr2 w.heap.size (l.length + j) E) ∧ Aside0 (KeysL E (l.map S35.f1)) ∧ Aside0 (Given E ts j) ∧ Aside0 (Below w.heap.size w wr2) ∧ Aside0 (Kd.R (Kd.int .u64) 23 wr2 (w.heap.size + 1) (fun k => w.heap.size < k) (.slice A2 ts.length c2) ts))
      case atStart => exact ⟨0, D, rfl, ⟨by omega⟩, HMW2, HK2, ⟨fun j _ h => absurd h (by omega)⟩, HB2, HR2⟩
      case round =>
        obtain ⟨j, E, rfl, HJ, HM, HK, HG, HB, HR⟩ := hrel
        by_cases hlt2 : j < ts.length
        · have hcb2 : decide ((j : Int) < (ts.length : Int)) = true := decide_eq_true (by omega)
          have q0 : (0 : Int) ≤ (j : Int) := by omega
          have q1 : (j : Int) < (ts.length : Int) := by omega
          obtain ⟨Ax, cx, ex, hlx, hCx⟩ := Kd.R_reads HR.out
          injection ex with ex1 _ ex2
          subst ex1; subst ex2
          obtain ⟨ad2, e2, b0⟩ := Kd.at_int hCx (j : Int) q0 q1
          cases e2
          have hrd : rd ts (j : Int) = ts[j] := by unfold rd; rw [Int.toNat_natCast, List.getD_eq_getElem?_getD, List.getElem?_eq_getElem hlt2]; rfl
          have hwf := HTW.out ts[j] (List.getElem_mem hlt2)
          have hput := HG.out.put (World.ownsMap.isMap HM.out) HND.out hlt2
          have hkp := HK.out.put_same (World.ownsMap.isMap HM.out) ts[j] ((HMEM.out _).1 (List.getElem_mem hlt2)) (.lit (.int .i64 (if 255 < (j : Int) then 255 else (j : Int))))
          rw [hrd, Int.toNat_natCast] at b0
          generalize ts[j] = x at b0 hwf hput hkp
          have hkx := keyU hwf
          have HKX := Aside0.mk hkx; have HPT := Aside0.mk hput; have HKP := Aside0.mk hkp
          have hsz0 : w.heap.size < wr.heap.size := World.ownsMap.lt HM.out
          have hnl : l.length + j < maxLen := by omega
          clear hrd hwf hput hkp hkx hCx
          by_cases h255 : 255 < (j : Int)
          · have h255b : decide (255 < (j : Int)) = true := decide_eq_true h255
            rw [if_pos h255] at HPT HKP
            go_wp2_with (first | (at_mapUpdate; refine wpList_mapUpdate_own _ rfl _ _ _ 45 rfl 23 3 keyedU Try.underlying45 _ w.heap.size (l.length + j) E rfl (by repeat (first | exact HM.out | apply World.ownsMap.alloc | apply World.ownsMap.drew)) hnl _ _ (.int .u64 x) rfl rfl HKX.out (.lit (.int .i64 255)) [] (plainElem_int Try.underlying3 (by decide)) ?_; intro w1 hown1 hgrow1))
            go_roundg (ts.length - (j + 1))
            case measure => have := HJ.out; omega
            case rel =>
              exact ⟨j + 1, _, congrArg (Value.int .i64) (by omega), ⟨by omega⟩, ⟨hown1⟩, HKP, HPT, ⟨HB.out.grown hgrow1 HB.out.size (fun k e => by cases e; exact Nat.le_refl _)⟩, ⟨Kd.R_grown HR.out hgrow1 (fun k hk e => by cases e; omega)⟩⟩
          · have h255b : decide (255 < (j : Int)) = false := decide_eq_false h255
            rw [if_neg h255] at HPT HKP
            have HWJ : Aside0 ((Lit.int .i64 (j : Int)).wf = true) := ⟨by simp [Lit.wf, IntKind.min, IntKind.max, IntKind.bits, IntKind.signed]; omega⟩
            go_wp2_with (first | (at_mapUpdate; refine wpList_mapUpdate_own _ rfl _ _ _ 45 rfl 23 3 keyedU Try.underlying45 _ w.heap.size (l.length + j) E rfl (by repeat (first | exact HM.out | apply World.ownsMap.alloc | apply World.ownsMap.drew)) hnl _ _ (.int .u64 x) rfl rfl HKX.out (.lit (.int .i64 (j : Int))) [] (plainElem_int Try.underlying3 HWJ.out) ?_; intro w1 hown1 hgrow1))
            go_roundg (ts.length - (j + 1))
            case measure => have := HJ.out; omega
            case rel =>
              exact ⟨j + 1, _, congrArg (Value.int .i64) (by omega), ⟨by omega⟩, ⟨hown1⟩, HKP, HPT, ⟨HB.out.grown hgrow1 HB.out.size (fun k e => by cases e; exact Nat.le_refl _)⟩, ⟨Kd.R_grown HR.out hgrow1 (fun k hk e => by cases e; omega)⟩⟩
        · have hcb2 : decide ((j : Int) < (ts.length : Int)) = false := decide_eq_false (by omega)
          have ej : j = ts.length := by have := HJ.out; omega
          subst ej
          have hsz0 : w.heap.size < wr.heap.size := World.ownsMap.lt HM.out
          have HN : Aside0 (∀ x ∈ l, ∀ zd, E.atKey (.int .u64 x.f1) zd = .lit (.int .i64 (cls (l.map S35.f1) x.f1))) := ⟨fun x hx zd => by
            obtain ⟨t, ht, e⟩ := List.mem_iff_getElem.1 ((HMEM.out x.f1).2 (List.mem_map.2 ⟨x, hx, rfl⟩))
            rw [← e, HG.out t ht ht zd, HCL.out t ht]⟩
          clear HG HCL HMEM HTW HND HR HK hcb2
          go_wp2
          obtain ⟨nm, hnm⟩ : ∃ nm, l.length + ts.length = nm := ⟨_, rfl⟩
          rw [hnm] at HM
          clear HR2 HMW2 HB2 HK2 hnm
          obtain ⟨F, hF⟩ : ∃ F : S35 → Int, F = fun x => cls (l.map S35.f1) x.f1 := ⟨_, rfl⟩
          have HF := Aside0.mk hF
          have HN2 : Aside0 (∀ x ∈ l, ∀ zd, E.atKey (.int .u64 x.f1) zd = .lit (.int .i64 (F x))) := ⟨fun x hx zd => by rw [HF.out]; exact HN.out x hx zd⟩
          clear hF HN
          go_loopg [9, 40] l.length (fun gg v9 v40 wr3 => ∃ i : Nat, v40 = .int .i64 i ∧ Aside0 (i ≤ l.length ∧ l.length ≤ gg + i) ∧ Aside0 (MapW wr3 w.heap.size nm E) ∧ Aside0 (Kd.R (Kd.int .i64) 3 wr3 w.heap.size (fun k => k ≠ w.heap.size) v9 ((l.take i).map F)) ∧ Aside0 (Below w.heap.size w wr3))
          case atStart => exact ⟨0, rfl, ⟨by omega⟩, HM, ⟨Kd.R_nil _ _ _ _ _⟩, HB⟩
          case round =>
            obtain ⟨i, rfl, HI, HM, HR, HB⟩ := hrel
            by_cases hlt : i < l.length
            · have hcb : decide ((i : Int) < (l.length : Int)) = true := decide_eq_true (by omega)
              have q0 : (0 : Int) ≤ (i : Int) := by omega
              have q1 : (i : Int) < (l.length : Int) := by omega
              obtain ⟨ad, e0, a0, a1⟩ := at_T35 (Kd.C_below HC.out HB.out) (i : Int) q0 q1
              cases e0
              have hwf := HW.out l[i] (List.getElem_mem hlt)
              have hN := HN2.out l[i] (List.getElem_mem hlt)
              have htk : (l.take (i + 1)).map F = (l.take i).map F ++ [F l[i]] := by rw [List.take_add_one, List.getElem?_eq_getElem hlt, List.map_append]; rfl
              have hrd := rdE l i hlt
              rw [← hrd] at hwf htk hN
              generalize rd_T35 l (i : Int) = x at a0 a1 hwf htk hN
              have HTK := Aside0.mk htk; have HKX := Aside0.mk (keyU hwf); have HNX := Aside0.mk hN
              clear hrd htk hwf hN
              rw [Int.toNat_natCast] at a0 a1
              have hln : ((l.take i).map F).length + 1 ≤ 1048577 := by rw [List.length_map, List.length_take]; omega
              have HLN := Aside0.mk hln
              obtain ⟨xs, hxs⟩ : ∃ xs, (l.take i).map F = xs := ⟨_, rfl⟩
              rw [hxs] at HR HTK HLN
              clear hln hxs
              have hbz := HB.out.size
              go_upto_region 17 with fail
              have hnew : (wr.alloc (.cells #[.string x.f0, .int .u64 x.f1] 35)).cell? ⟨wr.heap.size, 1, none⟩ = some (.int .u64 x.f1) := by simp
              have hM3 : MapW (wr.alloc (.cells #[.string x.f0, .int .u64 x.f1] 35)) w.heap.size nm E := World.ownsMap.alloc HM.out _
              have hB3 : Below w.heap.size w (wr.alloc (.cells #[.string x.f0, .int .u64 x.f1] 35)) := HB.out.alloc HB.out.size _
              have hR3 : Kd.R (Kd.int .i64) 3 (wr.alloc (.cells #[.string x.f0, .int .u64 x.f1] 35)) w.heap.size (fun k => k ≠ w.heap.size) u9 xs := Kd.R_alloc HR.out _
              have hgt : w.heap.size < (wr.alloc (.cells #[.string x.f0, .int .u64 x.f1] 35)).heap.size := World.ownsMap.lt hM3
              generalize wr.alloc (.cells #[.string x.f0, .int .u64 x.f1] 35) = W at hnew hM3 hB3 hR3 hgt ⊢
              have HM3 := Aside0.mk hM3; have HB3 := Aside0.mk hB3; have HR3 := Aside0.mk hR3
              clear hM3 hB3 hR3 HM HB HR a0 a1
              go_wp2_with (first
                | (at_lookup; refine wpList_lookup_own_int _ rfl _ _ 45 rfl 23 3 .i64 keyedU Try.underlying45 Try.underlying3 (Try.zeroValue3 _) w.heap.size nm E rfl (by repeat (first | exact HM3.out | apply World.ownsMap.alloc | apply World.ownsMap.drew)) _ (.int .u64 x.f1) rfl HKX.out ?_; intro cv hat hwc; rw [HNX.out] at hat; injection hat with hat; injection hat with _ hat; subst hat)
                | ((with_reducible refine gate_builtin (b := .append) (xs := #[.tmp 44, .tmp 49]) rfl ?_); at_builtin; refine Kd.R_append (Kd.int .i64) (w0 := w) w.heap.size rfl (.tmp 44) (.tmp 49) 28 3 (.int .i64 0) 8 rfl Try.underlying28 info3 rfl (by decide) (by omega) _ xs (F x) [.int .i64 (F x)] (fun k => k ≠ w.heap.size) (fun _ => False) rfl rfl rfl (fun _ hk => hk.elim) (fun k hk => by omega) (by (with_reducible repeat (first | apply Kd.R_alloc | apply Kd.R_drewN | apply Kd.R_drew)); exact HR3.out) HB3.out (HB3.out).size (by have := HLN.out; omega) ?_); intro v1 w5 hR5 hb5 hg5 hat5)
              go_roundg (l.length - (i + 1))
              case measure => have := HI.out; omega
              case rel =>
                exact ⟨i + 1, congrArg (Value.int .i64) (by omega), ⟨by omega⟩, ⟨World.ownsMap.kept HM3.out hg5 (fun e => HR3.out.1 _ e.symm rfl)⟩, ⟨by rw [HTK.out]; exact hR5⟩, ⟨hb5⟩⟩
            · have hcb : decide ((i : Int) < (l.length : Int)) = false := decide_eq_false (by omega)
              have ei : i = l.length := by have := HI.out; omega
              subst ei
              go_wp2
              go_ret
              refine ⟨_, rfl, ?_, HB.out⟩
              have h6 := HR.out
              rw [List.take_length, HF.out] at h6
              exact Kd.R_mono h6 (fun _ _ => trivial)
end Go.Proofs.Ytcikngokiodabaa.K

namespace Go.Proofs.Ytcikngokiodabaa.K
open Go.RowKit Go.Proofs.YtcikngokiodabaaW.PrintWords Go.Proofs.YtcikngokiodabaaW.PrintLast Go.Proofs.YtcikngokiodabaaW.PrintMore Go.Proofs.Ytcikngokiodabaa
attribute [local go_sem] max2_int min2_int max_two min_two max_three min_three max_four min_four
set_option linter.unusedVariables false
set_option linter.unusedSimpArgs false
open Go Go.Shelf Go.Proofs.Ytcikngokiodabaa.PR13
set_option maxHeartbeats 2000000 in
set_option maxRecDepth 100000 in
theorem cloneE_k (A0 : Option Addr) (c0 : Nat) (l0 : List S35) (w : World) (hr0 : Kd.C k35 w A0 l0.length l0) (hc0 : l0.length ≤ c0) (hlen : l0.length ≤ 1048576) :
    Calls Try.prog 19 #[.slice A0 l0.length c0] w fun e w' => ∃ v0_ : Value, e = .returned (v0_) ∧ Kd.R k35 35 w' w.heap.size (fun _ => True) v0_ l0 ∧ Below w.heap.size w w' := by
  have hq : ∀ (W : World) (a : Option Addr) (n c n' c' : Nat), (binOp .eql 22 (.slice a n c) (.slice none n' c')).run Try.prog W = .ok (.bool a.isNone) W := fun W a n c n' c' => Lib.run_eql_slice_nil W _ _ a n c n' c' Try.underlying22
  cases A0 with
  | none =>
    have h0 : l0 = [] := by
      cases l0 with
      | nil => rfl
      | cons x l =>
        obtain ⟨ad, _, e, _⟩ := Kd.C_get hr0 z35 0 (by omega) (by simp)
        cases e
    subst h0
    go_enter Try.func19, Try.ntmps19
    go_wp2
    go_ret
    exact ⟨_, rfl, Kd.R_nil _ _ _ _ _, Below.refl _ _⟩
  | some ad =>
    have HR := Aside0.mk hr0; clear hr0
    have HL := Aside0.mk hlen; clear hlen
    go_enter Try.func19, Try.ntmps19
    go_wp2_with ((with_reducible refine gate_dst (N := 5) rfl ?_); refine Kd.R_lit (k35) _ 35 ?hg (N := 5) ?hd (xs := []) (inner := []) (ok := fun _ => True) (okp := fun _ => True) ?hr ?hp (fun _ hk => hk) trivial (Below.refl _ _) (Nat.le_refl _) (by simp) ?_; (case hd => rfl); (case hg => rfl); (case hr => first | (go_simp; done) | (go_simp; rfl)); (case hp => exact (Reps.none _ _)))
    intro v1 w1 hR1 hb1 hg1 n1 hn1 hle1
    have HB1 := Aside0.mk hb1
    have HR1 := Aside0.mk hR1
    have HC1 := Aside0.mk (Kd.C_below HR.out hb1)
    clear hR1 hb1 hg1 hn1 hle1 n1
    go_wp2_with ((with_reducible refine gate_builtin (b := .append) (xs := #[.tmp 5, .tmp 6]) rfl ?_); at_builtin; refine Kd.R_append_rows (k35) (w0 := w) w.heap.size rfl (.tmp 5) (.tmp 6) 22 35 (.agg #[(.string ⟨#[]⟩), (.int .u64 0)]) 24 rfl Try.underlying22 info35 rfl (by decide) (by omega) v1 [] l0 _ _ _ (fun _ => True) (fun _ => False) rfl rfl HR1.out HC1.out (fun _ _ h => h) (fun _ h => h.elim) (fun _ _ => trivial) HB1.out (HB1.out).size (by have := HL.out; simp; omega) ?_)
    intro v2 w2 hR2 hb2 hg2 hat2
    have HB2 := Aside0.mk hb2
    have HR2 := Aside0.mk hR2
    clear hR2 hb2 hg2 hat2
    go_wp2
    go_ret
    exact ⟨_, rfl, by simpa using HR2.out, HB2.out⟩
set_option maxHeartbeats 2000000 in
set_option maxRecDepth 100000 in
theorem prune1_k (b : Nat) (least : Int) (x : S35) (W : World) (h : W.cell? ⟨b, 0, none⟩ = some (.int .u64 least)) :
    Calls Try.prog 20 (#[.agg #[.string x.f0, .int .u64 x.f1]] ++ #[.pointer (some ⟨b, 0, none⟩)]) W fun e w' => e = .returned (.bool (decide (x.f1 < least))) ∧ Below W.heap.size W w' := by
  show Calls Try.prog 20 #[.agg #[.string x.f0, .int .u64 x.f1], .pointer (some ⟨b, 0, none⟩)] W _
  have huE := Try.underlying35
  have h2 : (W.alloc (.cells #[.string x.f0, .int .u64 x.f1] 35)).cell? ⟨b, 0, none⟩ = some (.int .u64 least) := ((Below.refl W.heap.size W).alloc (Nat.le_refl _) _ |>.cell (p := ⟨b, 0, none⟩) (World.block_lt_of_cell? W _ h)).trans h
  go_enter Try.func20, Try.ntmps20
  go_wp2
  go_ret
  exact ⟨rfl, (Below.refl _ W).alloc (Nat.le_refl _) _⟩
def idxE (p : S35 → Bool) (es : List S35) : Int := match es.findIdx? p with | some j => (j : Int) | none => -1
theorem idx_step (p : S35 → Bool) (es : List S35) (i : Nat) (h : i < es.length) (hn : p es[i] = false) : (es.drop i).findIdx? p = ((es.drop (i + 1)).findIdx? p).map (· + 1) := by
  rw [List.drop_eq_getElem_cons h, List.findIdx?_cons, if_neg (by simp [hn])]
theorem idx_hit (p : S35 → Bool) (es : List S35) (i : Nat) (h : i < es.length) (hn : p es[i] = true) : (es.drop i).findIdx? p = some 0 := by
  rw [List.drop_eq_getElem_cons h, List.findIdx?_cons, if_pos hn]
set_option maxHeartbeats 4000000 in
set_option maxRecDepth 100000 in
/-- slices.IndexFunc at edges, for whatever predicate that lays no more than blocks of its own. -/
theorem indexFunc_k (g : Nat) (eg : ∀ args w, (callFunc g args).run Try.prog w = .ok (.enter g args) w) (lb : Array Value) (p : S35 → Bool) (A : Option Addr) (c : Nat) (es : List S35) (w : World) (hC : Kd.C k35 w A es.length es) (hc : es.length ≤ c)
    (hp : ∀ (W : World) (x : S35), Below w.heap.size w W → Calls Try.prog g (#[.agg #[.string x.f0, .int .u64 x.f1]] ++ lb) W fun e w' => e = .returned (.bool (p x)) ∧ Below w.heap.size w w') :
    Calls Try.prog 26 #[.slice A es.length c, .func (.func g) #[] lb] w fun e w' => e = .returned (.int .i64 (idxE p es)) ∧ Below w.heap.size w w' := by
  have HC := Aside0.mk hC; have HP := Aside0.mk hp
  have hlen : (es.length : Int) ≤ 9223372036854775807 := by have := hC.2.1; omega
  clear hC hp
  have huE := Try.underlying35
  go_enter Try.func26, Try.ntmps26
  go_wp2
  go_loopg [8] es.length (fun gg v8 wr => ∃ i : Nat, v8 = .int .i64 i ∧ Aside0 (i ≤ es.length ∧ es.length ≤ gg + i) ∧ Aside0 (es.findIdx? p = ((es.drop i).findIdx? p).map (· + i)) ∧ Aside0 (Below w.heap.size w wr))
  case atStart => exact ⟨0, rfl, ⟨by omega⟩, ⟨by simp⟩, ⟨Below.refl _ _⟩⟩
  case round =>
    obtain ⟨i, rfl, hi, hf, hb⟩ := hrel
    by_cases hlt : i < es.length
    · have hcb : decide ((i : Int) < (es.length : Int)) = true := decide_eq_true (by omega)
      have q0 : (0 : Int) ≤ (i : Int) := by omega
      have q1 : (i : Int) < (es.length : Int) := by omega
      obtain ⟨ad, e0, a0, a1⟩ := at_T35 (Kd.C_below HC.out hb.out) (i : Int) q0 q1
      cases e0
      have hcall := HP.out wr (rd_T35 es (i : Int)) hb.out
      have hrd := rdE es i hlt
      generalize hx : rd_T35 es (i : Int) = x at a0 a1 hcall
      have HX : Aside0 (es[i] = x) := ⟨hrd.symm.trans hx⟩
      clear hx hrd
      rw [Int.toNat_natCast] at a0 a1
      cases hq : p x with
      | true =>
        rw [hq] at hcall
        have HQ := Aside0.mk hq; have HCL := Aside0.mk hcall
        clear hq hcall
        go_wp2
        (with_reducible refine HCL.out.mono ?_)
        (first | rintro e w' ⟨rfl, hb'⟩ | rintro e w' rfl hb')
        go_wp2
        go_ret
        refine ⟨?_, hb'⟩
        unfold idxE
        rw [hf.out, idx_hit p es i hlt (by rw [HX.out]; exact HQ.out)]
        simp
      | false =>
        rw [hq] at hcall
        have HQ := Aside0.mk hq; have HCL := Aside0.mk hcall
        clear hq hcall
        go_wp2
        (with_reducible refine HCL.out.mono ?_)
        (first | rintro e w' ⟨rfl, hb'⟩ | rintro e w' rfl hb')
        go_wp2
        go_roundg (es.length - (i + 1))
        case measure => have := hi.out; omega
        case rel =>
          refine ⟨i + 1, congrArg (Value.int .i64) (by omega), ⟨by have := hi.out; omega⟩, ⟨?_⟩, ⟨hb'⟩⟩
          rw [hf.out, idx_step p es i hlt (by rw [HX.out]; exact HQ.out), Option.map_map]
          congr 1
          funext n
          simp only [Function.comp]
          omega
    · have hcb : decide ((i : Int) < (es.length : Int)) = false := decide_eq_false (by omega)
      go_wp2
      go_ret
      refine ⟨?_, hb.out⟩
      unfold idxE
      rw [hf.out, List.drop_eq_nil_of_le (by omega)]
      rfl
end Go.Proofs.Ytcikngokiodabaa.K

namespace Go.Proofs.Ytcikngokiodabaa.K
open Go.RowKit Go.Proofs.YtcikngokiodabaaW.PrintWords Go.Proofs.YtcikngokiodabaaW.PrintLast Go.Proofs.YtcikngokiodabaaW.PrintMore Go.Proofs.Ytcikngokiodabaa
attribute [local go_sem] max2_int min2_int max_two min_two max_three min_three max_four min_four
set_option linter.unusedVariables false
set_option linter.unusedSimpArgs false
open Go Go.Shelf Go.Proofs.Ytcikngokiodabaa.PR13
def zce0 : Array Value := #[.string ⟨#[]⟩, .int .u64 0]
def zce (n : Nat) : List Value := (Builtin.zeroCells zce0 n).toList
theorem zce_len (n : Nat) : (zce n).length = n * 2 := by unfold zce Builtin.zeroCells; simp [zce0]
theorem zce_get (n j : Nat) (h : j < (zce n).length) : (zce n)[j] = zce0[j % 2]! := by
  unfold zce Builtin.zeroCells
  simp [zce0]
theorem zce_one (n : Nat) : ∀ v ∈ zce n, v.oneCell' = true := fun v hv => by
  obtain ⟨j, hj, rfl⟩ := List.getElem_of_mem hv
  rw [zce_get]
  rcases (show j % 2 = 0 ∨ j % 2 = 1 by omega) with h | h <;> rw [h] <;> rfl
theorem reps_take {α : Type} {R : α → List Value → Prop} {ps : List α} {cs : List Value} (i : Nat) (h : Reps R 2 ps cs) (hi : i ≤ ps.length) : Reps R 2 (ps.take i) (cs.take (i * 2)) := by
  refine ⟨?_, fun j p hj => ?_⟩
  · rw [List.length_take, List.length_take, h.1]; omega
  · have hlt : j < i := by
      obtain ⟨hl, _⟩ := List.getElem?_eq_some_iff.1 hj
      rw [List.length_take] at hl; omega
    rw [List.getElem?_take_of_lt hlt] at hj
    have h2 := h.2 j p hj
    rw [List.drop_take, List.take_take, Nat.min_eq_left (by omega)]
    exact h2
/-- clear(s[i:]), and s[:i] behind it. -/
theorem clear_tail {w : World} {base g cap : Nat} {ok : Nat → Prop} {l : List S35} (h : Kd.R k35 35 w base ok (.slice (some ⟨g, 0, none⟩) l.length cap) l) (i : Nat) (hi : i < l.length) (ty : TypeId) (c2 : Nat) :
    (Builtin.clear_ #[22] ty #[.slice (some ⟨g, i * 2, none⟩) (l.length - i) c2]).run Try.prog w = .ok (.tuple #[]) (w.setCells g (i * 2) (zce (l.length - i))) ∧
    Kd.R k35 35 (w.setCells g (i * 2) (zce (l.length - i))) base ok (.slice (some ⟨g, 0, none⟩) i cap) (l.take i) ∧ w.grownBy (w.setCells g (i * 2) (zce (l.length - i))) (some g) := by
  obtain ⟨hok, inner, ho, hr⟩ := h
  obtain ⟨hil, ho2⟩ := ho
  rcases ho2 with ⟨hv, _⟩ | ⟨g', cap', cur, hv, hb, hh, hnc, hcm, hcs, ht⟩
  · cases hv
  injection hv with ha _ hc
  injection ha with ha
  injection ha with hg
  subst hg; subst hc
  have hfit : i * 2 + (zce (l.length - i)).length ≤ cur.size := by
    rw [zce_len, hcs]
    show i * 2 + (l.length - i) * 2 ≤ cap * 2
    omega
  have hl : (l.take i).length = i := by rw [List.length_take]; omega
  have hok2 : ∀ k, (Value.slice (some ⟨g, 0, none⟩) i cap).ownBlock = some k → ok k := hok
  refine ⟨?_, ?_, ?_⟩
  · have hst := run_storeCells_cells (P := Try.prog) g (i * 2) (zce (l.length - i)) 0 w (fun j hj => by
      have : i * 2 + j < cur.size := by omega
      simp only [World.cell?, hh, Nat.add_zero, Option.isSome_none, Bool.false_eq_true, if_false]
      rw [Array.getElem?_eq_getElem this]; rfl) (fun j hj => blk_frozen hh _) (zce_one _)
    obtain ⟨m, hm⟩ : ∃ m, l.length - i = m + 1 := ⟨l.length - i - 1, by omega⟩
    have hz : ∀ w, (zeroValue 35).run Try.prog w = .ok (.agg zce0) w := Try.zeroValue35
    have hzc : (Value.agg zce0).cells = zce0 := by rfl
    rw [hm] at hst ⊢
    unfold zce at hst ⊢
    simp [Builtin.clear_, run_underlying Try.underlying22, hz, hzc, hst]
  · obtain ⟨cur', h3, h4, h5⟩ := setCells_row (zce (l.length - i)) (i * 2) w cur hh hfit
    have ht2 : cur.toList.take (l.length * 2) = inner := ht
    have hle : i * 2 ≤ cur.toList.length := by rw [Array.length_toList]; omega
    refine ⟨hok2, inner.take (i * 2), ⟨?_, Or.inr ⟨g, cap, cur', by rw [hl], hb, h3, by rw [hl]; omega, hcm, by rw [h4]; exact hcs, ?_⟩⟩, ?_⟩
    · rw [hl, List.length_take, hil]
      show min (i * 2) (l.length * 2) = i * 2
      omega
    · rw [h5, hl, ← ht2]
      show (cur.toList.take (i * 2) ++ zce (l.length - i) ++ cur.toList.drop (i * 2 + (zce (l.length - i)).length)).take (i * 2) = _
      rw [List.append_assoc, List.take_append_of_le_length (by rw [List.length_take]; omega), List.take_take, List.take_take]
      congr 1
      omega
    · exact (reps_take i hr (by omega)).imp_ (fun x c hM => k35_openM hM ▸ k35_mkM _ _ _ _)
  · obtain ⟨s1, s2, s3, s4⟩ := setCells_same g (zce (l.length - i)) (i * 2) w
    exact ⟨s1, s2, s3, Nat.le_of_eq s4.symm, fun k hk hne => setCells_far _ _ k (fun e => hne (by rw [e]))⟩
/-- The entry p stored anew. -/
theorem entry_put {w : World} {base g cap n : Nat} {ok : Nat → Prop} {l : List S35} (h : Kd.R k35 35 w base ok (.slice (some ⟨g, 0, none⟩) n cap) l) {p : Nat} (hp : p < n) {s : S35}
    (hcc : ∀ j u, ([.string s.f0, .int .u64 s.f1] : List Value)[j]? = some u → w.cell? ((⟨g, 0, none⟩ : Addr).add (p * 2 + j)) = some u) (x : S35) :
    Kd.R k35 35 (w.setCells g (p * 2) [.string x.f0, .int .u64 x.f1]) base ok (.slice (some ⟨g, 0, none⟩) n cap) (l.set p x) ∧ w.grownBy (w.setCells g (p * 2) [.string x.f0, .int .u64 x.f1]) (some g) := by
  have hq := Kd.R_seg h (p : Int) (by omega) (by omega) (c := [.string s.f0, .int .u64 s.f1]) (seg := [.string x.f0, .int .u64 x.f1]) (j := 0) rfl (fun j u hj => by have := hcc j u hj; rw [add_plain] at this; rw [Int.toNat_natCast]; exact this) (by exact Nat.le_refl 2) (x' := x) (okp := fun _ => False) (k35_mkM _ _ _ _) (fun _ hk => hk.elim)
  rw [Int.toNat_natCast] at hq
  exact hq
end Go.Proofs.Ytcikngokiodabaa.K

namespace Go.Proofs.Ytcikngokiodabaa.K
open Go.RowKit Go.Proofs.YtcikngokiodabaaW.PrintWords Go.Proofs.YtcikngokiodabaaW.PrintLast Go.Proofs.YtcikngokiodabaaW.PrintMore Go.Proofs.Ytcikngokiodabaa
attribute [local go_sem] max2_int min2_int max_two min_two max_three min_three max_four min_four
set_option linter.unusedVariables false
set_option linter.unusedSimpArgs false
open Go Go.Shelf Go.Proofs.Ytcikngokiodabaa.PR13
def pruneL (l : List S35) (least : Int) : List S35 := l.filter (fun x => !(decide (x.f1 < least)))
theorem egPrune : ∀ args w, (callFunc 20 args).run Try.prog w = .ok (.enter 20 args) w := enters_of Try.func20 (by kernel_rfl) rfl
theorem pruneL_take (l : List S35) (least : Int) (j : Nat) (h : j < l.length) : pruneL (l.take (j + 1)) least = pruneL (l.take j) least ++ (if (l[j]).f1 < least then [] else [l[j]]) := by
  unfold pruneL
  rw [List.take_add_one, List.getElem?_eq_getElem h, List.filter_append]
  congr 1
  by_cases hq : (l[j]).f1 < least
  · simp [hq]
  · simp [hq]
/-- Where the loop stands: i are kept of the first j. -/
structure Kp (l L : List S35) (least : Int) (i j : Nat) : Prop where
  ij : i < j
  jn : j ≤ l.length
  len : L.length = l.length
  rest : L.drop j = l.drop j
  front : L.take i = pruneL (l.take j) least
theorem Kp.at {l L : List S35} {least : Int} {i j : Nat} (h : Kp l L least i j) (hj : j < l.length) : ∃ hq : j < L.length, L[j] = l[j] := by
  have hq : j < L.length := by rw [h.len]; exact hj
  refine ⟨hq, ?_⟩
  have h2 : (L.drop j)[0]? = (l.drop j)[0]? := by rw [h.rest]
  rw [List.getElem?_drop, List.getElem?_drop, Nat.add_zero, List.getElem?_eq_getElem hq, List.getElem?_eq_getElem hj] at h2
  exact Option.some.inj h2
theorem Kp.drop {l L : List S35} {least : Int} {i j : Nat} (h : Kp l L least i j) (hj : j < l.length) (hx : (l[j]).f1 < least) : Kp l L least i (j + 1) where
  ij := by have := h.ij; omega
  jn := hj
  len := h.len
  rest := by rw [← List.drop_drop, ← List.drop_drop, h.rest]
  front := by rw [h.front, pruneL_take l least j hj, if_pos hx, List.append_nil]
theorem Kp.keep {l L : List S35} {least : Int} {i j : Nat} (h : Kp l L least i j) (hj : j < l.length) (hx : ¬ (l[j]).f1 < least) : Kp l (L.set i l[j]) least (i + 1) (j + 1) where
  ij := by have := h.ij; omega
  jn := hj
  len := by rw [List.length_set]; exact h.len
  rest := by
    rw [List.drop_set_of_lt (by have := h.ij; omega), ← List.drop_drop, ← List.drop_drop, h.rest]
  front := by
    have hi : i < L.length := by rw [h.len]; have := h.ij; omega
    rw [pruneL_take l least j hj, if_neg hx, ← h.front, List.take_add_one, List.getElem?_set_self hi, List.take_set_of_le (Nat.le_refl _)]
    rfl
theorem Kp.start {l : List S35} {least : Int} {f : Nat} (hf : f < l.length) (hh : (l[f]).f1 < least) (hb : ∀ (j : Nat) (h : j < f), ¬ (l[j]).f1 < least) : Kp l l least f (f + 1) where
  ij := by omega
  jn := hf
  len := rfl
  rest := rfl
  front := by
    rw [pruneL_take l least f hf, if_pos hh, List.append_nil]
    unfold pruneL
    symm
    rw [List.filter_eq_self]
    intro x hx
    obtain ⟨j, hj, rfl⟩ := List.mem_iff_getElem.1 hx
    rw [List.length_take] at hj
    rw [List.getElem_take]
    have := hb j (by omega)
    simp [this]
set_option maxHeartbeats 4000000 in
set_option maxRecDepth 100000 in
theorem deleteFunc_g (pf : Nat) (eg : ∀ args w, (callFunc pf args).run Try.prog w = .ok (.enter pf args) w) (b : Nat) (least : Int) (hpf : ∀ (x : S35) (W : World), W.cell? ⟨b, 0, none⟩ = some (.int .u64 least) → Calls Try.prog pf #[.agg #[.string x.f0, .int .u64 x.f1], .pointer (some ⟨b, 0, none⟩)] W fun e w' => e = .returned (.bool (decide (x.f1 < least))) ∧ Below W.heap.size W w')
    (w : World) (base g cap : Nat) (l : List S35) (hR : Kd.R k35 35 w base (fun _ => True) (.slice (some ⟨g, 0, none⟩) l.length cap) l) (hgb : b ≠ g) (hb : w.cell? ⟨b, 0, none⟩ = some (.int .u64 least)) (hl : l.length ≤ 1048576) :
    Calls Try.prog 18 #[.slice (some ⟨g, 0, none⟩) l.length cap, .func (.func pf) #[] #[.pointer (some ⟨b, 0, none⟩)]] w fun e w' => ∃ v : Value, e = .returned v ∧ Kd.R k35 35 w' base (fun _ => True) v (pruneL l least) ∧ Below base w w' := by
  obtain ⟨_, hcap, hC⟩ := Kd.R_reads' hR
  have hbg : base ≤ g := Kd.R_base hR g rfl
  have hgl : g < w.heap.size := Kd.R_lt hR g rfl
  have hbl : b < w.heap.size := World.block_lt_of_cell? w _ hb
  have hidx := indexFunc_k pf eg #[.pointer (some ⟨b, 0, none⟩)] (fun x => decide (x.f1 < least)) (some ⟨g, 0, none⟩) cap l w hC hcap (fun W x hB => (hpf x W ((hB.cell (p := ⟨b, 0, none⟩) hbl).trans hb)).mono (fun e w' h => ⟨h.1, hB.trans (h.2.mono hB.size)⟩))
  have HID := Aside0.mk hidx; have HR := Aside0.mk hR
  have HBX := Aside0.mk hb
  have HBG := Aside0.mk (And.intro hbg (And.intro hgl hbl))
  have HGB := Aside0.mk hgb
  have HPF := Aside0.mk hpf
  have hcp : cap ≤ maxLen := by
    obtain ⟨inner, ho⟩ := Kd.R_own hR
    rcases ho.2 with ⟨hv, _⟩ | ⟨g', cap', cur, hv, hb', hh, hnc, hcm, hcs, ht⟩
    · cases hv
    · injection hv with _ _ hc; rw [hc]; exact hcm
  clear hidx hR hb hC hbg hgl hbl hgb hpf
  cases hfi : l.findIdx? (fun x => decide (x.f1 < least)) with
  | none =>
    have hv : idxE (fun x => decide (x.f1 < least)) l = -1 := by unfold idxE; rw [hfi]
    rw [hv] at HID
    have hall : pruneL l least = l := by
      unfold pruneL
      rw [List.filter_eq_self]
      intro x hx
      rw [List.findIdx?_eq_none_iff] at hfi
      have := hfi x hx
      rw [this]; rfl
    rw [hall]
    clear hfi hv hall
    go_enter Try.func18, Try.ntmps18
    go_wp2_with (first | (go_at_call 26; (with_reducible refine (HID.out).mono ?_); rintro e w1 ⟨rfl, hb1⟩))
    go_ret
    exact ⟨_, rfl, Kd.R_below HR.out hb1, hb1.mono (by have := HBG.out; omega)⟩
  | some f =>
    have hv : idxE (fun x => decide (x.f1 < least)) l = (f : Int) := by unfold idxE; rw [hfi]
    rw [hv] at HID
    obtain ⟨hfl, hft, hfb⟩ := List.findIdx?_eq_some_iff_getElem.1 hfi
    have HST := Aside0.mk (Kp.start hfl (of_decide_eq_true hft) (fun j hj hq => by have := hfb j hj; simp [hq] at this))
    have hnm : ((f : Int) == -1) = false := beq_eq_false_iff_ne.2 (by omega)
    clear hfi hv hft hfb
    go_enter Try.func18, Try.ntmps18
    go_wp2_with (first | (go_at_call 26; (with_reducible refine (HID.out).mono ?_); rintro e w1 ⟨rfl, hb1⟩))
    go_loopg [5, 6] l.length (fun gg v5 v6 wr => ∃ (i j : Nat) (L : List S35), v5 = .int .i64 i ∧ v6 = .int .i64 j ∧ Aside0 (l.length ≤ gg + j) ∧ Aside0 (Kp l L least i j) ∧ Aside0 (Kd.R k35 35 wr base (fun _ => True) (.slice (some ⟨g, 0, none⟩) l.length cap) L) ∧ Aside0 (wr.cell? ⟨b, 0, none⟩ = some (.int .u64 least)) ∧ Aside0 (Below base w wr) ∧ Aside0 (w.heap.size ≤ wr.heap.size))
    case atStart => exact ⟨f, f + 1, l, rfl, congrArg (Value.int .i64) (by omega), ⟨by omega⟩, HST, ⟨Kd.R_below HR.out hb1⟩, ⟨(hb1.cell (p := ⟨b, 0, none⟩) HBG.out.2.2).trans HBX.out⟩, ⟨hb1.mono (by have := HBG.out; omega)⟩, ⟨hb1.size⟩⟩
    case round =>
      clear HST HR HBX hb1 HID
      obtain ⟨i, j, L, rfl, rfl, HJ, HK, HR, HBX, HB, HSZ⟩ := hrel
      obtain ⟨hLn, _, hC⟩ := Kd.R_reads' HR.out
      by_cases hlt : j < l.length
      · have hcb : decide ((j : Int) < (l.length : Int)) = true := decide_eq_true (by omega)
        have q0 : (0 : Int) ≤ (j : Int) := by omega
        have q1 : (j : Int) < (l.length : Int) := by omega
        obtain ⟨hLj, hLe⟩ := HK.out.at hlt
        obtain ⟨ad, e0, a0, a1⟩ := at_T35 hC (j : Int) q0 (by omega)
        cases e0
        have hrd := rdE L j hLj
        rw [hrd, hLe, Int.toNat_natCast, add_plain] at a0
        rw [hrd, hLe, Int.toNat_natCast, add_plain] at a1
        obtain ⟨x, hx⟩ : ∃ x, l[j] = x := ⟨_, rfl⟩
        rw [hx] at a0 a1
        have HX := Aside0.mk hx
        have q0b : decide (0 ≤ (j : Int)) = true := decide_eq_true q0
        have HLN := Aside0.mk hLn
        clear hrd hLe hx hC hLn hLj
        go_upto_region 8 with fail
        have hlb : b < wr.heap.size := World.block_lt_of_cell? wr _ HBX.out
        have hlg : g < wr.heap.size := Kd.R_lt HR.out g rfl
        have hnb : Below wr.heap.size wr (wr.alloc (.cells #[.string x.f0, .int .u64 x.f1] 35)) := (Below.refl _ wr).alloc (Nat.le_refl _) _
        have c0 : (wr.alloc (.cells #[.string x.f0, .int .u64 x.f1] 35)).cell? ⟨wr.heap.size, 0, none⟩ = some (.string x.f0) := by simp
        have c1 : (wr.alloc (.cells #[.string x.f0, .int .u64 x.f1] 35)).cell? ⟨wr.heap.size, 1, none⟩ = some (.int .u64 x.f1) := by simp
        have hsz1 : (wr.alloc (.cells #[.string x.f0, .int .u64 x.f1] 35)).heap.size = wr.heap.size + 1 := by simp
        generalize wr.alloc (.cells #[.string x.f0, .int .u64 x.f1] 35) = W at hnb c0 c1 hsz1 ⊢
        have hcall := HPF.out x W ((hnb.cell (p := ⟨b, 0, none⟩) hlb).trans HBX.out)
        have HNB := Aside0.mk hnb; have HC0 := Aside0.mk c0; have HC1 := Aside0.mk c1; have HS1 := Aside0.mk hsz1
        clear hnb hsz1 a0 a1
        by_cases hq : x.f1 < least
        · have hqb : decide (x.f1 < least) = true := decide_eq_true hq
          rw [hqb] at hcall
          have HCL := Aside0.mk hcall
          clear hcall hqb
          go_wp2
          (with_reducible refine HCL.out.mono ?_)
          (first | rintro e w2 ⟨rfl, hb2⟩ | rintro e w2 rfl hb2)
          have hb3 : Below wr.heap.size wr w2 := HNB.out.trans (hb2.mono (by rw [HS1.out]; omega))
          go_wp2
          go_roundg (l.length - (j + 1))
          case measure => have := HJ.out; omega
          case rel => exact ⟨i, j + 1, L, rfl, congrArg (Value.int .i64) (by omega), ⟨by omega⟩, ⟨HK.out.drop hlt (by rw [HX.out]; exact hq)⟩, ⟨Kd.R_below HR.out hb3⟩, ⟨(hb3.cell (p := ⟨b, 0, none⟩) hlb).trans HBX.out⟩, ⟨HB.out.trans (hb3.mono (by have := HBG.out; have := HSZ.out; omega))⟩, ⟨Nat.le_trans HSZ.out hb3.size⟩⟩
        · have hqb : decide (x.f1 < least) = false := decide_eq_false hq
          rw [hqb] at hcall
          have HCL := Aside0.mk hcall
          clear hcall hqb
          go_wp2
          (with_reducible refine HCL.out.mono ?_)
          (first | rintro e w2 ⟨rfl, hb2⟩ | rintro e w2 rfl hb2)
          have hb3 : Below wr.heap.size wr w2 := HNB.out.trans (hb2.mono (by rw [HS1.out]; omega))
          have hR2 := Kd.R_below HR.out hb3
          have hij := HK.out.ij
          have hil : i < l.length := by omega
          have hC2 := (Kd.R_reads' hR2).2.2
          obtain ⟨ad3, cc3, e3, _, hK6, hcc6⟩ := Kd.C_get hC2 z35 (i : Int) (by omega) (by rw [← HLN.out]; omega)
          cases e3
          obtain ⟨s, hs⟩ : ∃ s, L.getD (i : Int).toNat z35 = s := ⟨_, rfl⟩
          rw [hs] at hK6
          rw [Int.toNat_natCast] at hcc6
          obtain rfl := k35_open hK6
          obtain ⟨cells6, hc6⟩ := own_typed (Kd.R_own hR2).choose_spec g rfl
          have fz0 : w2.frozen? ⟨g, i * 2, none⟩ = false := blk_frozen hc6 _
          have fz1 : w2.frozen? ⟨g, i * 2 + 1, none⟩ = false := blk_frozen hc6 _
          have q2 : w2.cell? ⟨g, i * 2, none⟩ = some (.string s.f0) := by have := hcc6 0 _ rfl; rwa [add_plain] at this
          have q3 : w2.cell? ⟨g, i * 2 + 1, none⟩ = some (.int .u64 s.f1) := by have := hcc6 1 _ rfl; rwa [add_plain] at this
          have d0 : w2.cell? ⟨wr.heap.size, 0, none⟩ = some (.string x.f0) := (hb2.cell (p := ⟨wr.heap.size, 0, none⟩) (by rw [HS1.out]; exact Nat.lt_succ_self _)).trans HC0.out
          have d1 : w2.cell? ⟨wr.heap.size, 1, none⟩ = some (.int .u64 x.f1) := (hb2.cell (p := ⟨wr.heap.size, 1, none⟩) (by rw [HS1.out]; exact Nat.lt_succ_self _)).trans HC1.out
          have i0b : decide (0 ≤ (i : Int)) = true := decide_eq_true (by omega)
          have i1b : decide ((i : Int) < (l.length : Int)) = true := decide_eq_true (by omega)
          obtain ⟨hR3, hg3⟩ := entry_put hR2 hil hcc6 x
          have HR3 := Aside0.mk hR3; have HG3 := Aside0.mk hg3; have HB3 := Aside0.mk hb3
          clear hR2 hC2 hK6 hcc6 hc6 hs hb2 hb3 hR3 hg3
          go_upto_region 10 with fail
          have hw3 : (w2.setCell ⟨g, i * 2, none⟩ (.string x.f0)).setCell ⟨g, i * 2 + 1, none⟩ (.int .u64 x.f1) = w2.setCells g (i * 2) [.string x.f0, .int .u64 x.f1] := rfl
          rw [hw3]
          have hbx3 : (w2.setCells g (i * 2) [.string x.f0, .int .u64 x.f1]).cell? ⟨b, 0, none⟩ = some (.int .u64 least) := (World.cell?_of_block (setCells_far _ _ b HGB.out)).trans ((HB3.out.cell (p := ⟨b, 0, none⟩) hlb).trans HBX.out)
          have HBX3 := Aside0.mk hbx3
          have hbb : Below base w (w2.setCells g (i * 2) [.string x.f0, .int .u64 x.f1]) := (HB.out.trans (HB3.out.mono (by have := HBG.out; have := HSZ.out; omega))).grown HG3.out (by have := HBG.out; have := HSZ.out; have := HB3.out.size; omega) (fun k hk => by injection hk with hk; rw [← hk]; exact HBG.out.1)
          have HBB := Aside0.mk hbb
          have hss : w.heap.size ≤ (w2.setCells g (i * 2) [.string x.f0, .int .u64 x.f1]).heap.size := Nat.le_trans (Nat.le_trans HSZ.out HB3.out.size) HG3.out.size
          have HSS := Aside0.mk hss
          clear hw3 hbx3 hbb hss HB3 HG3 HC0 HC1 HNB HS1 d0 d1 q2 q3 fz0 fz1 HR HB HBX HSZ HCL c0 c1
          generalize w2.setCells g (i * 2) [.string x.f0, .int .u64 x.f1] = w3 at HR3 HBX3 HBB HSS ⊢
          go_wp2
          go_roundg (l.length - (j + 1))
          case measure => have := HJ.out; omega
          case rel => exact ⟨i + 1, j + 1, L.set i x, congrArg (Value.int .i64) (by omega), congrArg (Value.int .i64) (by omega), ⟨by omega⟩, ⟨by have h9 := HK.out.keep hlt (by rw [HX.out]; omega); rwa [HX.out] at h9⟩, HR3, HBX3, HBB, HSS⟩
      · have hcb : decide ((j : Int) < (l.length : Int)) = false := decide_eq_false (by omega)
        have HLN := Aside0.mk hLn
        have hij := HK.out.ij
        have hjn := HK.out.jn
        have hil : i < l.length := by omega
        clear hC hLn
        go_upto_region 11 with fail
        clear hcb
        have hpl : pruneL l least = L.take i := by
          have h9 := HK.out.front
          have e2 : l.take j = l := List.take_of_length_le (by omega)
          rw [e2] at h9
          exact h9.symm
        have hR9 := HR.out
        rw [HLN.out] at hR9
        obtain ⟨hrun0, hR10, hG10⟩ := clear_tail hR9 i (by rw [← HLN.out]; exact hil) 0 (cap - i)
        rw [← HLN.out] at hrun0 hR10 hG10
        have HR10 := Aside0.mk hR10; have HG10 := Aside0.mk hG10
        have i0b : decide (0 ≤ (i : Int)) = true := decide_eq_true (by omega)
        have i1b : decide ((i : Int) ≤ (l.length : Int)) = true := decide_eq_true (by omega)
        have i2b : decide ((l.length : Int) ≤ (cap : Int)) = true := decide_eq_true (by omega)
        have i3b : decide ((i : Int) ≤ (cap : Int)) = true := decide_eq_true (by omega)
        have HPL := Aside0.mk hpl
        clear hR9 hR10 hG10 hpl
        go_upto_region 12 with fail
        have HBB : Aside0 (Below base w (wr.setCells g (i * 2) (zce (l.length - i)))) := ⟨HB.out.grown HG10.out (by have := HBG.out; have := HSZ.out; omega) (fun k hk => by injection hk with hk; rw [← hk]; exact HBG.out.1)⟩
        clear hrun0 HG10 HB HBX HR
        generalize wr.setCells g (i * 2) (zce (l.length - i)) = w9 at HR10 HBB ⊢
        go_wp2
        go_ret
        exact ⟨_, rfl, by rw [HPL.out]; exact HR10.out, HBB.out⟩
set_option maxHeartbeats 4000000 in
set_option maxRecDepth 100000 in
theorem deleteFunc_nil (w : World) (b : Nat) (least : Int) (hb : w.cell? ⟨b, 0, none⟩ = some (.int .u64 least)) :
    Calls Try.prog 18 #[.slice none 0 0, .func (.func 20) #[] #[.pointer (some ⟨b, 0, none⟩)]] w fun e w' => e = .returned (.slice none 0 0) ∧ Below w.heap.size w w' := by
  have hbl : b < w.heap.size := World.block_lt_of_cell? w _ hb
  have hC : Kd.C k35 w none ([] : List S35).length [] := by
    obtain ⟨A, c, e, _, h⟩ := Kd.R_reads (Kd.R_nil k35 35 w 0 (fun _ => True))
    injection e with e1
    rw [e1]; exact h
  have hidx := indexFunc_k 20 egPrune #[.pointer (some ⟨b, 0, none⟩)] (fun x => decide (x.f1 < least)) none 0 [] w hC (Nat.le_refl _) (fun W x hB => (prune1_k b least x W ((hB.cell (p := ⟨b, 0, none⟩) hbl).trans hb)).mono (fun e w' h => ⟨h.1, hB.trans (h.2.mono hB.size)⟩))
  have hv : idxE (fun x => decide (x.f1 < least)) ([] : List S35) = -1 := rfl
  rw [hv] at hidx
  have HID := Aside0.mk hidx
  clear hidx hC hv
  change Aside0 (Calls Try.prog 26 #[.slice none 0 0, _] w _) at HID
  go_enter Try.func18, Try.ntmps18
  go_wp2_with (first | (go_at_call 26; (with_reducible refine (HID.out).mono ?_); rintro e w1 ⟨rfl, hb1⟩))
  go_ret
  exact ⟨rfl, hb1⟩
theorem deleteFunc_k (w : World) (base b : Nat) (v : Value) (l : List S35) (least : Int) (hR : Kd.R k35 35 w base (fun _ => True) v l) (hbb : b < base) (hbs : base ≤ w.heap.size) (hb : w.cell? ⟨b, 0, none⟩ = some (.int .u64 least)) (hl : l.length ≤ 1048576) :
    Calls Try.prog 18 #[v, .func (.func 20) #[] #[.pointer (some ⟨b, 0, none⟩)]] w fun e w' => ∃ v : Value, e = .returned v ∧ Kd.R k35 35 w' base (fun _ => True) v (pruneL l least) ∧ Below base w w' := by
  obtain ⟨inner, ho⟩ := Kd.R_own hR
  rcases ho.2 with ⟨rfl, h0⟩ | ⟨g, cap, cur, rfl, hbg, _⟩
  · have : l = [] := List.length_eq_zero_iff.1 h0
    subst this
    refine (deleteFunc_nil w b least hb).mono ?_
    rintro e w' ⟨rfl, hB⟩
    exact ⟨_, rfl, Kd.R_nil _ _ _ _ _, hB.mono hbs⟩
  · exact deleteFunc_g 20 egPrune b least (fun x W h => prune1_k b least x W h) w base g cap l hR (by omega) hb hl
set_option maxHeartbeats 4000000 in
set_option maxRecDepth 100000 in
/-- rank.Prune. -/
theorem prune_k (A : Option Addr) (c : Nat) (l : List S35) (least : Int) (w : World) (hC : Kd.C k35 w A l.length l) (hc : l.length ≤ c) (hl : l.length ≤ 1048576) :
    Calls Try.prog 10 #[.slice A l.length c, .int .u64 least] w fun e w' => ∃ v : Value, e = .returned v ∧ Kd.R k35 35 w' w.heap.size (fun _ => True) v (pruneL l least) ∧ Below w.heap.size w w' := by
  have hb0 : Below w.heap.size w (w.alloc (.cells #[.int .u64 least] 23)) := (Below.refl _ w).alloc (Nat.le_refl _) _
  have hcl := cloneE_k A c l (w.alloc (.cells #[.int .u64 least] 23)) (Kd.C_below hC hb0) hc hl
  have hbx : (w.alloc (.cells #[.int .u64 least] 23)).cell? ⟨w.heap.size, 0, none⟩ = some (.int .u64 least) := by simp
  have HCL := Aside0.mk hcl; have HBX := Aside0.mk hbx; have HB0 := Aside0.mk hb0
  clear hC hcl hbx hb0
  go_enter Try.func10, Try.ntmps10
  go_wp2_with (first
    | (go_at_call 19; (with_reducible refine (HCL.out).mono ?_); rintro e w1 ⟨v, rfl, hR, hb1⟩; have HR := Aside0.mk hR; have HB1 := Aside0.mk hb1; clear hR hb1)
    | (go_at_call 18; (with_reducible refine (deleteFunc_k w1 (w.alloc (.cells #[.int .u64 least] 23)).heap.size w.heap.size v l least HR.out (by simp) HB1.out.size ((HB1.out.cell (p := ⟨w.heap.size, 0, none⟩) (by simp)).trans HBX.out) hl).mono ?_); rintro e w2 ⟨v2, rfl, hR2, hb2⟩))
  go_ret
  exact ⟨_, rfl, Kd.R_lower hR2 (by simp), HB0.out.trans ((HB1.out.trans hb2).mono (by simp))⟩
end Go.Proofs.Ytcikngokiodabaa.K

namespace Go.Proofs.Ytcikngokiodabaa.K
open Go.RowKit Go.Proofs.YtcikngokiodabaaW.PrintWords Go.Proofs.YtcikngokiodabaaW.PrintLast Go.Proofs.YtcikngokiodabaaW.PrintMore Go.Proofs.Ytcikngokiodabaa
attribute [local go_sem] max2_int min2_int max_two min_two max_three min_three max_four min_four
set_option linter.unusedVariables false
set_option linter.unusedSimpArgs false
open Go Go.Proofs.Ytcikngokiodabaa.PR13
def okE (l : List S35) : Bool := decide (l.length ≤ 1048576) && l.all (fun x => (Lit.int .u64 x.f1).wf)
def rank_Classes.f (l0 : List S35) : Option (List Int) := if okE l0 = true then some (classesL l0) else none
theorem rank_Classes.calls (A0 : Option Addr) (c0 : Nat) (l0 : List S35) (r : List Int) (w : World) (hr0 : Kd.C k35 w A0 l0.length l0) (hc0 : l0.length ≤ c0) (h : rank_Classes.f l0 = some r) :
    Calls Try.prog 13 #[.slice A0 l0.length c0] w fun e w' => ∃ v0_ : Value, e = .returned (v0_) ∧ Kd.R (Kd.int .i64) 3 w' w.heap.size (fun _ => True) v0_ r ∧ Below w.heap.size w w' := by
  unfold rank_Classes.f at h
  by_cases hk : okE l0 = true
  · rw [if_pos hk] at h
    obtain rfl := Option.some.inj h
    unfold okE at hk
    rw [Bool.and_eq_true, List.all_eq_true] at hk
    exact classes_k A0 c0 l0 w hr0 hc0 (of_decide_eq_true hk.1) hk.2
  · rw [if_neg hk] at h; cases h
def rank_Prune.f (l0 : List S35) (a1 : Int) : Option (List S35) := if l0.length ≤ 1048576 then some (pruneL l0 a1) else none
theorem rank_Prune.calls (A0 : Option Addr) (c0 : Nat) (l0 : List S35) (a1 : Int) (r : List S35) (w : World) (hr0 : Kd.C k35 w A0 l0.length l0) (hc0 : l0.length ≤ c0) (h : rank_Prune.f l0 a1 = some r) :
    Calls Try.prog 10 #[.slice A0 l0.length c0, .int .u64 a1] w fun e w' => ∃ v0_ : Value, e = .returned (v0_) ∧ Kd.R k35 35 w' w.heap.size (fun _ => True) v0_ r ∧ Below w.heap.size w w' := by
  unfold rank_Prune.f at h
  by_cases hk : l0.length ≤ 1048576
  · rw [if_pos hk] at h
    obtain rfl := Option.some.inj h
    exact prune_k A0 c0 l0 a1 w hr0 hc0 hk
  · rw [if_neg hk] at h; cases h
end Go.Proofs.Ytcikngokiodabaa.K

namespace Go.Proofs.Ytcikngokiodabaa.PSh13
open Go.RowKit Go.Proofs.YtcikngokiodabaaW.PrintWords Go.Proofs.YtcikngokiodabaaW.PrintLast Go.Proofs.YtcikngokiodabaaW.PrintMore Go.Proofs.Ytcikngokiodabaa.K Go.Proofs.Ytcikngokiodabaa.PR13
attribute [local go_sem] max2_int min2_int max_two min_two max_three min_three max_four min_four   -- for this text's walks alone
set_option linter.unusedVariables false
set_option linter.unusedSimpArgs false



def errW : Option Int → Value
  | none => .nilIface
  | some c => .iface 0 (.int .i64 c)
theorem errW_none : errW none = .nilIface := rfl
theorem errW_some (c : Int) : errW (some c) = .iface 0 (.int .i64 c) := rfl

end Go.Proofs.Ytcikngokiodabaa.PSh13

