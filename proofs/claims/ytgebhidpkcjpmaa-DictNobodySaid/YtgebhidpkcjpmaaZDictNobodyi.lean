/- DictNobody. (The texts that the proof is made of, one behind the other: part 9 of 18.) -/
import Derived.RangeFuncBox
import Derived.RangeFuncLeaves
import Derived.RangeFuncGives
import Derived.RangeFuncStops
import Derived.RangeFuncNested
import Derived.RangeFuncBound
import Derived.Shelf.Abstract
import Derived.Sort.MapsRangeIn
import Derived.Sort.KeysCollected
import Derived.OwnWalkIn
import Derived.TacticsInMore
import Derived.LoopNIn
import Derived.LoopIn
import Derived.Maps.AppendAt
import Derived.Maps.OwnIn
import Derived.Test.YtgebhidpkcjpmaaProg
import Derived.Below
import Derived.Deep.Draws
import Derived.Deep.AppendLies
import Derived.OwnWalk
import Derived.Laws.BytesArg
import Derived.Laws.MakeOwn
import Derived.Laws.OwnMore
import Derived.Deep.OwnRows
import Derived.Tactics
import Derived.Lib.ConvBytes
import Derived.Laws.Slices
import Derived.WalkKit
import Derived.KernelRfl
import Derived.RowKit3
import Derived.Deep.LoopGhost
import Derived.Deep.QuietTactic
import Derived.BigQuiet
import Derived.WideLaws
import Derived.Deep.DeepCutAuto
import Derived.Deep.CutBlock
import Derived.Deep.RegionHeld3
import Derived.Laws.Rows
import Derived.Lib.AppendStr
import Derived.ArgAppend
import Derived.Laws.IdiomCopy
import Derived.OrdersHeld
import Derived.Laws.BitsLemmas
import Derived.RowKit
import Derived.Lib.OthersKept
import Derived.WalkSmall
import Derived.Deep.RegionLaw
import Derived.BigRegion
import Derived.Shelf.SlSortCmp.NoneTotal
import Derived.Shelf.SlLaysF
import Derived.Shelf.SlGeneric
import Derived.Ground.SlsfProg
import Derived.Maps.OwnSet
import Derived.Maps.OwnOps
import Derived.Maps.Views
import Derived.Carry
import Derived.Laws.EntriesVeiled
import Derived.Deep.WholeRow
import Derived.Laws.CopyOwn
import Derived.Laws.BitsAllLaws
import Derived.Laws.ResultCell
import Derived.Test.YtgebhidpkcjpmaaZDictNobodya
import Derived.Test.YtgebhidpkcjpmaaZDictNobodyb
import Derived.Test.YtgebhidpkcjpmaaZDictNobodyc
import Derived.Test.YtgebhidpkcjpmaaZDictNobodyd
import Derived.Test.YtgebhidpkcjpmaaZDictNobodye
import Derived.Test.YtgebhidpkcjpmaaZDictNobodyf
import Derived.Test.YtgebhidpkcjpmaaZDictNobodyg
import Derived.Test.YtgebhidpkcjpmaaZDictNobodyh
namespace Go.Proofs.Ytgebhidpkcjpmaa.K
open Go.RowKit Go.Proofs.YtgebhidpkcjpmaaW.PrintWords Go.Proofs.YtgebhidpkcjpmaaW.PrintLast Go.Proofs.YtgebhidpkcjpmaaW.PrintMore Go.Proofs.Ytgebhidpkcjpmaa
attribute [local go_sem] max2_int min2_int max_two min_two max_three min_three max_four min_four
set_option linter.unusedVariables false
set_option linter.unusedSimpArgs false
open Go Go.RowKit Go.Maps Go.Sort
attribute [local go_sem] Oper.semAt_some
abbrev encU : Int → Value := Value.int .u64
theorem keyOf_u64 {P : Program} {k : TypeId} (hk : P.underlying k = some (.int .u64)) {key : Value} {kl : Lit} (h : keyOf P k key = some kl) : ∃ x : Int, key = encU x ∧ kl = .int .u64 x ∧ (Lit.int .u64 x).wf = true := by
  cases key <;> simp [keyOf, hk, mapKey] at h
  rename_i q a
  obtain ⟨⟨rfl, hw⟩, rfl⟩ := h
  exact ⟨a, rfl, rfl, hw⟩
/-- What has come of the keys: each once, and just those that are no longer to come. -/
def Come {H : Type} (D0 : DataW H) (left : Lit → Bool) (ss : List Int) : Prop := ss.Nodup ∧ ∀ x, x ∈ ss ↔ (has D0 (.int .u64 x) = true ∧ left (.int .u64 x) = false)
theorem Come.start {H : Type} (D0 : DataW H) : Come D0 (has D0) [] := ⟨List.nodup_nil, fun x => by cases has D0 (.int .u64 x) <;> simp⟩
theorem Come.step {H : Type} {D0 : DataW H} {left : Lit → Bool} {ss : List Int} (h : Come D0 left ss) {x : Int} {y : DataW H} (hlk : left (.int .u64 x) = true) (hat : ∀ zd, D0.atKey (.int .u64 x) zd = y) : Come D0 (fun z => left z && !z.sameKey (.int .u64 x)) (ss ++ [x]) := by
  have hhas : has D0 (.int .u64 x) = true := has_true_of_atKey hat
  have hnew : x ∉ ss := fun hx => by
    have h2 := ((h.2 x).1 hx).2
    rw [hlk] at h2; cases h2
  refine ⟨?_, fun y => ?_⟩
  · rw [List.nodup_append]
    refine ⟨h.1, by simp, fun a ha b hb e => ?_⟩
    rw [List.mem_singleton] at hb
    exact hnew (hb ▸ e ▸ ha)
  · by_cases hy : y = x
    · subst hy; simp [hhas, Lit.sameKey]
    · simp [h.2 y, hy, Lit.sameKey]
def Keys {H : Type} (D0 : DataW H) (ss : List Int) : Prop := ss.Nodup ∧ ∀ x, x ∈ ss ↔ has D0 (.int .u64 x) = true
theorem keyedU : Keyed Try.prog 47 := int_keyed Try.underlying47

set_option maxRecDepth 100000 in
set_option maxHeartbeats 2000000 in
theorem keys1_in {H : Type} (F : Fence) (n : Nat) (hf : F.fn 89) (hro : F.round = none) (hn : 1 ≤ n) (l Bm b nn : Nat) (D0 : DataW H) (J Jx : List Int → World → Prop)
    (hY : ∀ pre x W, J pre W → pre.length < Maps.size D0 → YieldAt F (n - 1) Try.prog l #[encU x] W fun e W' =>
      (e = .returned (.bool true) ∧ J (pre ++ [x]) W' ∧ KeepsWalks W W') ∨ (e = .returned (.bool false) ∧ Jx (pre ++ [x]) W'))
    (W : World) (hJ : AbidesFrom W.heap.size J) (hm : W.cell? ⟨Bm, 0, none⟩ = some (.map (some b))) (hown : W.ownsMap Try.prog 47 (plainElem Try.prog 3) b nn D0) (h0 : J [] W) :
    CallsIn F n Try.prog 89 #[.func (.yield l) #[] #[], .pointer (some ⟨Bm, 0, none⟩)] W fun e W' => (∃ v, e = .returned v) ∧
      ((∃ ss : List Int, (Keys D0 ss ∧ ss.length ≤ Maps.size D0) ∧ J ss W') ∨ (∃ pre : List Int, True ∧ Jx pre W')) := by
  refine callsIn_of_wp Try.func89 rfl hf ?_ hro
  simp only [Try.ntmps89, List.size_toArray, List.length_cons, List.length_nil, Nat.reduceAdd, Nat.reduceSub, Array.replicate_succ, Array.replicate_zero, List.push_toArray, List.append_toArray, List.nil_append, List.cons_append]
  gi_wp2_with (first
    | (gi_at_range; refine wpListIn_range_own _ rfl _ 116 rfl 47 3 keyedU Try.underlying116 _ b nn _ rfl hown ?_; intro w0 hrg0 hg0 hs0)
    | gi_in)
  go_frame
  gi_loopw [3] (fun _ wr => ∃ (left : Lit → Bool) (cnt : Nat) (ss : List Int), wr.ranges Try.prog 47 (plainElem Try.prog 3) b W.heap.size nn D0 left cnt ∧ ss.length + cnt ≤ Maps.size D0 ∧ Come D0 left ss ∧ J ss wr)
    (fun _ wr => wr.rangeLeft b W.heap.size)
  case atStart =>
    exact ⟨_, _, [], hrg0, by simp, Come.start D0, hJ [] W w0 none h0 hg0 (fun r e => by cases e)⟩
  case round =>
    obtain ⟨left, cnt, ss, hrg, hcs, hC, hJs⟩ := hrel
    gi_wp2_with (first
      | (gi_at_next; refine wpListIn_next_ranges _ rfl _ rfl 47 keyedU (plainElem Try.prog 3) encU (Value.int .i64) (fun key kl hk => by obtain ⟨x, hx, _⟩ := keyOf_u64 Try.underlying47 hk; exact ⟨x, hx⟩) (fun v y hv => by obtain ⟨c, rfl, _⟩ := plainElem_int_inv Try.underlying3 hv; exact ⟨c, rfl⟩) b W.heap.size nn _ _ _ rfl hrg ?_ ?_)
      | gi_in)
    · intro hc0 hl0
      gi_wp2
      go_end0
      exact ⟨⟨_, rfl⟩, .inl ⟨ss, ⟨⟨hC.1, fun x => by rw [hC.2 x, hl0]; simp⟩, by omega⟩, hJs⟩⟩
    · intro x c kl yd yp w2 cnt2 hkey hlk hv hat hrg2 hlt hg2 hs2 hen
      obtain ⟨x', ex, rfl, _⟩ := keyOf_u64 Try.underlying47 hkey
      obtain rfl : x = x' := by injection ex
      have hJ2 : J ss w2 := hJ ss wr w2 (some W.heap.size) hJs hg2 (fun r e => by cases e; exact ⟨Nat.le_refl _, hrg.iter_walk⟩)
      obtain ⟨fn, tmps, assign, body, hy, hR⟩ := hY ss x w2 hJ2 (by omega)
      clear hs2
      gi_wp2
      refine hR.mono ?_
      have hC2 := hC.step hlk hat
      rintro e W3 (⟨rfl, hJ3, hk3⟩ | ⟨rfl, hJx3⟩)
      · gi_wp2
        have hrg3 := hrg2.of_walks hk3
        go_roundw
        case rel => exact ⟨_, cnt2, ss ++ [x], hrg3, by simp; omega, hC2, hJ3⟩
        case measure => rw [hrg3.left_eq, hrg.left_eq]; exact hlt
      · gi_wp2
        refine bodyPost_ret (results_none rfl _ _ _) rfl ?_
        exact ⟨⟨_, rfl⟩, .inr ⟨ss ++ [x], trivial, hJx3⟩⟩

set_option maxHeartbeats 1000000 in
theorem keys_in (F : Fence) (n : Nat) (hf : F.fn 65) (hro : F.round = none) (mb : Option Nat) (w : World) :
    CallsIn F n Try.prog 65 #[.map mb] w fun e w' => e = .returned (.func (.func 89) #[] #[.pointer (some ⟨w.heap.size, 0, none⟩)]) ∧ w' = w.alloc (.cells #[.map mb] 116) := by
  refine callsIn_of_wp Try.func65 rfl hf ?_ hro
  simp only [Try.ntmps65, List.size_toArray, List.length_cons, List.length_nil, Nat.reduceAdd, Nat.reduceSub, Array.replicate_succ, Array.replicate_zero, List.push_toArray, List.append_toArray, List.nil_append, List.cons_append]
  gi_wp2
  go_ret
  exact ⟨rfl, rfl⟩

/-- maps.Keys(m) hands back an iterator over m's keys. -/
theorem keys_stops {H : Type} (F : Fence) (n : Nat) (hf : F.fn 89) (hro : F.round = none) (hn : 1 ≤ n) (Bm b nn : Nat) (D0 : DataW H) (w : World) (hBm : Bm < w.heap.size)
    (hm : w.cell? ⟨Bm, 0, none⟩ = some (.map (some b))) (hown : w.ownsMap Try.prog 47 (plainElem Try.prog 3) b nn D0) :
    SeqStops F n Try.prog 89 #[.pointer (some ⟨Bm, 0, none⟩)] encU (fun ss => Keys D0 ss ∧ ss.length ≤ Maps.size D0) (fun _ => True) (Maps.size D0) w := fun l J Jx W hW hJ _ hY h0 => by
  have hown' : W.ownsMap Try.prog 47 (plainElem Try.prog 3) b nn D0 := by
    have hbl := hown.lt
    obtain ⟨es, clock, hb, Ft, hs, hD⟩ := hown
    exact ⟨es, clock, (hW.block b hbl).trans hb, Ft, hs, hD⟩
  exact keys1_in F n hf hro hn l Bm b nn D0 J Jx hY W hJ ((hW.cell (p := ⟨Bm, 0, none⟩) hBm).trans hm) hown' h0
end Go.Proofs.Ytgebhidpkcjpmaa.K

namespace Go.Proofs.Ytgebhidpkcjpmaa.K
open Go Go.Shelf
set_option linter.unusedVariables false
set_option linter.unusedSimpArgs false
def sortU_ren : Go.Shelf.Ren := ⟨fun | 6 => 88 | 15 => 101 | 14 => 100 | 28 => 113 | 29 => 114 | 20 => 105 | 21 => 106 | 22 => 107 | 23 => 108 | 24 => 109 | 25 => 110 | 26 => 111 | 27 => 112 | 46 => 117 | 47 => 118 | 48 => 119 | 49 => 120 | 50 => 121 | 57 => 122 | n => n, fun | 22 => 26 | 24 => 47 | 25 => 117 | 3 => 3 | 39 => 134 | 0 => 0 | 53 => 136 | 55 => 47 | 4 => 4 | 46 => 167 | 45 => 166 | 50 => 100 | 5 => 5 | 9 => 9 | 66 => 177 | 70 => 181 | 76 => 183 | 77 => 184 | n => n, fun | n => n⟩
theorem sortU : Go.Proofs.SlLaysF.n6 Try.prog sortU_ren := {
  mixed := by kernel_rfl
  f6 := ⟨Try.f88.name, by decide, Try.func88.trans (congrArg some (by kernel_rfl))⟩
  f14 := ⟨Try.f100.name, by decide, Try.func100.trans (congrArg some (by kernel_rfl))⟩
  f15 := Try.func101.trans (congrArg some (by kernel_rfl))
  f20 := ⟨Try.f105.name, by decide, Try.func105.trans (congrArg some (by kernel_rfl))⟩
  f21 := ⟨Try.f106.name, by decide, Try.func106.trans (congrArg some (by kernel_rfl))⟩
  f22 := ⟨Try.f107.name, by decide, Try.func107.trans (congrArg some (by kernel_rfl))⟩
  f23 := ⟨Try.f108.name, by decide, Try.func108.trans (congrArg some (by kernel_rfl))⟩
  f24 := ⟨Try.f109.name, by decide, Try.func109.trans (congrArg some (by kernel_rfl))⟩
  f25 := ⟨Try.f110.name, by decide, Try.func110.trans (congrArg some (by kernel_rfl))⟩
  f26 := ⟨Try.f111.name, by decide, Try.func111.trans (congrArg some (by kernel_rfl))⟩
  f27 := ⟨Try.f112.name, by decide, Try.func112.trans (congrArg some (by kernel_rfl))⟩
  f28 := Try.func113.trans (congrArg some (by kernel_rfl))
  f29 := Try.func114.trans (congrArg some (by kernel_rfl))
  f46 := ⟨Try.f117.name, by decide, Try.func117.trans (congrArg some (by kernel_rfl))⟩
  f47 := Try.func118.trans (congrArg some (by kernel_rfl))
  f48 := Try.func119.trans (congrArg some (by kernel_rfl))
  f49 := ⟨Try.f120.name, by decide, Try.func120.trans (congrArg some (by kernel_rfl))⟩
  f50 := ⟨Try.f121.name, by decide, Try.func121.trans (congrArg some (by kernel_rfl))⟩
  f57 := ⟨Try.f122.name, by decide, Try.func122.trans (congrArg some (by kernel_rfl))⟩
  t0 := Try.underlying0
  a0 := Try.isAgg0
  z0 := Try.sizeOf0
  v0 := Try.zeroValue0
  t3 := Try.underlying3
  a3 := Try.isAgg3
  z3 := Try.sizeOf3
  v3 := Try.zeroValue3
  t4 := Try.underlying4
  a4 := Try.isAgg4
  z4 := Try.sizeOf4
  v4 := Try.zeroValue4
  t5 := Try.underlying5
  a5 := Try.isAgg5
  z5 := Try.sizeOf5
  v5 := Try.zeroValue5
  t9 := Try.underlying9
  a9 := Try.isAgg9
  z9 := Try.sizeOf9
  v9 := Try.zeroValue9
  t22 := Try.underlying26
  a22 := Try.isAgg26
  z22 := Try.sizeOf26
  v22 := Try.zeroValue26
  a24 := Try.isAgg47
  z24 := Try.sizeOf47
  t25 := Try.underlying117
  a25 := Try.isAgg117
  z25 := Try.sizeOf117
  v25 := Try.zeroValue117
  t39 := Try.underlying134
  a39 := Try.isAgg134
  z39 := Try.sizeOf134
  v39 := Try.zeroValue134
  t45 := Try.underlying166
  a45 := Try.isAgg166
  z45 := Try.sizeOf166
  v45 := Try.zeroValue166
  t46 := Try.underlying167
  a46 := Try.isAgg167
  z46 := Try.sizeOf167
  v46 := Try.zeroValue167
  t50 := Try.underlying100
  a50 := Try.isAgg100
  z50 := Try.sizeOf100
  v50 := Try.zeroValue100
  t53 := Try.underlying136
  a53 := Try.isAgg136
  z53 := Try.sizeOf136
  v53 := Try.zeroValue136
  t55 := Try.underlying47
  a55 := Try.isAgg47
  z55 := Try.sizeOf47
  v55 := Try.zeroValue47
  t66 := Try.underlying177
  a66 := Try.isAgg177
  z66 := Try.sizeOf177
  v66 := Try.zeroValue177
  t70 := Try.underlying181
  a70 := Try.isAgg181
  z70 := Try.sizeOf181
  v70 := Try.zeroValue181
  t76 := Try.underlying183
  a76 := Try.isAgg183
  z76 := Try.sizeOf183
  v76 := Try.zeroValue183
  t77 := Try.underlying184
  a77 := Try.isAgg184
  z77 := Try.sizeOf184
  v77 := Try.zeroValue184 }
end Go.Proofs.Ytgebhidpkcjpmaa.K

namespace Go.Proofs.Ytgebhidpkcjpmaa.K
open Go.RowKit Go.Proofs.YtgebhidpkcjpmaaW.PrintWords Go.Proofs.YtgebhidpkcjpmaaW.PrintLast Go.Proofs.YtgebhidpkcjpmaaW.PrintMore Go.Proofs.Ytgebhidpkcjpmaa
attribute [local go_sem] max2_int min2_int max_two min_two max_three min_three max_four min_four
set_option linter.unusedVariables false
set_option linter.unusedSimpArgs false
open Go Go.RowKit Go.Maps Go.Sort
attribute [local go_sem] Oper.semAt_some
theorem infoU : (Try.prog.info? 47).map (fun i => (i.zero, i.size, i.bytes)) = some (some (.int .u64 0), 1, 8) := by kernel_rfl
set_option maxRecDepth 100000 in
set_option maxHeartbeats 4000000 in
theorem appendSeq_in (F : Fence) (n : Nat) (hf : F.fn 99) (hro : F.round = none) (hn : 2 ≤ n) (g : Nat) (lb : Array Value) (hFg : F.fn g) (eg : ∀ args w, (callFunc g args).run Try.prog w = .ok (.enter g args) w)
    (S Sp : List Int → Prop) (N : Nat) (hN : N ≤ maxLen) (hNb : N * 8 ≤ 140737488355328) (w : World) (hseq : SeqStops F (n - 1) Try.prog g lb encU S Sp N w) :
    CallsIn F n Try.prog 99 #[.slice none 0 0, .func (.func g) #[] lb] w fun e w' => ∃ (v : Value) (ss : List Int), e = .returned v ∧ S ss ∧ w'.ownsRow w.heap.size 47 1 v ss.length (ss.map encU) ∧ Below w.heap.size w w' := by
  have h1 : 1 ≤ n := by omega
  obtain ⟨i0, hi, hz0, hz1, hz2⟩ := info_parts infoU
  refine callsIn_of_wp_marks Try.func99 rfl hf ?_ hro
  simp only [Try.ntmps99, List.size_toArray, List.length_cons, List.length_nil, Nat.reduceAdd, Nat.reduceSub, Array.replicate_succ, Array.replicate_zero, List.push_toArray, List.append_toArray, List.nil_append, List.cons_append]
  gi_wp2
  have bO := Boxed.new w 26 (.slice none 0 0)
  have hB0 : Below w.heap.size w (w.alloc (.cells #[.slice none 0 0] 26)) := (Below.refl _ w).alloc (Nat.le_refl _) _
  have hsq : SeqStopsK F (n - 1) Try.prog g lb (fun x : Int => #[encU x]) KeepsWalks S Sp N w := hseq
  refine wpIn_rangeFunc_ownG (α := Int) hro h1 (gf := g) (lb := lb) rfl hFg eg
    (hsq) walksK_t walksK_b hB0 (fun _ => rfl)
    (fun (pre : List Int) W => (∃ v, Boxed W w.heap.size 26 v ∧ W.ownsRow w.heap.size 47 1 v pre.length (pre.map encU) ∧ True) ∧ Below w.heap.size w W)
    (fun _ _ _ => False)
    (OwnFrom.and (Own.from (holdsRow_own w.heap.size w.heap.size 26 47 1 (fun pre : List Int => pre.length) (fun pre : List Int => pre.map encU) (fun (pre : List Int) v => True)) _) (ownFrom_below (Nat.le_refl _) (by simp)))
    (fun _ _ _ _ _ hs _ _ => hs)
    ⟨⟨_, bO, World.ownsRow_nil _ _ _ _, trivial⟩, hB0⟩
    (fun x => { tmps := #[.slice none 0 0, .func (.func g) #[] lb, .pointer (some ⟨w.heap.size, 0, none⟩), undef, .slice none 0 0, encU x, .func (.func g) #[] lb, encU x, undef, undef, undef, undef, undef], defers := [] }) ?assign ?body ?done ?stop
  case assign =>
    intro l x W K hK
    gi_wp2
    exact hK
  case body =>
    rintro l pre x W ⟨⟨v, hv, hrow, _⟩, hB⟩ hlt
    have hc := hv.cell
    gi_wp2_with (gi_at_builtin; refine wpListIn_append_own _ rfl _ _ 26 rfl w.heap.size 47 i0 (.int .u64 0) 1 8 Try.underlying26 hi hz0 hz1 hz2 rfl (by decide) _ _ _ rfl (hrow.alloc _) ⟨W.heap.size, 0, none⟩ 1 1 [encU x] rfl rfl (cell_one_new _ _ _) (by simp [Value.oneCell']) (by omega) (by omega) (by have := hB.size; simp; omega) ?_; intro v' w1 hown' hgrow _; obtain ⟨g', cap', rfl⟩ := ownsRow_succ hown'; obtain ⟨hv1, hv2, hr2, hk2, hb2⟩ := hv.appended (by decide) hrow hB.size (Nat.le_refl _) hown' hgrow; have hc1 := hv1.cell; have hf1 := hv1.frozen)
    exact ⟨hk2.from _, hk2.walks, ⟨_, hv2, by simpa using hr2, trivial⟩, hB.trans hb2⟩
  case done =>
    rintro D ys W hD hS ⟨⟨v, hv, hrow, _⟩, hB⟩ hK
    have hc := hv.cell
    gi_wp2
    refine ⟨by simp, .inl ⟨_, _, rfl, run_takeDeferred hK, ?_⟩⟩
    exact ⟨_, results_tmp rfl _ _ _, v, ys, rfl, hS, ownsRow_putObj hrow _ hK rfl, hB.trans (belowK_b (w := w) (Nat.le_refl _) W D _ _ (by simp at hD; omega) hK rfl rfl)⟩
  case stop =>
    rintro D c pre W _ _ h _
    exact h.elim

set_option maxHeartbeats 1000000 in
theorem collect_in (F : Fence) (n : Nat) (hf : F.fn 87) (hf2 : F.fn 99) (hro : F.round = none) (hn : 3 ≤ n) (g : Nat) (lb : Array Value) (hFg : F.fn g) (eg : ∀ args w, (callFunc g args).run Try.prog w = .ok (.enter g args) w)
    (S Sp : List Int → Prop) (N : Nat) (hN : N ≤ maxLen) (hNb : N * 8 ≤ 140737488355328) (w : World) (hseq : SeqStops F (n - 1 - 1) Try.prog g lb encU S Sp N w) :
    CallsIn F n Try.prog 87 #[.func (.func g) #[] lb] w fun e w' => ∃ (v : Value) (ss : List Int), e = .returned v ∧ S ss ∧ w'.ownsRow w.heap.size 47 1 v ss.length (ss.map encU) ∧ Below w.heap.size w w' := by
  have h1 : 1 ≤ n := by omega
  refine callsIn_of_wp Try.func87 rfl hf ?_ hro
  simp only [Try.ntmps87, List.size_toArray, List.length_cons, List.length_nil, Nat.reduceAdd, Nat.reduceSub, Array.replicate_succ, Array.replicate_zero, List.push_toArray, List.append_toArray, List.nil_append, List.cons_append]
  gi_wp2_with (gi_at_call 99; refine (appendSeq_in F (n - 1) hf2 hro (by omega) g lb hFg eg S Sp N hN hNb _ hseq).mono ?_; rintro e w' ⟨v, ss, rfl, hS, hrow, hb⟩)
  go_ret
  exact ⟨v, ss, rfl, hS, hrow, hb⟩

def cmpD (x y : Int) : Int := if y < x then -1 else if x < y then 1 else 0
theorem ltOf_cmpD (x y : Int) : Go.Proofs.ltOf cmpD x y = decide (y < x) := by
  unfold Go.Proofs.ltOf cmpD
  by_cases h : y < x
  · simp [h]
  · by_cases h2 : x < y <;> simp [h, h2]
theorem swoD : Go.Sort.SWO (Go.Proofs.ltOf cmpD) where
  irrefl x := by rw [ltOf_cmpD]; simp
  trans x y z h1 h2 := by rw [ltOf_cmpD] at *; simp at *; omega
  ntrans x y z h1 h2 := by rw [ltOf_cmpD] at *; simp at *; omega
set_option maxHeartbeats 4000000 in
set_option maxRecDepth 100000 in
theorem isNaN_k (a : Int) (W : World) : Calls Try.prog 86 #[.int .u64 a] W fun e w' => e = .returned (.bool false) ∧ w' = W := by
  go_enter Try.func86, Try.ntmps86
  go_wp2
  go_ret
  exact ⟨rfl, rfl⟩
set_option maxHeartbeats 4000000 in
set_option maxRecDepth 100000 in
theorem compare_k (a b : Int) (W : World) : Calls Try.prog 63 #[.int .u64 a, .int .u64 b] W fun e w' => e = .returned (.int .i64 (cmpD b a)) ∧ w' = W := by
  have hn := isNaN_k
  go_enter Try.func63, Try.ntmps63
  by_cases h1 : a < b
  · have h1b : decide (a < b) = true := decide_eq_true h1
    have er : cmpD b a = -1 := by unfold cmpD; rw [if_pos h1]
    rw [er]
    go_wp2_with (first | (go_at_call 86; refine (hn _ _).mono ?_; rintro e w' ⟨rfl, rfl⟩))
    go_ret
    exact ⟨rfl, rfl⟩
  · have h1b : decide (a < b) = false := decide_eq_false h1
    by_cases h2 : b < a
    · have h2b : decide (b < a) = true := decide_eq_true h2
      have er : cmpD b a = 1 := by unfold cmpD; rw [if_neg h1, if_pos h2]
      rw [er]
      go_wp2_with (first | (go_at_call 86; refine (hn _ _).mono ?_; rintro e w' ⟨rfl, rfl⟩))
      go_ret
      exact ⟨rfl, rfl⟩
    · have h2b : decide (b < a) = false := decide_eq_false h2
      have er : cmpD b a = 0 := by unfold cmpD; rw [if_neg h1, if_neg h2]
      rw [er]
      go_wp2_with (first | (go_at_call 86; refine (hn _ _).mono ?_; rintro e w' ⟨rfl, rfl⟩))
      go_ret
      exact ⟨rfl, rfl⟩
set_option maxHeartbeats 4000000 in
set_option maxRecDepth 100000 in
theorem down_k (x y : Int) (W : World) : Calls Try.prog 62 (#[encU x, encU y] ++ #[]) W fun e w' => e = .returned (.int .i64 (cmpD x y)) ∧ w' = W := by
  show Calls Try.prog 62 #[.int .u64 x, .int .u64 y] W _
  have hcon := compare_k y x
  generalize cmpD x y = r at hcon ⊢
  go_enter Try.func62, Try.ntmps62
  go_wp2_with (first | (go_at_call 63; refine (hcon _).mono ?_; rintro e w' ⟨rfl, rfl⟩))
  go_ret
  exact ⟨rfl, rfl⟩
end Go.Proofs.Ytgebhidpkcjpmaa.K

namespace Go.Proofs.Ytgebhidpkcjpmaa.K
open Go.RowKit Go.Proofs.YtgebhidpkcjpmaaW.PrintWords Go.Proofs.YtgebhidpkcjpmaaW.PrintLast Go.Proofs.YtgebhidpkcjpmaaW.PrintMore Go.Proofs.Ytgebhidpkcjpmaa
attribute [local go_sem] max2_int min2_int max_two min_two max_three min_three max_four min_four
set_option linter.unusedVariables false
set_option linter.unusedSimpArgs false
open Go Go.RowKit Go.Maps Go.Sort
attribute [local go_sem] Oper.semAt_some
theorem oneU : Go.Proofs.OneCell encU := fun _ => rfl
theorem holdsU {w : World} {base g cap : Nat} {es : List Int} (h : w.ownsRow base 47 1 (.slice (some ⟨g, 0, none⟩) es.length cap) es.length (es.map encU)) : Go.Sort.Holds encU w g 0 es.toArray := by
  obtain ⟨_, h2⟩ := h
  rcases h2 with ⟨hv, _⟩ | ⟨g', cap', cur, hv, hb, hh, hnc, hcm, hcs, ht⟩
  · cases hv
  injection hv with ha _ hc
  injection ha with ha
  injection ha with hg
  subst hg
  intro j hj
  have hj' : j < es.length := by simpa using hj
  refine ⟨?_, by simp [World.frozen?, hh]⟩
  rw [Nat.mul_one] at ht
  have h3 : (cur.toList.take es.length)[j]? = (es.map encU)[j]? := by rw [ht]
  rw [List.getElem?_take_of_lt hj'] at h3
  simp only [World.cell?, hh, Nat.zero_add]
  simp only [Option.isSome_none, Bool.false_eq_true, if_false]
  rw [← Array.getElem?_toList, h3]
  simp [hj']
theorem sortedU {w : World} {base g cap n : Nat} {os : Array Obj} {es ts : List Int} (h : w.ownsRow base 47 1 (.slice (some ⟨g, 0, none⟩) es.length cap) es.length (es.map encU)) (hd : ts.length = es.length) :
    (Go.Proofs.sortWorld encU w g 0 n ts.toArray os).ownsRow base 47 1 (.slice (some ⟨g, 0, none⟩) es.length cap) ts.length (ts.map encU) ∧ w.grownBy (Go.Proofs.sortWorld encU w g 0 n ts.toArray os) (some g) := by
  obtain ⟨_, h2⟩ := h
  rcases h2 with ⟨hv, _⟩ | ⟨g', cap', cur, hv, hb, hh, hnc, hcm, hcs, ht⟩
  · cases hv
  injection hv with ha _ hc
  injection ha with ha
  injection ha with hg
  subst hg; subst hc
  have hgl : g < w.heap.size := (Array.getElem?_eq_some_iff.1 hh).1
  have hheap : (Go.Proofs.sortWorld encU w g 0 n ts.toArray os).heap[g]? = some (.cells (Go.Sort.putCells encU 0 ts.toArray cur) 47 (0, 0)) := by
    unfold Go.Proofs.sortWorld
    rw [Go.Sort.heap_grow_old _ _ (by simpa [Go.Sort.putRow, Go.Sort.mapBlock, Go.Sort.ahead] using hgl)]
    simp [Go.Sort.putRow, Go.Sort.mapBlock, Go.Sort.ahead, Array.getElem?_modify, hh, Go.Sort.onCells]
  have hgr : w.grownBy (Go.Proofs.sortWorld encU w g 0 n ts.toArray os) (some g) := by
    refine ⟨rfl, rfl, rfl, by simp [Go.Proofs.sortWorld, Go.Sort.grow, Go.Sort.putRow, Go.Sort.mapBlock, Go.Sort.ahead], fun k hk hne => ?_⟩
    unfold Go.Proofs.sortWorld
    rw [Go.Sort.heap_grow_old _ _ (by simpa [Go.Sort.putRow, Go.Sort.mapBlock, Go.Sort.ahead] using hk)]
    have : g ≠ k := fun e => hne (by rw [e])
    simp [Go.Sort.putRow, Go.Sort.mapBlock, Go.Sort.ahead, Array.getElem?_modify, this]
  refine ⟨⟨by simp, Or.inr ⟨g, cap, _, by rw [hd], hb, hheap, by rw [hd]; exact hnc, hcm, by simp [Go.Sort.putCells, hcs], ?_⟩⟩, hgr⟩
  have hfit : ts.length ≤ cur.size := by rw [hcs, hd]; omega
  rw [Nat.mul_one]
  apply List.ext_getElem?
  intro j
  by_cases hj : j < ts.length
  · rw [List.getElem?_take_of_lt hj, Array.getElem?_toList]
    have hj3 : j < cur.size := by omega
    simp [Go.Sort.putCells, hj, hj3]
  · rw [List.getElem?_take_eq_none (by omega), List.getElem?_eq_none (by simp; omega)]

/-- slices.SortFunc(row, down). -/
theorem sortU_k (w : World) (base : Nat) (v : Value) (es : List Int) (h : w.ownsRow base 47 1 v es.length (es.map encU)) (hsz : es.length < 4611686018427387904) :
    Calls Try.prog 88 #[v, .func (.func 62) #[] #[]] w fun e w' => e = .returned (.tuple #[]) ∧ ∃ ts : List Int, ts.Perm es ∧ ts.Pairwise (fun a b => b ≤ a) ∧ w'.ownsRow base 47 1 v ts.length (ts.map encU) ∧ w.grownBy w' v.ownBlock := by
  have h0 := h
  rcases h0.2 with ⟨rfl, hz⟩ | ⟨g, cap, cur, rfl, hbase, hgb, r1, r2, r3, r4⟩
  · have hnil : es = [] := List.length_eq_zero_iff.1 hz
    subst hnil
    have hcon := Go.Proofs.AnyF.slices_SortFunc_none (P := Try.prog) (ρ := sortU_ren) { sortU with } none 0 (.func (.func 62) #[] #[]) w
    change Calls Try.prog 88 _ _ _ at hcon
    refine hcon.mono ?_
    rintro e w' ⟨rfl, rfl⟩
    exact ⟨rfl, [], List.Perm.refl _, List.Pairwise.nil, h, ⟨rfl, rfl, rfl, Nat.le_refl _, fun _ _ _ => rfl⟩⟩
  · have hgl : g < w.heap.size := (Array.getElem?_eq_some_iff.1 hgb).1
    have eg : ∀ args w, (callFunc 62 args).run Try.prog w = .ok (.enter 62 args) w := enters_of Try.func62 (by kernel_rfl) rfl
    have hcon := Go.Proofs.Any.slices_SortFunc_total sortU encU oneU cmpD swoD 62 #[] g 0 cap es.toArray w eg (fun m os dk _ x y => (down_k x y _).mono (fun e w' hh => ⟨hh.1, 0, #[], by rw [hh.2]; simp [World.drewN]⟩)) (holdsU h) hgl (by simpa using hsz) (fun x y h1 h2 => by
      rw [ltOf_cmpD] at h1 h2; simp at h1 h2; omega)
    change Calls Try.prog 88 _ _ _ at hcon
    rw [List.size_toArray] at hcon
    refine hcon.mono ?_
    rintro e w' ⟨rfl, n, os, rfl⟩
    have hperm : (es.mergeSort (fun x y => !(Go.Proofs.ltOf cmpD) y x)).Perm es := List.mergeSort_perm _ _
    have hpw : (es.mergeSort (fun x y => !(Go.Proofs.ltOf cmpD) y x)).Pairwise (fun a b => (!(Go.Proofs.ltOf cmpD) b a) = true) := List.pairwise_mergeSort (fun a b c h1 h2 => by
      rw [ltOf_cmpD] at *; simp at *; omega) (fun a b => by rw [ltOf_cmpD, ltOf_cmpD]; simp; omega) es
    obtain ⟨hR, hgr⟩ := sortedU (n := n) (os := os) h hperm.length_eq
    refine ⟨rfl, _, hperm, hpw.imp (fun {a b} hh => by rw [ltOf_cmpD] at hh; simpa using hh), hR, hgr⟩

set_option maxHeartbeats 2000000 in
/-- slices.SortedFunc(seq, down). -/
theorem sortedFunc_k (g : Nat) (lb : Array Value) (eg : ∀ args w, (callFunc g args).run Try.prog w = .ok (.enter g args) w)
    (S Sp : List Int → Prop) (N : Nat) (hN : N ≤ maxLen) (hNb : N * 8 ≤ 140737488355328) (w : World) (hseq : SeqStops Fence.wide 2 Try.prog g lb encU (fun ss => S ss ∧ ss.length ≤ N) Sp N w) :
    Calls Try.prog 64 #[.func (.func g) #[] lb, .func (.func 62) #[] #[]] w fun e w' => ∃ (v : Value) (ss ts : List Int), e = .returned v ∧ S ss ∧ ss.length ≤ N ∧ ts.Perm ss ∧ ts.Pairwise (fun a b => b ≤ a) ∧ w'.ownsRow w.heap.size 47 1 v ts.length (ts.map encU) ∧ Below w.heap.size w w' := by
  refine (callsIn_wide (n := 5)).1 ?_
  have hcol := collect_in Fence.wide 4 trivial trivial rfl (by omega) g lb trivial eg _ Sp N hN hNb w hseq
  have hsrt := fun (W : World) (v : Value) (es : List Int) h hsz => callsIn_wide (n := 4) |>.2 (sortU_k W w.heap.size v es h hsz)
  have hfc : Fence.wide.fn 87 := trivial
  have hfs : Fence.wide.fn 88 := trivial
  refine callsIn_of_wp Try.func64 rfl trivial ?_ rfl
  simp only [Try.ntmps64, List.size_toArray, List.length_cons, List.length_nil, Nat.reduceAdd, Nat.reduceSub, Array.replicate_succ, Array.replicate_zero, List.push_toArray, List.append_toArray, List.nil_append, List.cons_append]
  gi_wp2_with (first
    | (gi_at_call 87; refine hcol.mono ?_; rintro e w' ⟨v, ss, rfl, ⟨hS, hlen⟩, hrow, hb⟩)
    | (gi_at_call 88; refine (hsrt _ _ ss hrow (by omega)).mono ?_; rintro e w'' ⟨rfl, ts, hp, hpw, hrow2, hgr⟩))
  go_ret
  exact ⟨v, ss, ts, rfl, hS, hlen, hp, hpw, hrow2, hb.grown hgr hb.size (fun k hk => own_base hrow k hk)⟩
end Go.Proofs.Ytgebhidpkcjpmaa.K

namespace Go.Proofs.Ytgebhidpkcjpmaa.K
open Go.RowKit Go.Proofs.YtgebhidpkcjpmaaW.PrintWords Go.Proofs.YtgebhidpkcjpmaaW.PrintLast Go.Proofs.YtgebhidpkcjpmaaW.PrintMore Go.Proofs.Ytgebhidpkcjpmaa
attribute [local go_sem] max2_int min2_int max_two min_two max_three min_three max_four min_four
set_option linter.unusedVariables false
set_option linter.unusedSimpArgs false
open Go
def dist (cs : List Int) : List Int := cs.foldl (fun acc x => if x ∈ acc then acc else acc ++ [x]) []
theorem dist_snoc (cs : List Int) (x : Int) : dist (cs ++ [x]) = if x ∈ dist cs then dist cs else dist cs ++ [x] := by
  unfold dist; rw [List.foldl_append]; rfl
theorem snoc_ind {p : List Int → Prop} (h0 : p []) (hs : ∀ l x, p l → p (l ++ [x])) (l : List Int) : p l := by
  have : ∀ r : List Int, p r.reverse := fun r => by
    induction r with
    | nil => exact h0
    | cons x r ih => rw [List.reverse_cons]; exact hs _ _ ih
  simpa using this l.reverse
theorem mem_dist (x : Int) (cs : List Int) : x ∈ dist cs ↔ x ∈ cs := by
  induction cs using snoc_ind with
  | h0 => simp [dist]
  | hs l y ih =>
    rw [dist_snoc]
    by_cases h : y ∈ dist l
    · rw [if_pos h, ih, List.mem_append, List.mem_singleton]
      constructor
      · exact Or.inl
      · rintro (h1 | rfl)
        · exact h1
        · exact ih.1 h
    · rw [if_neg h, List.mem_append, List.mem_append, ih]
theorem nodup_dist (cs : List Int) : (dist cs).Nodup := by
  induction cs using snoc_ind with
  | h0 => simp [dist]
  | hs l y ih =>
    rw [dist_snoc]
    by_cases h : y ∈ dist l
    · rw [if_pos h]; exact ih
    · rw [if_neg h, List.nodup_append]
      exact ⟨ih, by simp, fun a ha b hb e => by rw [List.mem_singleton] at hb; subst hb; subst e; exact h ha⟩
/-- How many unlike counts are greater. -/
def abv (cs : List Int) (x : Int) : Nat := (dist cs).countP (fun y => decide (x < y))
/-- A class. -/
def cls (cs : List Int) (x : Int) : Int := if 255 < (abv cs x : Int) then 255 else (abv cs x : Int)
theorem abv_of (cs ts : List Int) (hn : ts.Nodup) (hm : ∀ x, x ∈ ts ↔ x ∈ cs) (x : Int) : abv cs x = ts.countP (fun y => decide (x < y)) := by
  unfold abv
  refine List.Perm.countP_eq _ ((List.perm_ext_iff_of_nodup (nodup_dist cs) hn).2 (fun y => ?_))
  rw [mem_dist, hm]
theorem abv_idx (cs ts : List Int) (hn : ts.Nodup) (hm : ∀ x, x ∈ ts ↔ x ∈ cs) (hp : ts.Pairwise (fun a b => b ≤ a)) (i : Nat) (hi : i < ts.length) : abv cs ts[i] = i := by
  rw [abv_of cs ts hn hm]
  have hs : ts.Pairwise (fun a b => b < a) := (hp.and hn).imp (fun {a b} h => by omega)
  rw [List.pairwise_iff_getElem] at hs
  have e : ts.countP (fun y => decide (ts[i] < y)) = (ts.take i ++ ts.drop i).countP (fun y => decide (ts[i] < y)) := by rw [List.take_append_drop]
  rw [e, List.countP_append]
  have h1 : (ts.take i).countP (fun y => decide (ts[i] < y)) = (ts.take i).length := by
    rw [List.countP_eq_length]
    intro a ha
    obtain ⟨j, hj, rfl⟩ := List.mem_iff_getElem.1 ha
    rw [List.length_take] at hj
    rw [List.getElem_take]
    exact decide_eq_true (hs j i (by omega) hi (by omega))
  have h2 : (ts.drop i).countP (fun y => decide (ts[i] < y)) = 0 := by
    rw [List.countP_eq_zero]
    intro a ha
    obtain ⟨j, hj, rfl⟩ := List.mem_iff_getElem.1 ha
    rw [List.length_drop] at hj
    rw [List.getElem_drop]
    have h3 : ¬ ts[i] < ts[i + j] := by
      by_cases h : j = 0
      · subst h; simp
      · have := hs i (i + j) hi (by omega) (by omega); omega
    simpa using h3
  rw [h1, h2, List.length_take]
  omega
end Go.Proofs.Ytgebhidpkcjpmaa.K

namespace Go.Proofs.Ytgebhidpkcjpmaa.K
open Go.RowKit Go.Proofs.YtgebhidpkcjpmaaW.PrintWords Go.Proofs.YtgebhidpkcjpmaaW.PrintLast Go.Proofs.YtgebhidpkcjpmaaW.PrintMore Go.Proofs.Ytgebhidpkcjpmaa
attribute [local go_sem] max2_int min2_int max_two min_two max_three min_three max_four min_four
set_option linter.unusedVariables false
set_option linter.unusedSimpArgs false
open Go Go.RowKit Go.Maps Go.Proofs.Ytgebhidpkcjpmaa.PR13
abbrev MapW (w : World) (b n : Nat) (D : DataW Nat) : Prop := w.ownsMap Try.prog 47 (plainElem Try.prog 3) b n D
theorem MapW.below {w w' : World} {b n : Nat} {D : DataW Nat} (h : MapW w b n D) (hb : Below w.heap.size w w') : MapW w' b n D := by
  have hbl := World.ownsMap.lt h
  obtain ⟨es, clock, hbk, Ft, hs, hD⟩ := h
  exact ⟨es, clock, (hb.block b hbl).trans hbk, Ft, hs, hD⟩
/-- The map's keys are just these. -/
def KeysL (D : DataW Nat) (cs : List Int) : Prop := ∀ x, has D (.int .u64 x) = true ↔ x ∈ cs
/-- The classes of the first i of ts are in the map. -/
def Given (D : DataW Nat) (ts : List Int) (i : Nat) : Prop := ∀ (j : Nat) (h : j < ts.length), j < i → ∀ zd, D.atKey (.int .u64 ts[j]) zd = .lit (.int .i64 (if 255 < (j : Int) then 255 else (j : Int)))
theorem isKeyU (x : Int) : WideAt.IsKeyLit (.int .u64 x) := by first | exact trivial | simp [WideAt.IsKeyLit]
theorem KeysL.put {D : DataW Nat} {cs : List Int} (h : KeysL D cs) (hD : IsMap D) (x : Int) (d : DataW Nat) : KeysL (D.put (.int .u64 x) d) (cs ++ [x]) := fun y => by
  by_cases hy : y = x
  · subst hy; rw [has_put_same hD (isKeyU y)]; simp
  · rw [has_put_other (by simp [hy]), h y]; simp [hy]
theorem KeysL.put_same {D : DataW Nat} {cs : List Int} (h : KeysL D cs) (hD : IsMap D) (x : Int) (hx : x ∈ cs) (d : DataW Nat) : KeysL (D.put (.int .u64 x) d) cs := fun y => by
  by_cases hy : y = x
  · subst hy; rw [has_put_same hD (isKeyU y)]; simp [hx]
  · rw [has_put_other (by simp [hy]), h y]
theorem Given.put {D : DataW Nat} {ts : List Int} {i : Nat} (h : Given D ts i) (hD : IsMap D) (hn : ts.Nodup) (hi : i < ts.length) : Given (D.put (.int .u64 ts[i]) (.lit (.int .i64 (if 255 < (i : Int) then 255 else (i : Int))))) ts (i + 1) := fun j hj hji zd => by
  by_cases e : j = i
  · subst e; exact atKey_put_same hD (isKeyU _) _ _
  · rw [atKey_put_other (by
      simp only [ne_eq, Lit.int.injEq, true_and]
      intro h2
      have h3 := List.pairwise_iff_getElem.1 hn
      rcases (show j < i ∨ i < j by omega) with h4 | h4
      · exact h3 j i hj hi h4 h2
      · exact h3 i j hi hj h4 h2.symm)]
    exact h j hj (by omega) zd
theorem rdEt (l : List S49) (i : Nat) (h : i < l.length) : rd_T49 l (i : Int) = l[i] := by
  unfold rd_T49
  rw [Int.toNat_natCast, List.getD_eq_getElem?_getD, List.getElem?_eq_getElem h]; rfl
theorem take_f1 (l : List S49) (i : Nat) (h : i < l.length) : (l.take (i + 1)).map S49.f1 = (l.take i).map S49.f1 ++ [(l[i]).f1] := by
  rw [List.take_add_one, List.getElem?_eq_getElem h, List.map_append]; rfl
theorem row_slice {w : World} {base e size n : Nat} {v : Value} {xs : List Value} (h : w.ownsRow base e size v n xs) : ∃ A c, v = .slice A n c ∧ n ≤ c := by
  rcases h.2 with ⟨rfl, h0⟩ | ⟨g, cap, _, rfl, _, _, h1, _⟩
  · exact ⟨none, 0, by rw [h0], by omega⟩
  · exact ⟨_, _, rfl, h1⟩
theorem keyU {x : Int} (h : (Lit.int .u64 x).wf = true) : keyOf Try.prog 47 (.int .u64 x) = some (.int .u64 x) := by
  simp [keyOf, Try.underlying47, mapKey, h]
def classesL (l : List S49) : List Int := l.map (fun x => cls (l.map S49.f1) x.f1)

set_option maxHeartbeats 4000000 in
set_option maxRecDepth 100000 in
theorem classes_k (A : Option Addr) (c : Nat) (l : List S49) (w : World) (hC : Kd.C k49 w A l.length l) (hc : l.length ≤ c) (hl : l.length ≤ 1048576) (hw : ∀ x ∈ l, (Lit.int .u64 x.f1).wf = true) :
    Calls Try.prog 33 #[.slice A l.length c] w fun e w' => ∃ v : Value, e = .returned v ∧ Kd.R (Kd.int .i64) 3 w' w.heap.size (fun _ => True) v (classesL l) ∧ Below w.heap.size w w' := by
  have HC := Aside0.mk hC; have HW := Aside0.mk hw
  clear hC hw
  have hmx : 1048577 * 4 ≤ maxLen := by decide
  have hmm := @run_makeMap Try.prog
  have huE := Try.underlying49
  go_enter Try.func33, Try.ntmps33
  go_wp2
  have HB0 : Aside0 (Below w.heap.size w (w.alloc (.map #[] 0))) := ⟨(Below.refl _ w).alloc (Nat.le_refl _) _⟩
  have HM0 : Aside0 (MapW (w.alloc (.map #[] 0)) w.heap.size 0 (.map [])) := ⟨World.ownsMap_made w Try.prog _ _⟩
  go_loopg [15] l.length (fun gg v15 wr => ∃ (i : Nat) (D : DataW Nat), v15 = .int .i64 i ∧ Aside0 (i ≤ l.length ∧ l.length ≤ gg + i) ∧ Aside0 (MapW wr w.heap.size i D) ∧ Aside0 (KeysL D ((l.take i).map S49.f1)) ∧ Aside0 (Below w.heap.size w wr))
  case atStart => exact ⟨0, _, rfl, ⟨by omega⟩, HM0, ⟨fun x => by simp [has]⟩, HB0⟩
  case round =>
    obtain ⟨i, D, rfl, HI, HM, HK, HB⟩ := hrel
    by_cases hlt : i < l.length
    · have hcb : decide ((i : Int) < (l.length : Int)) = true := decide_eq_true (by omega)
      have q0 : (0 : Int) ≤ (i : Int) := by omega
      have q1 : (i : Int) < (l.length : Int) := by omega
      obtain ⟨ad, e0, a0, a1⟩ := at_T49 (Kd.C_below HC.out HB.out) (i : Int) q0 q1
      cases e0
      have hwf := HW.out l[i] (List.getElem_mem hlt)
      have htk := take_f1 l i hlt
      have hrd := rdEt l i hlt
      rw [← hrd] at hwf htk
      generalize rd_T49 l (i : Int) = x at a0 a1 hwf htk
      have HTK := Aside0.mk htk; have HKX := Aside0.mk (keyU hwf)
      clear hrd htk hwf
      rw [Int.toNat_natCast] at a0 a1
      have hnl : i < maxLen := by omega
      go_wp2_with (first | (at_mapUpdate; refine wpList_mapUpdate_own _ rfl _ _ _ 116 rfl 47 3 keyedU Try.underlying116 _ w.heap.size i D rfl (by repeat (first | exact HM.out | apply World.ownsMap.alloc | apply World.ownsMap.drew)) hnl _ _ (.int .u64 x.f1) rfl rfl HKX.out (.lit (.int .i64 0)) [] (plainElem_int Try.underlying3 (by decide)) ?_; intro w1 hown1 hgrow1))
      have hsz := HB.out.size
      have hsz0 : w.heap.size + 1 ≤ wr.heap.size := World.ownsMap.lt HM.out
      go_roundg (l.length - (i + 1))
      case measure => have := HI.out; omega
      case rel =>
        exact ⟨i + 1, _, congrArg (Value.int .i64) (by omega), ⟨by omega⟩, ⟨hown1⟩, ⟨by rw [HTK.out]; exact HK.out.put (World.ownsMap.isMap HM.out) _ _⟩, ⟨(HB.out.alloc HB.out.size _).grown hgrow1 (by simp; omega) (fun k e => by cases e; exact Nat.le_refl _)⟩⟩
    · have hcb : decide ((i : Int) < (l.length : Int)) = false := decide_eq_false (by omega)
      have ei : i = l.length := by have := HI.out; omega
      subst ei
      have hK : KeysL D (l.map S49.f1) := by have := HK.out; rwa [List.take_length] at this
      have HK2 := Aside0.mk hK
      have hms : Maps.size D ≤ l.length := World.ownsMap.size_le HM.out
      have hMW : MapW (wr.alloc (.cells #[.map (some w.heap.size)] 116)) w.heap.size l.length D := World.ownsMap.alloc HM.out _
      have hseq := keys_stops Fence.wide 2 trivial rfl (by omega) wr.heap.size w.heap.size l.length D (wr.alloc (.cells #[.map (some w.heap.size)] 116)) (by simp) (by simp) hMW
      have cS := sortedFunc_k 89 #[.pointer (some ⟨wr.heap.size, 0, none⟩)] (enters_of Try.func89 (by kernel_rfl) rfl) (Keys D) (fun _ => True) (Maps.size D) (by omega) (by omega) _ hseq
      have cK : ∀ mb W, Calls Try.prog 65 #[.map mb] W fun e w' => e = .returned (.func (.func 89) #[] #[.pointer (some ⟨W.heap.size, 0, none⟩)]) ∧ w' = W.alloc (.cells #[.map mb] 116) := fun mb W => callsIn_wide.1 (keys_in Fence.wide 5 trivial rfl mb W)
      have CS := Aside0.mk cS
      have HMW := Aside0.mk hMW
      have hsz0 : w.heap.size < wr.heap.size := World.ownsMap.lt HM.out
      clear cS hMW hseq hK HK
      go_wp2_with (first
        | (go_at_call 65; refine (cK _ _).mono ?_; rintro e w' ⟨rfl, rfl⟩)
        | (go_at_call 64; refine CS.out.mono ?_; rintro e w2 ⟨v, ss, ts, rfl, hS, hlen, hp, hpw, hrow, hb2⟩; obtain ⟨A2, c2, rfl, hc2⟩ := row_slice hrow))
      have hR : Kd.R (Kd.int .u64) 47 w2 (w.heap.size + 1) (fun k => w.heap.size < k) (.slice A2 ts.length c2) ts := Kd.R_lower (Kd.R_of_own hrow (fun k hk => by have := own_base hrow k hk; simp at this; omega)) (by simp; omega)
      have hMW2 : MapW w2 w.heap.size l.length D := MapW.below HMW.out hb2
      have hB2 : Below w.heap.size w w2 := (HB.out.alloc HB.out.size _).trans (hb2.mono (by simp; omega))
      have hnd : ts.Nodup := hp.nodup_iff.2 hS.1
      have hmem : ∀ x, x ∈ ts ↔ x ∈ l.map S49.f1 := fun x => by rw [hp.mem_iff, hS.2 x, HK2.out x]
      have htl : ts.length ≤ l.length := by rw [hp.length_eq]; omega
      have htw : ∀ x ∈ ts, (Lit.int .u64 x).wf = true := fun x hx => by
        obtain ⟨y, hy, rfl⟩ := List.mem_map.1 ((hmem x).1 hx)
        exact HW.out y hy
      have hcl : ∀ (j : Nat) (h : j < ts.length), cls (l.map S49.f1) ts[j] = if 255 < (j : Int) then 255 else (j : Int) := fun j h => by
        unfold cls; rw [abv_idx _ ts hnd hmem hpw j h]
      have HR2 := Aside0.mk hR; have HMW2 := Aside0.mk hMW2; have HB2 := Aside0.mk hB2; have HND := Aside0.mk hnd; have HMEM := Aside0.mk hmem; have HTW := Aside0.mk htw; have HCL := Aside0.mk hcl
      clear hR hMW2 hB2 hnd hmem htw hcl hS hlen hp hpw hrow hb2 CS HMW HM HB cK
      go_loopg [28] ts.length (fun gg v28 wr2 => ∃ (j : Nat) (E : DataW Nat), v28 = .int .i64 j ∧ Aside0 (j ≤ ts.length ∧ ts.length ≤ gg + j) ∧ Aside0 (MapW wr2 w.heap.size (l.length + j) E) ∧ Aside0 (KeysL E (l.map S49.f1)) ∧ Aside0 (Given E ts j) ∧ Aside0 (Below w.heap.size w wr2) ∧ Aside0 (Kd.R (Kd.int .u64) 47 wr2 (w.heap.size + 1) (fun k => w.heap.size < k) (.slice A2 ts.length c2) ts))
      case atStart => exact ⟨0, D, rfl, ⟨by omega⟩, HMW2, HK2, ⟨fun j _ h => absurd h (by omega)⟩, HB2, HR2⟩
      case round =>
        obtain ⟨j, E, rfl, HJ, HM, HK, HG, HB, HR⟩ := hrel
        by_cases hlt2 : j < ts.length
        · have hcb2 : decide ((j : Int) < (ts.length : Int)) = true := decide_eq_true (by omega)
          have q0 : (0 : Int) ≤ (j : Int) := by omega
          have q1 : (j : Int) < (ts.length : Int) := by omega
          obtain ⟨Ax, cx, ex, hlx, hCx⟩ := Kd.R_reads HR.out
          injection ex with ex1 _ ex2
          subst ex1; subst ex2
          obtain ⟨ad2, e2, b0⟩ := Kd.at_int hCx (j : Int) q0 q1
          cases e2
          have hrd : rd ts (j : Int) = ts[j] := by unfold rd; rw [Int.toNat_natCast, List.getD_eq_getElem?_getD, List.getElem?_eq_getElem hlt2]; rfl
          have hwf := HTW.out ts[j] (List.getElem_mem hlt2)
          have hput := HG.out.put (World.ownsMap.isMap HM.out) HND.out hlt2
          have hkp := HK.out.put_same (World.ownsMap.isMap HM.out) ts[j] ((HMEM.out _).1 (List.getElem_mem hlt2)) (.lit (.int .i64 (if 255 < (j : Int) then 255 else (j : Int))))
          rw [hrd, Int.toNat_natCast] at b0
          generalize ts[j] = x at b0 hwf hput hkp
          have hkx := keyU hwf
          have HKX := Aside0.mk hkx; have HPT := Aside0.mk hput; have HKP := Aside0.mk hkp
          have hsz0 : w.heap.size < wr.heap.size := World.ownsMap.lt HM.out
          have hnl : l.length + j < maxLen := by omega
          clear hrd hwf hput hkp hkx hCx
          by_cases h255 : 255 < (j : Int)
          · have h255b : decide (255 < (j : Int)) = true := decide_eq_true h255
            rw [if_pos h255] at HPT HKP
            go_wp2_with (first | (at_mapUpdate; refine wpList_mapUpdate_own _ rfl _ _ _ 116 rfl 47 3 keyedU Try.underlying116 _ w.heap.size (l.length + j) E rfl (by repeat (first | exact HM.out | apply World.ownsMap.alloc | apply World.ownsMap.drew)) hnl _ _ (.int .u64 x) rfl rfl HKX.out (.lit (.int .i64 255)) [] (plainElem_int Try.underlying3 (by decide)) ?_; intro w1 hown1 hgrow1))
            go_roundg (ts.length - (j + 1))
            case measure => have := HJ.out; omega
            case rel =>
              exact ⟨j + 1, _, congrArg (Value.int .i64) (by omega), ⟨by omega⟩, ⟨hown1⟩, HKP, HPT, ⟨HB.out.grown hgrow1 HB.out.size (fun k e => by cases e; exact Nat.le_refl _)⟩, ⟨Kd.R_grown HR.out hgrow1 (fun k hk e => by cases e; omega)⟩⟩
          · have h255b : decide (255 < (j : Int)) = false := decide_eq_false h255
            rw [if_neg h255] at HPT HKP
            have HWJ : Aside0 ((Lit.int .i64 (j : Int)).wf = true) := ⟨by simp [Lit.wf, IntKind.min, IntKind.max, IntKind.bits, IntKind.signed]; omega⟩
            go_wp2_with (first | (at_mapUpdate; refine wpList_mapUpdate_own _ rfl _ _ _ 116 rfl 47 3 keyedU Try.underlying116 _ w.heap.size (l.length + j) E rfl (by repeat (first | exact HM.out | apply World.ownsMap.alloc | apply World.ownsMap.drew)) hnl _ _ (.int .u64 x) rfl rfl HKX.out (.lit (.int .i64 (j : Int))) [] (plainElem_int Try.underlying3 HWJ.out) ?_; intro w1 hown1 hgrow1))
            go_roundg (ts.length - (j + 1))
            case measure => have := HJ.out; omega
            case rel =>
              exact ⟨j + 1, _, congrArg (Value.int .i64) (by omega), ⟨by omega⟩, ⟨hown1⟩, HKP, HPT, ⟨HB.out.grown hgrow1 HB.out.size (fun k e => by cases e; exact Nat.le_refl _)⟩, ⟨Kd.R_grown HR.out hgrow1 (fun k hk e => by cases e; omega)⟩⟩
        · have hcb2 : decide ((j : Int) < (ts.length : Int)) = false := decide_eq_false (by omega)
          have ej : j = ts.length := by have := HJ.out; omega
          subst ej
          have hsz0 : w.heap.size < wr.heap.size := World.ownsMap.lt HM.out
          have HN : Aside0 (∀ x ∈ l, ∀ zd, E.atKey (.int .u64 x.f1) zd = .lit (.int .i64 (cls (l.map S49.f1) x.f1))) := ⟨fun x hx zd => by
            obtain ⟨t, ht, e⟩ := List.mem_iff_getElem.1 ((HMEM.out x.f1).2 (List.mem_map.2 ⟨x, hx, rfl⟩))
            rw [← e, HG.out t ht ht zd, HCL.out t ht]⟩
          clear HG HCL HMEM HTW HND HR HK hcb2
          go_wp2
          obtain ⟨nm, hnm⟩ : ∃ nm, l.length + ts.length = nm := ⟨_, rfl⟩
          rw [hnm] at HM
          clear HR2 HMW2 HB2 HK2 hnm
          obtain ⟨F, hF⟩ : ∃ F : S49 → Int, F = fun x => cls (l.map S49.f1) x.f1 := ⟨_, rfl⟩
          have HF := Aside0.mk hF
          have HN2 : Aside0 (∀ x ∈ l, ∀ zd, E.atKey (.int .u64 x.f1) zd = .lit (.int .i64 (F x))) := ⟨fun x hx zd => by rw [HF.out]; exact HN.out x hx zd⟩
          clear hF HN
          go_loopg [9, 40] l.length (fun gg v9 v40 wr3 => ∃ i : Nat, v40 = .int .i64 i ∧ Aside0 (i ≤ l.length ∧ l.length ≤ gg + i) ∧ Aside0 (MapW wr3 w.heap.size nm E) ∧ Aside0 (Kd.R (Kd.int .i64) 3 wr3 w.heap.size (fun k => k ≠ w.heap.size) v9 ((l.take i).map F)) ∧ Aside0 (Below w.heap.size w wr3))
          case atStart => exact ⟨0, rfl, ⟨by omega⟩, HM, ⟨Kd.R_nil _ _ _ _ _⟩, HB⟩
          case round =>
            obtain ⟨i, rfl, HI, HM, HR, HB⟩ := hrel
            by_cases hlt : i < l.length
            · have hcb : decide ((i : Int) < (l.length : Int)) = true := decide_eq_true (by omega)
              have q0 : (0 : Int) ≤ (i : Int) := by omega
              have q1 : (i : Int) < (l.length : Int) := by omega
              obtain ⟨ad, e0, a0, a1⟩ := at_T49 (Kd.C_below HC.out HB.out) (i : Int) q0 q1
              cases e0
              have hwf := HW.out l[i] (List.getElem_mem hlt)
              have hN := HN2.out l[i] (List.getElem_mem hlt)
              have htk : (l.take (i + 1)).map F = (l.take i).map F ++ [F l[i]] := by rw [List.take_add_one, List.getElem?_eq_getElem hlt, List.map_append]; rfl
              have hrd := rdEt l i hlt
              rw [← hrd] at hwf htk hN
              generalize rd_T49 l (i : Int) = x at a0 a1 hwf htk hN
              have HTK := Aside0.mk htk; have HKX := Aside0.mk (keyU hwf); have HNX := Aside0.mk hN
              clear hrd htk hwf hN
              rw [Int.toNat_natCast] at a0 a1
              have hln : ((l.take i).map F).length + 1 ≤ 1048577 := by rw [List.length_map, List.length_take]; omega
              have HLN := Aside0.mk hln
              obtain ⟨xs, hxs⟩ : ∃ xs, (l.take i).map F = xs := ⟨_, rfl⟩
              rw [hxs] at HR HTK HLN
              clear hln hxs
              have hbz := HB.out.size
              go_upto_region 17 with fail
              have hnew : (wr.alloc (.cells #[.string x.f0, .int .u64 x.f1] 49)).cell? ⟨wr.heap.size, 1, none⟩ = some (.int .u64 x.f1) := by simp
              have hM3 : MapW (wr.alloc (.cells #[.string x.f0, .int .u64 x.f1] 49)) w.heap.size nm E := World.ownsMap.alloc HM.out _
              have hB3 : Below w.heap.size w (wr.alloc (.cells #[.string x.f0, .int .u64 x.f1] 49)) := HB.out.alloc HB.out.size _
              have hR3 : Kd.R (Kd.int .i64) 3 (wr.alloc (.cells #[.string x.f0, .int .u64 x.f1] 49)) w.heap.size (fun k => k ≠ w.heap.size) u9 xs := Kd.R_alloc HR.out _
              have hgt : w.heap.size < (wr.alloc (.cells #[.string x.f0, .int .u64 x.f1] 49)).heap.size := World.ownsMap.lt hM3
              generalize wr.alloc (.cells #[.string x.f0, .int .u64 x.f1] 49) = W at hnew hM3 hB3 hR3 hgt ⊢
              have HM3 := Aside0.mk hM3; have HB3 := Aside0.mk hB3; have HR3 := Aside0.mk hR3
              clear hM3 hB3 hR3 HM HB HR a0 a1
              go_wp2_with (first
                | (at_lookup; refine wpList_lookup_own_int _ rfl _ _ 116 rfl 47 3 .i64 keyedU Try.underlying116 Try.underlying3 (Try.zeroValue3 _) w.heap.size nm E rfl (by repeat (first | exact HM3.out | apply World.ownsMap.alloc | apply World.ownsMap.drew)) _ (.int .u64 x.f1) rfl HKX.out ?_; intro cv hat hwc; rw [HNX.out] at hat; injection hat with hat; injection hat with _ hat; subst hat)
                | ((with_reducible refine gate_builtin (b := .append) (xs := #[.tmp 44, .tmp 49]) rfl ?_); at_builtin; refine Kd.R_append (Kd.int .i64) (w0 := w) w.heap.size rfl (.tmp 44) (.tmp 49) 27 3 (.int .i64 0) 8 rfl Try.underlying27 info3 rfl (by decide) (by omega) _ xs (F x) [.int .i64 (F x)] (fun k => k ≠ w.heap.size) (fun _ => False) rfl rfl rfl (fun _ hk => hk.elim) (fun k hk => by omega) (by (with_reducible repeat (first | apply Kd.R_alloc | apply Kd.R_drewN | apply Kd.R_drew)); exact HR3.out) HB3.out (HB3.out).size (by have := HLN.out; omega) ?_); intro v1 w5 hR5 hb5 hg5 hat5)
              go_roundg (l.length - (i + 1))
              case measure => have := HI.out; omega
              case rel =>
                exact ⟨i + 1, congrArg (Value.int .i64) (by omega), ⟨by omega⟩, ⟨World.ownsMap.kept HM3.out hg5 (fun e => HR3.out.1 _ e.symm rfl)⟩, ⟨by rw [HTK.out]; exact hR5⟩, ⟨hb5⟩⟩
            · have hcb : decide ((i : Int) < (l.length : Int)) = false := decide_eq_false (by omega)
              have ei : i = l.length := by have := HI.out; omega
              subst ei
              go_wp2
              go_ret
              refine ⟨_, rfl, ?_, HB.out⟩
              have h6 := HR.out
              rw [List.take_length, HF.out] at h6
              exact Kd.R_mono h6 (fun _ _ => trivial)
end Go.Proofs.Ytgebhidpkcjpmaa.K

namespace Go.Proofs.Ytgebhidpkcjpmaa.K
open Go.RowKit Go.Proofs.YtgebhidpkcjpmaaW.PrintWords Go.Proofs.YtgebhidpkcjpmaaW.PrintLast Go.Proofs.YtgebhidpkcjpmaaW.PrintMore Go.Proofs.Ytgebhidpkcjpmaa
attribute [local go_sem] max2_int min2_int max_two min_two max_three min_three max_four min_four
set_option linter.unusedVariables false
set_option linter.unusedSimpArgs false
open Go Go.Proofs.Ytgebhidpkcjpmaa.PR13
def okE (l : List S49) : Bool := decide (l.length ≤ 1048576) && l.all (fun x => (Lit.int .u64 x.f1).wf)
def rank_Classes.f (l0 : List S49) : Option (List Int) := if okE l0 = true then some (classesL l0) else none
theorem rank_Classes.calls (A0 : Option Addr) (c0 : Nat) (l0 : List S49) (r : List Int) (w : World) (hr0 : Kd.C k49 w A0 l0.length l0) (hc0 : l0.length ≤ c0) (h : rank_Classes.f l0 = some r) :
    Calls Try.prog 33 #[.slice A0 l0.length c0] w fun e w' => ∃ v0_ : Value, e = .returned (v0_) ∧ Kd.R (Kd.int .i64) 3 w' w.heap.size (fun _ => True) v0_ r ∧ Below w.heap.size w w' := by
  unfold rank_Classes.f at h
  by_cases hk : okE l0 = true
  · rw [if_pos hk] at h
    obtain rfl := Option.some.inj h
    unfold okE at hk
    rw [Bool.and_eq_true, List.all_eq_true] at hk
    exact classes_k A0 c0 l0 w hr0 hc0 (of_decide_eq_true hk.1) hk.2
  · rw [if_neg hk] at h; cases h
end Go.Proofs.Ytgebhidpkcjpmaa.K

namespace Go.Proofs.Ytgebhidpkcjpmaa.K
open Go.RowKit Go.Proofs.YtgebhidpkcjpmaaW.PrintWords Go.Proofs.YtgebhidpkcjpmaaW.PrintLast Go.Proofs.YtgebhidpkcjpmaaW.PrintMore Go.Proofs.Ytgebhidpkcjpmaa
attribute [local go_sem] max2_int min2_int max_two min_two max_three min_three max_four min_four
set_option linter.unusedVariables false
set_option linter.unusedSimpArgs false
open Go
theorem cls_nonneg (cs : List Int) (x : Int) : 0 ≤ cls cs x := by unfold cls; split <;> omega
theorem cls_le255 (cs : List Int) (x : Int) : cls cs x ≤ 255 := by unfold cls; split <;> omega
end Go.Proofs.Ytgebhidpkcjpmaa.K

namespace Go.Proofs.Ytgebhidpkcjpmaa.Crc
set_option linter.unusedVariables false
set_option linter.unusedSimpArgs false
def poly : Nat := 3988292384
/-- One bit's bstep. -/
def bstep (c : Nat) : Nat := if c % 2 = 1 then (c / 2) ^^^ poly else c / 2
def steps : Nat → Nat → Nat
  | 0, c => c
  | k + 1, c => steps k (bstep c)
def T (i : Nat) : Nat := steps 8 i
def byteT (c x : Nat) : Nat := T ((c % 256) ^^^ x) ^^^ (c / 256)
def moreT (c : Nat) (l : List Nat) : Nat := 4294967295 - l.foldl byteT (4294967295 - c)
def moreR (c : Nat) (l : List Nat) : Nat := 4294967295 - l.foldl (fun c x => steps 8 (c ^^^ x)) (4294967295 - c)
theorem step_lt {c : Nat} (h : c < 4294967296) : bstep c < 4294967296 := by
  unfold bstep
  split
  · exact Nat.xor_lt_two_pow (n := 32) (by omega) (by decide)
  · omega
theorem steps_lt : ∀ (k : Nat) {c : Nat}, c < 4294967296 → steps k c < 4294967296
  | 0, _, h => h
  | k + 1, _, h => steps_lt k (step_lt h)
theorem T_lt {i : Nat} (h : i < 256) : T i < 4294967296 := steps_lt 8 (by omega)
theorem byteT_lt {c x : Nat} (hc : c < 4294967296) (hx : x < 256) : byteT c x < 4294967296 := by
  unfold byteT
  exact Nat.xor_lt_two_pow (n := 32) (T_lt (Nat.xor_lt_two_pow (n := 8) (Nat.mod_lt _ (by decide)) hx)) (by omega)
def ofL (l : List Nat) : Nat := moreT 0 l
/-- The sum's four bytes. -/
def sumB (l : List Nat) : List Nat := [ofL l % 256, ofL l / 256 % 256, ofL l / 65536 % 256, ofL l / 16777216 % 256]
theorem sumB_len (l : List Nat) : (sumB l).length = 4 := rfl
end Go.Proofs.Ytgebhidpkcjpmaa.Crc

namespace Go.Proofs.Ytgebhidpkcjpmaa.K
open Go.RowKit Go.Proofs.YtgebhidpkcjpmaaW.PrintWords Go.Proofs.YtgebhidpkcjpmaaW.PrintLast Go.Proofs.YtgebhidpkcjpmaaW.PrintMore Go.Proofs.Ytgebhidpkcjpmaa
attribute [local go_sem] max2_int min2_int max_two min_two max_three min_three max_four min_four
set_option linter.unusedVariables false
set_option linter.unusedSimpArgs false
open Go Go.Proofs.Ytgebhidpkcjpmaa.Crc
/-- The table's cells, the first n of them laid. -/
def tabV (n : Nat) : Array Value := Array.ofFn (n := 256) fun j => .int .u32 (if j.val < n then (T j.val : Int) else 0)
theorem tabV_size (n : Nat) : (tabV n).size = 256 := by simp [tabV]
theorem tabV_zero : tabV 0 = Array.replicate 256 (.int .u32 0) := by
  unfold tabV
  apply Array.ext
  · simp
  · intro i h1 h2; simp
theorem tabV_get (n i : Nat) (h : i < 256) : (tabV n)[i]? = some (.int .u32 (if i < n then (T i : Int) else 0)) := by
  rw [Array.getElem?_eq_getElem (by rw [tabV_size]; exact h)]
  simp [tabV]
theorem tabV_succ (n : Nat) (h : n < 256) : (tabV n).setIfInBounds n (.int .u32 (T n : Int)) = tabV (n + 1) := by
  apply Array.ext
  · simp [tabV]
  · intro i h1 h2
    rw [Array.getElem_setIfInBounds (by rw [tabV_size]; simpa [tabV] using h2)]
    simp only [tabV, Array.getElem_ofFn]
    by_cases hi : n = i
    · subst hi; rw [if_pos rfl, if_pos (by omega)]
    · rw [if_neg hi]
      by_cases h3 : i < n
      · rw [if_pos h3, if_pos (by omega)]
      · rw [if_neg h3, if_neg (by omega)]
theorem tabV_one (n : Nat) : (tabV n).all (·.oneCell') = true := by
  rw [Array.all_eq_true]
  intro i h
  simp [tabV]
  rfl
theorem bit1 (c : Nat) (h : c < 4294967296) : Go.bits .and .u32 (c : Int) 1 = ((c % 2 : Nat) : Int) := by
  have := u32_and_nat c 1 h (by decide)
  rw [show (((1 : Nat) : Int)) = 1 from rfl] at this
  rw [this, Nat.and_one_is_mod]
theorem xorP (c : Nat) (h : c < 4294967296) : Go.bits .xor .u32 (c : Int) 3988292384 = ((c ^^^ poly : Nat) : Int) := u32_xor_nat c poly h (by decide)
theorem run_storeCells_row {P : Program} (w : World) (g : Nat) (t ty : TypeId) (old cells : Array Value) (hg : w.heap[g]? = some (.cells old t (0, 0))) (hi : (P.info? ty).map (·.size) = some cells.size) (hold : old.size = cells.size) (h1 : cells.all (·.oneCell') = true) :
    (storeCells ⟨g, 0, none⟩ cells.toList 0).run P w = .ok () (w.setRow g cells) := by
  have := run_storeVar_row (P := P) w g t ty old cells hg hi hold h1
  cases hq : P.info? ty with
  | none => simp [hq] at hi
  | some i =>
    have hs : cells.size = i.size := by simp [hq] at hi; omega
    simpa [storeVar, sizeOf, typeInfo, hq, Value.cells, hs] using this
set_option maxHeartbeats 4000000 in
set_option maxRecDepth 1000000 in
theorem table_k (w : World) : Calls Try.prog 116 #[] w fun e w' => e = .returned (.agg (tabV 256)) ∧ Below w.heap.size w w' := by
  have hinfo : (Try.prog.info? 175).map (fun i => (i.zero, i.size)) = some (some (.agg (Array.replicate 256 (.int .u32 0))), 256) := by kernel_rfl
  obtain ⟨hz, hs⟩ := zero_of_info hinfo
  have ht := Try.underlying175
  go_enter Try.func116, Try.ntmps116
  go_wp2
  rw [← tabV_zero]
  obtain ⟨w1, hw1⟩ : ∃ w1, w1 = w.alloc (.cells (tabV 0) 175) := ⟨_, rfl⟩
  have hn1 : w.heap.size + 1 = w1.heap.size := by rw [hw1]; exact (Array.size_push ..).symm
  rw [← hw1, hn1]
  have HW1 := Aside0.mk hw1; have HN1 := Aside0.mk hn1; have HS := Aside0.mk hs
  clear hw1 hn1 hs hinfo hz
  go_loopg [5] 256 (fun gg v5 wr => ∃ i : Nat, v5 = .int .i64 i ∧ Aside0 (i + gg = 256) ∧ wr = w1.alloc (.cells (tabV i) 175))
  case atStart => exact ⟨0, rfl, ⟨rfl⟩, rfl⟩
  case round =>
    obtain ⟨i, rfl, hi, rfl⟩ := hrel
    by_cases hlt : i < 256
    · have hcb : decide ((i : Int) < 256) = true := decide_eq_true (by omega)
      have hcv : IntKind.u32.wrap (i : Int) = (i : Int) := by rw [IntKind.wrap_u32]; omega
      go_wp2
      clear hcb hcv
      go_loopg [3, 10] 8 (fun gg v3 v10 wr => ∃ k c : Nat, v10 = .int .i64 k ∧ v3 = .int .u32 c ∧ Aside0 (k + gg = 8) ∧ Aside0 (c < 4294967296) ∧ Aside0 (steps gg c = T i) ∧ wr = w1.alloc (.cells (tabV i) 175))
      case atStart => exact ⟨0, i, rfl, rfl, ⟨rfl⟩, ⟨by omega⟩, ⟨rfl⟩, rfl⟩
      case round =>
        obtain ⟨k, c, rfl, rfl, hk, hc, hT, rfl⟩ := hrel
        by_cases hk8 : k < 8
        · have hcb2 : decide ((k : Int) < 8) = true := decide_eq_true (by omega)
          have hb1 := bit1 c hc.out
          obtain ⟨g, rfl⟩ : ∃ g, gk = g + 1 := ⟨gk - 1, by have := hk.out; omega⟩
          by_cases hm : c % 2 = 1
          · have hb2 : decide ((((c % 2 : Nat) : Int)) = 1) = true := decide_eq_true (by omega)
            have HST := Aside0.mk (show bstep c = (c / 2) ^^^ poly by unfold bstep; rw [if_pos hm])
            have hx := xorP (c / 2) (by have := hc.out; omega)
            go_wp2
            go_roundg g
            case measure => omega
            case rel =>
              refine ⟨k + 1, bstep c, congrArg (Value.int .i64) (by omega), ?_, ⟨by have := hk.out; omega⟩, ⟨step_lt hc.out⟩, ⟨hT.out⟩, rfl⟩
              rw [HST.out, ← hx]; rfl
          · have hb2 : decide ((((c % 2 : Nat) : Int)) = 1) = false := decide_eq_false (by omega)
            have HST := Aside0.mk (show bstep c = c / 2 by unfold bstep; rw [if_neg hm])
            go_wp2
            go_roundg g
            case measure => omega
            case rel =>
              refine ⟨k + 1, bstep c, congrArg (Value.int .i64) (by omega), ?_, ⟨by have := hk.out; omega⟩, ⟨step_lt hc.out⟩, ⟨hT.out⟩, rfl⟩
              rw [HST.out]; rfl
        · have hcb2 : decide ((k : Int) < 8) = false := decide_eq_false (by omega)
          obtain rfl : gk = 0 := by have := hk.out; omega
          have HCT := Aside0.mk (show c = T i from hT.out)
          have HSET := Aside0.mk (tabV_succ i hlt)
          have hcell := tabV_get i i hlt
          rw [if_neg (Nat.lt_irrefl i)] at hcell
          have q0 : (0 : Int) ≤ (i : Int) := by omega
          have q1 : (i : Int) < 256 := by omega
          have hcb2' := hcb2
          generalize tabV i = C at hcell HSET ⊢
          go_wp2
          go_roundg (255 - i)
          case measure => have := hi.out; omega
          case rel =>
            refine ⟨i + 1, congrArg (Value.int .i64) (by omega), ⟨by omega⟩, ?_⟩
            rw [HCT.out, HSET.out]
    · have hcb : decide ((i : Int) < 256) = false := decide_eq_false (by omega)
      obtain rfl : i = 256 := by have := hi.out; omega
      have hl := tabV_one 256
      have hsz := tabV_size 256
      obtain ⟨C, hC⟩ : ∃ C, C = tabV 256 := ⟨_, rfl⟩
      rw [← hC] at hl hsz ⊢
      have HC := Aside0.mk hC; have HL := Aside0.mk hl; have HSZ := Aside0.mk hsz
      clear hC hl hsz hi
      go_wp2
      refine wp_load_row _ _ rfl w1.heap.size rfl _ C (0, 0) _ (heap_alloc_new w1 _) ht rfl (by rw [HSZ.out]; exact HS.out) ?_
      have hg0 : (w1.alloc (.cells C 175 (0, 0))).heap[w.heap.size]? = some (.cells (tabV 0) 175 (0, 0)) := by
        rw [heap_alloc_old w1 _ (by have := HN1.out; omega), HW1.out]; exact heap_alloc_new w _
      have hsc := run_storeCells_row (P := Try.prog) _ w.heap.size _ 175 (tabV 0) C hg0 (by rw [HSZ.out]; exact HS.out) (by rw [HSZ.out, tabV_size]) HL.out
      have HSE := Aside0.mk (setRow_heap _ w.heap.size _ C _ _ hg0)
      have hBe : Below w.heap.size w ((w1.alloc (.cells C 175 (0, 0))).setRow w.heap.size C) := by
        rw [HW1.out]
        exact below_setRow (((Below.refl w.heap.size w).alloc (Nat.le_refl _) _).alloc (by rw [← HW1.out, ← HN1.out]; omega) _) (Nat.le_refl _) C
      have HBE := Aside0.mk hBe
      have hsz := HSZ.out
      clear hg0 hBe
      generalize (w1.alloc (.cells C 175 (0, 0))).setRow w.heap.size C = w3 at HSE HBE hsc
      go_wp2
      refine bodyPost_ret (v := .agg C) ?_ rfl ⟨by rw [HC.out], HBE.out⟩
      exact results_cell_row rfl _ _ w.heap.size _ C _ _ (by rfl) HSE.out ht rfl (by rw [HSZ.out]; exact HS.out)
end Go.Proofs.Ytgebhidpkcjpmaa.K

namespace Go.Proofs.Ytgebhidpkcjpmaa.K
open Go.RowKit Go.Proofs.YtgebhidpkcjpmaaW.PrintWords Go.Proofs.YtgebhidpkcjpmaaW.PrintLast Go.Proofs.YtgebhidpkcjpmaaW.PrintMore Go.Proofs.Ytgebhidpkcjpmaa
attribute [local go_sem] max2_int min2_int max_two min_two max_three min_three max_four min_four
set_option linter.unusedVariables false
set_option linter.unusedSimpArgs false
open Go Go.Proofs.Ytgebhidpkcjpmaa.Crc
/-- All numbers are bytes. -/
def byt (l : List Int) : Bool := l.all fun n => decide (0 ≤ n) && decide (n < 256)
theorem byt_get {l : List Int} (h : byt l = true) (i : Nat) (hi : i < l.length) : 0 ≤ l[i] ∧ l[i] < 256 := by
  have := List.all_eq_true.1 h _ (List.getElem_mem hi)
  simpa using this
def natL (l : List Int) : List Nat := l.map Int.toNat
theorem natL_take (l : List Int) (i : Nat) (hi : i < l.length) : natL (l.take (i + 1)) = natL (l.take i) ++ [(l[i]).toNat] := by
  rw [List.take_succ_eq_append_getElem hi]; unfold natL; rw [List.map_append]; rfl
theorem not32 (c : Nat) (h : c < 4294967296) : Go.bits .xor .u32 4294967295 (c : Int) = ((4294967295 - c : Nat) : Int) := by
  have h1 := u32_xor_nat 4294967295 c (by decide) h
  rw [show ((4294967295 : Nat) : Int) = 4294967295 from rfl] at h1
  rw [h1]
  congr 1
  have hs : (4294967295 - c) + c = 4294967295 := by omega
  apply Nat.eq_of_testBit_eq
  intro i
  rw [Nat.testBit_xor]
  have e1 : 4294967295 - c = 2 ^ 32 - (c + 1) := by omega
  rw [e1, Nat.testBit_two_pow_sub_succ h]
  have e2 : (4294967295 : Nat).testBit i = decide (i < 32) := by
    have : (4294967295 : Nat) = 2 ^ 32 - 1 := by decide
    rw [this, Nat.testBit_two_pow_sub_one]
  rw [e2]
  by_cases hi : i < 32
  · simp [hi]
  · have : c.testBit i = false := Nat.testBit_lt_two_pow (Nat.lt_of_lt_of_le h (Nat.pow_le_pow_right (n := 2) (by decide) (Nat.not_lt.1 hi)))
    simp [hi, this]
set_option maxHeartbeats 4000000 in
set_option maxRecDepth 1000000 in
theorem more_k (c : Nat) (hcl : c < 4294967296) (A : Option Addr) (cap : Nat) (l : List Int) (w : World) (hC : Kd.C (Kd.int .u8) w A l.length l) (hc : l.length ≤ cap) (hb : byt l = true) :
    Calls Try.prog 104 #[.int .u32 (c : Int), .slice A l.length cap] w fun e w' => e = .returned (.int .u32 (moreT c (natL l))) ∧ Below w.heap.size w w' := by
  have hinfo : (Try.prog.info? 175).map (fun i => (i.zero, i.size)) = some (some (.agg (Array.replicate 256 (.int .u32 0))), 256) := by kernel_rfl
  obtain ⟨hz, hs⟩ := zero_of_info hinfo
  have ht := Try.underlying175
  have HC := Aside0.mk hC; have HB := Aside0.mk hb; have HS := Aside0.mk hs
  have hlen : (l.length : Int) ≤ 9223372036854775807 := by have := hC.2.1; omega
  have hn := not32 c hcl
  have hm : IntKind.u32.max = 4294967295 := by decide
  clear hC hb hs hinfo
  obtain ⟨C, hC⟩ : ∃ C, C = tabV 256 := ⟨_, rfl⟩
  have hsz : C.size = 256 := by rw [hC]; exact tabV_size 256
  have hone : C.all (·.oneCell') = true := by rw [hC]; exact tabV_one 256
  have htab := fun w => table_k w
  rw [← hC] at htab
  have hsc := fun w : World => run_storeCells_new (P := Try.prog) w 175 (Array.replicate 256 (.int .u32 0)) C (by rw [hsz]; exact HS.out) (by rw [hsz, Array.size_replicate]) hone
  have HCT := Aside0.mk hC
  clear hC hone
  go_enter Try.func104, Try.ntmps104
  go_wp2_with (first | (go_at_call 116; (with_reducible refine (htab _).mono ?_)))
  rintro e w1 ⟨rfl, hb1⟩
  have HB1 := Aside0.mk hb1
  clear hb1
  go_wp2
  (try (simp only [Result.andThen, hsc]; rw [Oper.upon_skip]; go_wp2))
  have HBA := Aside0.mk (HB1.out.alloc HB1.out.size (.cells C 175 (0, 0)))
  clear hsc htab hz hsz
  go_loopg [0, 13] l.length (fun gg v0 v13 wr => ∃ i d : Nat, v13 = .int .i64 i ∧ v0 = .int .u32 d ∧ Aside0 (i + gg = l.length) ∧ Aside0 (d < 4294967296) ∧ Aside0 (d = (natL (l.take i)).foldl byteT (4294967295 - c)) ∧ wr = w1.alloc (.cells C 175 (0, 0)))
  case atStart => exact ⟨0, 4294967295 - c, rfl, rfl, ⟨by omega⟩, ⟨by omega⟩, ⟨rfl⟩, rfl⟩
  case round =>
    obtain ⟨i, d, rfl, rfl, hi, hd, hD, rfl⟩ := hrel
    by_cases hlt : i < l.length
    · have hcb : decide ((i : Int) < (l.length : Int)) = true := decide_eq_true (by omega)
      obtain ⟨b0, b1⟩ := byt_get HB.out i hlt
      obtain ⟨ad, ead, hx⟩ := Kd.at_int (Kd.C_below HC.out HBA.out) (i : Int) (by omega) (by omega)
      cases ead
      rw [Int.toNat_natCast, rd_nat, List.getD_eq_getElem?_getD, List.getElem?_eq_getElem hlt, Option.getD_some] at hx
      have HN := Aside0.mk (natL_take l i hlt)
      generalize l[i] = x at b0 b1 hx HN
      obtain ⟨x, rfl⟩ := Int.eq_ofNat_of_zero_le b0
      rw [Int.toNat_natCast] at HN
      have hj := u8_xor_nat (d % 256) x (by omega) (by omega)
      have hjl : (d % 256) ^^^ x < 256 := Nat.xor_lt_two_pow (n := 8) (by omega) (by omega)
      rw [show ((d % 256 : Nat) : Int) = (d : Int) % 256 from by omega] at hj
      have hcell := tabV_get 256 ((d % 256) ^^^ x) hjl
      rw [if_pos hjl, ← HCT.out] at hcell
      have hx2 := u32_xor_nat (T ((d % 256) ^^^ x)) (d / 256) (T_lt hjl) (by have := hd.out; omega)
      rw [show ((d / 256 : Nat) : Int) = (d : Int) / 256 from by omega] at hx2
      have HBT := Aside0.mk (show byteT d x = T ((d % 256) ^^^ x) ^^^ (d / 256) from rfl)
      have HLT := Aside0.mk (byteT_lt hd.out (show x < 256 by omega))
      have q0 : (0 : Int) ≤ (((d % 256) ^^^ x : Nat) : Int) := by omega
      have q1 : (((d % 256) ^^^ x : Nat) : Int) < 256 := by omega
      have z0 : (0 : Int) ≤ (i : Int) := by omega
      have z1 : (i : Int) < (l.length : Int) := by omega
      generalize (d % 256) ^^^ x = j at hj hjl hcell hx2 HBT q0 q1
      generalize hTJ : T j = tj at hcell hx2 HBT
      clear hTJ
      go_wp2
      go_roundg (l.length - (i + 1))
      case measure => have := hi.out; omega
      case rel =>
        refine ⟨i + 1, byteT d x, congrArg (Value.int .i64) (by omega), by rw [HBT.out], ⟨by have := hi.out; omega⟩, HLT, ⟨?_⟩, rfl⟩
        rw [HN.out, List.foldl_append, ← hD.out]; rfl
    · have hcb : decide ((i : Int) < (l.length : Int)) = false := decide_eq_false (by omega)
      obtain rfl : i = l.length := by have := hi.out; omega
      have hn2 := not32 d hd.out
      have HR := Aside0.mk (show moreT c (natL l) = 4294967295 - d by unfold moreT; rw [hD.out, List.take_length])
      go_wp2
      go_ret
      exact ⟨by rw [HR.out]; rfl, HBA.out⟩
set_option maxHeartbeats 4000000 in
set_option maxRecDepth 1000000 in
theorem crcOf_k (A : Option Addr) (cap : Nat) (l : List Int) (w : World) (hC : Kd.C (Kd.int .u8) w A l.length l) (hc : l.length ≤ cap) (hb : byt l = true) :
    Calls Try.prog 94 #[.slice A l.length cap] w fun e w' => e = .returned (.int .u32 (ofL (natL l))) ∧ Below w.heap.size w w' := by
  have hm := more_k 0 (by decide) A cap l w hC hc hb
  rw [show (((0 : Nat) : Int)) = 0 from rfl] at hm
  go_enter Try.func94, Try.ntmps94
  go_wp2_with (first | (go_at_call 104; (with_reducible refine hm.mono ?_)))
  rintro e w1 ⟨rfl, hb1⟩
  go_wp2
  go_ret
  exact ⟨rfl, hb1⟩
/-- As the printer calls it. -/
def crc_Of.f (l0 : List Int) : Option Int := if byt l0 = true then some (ofL (natL l0) : Int) else none
theorem crc_Of.calls (A0 : Option Addr) (c0 : Nat) (l0 : List Int) (r : Int) (w : World) (hr0 : Kd.C (Kd.int .u8) w A0 l0.length l0) (hc0 : l0.length ≤ c0) (h : crc_Of.f l0 = some r) :
    Calls Try.prog 94 #[.slice A0 l0.length c0] w fun e w' => e = .returned (.int .u32 r) ∧ Below w.heap.size w w' := by
  unfold crc_Of.f at h
  by_cases hk : byt l0 = true
  · rw [if_pos hk] at h
    obtain rfl := Option.some.inj h
    exact crcOf_k A0 c0 l0 w hr0 hc0 hk
  · rw [if_neg hk] at h; cases h
end Go.Proofs.Ytgebhidpkcjpmaa.K

namespace Go.Proofs.Ytgebhidpkcjpmaa.PFl
open Go.RowKit Go.Proofs.YtgebhidpkcjpmaaW.PrintWords Go.Proofs.YtgebhidpkcjpmaaW.PrintLast Go.Proofs.YtgebhidpkcjpmaaW.PrintMore Go.Proofs.Ytgebhidpkcjpmaa.K Go.Proofs.Ytgebhidpkcjpmaa.PDk Go.Proofs.Ytgebhidpkcjpmaa.PDm Go.Proofs.Ytgebhidpkcjpmaa.PR13
attribute [local go_sem] max2_int min2_int max_two min_two max_three min_three max_four min_four   -- for this text's walks alone
set_option linter.unusedVariables false
set_option linter.unusedSimpArgs false



def errW : Option Int → Value
  | none => .nilIface
  | some c => .iface 0 (.int .i64 c)
theorem errW_none : errW none = .nilIface := rfl
theorem errW_some (c : Int) : errW (some c) = .iface 0 (.int .i64 c) := rfl

end Go.Proofs.Ytgebhidpkcjpmaa.PFl

