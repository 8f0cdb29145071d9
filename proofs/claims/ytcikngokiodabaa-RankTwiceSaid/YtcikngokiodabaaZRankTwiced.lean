/- RankTwice. (The texts that the proof is made of, one behind the other: part 4 of 5.) -/
import Derived.Lib.SliceRun
import Derived.Shelf.Abstract
import Derived.Test.YtcikngokiodabaaProg
import Derived.Below
import Derived.Deep.Draws
import Derived.Deep.AppendLies
import Derived.Maps.AppendAt
import Derived.OwnWalk
import Derived.Laws.BytesArg
import Derived.Laws.MakeOwn
import Derived.Laws.OwnMore
import Derived.Deep.OwnRows
import Derived.Tactics
import Derived.Lib.ConvBytes
import Derived.Laws.Slices
import Derived.WalkKit
import Derived.KernelRfl
import Derived.RowKit3
import Derived.Deep.LoopGhost
import Derived.Deep.QuietTactic
import Derived.BigQuiet
import Derived.WideLaws
import Derived.Deep.DeepCutAuto
import Derived.Deep.CutBlock
import Derived.Deep.RegionHeld3
import Derived.Laws.Rows
import Derived.Lib.AppendStr
import Derived.ArgAppend
import Derived.Laws.IdiomCopy
import Derived.OrdersHeld
import Derived.Laws.BitsLemmas
import Derived.RowKit
import Derived.Lib.OthersKept
import Derived.WalkSmall
import Derived.Deep.RegionLaw
import Derived.BigRegion
import Derived.Laws.EntriesVeiled
import Derived.Test.YtcikngokiodabaaZRankTwicea
import Derived.Test.YtcikngokiodabaaZRankTwiceb
import Derived.Test.YtcikngokiodabaaZRankTwicec
namespace Go.Proofs.Ytcikngokiodabaa.K
open Go.RowKit Go.Proofs.YtcikngokiodabaaW.PrintWords Go.Proofs.YtcikngokiodabaaW.PrintLast Go.Proofs.YtcikngokiodabaaW.PrintMore Go.Proofs.Ytcikngokiodabaa
attribute [local go_sem] max2_int min2_int max_two min_two max_three min_three max_four min_four
set_option linter.unusedVariables false
set_option linter.unusedSimpArgs false
open Go Go.Shelf Go.Proofs.Ytcikngokiodabaa.PR13
set_option maxHeartbeats 2000000 in
set_option maxRecDepth 100000 in
theorem cloneE_k (A0 : Option Addr) (c0 : Nat) (l0 : List S35) (w : World) (hr0 : Kd.C k35 w A0 l0.length l0) (hc0 : l0.length ≤ c0) (hlen : l0.length ≤ 1048576) :
    Calls Try.prog 19 #[.slice A0 l0.length c0] w fun e w' => ∃ v0_ : Value, e = .returned (v0_) ∧ Kd.R k35 35 w' w.heap.size (fun _ => True) v0_ l0 ∧ Below w.heap.size w w' := by
  have hq : ∀ (W : World) (a : Option Addr) (n c n' c' : Nat), (binOp .eql 22 (.slice a n c) (.slice none n' c')).run Try.prog W = .ok (.bool a.isNone) W := fun W a n c n' c' => Lib.run_eql_slice_nil W _ _ a n c n' c' Try.underlying22
  cases A0 with
  | none =>
    have h0 : l0 = [] := by
      cases l0 with
      | nil => rfl
      | cons x l =>
        obtain ⟨ad, _, e, _⟩ := Kd.C_get hr0 z35 0 (by omega) (by simp)
        cases e
    subst h0
    go_enter Try.func19, Try.ntmps19
    go_wp2
    go_ret
    exact ⟨_, rfl, Kd.R_nil _ _ _ _ _, Below.refl _ _⟩
  | some ad =>
    have HR := Aside0.mk hr0; clear hr0
    have HL := Aside0.mk hlen; clear hlen
    go_enter Try.func19, Try.ntmps19
    go_wp2_with ((with_reducible refine gate_dst (N := 5) rfl ?_); refine Kd.R_lit (k35) _ 35 ?hg (N := 5) ?hd (xs := []) (inner := []) (ok := fun _ => True) (okp := fun _ => True) ?hr ?hp (fun _ hk => hk) trivial (Below.refl _ _) (Nat.le_refl _) (by simp) ?_; (case hd => rfl); (case hg => rfl); (case hr => first | (go_simp; done) | (go_simp; rfl)); (case hp => exact (Reps.none _ _)))
    intro v1 w1 hR1 hb1 hg1 n1 hn1 hle1
    have HB1 := Aside0.mk hb1
    have HR1 := Aside0.mk hR1
    have HC1 := Aside0.mk (Kd.C_below HR.out hb1)
    clear hR1 hb1 hg1 hn1 hle1 n1
    go_wp2_with ((with_reducible refine gate_builtin (b := .append) (xs := #[.tmp 5, .tmp 6]) rfl ?_); at_builtin; refine Kd.R_append_rows (k35) (w0 := w) w.heap.size rfl (.tmp 5) (.tmp 6) 22 35 (.agg #[(.string ⟨#[]⟩), (.int .u64 0)]) 24 rfl Try.underlying22 info35 rfl (by decide) (by omega) v1 [] l0 _ _ _ (fun _ => True) (fun _ => False) rfl rfl HR1.out HC1.out (fun _ _ h => h) (fun _ h => h.elim) (fun _ _ => trivial) HB1.out (HB1.out).size (by have := HL.out; simp; omega) ?_)
    intro v2 w2 hR2 hb2 hg2 hat2
    have HB2 := Aside0.mk hb2
    have HR2 := Aside0.mk hR2
    clear hR2 hb2 hg2 hat2
    go_wp2
    go_ret
    exact ⟨_, rfl, by simpa using HR2.out, HB2.out⟩
set_option maxHeartbeats 2000000 in
set_option maxRecDepth 100000 in
theorem prune1_k (b : Nat) (least : Int) (x : S35) (W : World) (h : W.cell? ⟨b, 0, none⟩ = some (.int .u64 least)) :
    Calls Try.prog 20 (#[.agg #[.string x.f0, .int .u64 x.f1]] ++ #[.pointer (some ⟨b, 0, none⟩)]) W fun e w' => e = .returned (.bool (decide (x.f1 < least))) ∧ Below W.heap.size W w' := by
  show Calls Try.prog 20 #[.agg #[.string x.f0, .int .u64 x.f1], .pointer (some ⟨b, 0, none⟩)] W _
  have huE := Try.underlying35
  have h2 : (W.alloc (.cells #[.string x.f0, .int .u64 x.f1] 35)).cell? ⟨b, 0, none⟩ = some (.int .u64 least) := ((Below.refl W.heap.size W).alloc (Nat.le_refl _) _ |>.cell (p := ⟨b, 0, none⟩) (World.block_lt_of_cell? W _ h)).trans h
  go_enter Try.func20, Try.ntmps20
  go_wp2
  go_ret
  exact ⟨rfl, (Below.refl _ W).alloc (Nat.le_refl _) _⟩
def idxE (p : S35 → Bool) (es : List S35) : Int := match es.findIdx? p with | some j => (j : Int) | none => -1
theorem idx_step (p : S35 → Bool) (es : List S35) (i : Nat) (h : i < es.length) (hn : p es[i] = false) : (es.drop i).findIdx? p = ((es.drop (i + 1)).findIdx? p).map (· + 1) := by
  rw [List.drop_eq_getElem_cons h, List.findIdx?_cons, if_neg (by simp [hn])]
theorem idx_hit (p : S35 → Bool) (es : List S35) (i : Nat) (h : i < es.length) (hn : p es[i] = true) : (es.drop i).findIdx? p = some 0 := by
  rw [List.drop_eq_getElem_cons h, List.findIdx?_cons, if_pos hn]
set_option maxHeartbeats 4000000 in
set_option maxRecDepth 100000 in
/-- slices.IndexFunc at edges, for whatever predicate that lays no more than blocks of its own. -/
theorem indexFunc_k (g : Nat) (eg : ∀ args w, (callFunc g args).run Try.prog w = .ok (.enter g args) w) (lb : Array Value) (p : S35 → Bool) (A : Option Addr) (c : Nat) (es : List S35) (w : World) (hC : Kd.C k35 w A es.length es) (hc : es.length ≤ c)
    (hp : ∀ (W : World) (x : S35), Below w.heap.size w W → Calls Try.prog g (#[.agg #[.string x.f0, .int .u64 x.f1]] ++ lb) W fun e w' => e = .returned (.bool (p x)) ∧ Below w.heap.size w w') :
    Calls Try.prog 26 #[.slice A es.length c, .func (.func g) #[] lb] w fun e w' => e = .returned (.int .i64 (idxE p es)) ∧ Below w.heap.size w w' := by
  have HC := Aside0.mk hC; have HP := Aside0.mk hp
  have hlen : (es.length : Int) ≤ 9223372036854775807 := by have := hC.2.1; omega
  clear hC hp
  have huE := Try.underlying35
  go_enter Try.func26, Try.ntmps26
  go_wp2
  go_loopg [8] es.length (fun gg v8 wr => ∃ i : Nat, v8 = .int .i64 i ∧ Aside0 (i ≤ es.length ∧ es.length ≤ gg + i) ∧ Aside0 (es.findIdx? p = ((es.drop i).findIdx? p).map (· + i)) ∧ Aside0 (Below w.heap.size w wr))
  case atStart => exact ⟨0, rfl, ⟨by omega⟩, ⟨by simp⟩, ⟨Below.refl _ _⟩⟩
  case round =>
    obtain ⟨i, rfl, hi, hf, hb⟩ := hrel
    by_cases hlt : i < es.length
    · have hcb : decide ((i : Int) < (es.length : Int)) = true := decide_eq_true (by omega)
      have q0 : (0 : Int) ≤ (i : Int) := by omega
      have q1 : (i : Int) < (es.length : Int) := by omega
      obtain ⟨ad, e0, a0, a1⟩ := at_T35 (Kd.C_below HC.out hb.out) (i : Int) q0 q1
      cases e0
      have hcall := HP.out wr (rd_T35 es (i : Int)) hb.out
      have hrd := rdE es i hlt
      generalize hx : rd_T35 es (i : Int) = x at a0 a1 hcall
      have HX : Aside0 (es[i] = x) := ⟨hrd.symm.trans hx⟩
      clear hx hrd
      rw [Int.toNat_natCast] at a0 a1
      cases hq : p x with
      | true =>
        rw [hq] at hcall
        have HQ := Aside0.mk hq; have HCL := Aside0.mk hcall
        clear hq hcall
        go_wp2
        (with_reducible refine HCL.out.mono ?_)
        (first | rintro e w' ⟨rfl, hb'⟩ | rintro e w' rfl hb')
        go_wp2
        go_ret
        refine ⟨?_, hb'⟩
        unfold idxE
        rw [hf.out, idx_hit p es i hlt (by rw [HX.out]; exact HQ.out)]
        simp
      | false =>
        rw [hq] at hcall
        have HQ := Aside0.mk hq; have HCL := Aside0.mk hcall
        clear hq hcall
        go_wp2
        (with_reducible refine HCL.out.mono ?_)
        (first | rintro e w' ⟨rfl, hb'⟩ | rintro e w' rfl hb')
        go_wp2
        go_roundg (es.length - (i + 1))
        case measure => have := hi.out; omega
        case rel =>
          refine ⟨i + 1, congrArg (Value.int .i64) (by omega), ⟨by have := hi.out; omega⟩, ⟨?_⟩, ⟨hb'⟩⟩
          rw [hf.out, idx_step p es i hlt (by rw [HX.out]; exact HQ.out), Option.map_map]
          congr 1
          funext n
          simp only [Function.comp]
          omega
    · have hcb : decide ((i : Int) < (es.length : Int)) = false := decide_eq_false (by omega)
      go_wp2
      go_ret
      refine ⟨?_, hb.out⟩
      unfold idxE
      rw [hf.out, List.drop_eq_nil_of_le (by omega)]
      rfl
end Go.Proofs.Ytcikngokiodabaa.K

namespace Go.Proofs.Ytcikngokiodabaa.K
open Go.RowKit Go.Proofs.YtcikngokiodabaaW.PrintWords Go.Proofs.YtcikngokiodabaaW.PrintLast Go.Proofs.YtcikngokiodabaaW.PrintMore Go.Proofs.Ytcikngokiodabaa
attribute [local go_sem] max2_int min2_int max_two min_two max_three min_three max_four min_four
set_option linter.unusedVariables false
set_option linter.unusedSimpArgs false
open Go Go.Shelf Go.Proofs.Ytcikngokiodabaa.PR13
def zce0 : Array Value := #[.string ⟨#[]⟩, .int .u64 0]
def zce (n : Nat) : List Value := (Builtin.zeroCells zce0 n).toList
theorem zce_len (n : Nat) : (zce n).length = n * 2 := by unfold zce Builtin.zeroCells; simp [zce0]
theorem zce_get (n j : Nat) (h : j < (zce n).length) : (zce n)[j] = zce0[j % 2]! := by
  unfold zce Builtin.zeroCells
  simp [zce0]
theorem zce_one (n : Nat) : ∀ v ∈ zce n, v.oneCell' = true := fun v hv => by
  obtain ⟨j, hj, rfl⟩ := List.getElem_of_mem hv
  rw [zce_get]
  rcases (show j % 2 = 0 ∨ j % 2 = 1 by omega) with h | h <;> rw [h] <;> rfl
theorem reps_take {α : Type} {R : α → List Value → Prop} {ps : List α} {cs : List Value} (i : Nat) (h : Reps R 2 ps cs) (hi : i ≤ ps.length) : Reps R 2 (ps.take i) (cs.take (i * 2)) := by
  refine ⟨?_, fun j p hj => ?_⟩
  · rw [List.length_take, List.length_take, h.1]; omega
  · have hlt : j < i := by
      obtain ⟨hl, _⟩ := List.getElem?_eq_some_iff.1 hj
      rw [List.length_take] at hl; omega
    rw [List.getElem?_take_of_lt hlt] at hj
    have h2 := h.2 j p hj
    rw [List.drop_take, List.take_take, Nat.min_eq_left (by omega)]
    exact h2
/-- clear(s[i:]), and s[:i] behind it. -/
theorem clear_tail {w : World} {base g cap : Nat} {ok : Nat → Prop} {l : List S35} (h : Kd.R k35 35 w base ok (.slice (some ⟨g, 0, none⟩) l.length cap) l) (i : Nat) (hi : i < l.length) (ty : TypeId) (c2 : Nat) :
    (Builtin.clear_ #[22] ty #[.slice (some ⟨g, i * 2, none⟩) (l.length - i) c2]).run Try.prog w = .ok (.tuple #[]) (w.setCells g (i * 2) (zce (l.length - i))) ∧
    Kd.R k35 35 (w.setCells g (i * 2) (zce (l.length - i))) base ok (.slice (some ⟨g, 0, none⟩) i cap) (l.take i) ∧ w.grownBy (w.setCells g (i * 2) (zce (l.length - i))) (some g) := by
  obtain ⟨hok, inner, ho, hr⟩ := h
  obtain ⟨hil, ho2⟩ := ho
  rcases ho2 with ⟨hv, _⟩ | ⟨g', cap', cur, hv, hb, hh, hnc, hcm, hcs, ht⟩
  · cases hv
  injection hv with ha _ hc
  injection ha with ha
  injection ha with hg
  subst hg; subst hc
  have hfit : i * 2 + (zce (l.length - i)).length ≤ cur.size := by
    rw [zce_len, hcs]
    show i * 2 + (l.length - i) * 2 ≤ cap * 2
    omega
  have hl : (l.take i).length = i := by rw [List.length_take]; omega
  have hok2 : ∀ k, (Value.slice (some ⟨g, 0, none⟩) i cap).ownBlock = some k → ok k := hok
  refine ⟨?_, ?_, ?_⟩
  · have hst := run_storeCells_cells (P := Try.prog) g (i * 2) (zce (l.length - i)) 0 w (fun j hj => by
      have : i * 2 + j < cur.size := by omega
      simp only [World.cell?, hh, Nat.add_zero, Option.isSome_none, Bool.false_eq_true, if_false]
      rw [Array.getElem?_eq_getElem this]; rfl) (fun j hj => blk_frozen hh _) (zce_one _)
    obtain ⟨m, hm⟩ : ∃ m, l.length - i = m + 1 := ⟨l.length - i - 1, by omega⟩
    have hz : ∀ w, (zeroValue 35).run Try.prog w = .ok (.agg zce0) w := Try.zeroValue35
    have hzc : (Value.agg zce0).cells = zce0 := by rfl
    rw [hm] at hst ⊢
    unfold zce at hst ⊢
    simp [Builtin.clear_, run_underlying Try.underlying22, hz, hzc, hst]
  · obtain ⟨cur', h3, h4, h5⟩ := setCells_row (zce (l.length - i)) (i * 2) w cur hh hfit
    have ht2 : cur.toList.take (l.length * 2) = inner := ht
    have hle : i * 2 ≤ cur.toList.length := by rw [Array.length_toList]; omega
    refine ⟨hok2, inner.take (i * 2), ⟨?_, Or.inr ⟨g, cap, cur', by rw [hl], hb, h3, by rw [hl]; omega, hcm, by rw [h4]; exact hcs, ?_⟩⟩, ?_⟩
    · rw [hl, List.length_take, hil]
      show min (i * 2) (l.length * 2) = i * 2
      omega
    · rw [h5, hl, ← ht2]
      show (cur.toList.take (i * 2) ++ zce (l.length - i) ++ cur.toList.drop (i * 2 + (zce (l.length - i)).length)).take (i * 2) = _
      rw [List.append_assoc, List.take_append_of_le_length (by rw [List.length_take]; omega), List.take_take, List.take_take]
      congr 1
      omega
    · exact (reps_take i hr (by omega)).imp_ (fun x c hM => k35_openM hM ▸ k35_mkM _ _ _ _)
  · obtain ⟨s1, s2, s3, s4⟩ := setCells_same g (zce (l.length - i)) (i * 2) w
    exact ⟨s1, s2, s3, Nat.le_of_eq s4.symm, fun k hk hne => setCells_far _ _ k (fun e => hne (by rw [e]))⟩
/-- The entry p stored anew. -/
theorem entry_put {w : World} {base g cap n : Nat} {ok : Nat → Prop} {l : List S35} (h : Kd.R k35 35 w base ok (.slice (some ⟨g, 0, none⟩) n cap) l) {p : Nat} (hp : p < n) {s : S35}
    (hcc : ∀ j u, ([.string s.f0, .int .u64 s.f1] : List Value)[j]? = some u → w.cell? ((⟨g, 0, none⟩ : Addr).add (p * 2 + j)) = some u) (x : S35) :
    Kd.R k35 35 (w.setCells g (p * 2) [.string x.f0, .int .u64 x.f1]) base ok (.slice (some ⟨g, 0, none⟩) n cap) (l.set p x) ∧ w.grownBy (w.setCells g (p * 2) [.string x.f0, .int .u64 x.f1]) (some g) := by
  have hq := Kd.R_seg h (p : Int) (by omega) (by omega) (c := [.string s.f0, .int .u64 s.f1]) (seg := [.string x.f0, .int .u64 x.f1]) (j := 0) rfl (fun j u hj => by have := hcc j u hj; rw [add_plain] at this; rw [Int.toNat_natCast]; exact this) (by exact Nat.le_refl 2) (x' := x) (okp := fun _ => False) (k35_mkM _ _ _ _) (fun _ hk => hk.elim)
  rw [Int.toNat_natCast] at hq
  exact hq
end Go.Proofs.Ytcikngokiodabaa.K

namespace Go.Proofs.Ytcikngokiodabaa.K
open Go.RowKit Go.Proofs.YtcikngokiodabaaW.PrintWords Go.Proofs.YtcikngokiodabaaW.PrintLast Go.Proofs.YtcikngokiodabaaW.PrintMore Go.Proofs.Ytcikngokiodabaa
attribute [local go_sem] max2_int min2_int max_two min_two max_three min_three max_four min_four
set_option linter.unusedVariables false
set_option linter.unusedSimpArgs false
open Go Go.Shelf Go.Proofs.Ytcikngokiodabaa.PR13
def pruneL (l : List S35) (least : Int) : List S35 := l.filter (fun x => !(decide (x.f1 < least)))
theorem egPrune : ∀ args w, (callFunc 20 args).run Try.prog w = .ok (.enter 20 args) w := enters_of Try.func20 (by kernel_rfl) rfl
theorem pruneL_take (l : List S35) (least : Int) (j : Nat) (h : j < l.length) : pruneL (l.take (j + 1)) least = pruneL (l.take j) least ++ (if (l[j]).f1 < least then [] else [l[j]]) := by
  unfold pruneL
  rw [List.take_add_one, List.getElem?_eq_getElem h, List.filter_append]
  congr 1
  by_cases hq : (l[j]).f1 < least
  · simp [hq]
  · simp [hq]
/-- Where the loop stands: i are kept of the first j. -/
structure Kp (l L : List S35) (least : Int) (i j : Nat) : Prop where
  ij : i < j
  jn : j ≤ l.length
  len : L.length = l.length
  rest : L.drop j = l.drop j
  front : L.take i = pruneL (l.take j) least
theorem Kp.at {l L : List S35} {least : Int} {i j : Nat} (h : Kp l L least i j) (hj : j < l.length) : ∃ hq : j < L.length, L[j] = l[j] := by
  have hq : j < L.length := by rw [h.len]; exact hj
  refine ⟨hq, ?_⟩
  have h2 : (L.drop j)[0]? = (l.drop j)[0]? := by rw [h.rest]
  rw [List.getElem?_drop, List.getElem?_drop, Nat.add_zero, List.getElem?_eq_getElem hq, List.getElem?_eq_getElem hj] at h2
  exact Option.some.inj h2
theorem Kp.drop {l L : List S35} {least : Int} {i j : Nat} (h : Kp l L least i j) (hj : j < l.length) (hx : (l[j]).f1 < least) : Kp l L least i (j + 1) where
  ij := by have := h.ij; omega
  jn := hj
  len := h.len
  rest := by rw [← List.drop_drop, ← List.drop_drop, h.rest]
  front := by rw [h.front, pruneL_take l least j hj, if_pos hx, List.append_nil]
theorem Kp.keep {l L : List S35} {least : Int} {i j : Nat} (h : Kp l L least i j) (hj : j < l.length) (hx : ¬ (l[j]).f1 < least) : Kp l (L.set i l[j]) least (i + 1) (j + 1) where
  ij := by have := h.ij; omega
  jn := hj
  len := by rw [List.length_set]; exact h.len
  rest := by
    rw [List.drop_set_of_lt (by have := h.ij; omega), ← List.drop_drop, ← List.drop_drop, h.rest]
  front := by
    have hi : i < L.length := by rw [h.len]; have := h.ij; omega
    rw [pruneL_take l least j hj, if_neg hx, ← h.front, List.take_add_one, List.getElem?_set_self hi, List.take_set_of_le (Nat.le_refl _)]
    rfl
theorem Kp.start {l : List S35} {least : Int} {f : Nat} (hf : f < l.length) (hh : (l[f]).f1 < least) (hb : ∀ (j : Nat) (h : j < f), ¬ (l[j]).f1 < least) : Kp l l least f (f + 1) where
  ij := by omega
  jn := hf
  len := rfl
  rest := rfl
  front := by
    rw [pruneL_take l least f hf, if_pos hh, List.append_nil]
    unfold pruneL
    symm
    rw [List.filter_eq_self]
    intro x hx
    obtain ⟨j, hj, rfl⟩ := List.mem_iff_getElem.1 hx
    rw [List.length_take] at hj
    rw [List.getElem_take]
    have := hb j (by omega)
    simp [this]
set_option maxHeartbeats 4000000 in
set_option maxRecDepth 100000 in
theorem deleteFunc_g (pf : Nat) (eg : ∀ args w, (callFunc pf args).run Try.prog w = .ok (.enter pf args) w) (b : Nat) (least : Int) (hpf : ∀ (x : S35) (W : World), W.cell? ⟨b, 0, none⟩ = some (.int .u64 least) → Calls Try.prog pf #[.agg #[.string x.f0, .int .u64 x.f1], .pointer (some ⟨b, 0, none⟩)] W fun e w' => e = .returned (.bool (decide (x.f1 < least))) ∧ Below W.heap.size W w')
    (w : World) (base g cap : Nat) (l : List S35) (hR : Kd.R k35 35 w base (fun _ => True) (.slice (some ⟨g, 0, none⟩) l.length cap) l) (hgb : b ≠ g) (hb : w.cell? ⟨b, 0, none⟩ = some (.int .u64 least)) (hl : l.length ≤ 1048576) :
    Calls Try.prog 18 #[.slice (some ⟨g, 0, none⟩) l.length cap, .func (.func pf) #[] #[.pointer (some ⟨b, 0, none⟩)]] w fun e w' => ∃ v : Value, e = .returned v ∧ Kd.R k35 35 w' base (fun _ => True) v (pruneL l least) ∧ Below base w w' := by
  obtain ⟨_, hcap, hC⟩ := Kd.R_reads' hR
  have hbg : base ≤ g := Kd.R_base hR g rfl
  have hgl : g < w.heap.size := Kd.R_lt hR g rfl
  have hbl : b < w.heap.size := World.block_lt_of_cell? w _ hb
  have hidx := indexFunc_k pf eg #[.pointer (some ⟨b, 0, none⟩)] (fun x => decide (x.f1 < least)) (some ⟨g, 0, none⟩) cap l w hC hcap (fun W x hB => (hpf x W ((hB.cell (p := ⟨b, 0, none⟩) hbl).trans hb)).mono (fun e w' h => ⟨h.1, hB.trans (h.2.mono hB.size)⟩))
  have HID := Aside0.mk hidx; have HR := Aside0.mk hR
  have HBX := Aside0.mk hb
  have HBG := Aside0.mk (And.intro hbg (And.intro hgl hbl))
  have HGB := Aside0.mk hgb
  have HPF := Aside0.mk hpf
  have hcp : cap ≤ maxLen := by
    obtain ⟨inner, ho⟩ := Kd.R_own hR
    rcases ho.2 with ⟨hv, _⟩ | ⟨g', cap', cur, hv, hb', hh, hnc, hcm, hcs, ht⟩
    · cases hv
    · injection hv with _ _ hc; rw [hc]; exact hcm
  clear hidx hR hb hC hbg hgl hbl hgb hpf
  cases hfi : l.findIdx? (fun x => decide (x.f1 < least)) with
  | none =>
    have hv : idxE (fun x => decide (x.f1 < least)) l = -1 := by unfold idxE; rw [hfi]
    rw [hv] at HID
    have hall : pruneL l least = l := by
      unfold pruneL
      rw [List.filter_eq_self]
      intro x hx
      rw [List.findIdx?_eq_none_iff] at hfi
      have := hfi x hx
      rw [this]; rfl
    rw [hall]
    clear hfi hv hall
    go_enter Try.func18, Try.ntmps18
    go_wp2_with (first | (go_at_call 26; (with_reducible refine (HID.out).mono ?_); rintro e w1 ⟨rfl, hb1⟩))
    go_ret
    exact ⟨_, rfl, Kd.R_below HR.out hb1, hb1.mono (by have := HBG.out; omega)⟩
  | some f =>
    have hv : idxE (fun x => decide (x.f1 < least)) l = (f : Int) := by unfold idxE; rw [hfi]
    rw [hv] at HID
    obtain ⟨hfl, hft, hfb⟩ := List.findIdx?_eq_some_iff_getElem.1 hfi
    have HST := Aside0.mk (Kp.start hfl (of_decide_eq_true hft) (fun j hj hq => by have := hfb j hj; simp [hq] at this))
    have hnm : ((f : Int) == -1) = false := beq_eq_false_iff_ne.2 (by omega)
    clear hfi hv hft hfb
    go_enter Try.func18, Try.ntmps18
    go_wp2_with (first | (go_at_call 26; (with_reducible refine (HID.out).mono ?_); rintro e w1 ⟨rfl, hb1⟩))
    go_loopg [5, 6] l.length (fun gg v5 v6 wr => ∃ (i j : Nat) (L : List S35), v5 = .int .i64 i ∧ v6 = .int .i64 j ∧ Aside0 (l.length ≤ gg + j) ∧ Aside0 (Kp l L least i j) ∧ Aside0 (Kd.R k35 35 wr base (fun _ => True) (.slice (some ⟨g, 0, none⟩) l.length cap) L) ∧ Aside0 (wr.cell? ⟨b, 0, none⟩ = some (.int .u64 least)) ∧ Aside0 (Below base w wr) ∧ Aside0 (w.heap.size ≤ wr.heap.size))
    case atStart => exact ⟨f, f + 1, l, rfl, congrArg (Value.int .i64) (by omega), ⟨by omega⟩, HST, ⟨Kd.R_below HR.out hb1⟩, ⟨(hb1.cell (p := ⟨b, 0, none⟩) HBG.out.2.2).trans HBX.out⟩, ⟨hb1.mono (by have := HBG.out; omega)⟩, ⟨hb1.size⟩⟩
    case round =>
      clear HST HR HBX hb1 HID
      obtain ⟨i, j, L, rfl, rfl, HJ, HK, HR, HBX, HB, HSZ⟩ := hrel
      obtain ⟨hLn, _, hC⟩ := Kd.R_reads' HR.out
      by_cases hlt : j < l.length
      · have hcb : decide ((j : Int) < (l.length : Int)) = true := decide_eq_true (by omega)
        have q0 : (0 : Int) ≤ (j : Int) := by omega
        have q1 : (j : Int) < (l.length : Int) := by omega
        obtain ⟨hLj, hLe⟩ := HK.out.at hlt
        obtain ⟨ad, e0, a0, a1⟩ := at_T35 hC (j : Int) q0 (by omega)
        cases e0
        have hrd := rdE L j hLj
        rw [hrd, hLe, Int.toNat_natCast, add_plain] at a0
        rw [hrd, hLe, Int.toNat_natCast, add_plain] at a1
        obtain ⟨x, hx⟩ : ∃ x, l[j] = x := ⟨_, rfl⟩
        rw [hx] at a0 a1
        have HX := Aside0.mk hx
        have q0b : decide (0 ≤ (j : Int)) = true := decide_eq_true q0
        have HLN := Aside0.mk hLn
        clear hrd hLe hx hC hLn hLj
        go_upto_region 8 with fail
        have hlb : b < wr.heap.size := World.block_lt_of_cell? wr _ HBX.out
        have hlg : g < wr.heap.size := Kd.R_lt HR.out g rfl
        have hnb : Below wr.heap.size wr (wr.alloc (.cells #[.string x.f0, .int .u64 x.f1] 35)) := (Below.refl _ wr).alloc (Nat.le_refl _) _
        have c0 : (wr.alloc (.cells #[.string x.f0, .int .u64 x.f1] 35)).cell? ⟨wr.heap.size, 0, none⟩ = some (.string x.f0) := by simp
        have c1 : (wr.alloc (.cells #[.string x.f0, .int .u64 x.f1] 35)).cell? ⟨wr.heap.size, 1, none⟩ = some (.int .u64 x.f1) := by simp
        have hsz1 : (wr.alloc (.cells #[.string x.f0, .int .u64 x.f1] 35)).heap.size = wr.heap.size + 1 := by simp
        generalize wr.alloc (.cells #[.string x.f0, .int .u64 x.f1] 35) = W at hnb c0 c1 hsz1 ⊢
        have hcall := HPF.out x W ((hnb.cell (p := ⟨b, 0, none⟩) hlb).trans HBX.out)
        have HNB := Aside0.mk hnb; have HC0 := Aside0.mk c0; have HC1 := Aside0.mk c1; have HS1 := Aside0.mk hsz1
        clear hnb hsz1 a0 a1
        by_cases hq : x.f1 < least
        · have hqb : decide (x.f1 < least) = true := decide_eq_true hq
          rw [hqb] at hcall
          have HCL := Aside0.mk hcall
          clear hcall hqb
          go_wp2
          (with_reducible refine HCL.out.mono ?_)
          (first | rintro e w2 ⟨rfl, hb2⟩ | rintro e w2 rfl hb2)
          have hb3 : Below wr.heap.size wr w2 := HNB.out.trans (hb2.mono (by rw [HS1.out]; omega))
          go_wp2
          go_roundg (l.length - (j + 1))
          case measure => have := HJ.out; omega
          case rel => exact ⟨i, j + 1, L, rfl, congrArg (Value.int .i64) (by omega), ⟨by omega⟩, ⟨HK.out.drop hlt (by rw [HX.out]; exact hq)⟩, ⟨Kd.R_below HR.out hb3⟩, ⟨(hb3.cell (p := ⟨b, 0, none⟩) hlb).trans HBX.out⟩, ⟨HB.out.trans (hb3.mono (by have := HBG.out; have := HSZ.out; omega))⟩, ⟨Nat.le_trans HSZ.out hb3.size⟩⟩
        · have hqb : decide (x.f1 < least) = false := decide_eq_false hq
          rw [hqb] at hcall
          have HCL := Aside0.mk hcall
          clear hcall hqb
          go_wp2
          (with_reducible refine HCL.out.mono ?_)
          (first | rintro e w2 ⟨rfl, hb2⟩ | rintro e w2 rfl hb2)
          have hb3 : Below wr.heap.size wr w2 := HNB.out.trans (hb2.mono (by rw [HS1.out]; omega))
          have hR2 := Kd.R_below HR.out hb3
          have hij := HK.out.ij
          have hil : i < l.length := by omega
          have hC2 := (Kd.R_reads' hR2).2.2
          obtain ⟨ad3, cc3, e3, _, hK6, hcc6⟩ := Kd.C_get hC2 z35 (i : Int) (by omega) (by rw [← HLN.out]; omega)
          cases e3
          obtain ⟨s, hs⟩ : ∃ s, L.getD (i : Int).toNat z35 = s := ⟨_, rfl⟩
          rw [hs] at hK6
          rw [Int.toNat_natCast] at hcc6
          obtain rfl := k35_open hK6
          obtain ⟨cells6, hc6⟩ := own_typed (Kd.R_own hR2).choose_spec g rfl
          have fz0 : w2.frozen? ⟨g, i * 2, none⟩ = false := blk_frozen hc6 _
          have fz1 : w2.frozen? ⟨g, i * 2 + 1, none⟩ = false := blk_frozen hc6 _
          have q2 : w2.cell? ⟨g, i * 2, none⟩ = some (.string s.f0) := by have := hcc6 0 _ rfl; rwa [add_plain] at this
          have q3 : w2.cell? ⟨g, i * 2 + 1, none⟩ = some (.int .u64 s.f1) := by have := hcc6 1 _ rfl; rwa [add_plain] at this
          have d0 : w2.cell? ⟨wr.heap.size, 0, none⟩ = some (.string x.f0) := (hb2.cell (p := ⟨wr.heap.size, 0, none⟩) (by rw [HS1.out]; exact Nat.lt_succ_self _)).trans HC0.out
          have d1 : w2.cell? ⟨wr.heap.size, 1, none⟩ = some (.int .u64 x.f1) := (hb2.cell (p := ⟨wr.heap.size, 1, none⟩) (by rw [HS1.out]; exact Nat.lt_succ_self _)).trans HC1.out
          have i0b : decide (0 ≤ (i : Int)) = true := decide_eq_true (by omega)
          have i1b : decide ((i : Int) < (l.length : Int)) = true := decide_eq_true (by omega)
          obtain ⟨hR3, hg3⟩ := entry_put hR2 hil hcc6 x
          have HR3 := Aside0.mk hR3; have HG3 := Aside0.mk hg3; have HB3 := Aside0.mk hb3
          clear hR2 hC2 hK6 hcc6 hc6 hs hb2 hb3 hR3 hg3
          go_upto_region 10 with fail
          have hw3 : (w2.setCell ⟨g, i * 2, none⟩ (.string x.f0)).setCell ⟨g, i * 2 + 1, none⟩ (.int .u64 x.f1) = w2.setCells g (i * 2) [.string x.f0, .int .u64 x.f1] := rfl
          rw [hw3]
          have hbx3 : (w2.setCells g (i * 2) [.string x.f0, .int .u64 x.f1]).cell? ⟨b, 0, none⟩ = some (.int .u64 least) := (World.cell?_of_block (setCells_far _ _ b HGB.out)).trans ((HB3.out.cell (p := ⟨b, 0, none⟩) hlb).trans HBX.out)
          have HBX3 := Aside0.mk hbx3
          have hbb : Below base w (w2.setCells g (i * 2) [.string x.f0, .int .u64 x.f1]) := (HB.out.trans (HB3.out.mono (by have := HBG.out; have := HSZ.out; omega))).grown HG3.out (by have := HBG.out; have := HSZ.out; have := HB3.out.size; omega) (fun k hk => by injection hk with hk; rw [← hk]; exact HBG.out.1)
          have HBB := Aside0.mk hbb
          have hss : w.heap.size ≤ (w2.setCells g (i * 2) [.string x.f0, .int .u64 x.f1]).heap.size := Nat.le_trans (Nat.le_trans HSZ.out HB3.out.size) HG3.out.size
          have HSS := Aside0.mk hss
          clear hw3 hbx3 hbb hss HB3 HG3 HC0 HC1 HNB HS1 d0 d1 q2 q3 fz0 fz1 HR HB HBX HSZ HCL c0 c1
          generalize w2.setCells g (i * 2) [.string x.f0, .int .u64 x.f1] = w3 at HR3 HBX3 HBB HSS ⊢
          go_wp2
          go_roundg (l.length - (j + 1))
          case measure => have := HJ.out; omega
          case rel => exact ⟨i + 1, j + 1, L.set i x, congrArg (Value.int .i64) (by omega), congrArg (Value.int .i64) (by omega), ⟨by omega⟩, ⟨by have h9 := HK.out.keep hlt (by rw [HX.out]; omega); rwa [HX.out] at h9⟩, HR3, HBX3, HBB, HSS⟩
      · have hcb : decide ((j : Int) < (l.length : Int)) = false := decide_eq_false (by omega)
        have HLN := Aside0.mk hLn
        have hij := HK.out.ij
        have hjn := HK.out.jn
        have hil : i < l.length := by omega
        clear hC hLn
        go_upto_region 11 with fail
        clear hcb
        have hpl : pruneL l least = L.take i := by
          have h9 := HK.out.front
          have e2 : l.take j = l := List.take_of_length_le (by omega)
          rw [e2] at h9
          exact h9.symm
        have hR9 := HR.out
        rw [HLN.out] at hR9
        obtain ⟨hrun0, hR10, hG10⟩ := clear_tail hR9 i (by rw [← HLN.out]; exact hil) 0 (cap - i)
        rw [← HLN.out] at hrun0 hR10 hG10
        have HR10 := Aside0.mk hR10; have HG10 := Aside0.mk hG10
        have i0b : decide (0 ≤ (i : Int)) = true := decide_eq_true (by omega)
        have i1b : decide ((i : Int) ≤ (l.length : Int)) = true := decide_eq_true (by omega)
        have i2b : decide ((l.length : Int) ≤ (cap : Int)) = true := decide_eq_true (by omega)
        have i3b : decide ((i : Int) ≤ (cap : Int)) = true := decide_eq_true (by omega)
        have HPL := Aside0.mk hpl
        clear hR9 hR10 hG10 hpl
        go_upto_region 12 with fail
        have HBB : Aside0 (Below base w (wr.setCells g (i * 2) (zce (l.length - i)))) := ⟨HB.out.grown HG10.out (by have := HBG.out; have := HSZ.out; omega) (fun k hk => by injection hk with hk; rw [← hk]; exact HBG.out.1)⟩
        clear hrun0 HG10 HB HBX HR
        generalize wr.setCells g (i * 2) (zce (l.length - i)) = w9 at HR10 HBB ⊢
        go_wp2
        go_ret
        exact ⟨_, rfl, by rw [HPL.out]; exact HR10.out, HBB.out⟩
set_option maxHeartbeats 4000000 in
set_option maxRecDepth 100000 in
theorem deleteFunc_nil (w : World) (b : Nat) (least : Int) (hb : w.cell? ⟨b, 0, none⟩ = some (.int .u64 least)) :
    Calls Try.prog 18 #[.slice none 0 0, .func (.func 20) #[] #[.pointer (some ⟨b, 0, none⟩)]] w fun e w' => e = .returned (.slice none 0 0) ∧ Below w.heap.size w w' := by
  have hbl : b < w.heap.size := World.block_lt_of_cell? w _ hb
  have hC : Kd.C k35 w none ([] : List S35).length [] := by
    obtain ⟨A, c, e, _, h⟩ := Kd.R_reads (Kd.R_nil k35 35 w 0 (fun _ => True))
    injection e with e1
    rw [e1]; exact h
  have hidx := indexFunc_k 20 egPrune #[.pointer (some ⟨b, 0, none⟩)] (fun x => decide (x.f1 < least)) none 0 [] w hC (Nat.le_refl _) (fun W x hB => (prune1_k b least x W ((hB.cell (p := ⟨b, 0, none⟩) hbl).trans hb)).mono (fun e w' h => ⟨h.1, hB.trans (h.2.mono hB.size)⟩))
  have hv : idxE (fun x => decide (x.f1 < least)) ([] : List S35) = -1 := rfl
  rw [hv] at hidx
  have HID := Aside0.mk hidx
  clear hidx hC hv
  change Aside0 (Calls Try.prog 26 #[.slice none 0 0, _] w _) at HID
  go_enter Try.func18, Try.ntmps18
  go_wp2_with (first | (go_at_call 26; (with_reducible refine (HID.out).mono ?_); rintro e w1 ⟨rfl, hb1⟩))
  go_ret
  exact ⟨rfl, hb1⟩
theorem deleteFunc_k (w : World) (base b : Nat) (v : Value) (l : List S35) (least : Int) (hR : Kd.R k35 35 w base (fun _ => True) v l) (hbb : b < base) (hbs : base ≤ w.heap.size) (hb : w.cell? ⟨b, 0, none⟩ = some (.int .u64 least)) (hl : l.length ≤ 1048576) :
    Calls Try.prog 18 #[v, .func (.func 20) #[] #[.pointer (some ⟨b, 0, none⟩)]] w fun e w' => ∃ v : Value, e = .returned v ∧ Kd.R k35 35 w' base (fun _ => True) v (pruneL l least) ∧ Below base w w' := by
  obtain ⟨inner, ho⟩ := Kd.R_own hR
  rcases ho.2 with ⟨rfl, h0⟩ | ⟨g, cap, cur, rfl, hbg, _⟩
  · have : l = [] := List.length_eq_zero_iff.1 h0
    subst this
    refine (deleteFunc_nil w b least hb).mono ?_
    rintro e w' ⟨rfl, hB⟩
    exact ⟨_, rfl, Kd.R_nil _ _ _ _ _, hB.mono hbs⟩
  · exact deleteFunc_g 20 egPrune b least (fun x W h => prune1_k b least x W h) w base g cap l hR (by omega) hb hl
set_option maxHeartbeats 4000000 in
set_option maxRecDepth 100000 in
/-- rank.Prune. -/
theorem prune_k (A : Option Addr) (c : Nat) (l : List S35) (least : Int) (w : World) (hC : Kd.C k35 w A l.length l) (hc : l.length ≤ c) (hl : l.length ≤ 1048576) :
    Calls Try.prog 10 #[.slice A l.length c, .int .u64 least] w fun e w' => ∃ v : Value, e = .returned v ∧ Kd.R k35 35 w' w.heap.size (fun _ => True) v (pruneL l least) ∧ Below w.heap.size w w' := by
  have hb0 : Below w.heap.size w (w.alloc (.cells #[.int .u64 least] 23)) := (Below.refl _ w).alloc (Nat.le_refl _) _
  have hcl := cloneE_k A c l (w.alloc (.cells #[.int .u64 least] 23)) (Kd.C_below hC hb0) hc hl
  have hbx : (w.alloc (.cells #[.int .u64 least] 23)).cell? ⟨w.heap.size, 0, none⟩ = some (.int .u64 least) := by simp
  have HCL := Aside0.mk hcl; have HBX := Aside0.mk hbx; have HB0 := Aside0.mk hb0
  clear hC hcl hbx hb0
  go_enter Try.func10, Try.ntmps10
  go_wp2_with (first
    | (go_at_call 19; (with_reducible refine (HCL.out).mono ?_); rintro e w1 ⟨v, rfl, hR, hb1⟩; have HR := Aside0.mk hR; have HB1 := Aside0.mk hb1; clear hR hb1)
    | (go_at_call 18; (with_reducible refine (deleteFunc_k w1 (w.alloc (.cells #[.int .u64 least] 23)).heap.size w.heap.size v l least HR.out (by simp) HB1.out.size ((HB1.out.cell (p := ⟨w.heap.size, 0, none⟩) (by simp)).trans HBX.out) hl).mono ?_); rintro e w2 ⟨v2, rfl, hR2, hb2⟩))
  go_ret
  exact ⟨_, rfl, Kd.R_lower hR2 (by simp), HB0.out.trans ((HB1.out.trans hb2).mono (by simp))⟩
end Go.Proofs.Ytcikngokiodabaa.K

namespace Go.Proofs.Ytcikngokiodabaa.K
open Go.RowKit Go.Proofs.YtcikngokiodabaaW.PrintWords Go.Proofs.YtcikngokiodabaaW.PrintLast Go.Proofs.YtcikngokiodabaaW.PrintMore Go.Proofs.Ytcikngokiodabaa
attribute [local go_sem] max2_int min2_int max_two min_two max_three min_three max_four min_four
set_option linter.unusedVariables false
set_option linter.unusedSimpArgs false
open Go Go.Proofs.Ytcikngokiodabaa.PR13
def okE (l : List S35) : Bool := decide (l.length ≤ 1048576) && l.all (fun x => (Lit.int .u64 x.f1).wf)
def rank_Classes.f (l0 : List S35) : Option (List Int) := if okE l0 = true then some (classesL l0) else none
theorem rank_Classes.calls (A0 : Option Addr) (c0 : Nat) (l0 : List S35) (r : List Int) (w : World) (hr0 : Kd.C k35 w A0 l0.length l0) (hc0 : l0.length ≤ c0) (h : rank_Classes.f l0 = some r) :
    Calls Try.prog 13 #[.slice A0 l0.length c0] w fun e w' => ∃ v0_ : Value, e = .returned (v0_) ∧ Kd.R (Kd.int .i64) 3 w' w.heap.size (fun _ => True) v0_ r ∧ Below w.heap.size w w' := by
  unfold rank_Classes.f at h
  by_cases hk : okE l0 = true
  · rw [if_pos hk] at h
    obtain rfl := Option.some.inj h
    unfold okE at hk
    rw [Bool.and_eq_true, List.all_eq_true] at hk
    exact classes_k A0 c0 l0 w hr0 hc0 (of_decide_eq_true hk.1) hk.2
  · rw [if_neg hk] at h; cases h
def rank_Prune.f (l0 : List S35) (a1 : Int) : Option (List S35) := if l0.length ≤ 1048576 then some (pruneL l0 a1) else none
theorem rank_Prune.calls (A0 : Option Addr) (c0 : Nat) (l0 : List S35) (a1 : Int) (r : List S35) (w : World) (hr0 : Kd.C k35 w A0 l0.length l0) (hc0 : l0.length ≤ c0) (h : rank_Prune.f l0 a1 = some r) :
    Calls Try.prog 10 #[.slice A0 l0.length c0, .int .u64 a1] w fun e w' => ∃ v0_ : Value, e = .returned (v0_) ∧ Kd.R k35 35 w' w.heap.size (fun _ => True) v0_ r ∧ Below w.heap.size w w' := by
  unfold rank_Prune.f at h
  by_cases hk : l0.length ≤ 1048576
  · rw [if_pos hk] at h
    obtain rfl := Option.some.inj h
    exact prune_k A0 c0 l0 a1 w hr0 hc0 hk
  · rw [if_neg hk] at h; cases h
end Go.Proofs.Ytcikngokiodabaa.K

namespace Go.Proofs.Ytcikngokiodabaa.PSh13
open Go.RowKit Go.Proofs.YtcikngokiodabaaW.PrintWords Go.Proofs.YtcikngokiodabaaW.PrintLast Go.Proofs.YtcikngokiodabaaW.PrintMore Go.Proofs.Ytcikngokiodabaa.K Go.Proofs.Ytcikngokiodabaa.PR13
attribute [local go_sem] max2_int min2_int max_two min_two max_three min_three max_four min_four   -- for this text's walks alone
set_option linter.unusedVariables false
set_option linter.unusedSimpArgs false



def errW : Option Int → Value
  | none => .nilIface
  | some c => .iface 0 (.int .i64 c)
theorem errW_none : errW none = .nilIface := rfl
theorem errW_some (c : Int) : errW (some c) = .iface 0 (.int .i64 c) := rfl

end Go.Proofs.Ytcikngokiodabaa.PSh13

namespace Go.Proofs.Ytcikngokiodabaa.PSh13
open Go.RowKit Go.Proofs.YtcikngokiodabaaW.PrintWords Go.Proofs.YtcikngokiodabaaW.PrintLast Go.Proofs.YtcikngokiodabaaW.PrintMore Go.Proofs.Ytcikngokiodabaa.K Go.Proofs.Ytcikngokiodabaa.PR13
attribute [local go_sem] max2_int min2_int max_two min_two max_three min_three max_four min_four   -- for this text's walks alone
set_option linter.unusedVariables false
set_option linter.unusedSimpArgs false

def manteletlaw13_shown.f (k : Nat)  : Option (Bool) := (manteletlaw13_counts.f k (([5, 9, 5, 1] : List Int))).bind fun t104 => ((rank_Classes.f t104).bind fun t107 => ((manteletref13_Ints.f k t107 (([1, 0, 1, 2] : List Int))).bind fun t113 => (if t113 = true then ((rank_Prune.f t104 5).bind fun t114 => (if (t114.length : Int) = 3 then ((rank_Half.f k 9).bind fun t117 => (some (t117 == 4))) else (some false))) else (some false))))
set_option maxHeartbeats 8000000 in
set_option maxRecDepth 100000 in
theorem manteletlaw13_shown.calls (k : Nat)  (r : Bool) (w : World) (h : manteletlaw13_shown.f k  = some r) :
    Calls Try.prog 8 #[] w fun e w' => e = .returned (.bool r) ∧ Below w.heap.size w w' := by
  have HB := Aside0.mk (Below.refl w.heap.size w)
  have H : ((manteletlaw13_counts.f k (([5, 9, 5, 1] : List Int))).bind fun t104 => ((rank_Classes.f t104).bind fun t107 => ((manteletref13_Ints.f k t107 (([1, 0, 1, 2] : List Int))).bind fun t113 => (if t113 = true then ((rank_Prune.f t104 5).bind fun t114 => (if (t114.length : Int) = 3 then ((rank_Half.f k 9).bind fun t117 => (some (t117 == 4))) else (some false))) else (some false))))) = some r := h
  clear h
  obtain ⟨y101, hy101⟩ : ∃ y_ : List Int, y_ = (([5, 9, 5, 1] : List Int)) := ⟨_, rfl⟩
  replace H : ((manteletlaw13_counts.f k y101).bind fun t104 => ((rank_Classes.f t104).bind fun t107 => ((manteletref13_Ints.f k t107 (([1, 0, 1, 2] : List Int))).bind fun t113 => (if t113 = true then ((rank_Prune.f t104 5).bind fun t114 => (if (t114.length : Int) = 3 then ((rank_Half.f k 9).bind fun t117 => (some (t117 == 4))) else (some false))) else (some false))))) = some r := by first | (rw [hy101]; with_reducible exact H) | (have H2_ := (Option.bind_some _ _).symm.trans H; rw [hy101]; with_reducible exact H2_) | (have H2_ := (Option.bind_some _ _).symm.trans H; with_reducible exact H2_) | with_reducible exact H | (rw [hy101]; exact H) | exact H
  have Ny101 := Aside0.mk hy101
  clear hy101
  replace H := Option.bind_eq_some_iff.mp H
  obtain ⟨t104, A10, H⟩ := H
  replace H : ((rank_Classes.f t104).bind fun t107 => ((manteletref13_Ints.f k t107 (([1, 0, 1, 2] : List Int))).bind fun t113 => (if t113 = true then ((rank_Prune.f t104 5).bind fun t114 => (if (t114.length : Int) = 3 then ((rank_Half.f k 9).bind fun t117 => (some (t117 == 4))) else (some false))) else (some false)))) = some r := H
  have A1 := Aside0.mk A10
  clear A10
  replace H := Option.bind_eq_some_iff.mp H
  obtain ⟨t107, A20, H⟩ := H
  replace H : ((manteletref13_Ints.f k t107 (([1, 0, 1, 2] : List Int))).bind fun t113 => (if t113 = true then ((rank_Prune.f t104 5).bind fun t114 => (if (t114.length : Int) = 3 then ((rank_Half.f k 9).bind fun t117 => (some (t117 == 4))) else (some false))) else (some false))) = some r := H
  have A2 := Aside0.mk A20
  clear A20
  obtain ⟨y110, hy110⟩ : ∃ y_ : List Int, y_ = (([1, 0, 1, 2] : List Int)) := ⟨_, rfl⟩
  replace H : ((manteletref13_Ints.f k t107 y110).bind fun t113 => (if t113 = true then ((rank_Prune.f t104 5).bind fun t114 => (if (t114.length : Int) = 3 then ((rank_Half.f k 9).bind fun t117 => (some (t117 == 4))) else (some false))) else (some false))) = some r := by first | (rw [hy110]; with_reducible exact H) | (have H2_ := (Option.bind_some _ _).symm.trans H; rw [hy110]; with_reducible exact H2_) | (have H2_ := (Option.bind_some _ _).symm.trans H; with_reducible exact H2_) | with_reducible exact H | (rw [hy110]; exact H) | exact H
  have Ny110 := Aside0.mk hy110
  clear hy110
  replace H := Option.bind_eq_some_iff.mp H
  obtain ⟨t113, A30, H⟩ := H
  replace H : (if t113 = true then ((rank_Prune.f t104 5).bind fun t114 => (if (t114.length : Int) = 3 then ((rank_Half.f k 9).bind fun t117 => (some (t117 == 4))) else (some false))) else (some false)) = some r := H
  have A3 := Aside0.mk A30
  clear A30
  by_cases c4 : t113 = true
  · subst c4
    have H1 : ((rank_Prune.f t104 5).bind fun t114 => (if (t114.length : Int) = 3 then ((rank_Half.f k 9).bind fun t117 => (some (t117 == 4))) else (some false))) = some r := by rw [if_pos rfl] at H; exact H
    clear H
    have H := H1
    clear H1
    replace H := Option.bind_eq_some_iff.mp H
    obtain ⟨t114, A50, H⟩ := H
    replace H : (if (t114.length : Int) = 3 then ((rank_Half.f k 9).bind fun t117 => (some (t117 == 4))) else (some false)) = some r := H
    have A5 := Aside0.mk A50
    clear A50
    by_cases c6 : (t114.length : Int) = 3
    · rw [if_pos c6] at H
      have c6b0 : ((t114.length : Int) == 3) = true := beq_iff_eq.mpr c6
      have c6b1 : ((t114.length : Int) != 3) = false := bne_eq_false_iff_eq.mpr c6
      clear c6
      replace H := Option.bind_eq_some_iff.mp H
      obtain ⟨t117, A70, H⟩ := H
      replace H : (some (t117 == 4)) = some r := H
      have A7 := Aside0.mk A70
      clear A70
      obtain rfl := Option.some.inj H
      go_enter Try.func8, Try.ntmps8
      go_wp2_with (first | ((with_reducible refine gate_dst (N := 2) rfl ?_); (try (refine gate_guard (by rfl) ?_; dsimp only)); refine Kd.R_lit (Kd.int .u64) _ 23 ?hg (N := 2) ?hd (xs := ([5, 9, 5, 1] : List Int)) (inner := [.int .u64 5, .int .u64 9, .int .u64 5, .int .u64 1]) (ok := fun _ => True) (okp := fun _ => True) ?hr ?hp (fun _ hk => hk) trivial (Below.refl _ _) (Nat.le_refl _) (by simp) ?_; (case hd => rfl); (case hg => rfl); (case hr => first | (go_simp; done) | (go_simp; rfl)); (case hp => exact (Reps.one (show Kd.M (Kd.int .u64) _ _ _ 5 [.int .u64 5] from rfl) (Reps.one (show Kd.M (Kd.int .u64) _ _ _ 9 [.int .u64 9] from rfl) (Reps.one (show Kd.M (Kd.int .u64) _ _ _ 5 [.int .u64 5] from rfl) (Reps.one (show Kd.M (Kd.int .u64) _ _ _ 1 [.int .u64 1] from rfl) (Reps.none _ _)))))); intro v102 w8 ho9 hb hg_ hnew_; clear hg_ hnew_; (first | rw [← Ny101.out] at ho9 | (simp only [Int.reduceToNat] at ho9; rw [← Ny101.out] at ho9)); have n0_ := Aside0.mk (Kd.R_lower ho9 (below_size (by repeat (first | (with_reducible first | exact HB.out | apply below_alloc | apply pw_below_drewN | apply below_drew1) | exact HB.out)))); have n1_ := Aside0.mk (below_step (by repeat (first | (with_reducible first | exact HB.out | apply below_alloc | apply pw_below_drewN | apply below_drew1) | exact HB.out)) hb); clear HB; have HO103 := n0_; have HB := n1_; clear n0_ n1_; clear hb ho9; obtain ⟨Ao10, co10, eo10⟩ := Kd.R_slice HO103.out; subst eo10) | ((with_reducible refine gate_callee (f := 17) rfl ?_); refine goesL_ (some 3) rfl rfl Try.func17 (by kernel_rfl) rfl #[.slice Ao10 y101.length co10] rfl (by (try simp only [List.map_toArray, List.map_cons, List.map_nil]); first | done | rfl | (simp only [List.length_drop, List.length_take]; rfl)) ?_; (with_reducible refine (manteletlaw13_counts.calls k _ _ y101 t104 _ ?side1 ?side2 A1.out).mono ?_); (case side1 => repeat (first | exact (Kd.R_reads' HO103.out).2.2 | (with_reducible refine Kd.C_alloc ?_ _) | (with_reducible refine Kd.C_drewN ?_ _) | (with_reducible refine Kd.C_drew ?_))); (case side2 => exact (Kd.R_reads' HO103.out).2.1); rintro e w11 ⟨v105, rfl, ho0, hb⟩; refine ⟨_, rfl, ?_⟩; have n0_ := Aside0.mk (Kd.R_below (by (with_reducible repeat (first | apply Kd.R_alloc | apply Kd.R_drewN | apply Kd.R_drew)); exact HO103.out) hb); have n1_ := Aside0.mk (Kd.R_lower ho0 (below_size (by repeat (first | (with_reducible first | exact HB.out | apply below_alloc | apply pw_below_drewN | apply below_drew1) | exact HB.out)))); have n2_ := Aside0.mk (below_step (by repeat (first | (with_reducible first | exact HB.out | apply below_alloc | apply pw_below_drewN | apply below_drew1) | exact HB.out)) hb); clear HO103; clear HB; have HO103 := n0_; have HO106 := n1_; have HB := n2_; clear n0_ n1_ n2_; (try clear hb); (try clear hb2); (try clear hk); (try clear hi); (try clear ho0); obtain ⟨Ao12, co12, eo12⟩ := Kd.R_slice HO106.out; subst eo12) | ((with_reducible refine gate_callee (f := 13) rfl ?_); refine goesL_ (some 5) rfl rfl Try.func13 (by kernel_rfl) rfl #[.slice Ao12 t104.length co12] rfl (by (try simp only [List.map_toArray, List.map_cons, List.map_nil]); first | done | rfl | (simp only [List.length_drop, List.length_take]; rfl)) ?_; (with_reducible refine (rank_Classes.calls _ _ t104 t107 _ ?side1 ?side2 A2.out).mono ?_); (case side1 => repeat (first | exact (Kd.R_reads' HO106.out).2.2 | (with_reducible refine Kd.C_alloc ?_ _) | (with_reducible refine Kd.C_drewN ?_ _) | (with_reducible refine Kd.C_drew ?_))); (case side2 => exact (Kd.R_reads' HO106.out).2.1); rintro e w13 ⟨v108, rfl, ho0, hb⟩; refine ⟨_, rfl, ?_⟩; have n0_ := Aside0.mk (Kd.R_below (by (with_reducible repeat (first | apply Kd.R_alloc | apply Kd.R_drewN | apply Kd.R_drew)); exact HO103.out) hb); have n1_ := Aside0.mk (Kd.R_below (by (with_reducible repeat (first | apply Kd.R_alloc | apply Kd.R_drewN | apply Kd.R_drew)); exact HO106.out) hb); have n2_ := Aside0.mk (Kd.R_lower ho0 (below_size (by repeat (first | (with_reducible first | exact HB.out | apply below_alloc | apply pw_below_drewN | apply below_drew1) | exact HB.out)))); have n3_ := Aside0.mk (below_step (by repeat (first | (with_reducible first | exact HB.out | apply below_alloc | apply pw_below_drewN | apply below_drew1) | exact HB.out)) hb); clear HO103; clear HO106; clear HB; have HO103 := n0_; have HO106 := n1_; have HO109 := n2_; have HB := n3_; clear n0_ n1_ n2_ n3_; (try clear hb); (try clear hb2); (try clear hk); (try clear hi); (try clear ho0)) | ((with_reducible refine gate_dst (N := 6) rfl ?_); (try (refine gate_guard (by rfl) ?_; dsimp only)); refine Kd.R_lit (Kd.int .i64) _ 3 ?hg (N := 6) ?hd (xs := ([1, 0, 1, 2] : List Int)) (inner := [.int .i64 1, .int .i64 0, .int .i64 1, .int .i64 2]) (ok := fun _ => True) (okp := fun _ => True) ?hr ?hp (fun _ hk => hk) trivial (Below.refl _ _) (Nat.le_refl _) (by simp) ?_; (case hd => rfl); (case hg => rfl); (case hr => first | (go_simp; done) | (go_simp; rfl)); (case hp => exact (Reps.one (show Kd.M (Kd.int .i64) _ _ _ 1 [.int .i64 1] from rfl) (Reps.one (show Kd.M (Kd.int .i64) _ _ _ 0 [.int .i64 0] from rfl) (Reps.one (show Kd.M (Kd.int .i64) _ _ _ 1 [.int .i64 1] from rfl) (Reps.one (show Kd.M (Kd.int .i64) _ _ _ 2 [.int .i64 2] from rfl) (Reps.none _ _)))))); intro v111 w14 ho15 hb hg_ hnew_; clear hg_ hnew_; (first | rw [← Ny110.out] at ho15 | (simp only [Int.reduceToNat] at ho15; rw [← Ny110.out] at ho15)); have n0_ := Aside0.mk (Kd.R_below (by (with_reducible repeat (first | apply Kd.R_alloc | apply Kd.R_drewN | apply Kd.R_drew)); exact HO103.out) hb); have n1_ := Aside0.mk (Kd.R_below (by (with_reducible repeat (first | apply Kd.R_alloc | apply Kd.R_drewN | apply Kd.R_drew)); exact HO106.out) hb); have n2_ := Aside0.mk (Kd.R_elder' (by (with_reducible repeat (first | apply Kd.R_alloc | apply Kd.R_drewN | apply Kd.R_drew)); exact HO109.out) (Kd.R_base ho15) hb); have n3_ := Aside0.mk (Kd.R_lower (Kd.R_new' ho15 (Kd.R_lt (by (with_reducible repeat (first | apply Kd.R_alloc | apply Kd.R_drewN | apply Kd.R_drew)); exact HO109.out))) (below_size (by repeat (first | (with_reducible first | exact HB.out | apply below_alloc | apply pw_below_drewN | apply below_drew1) | exact HB.out)))); have n4_ := Aside0.mk (below_step (by repeat (first | (with_reducible first | exact HB.out | apply below_alloc | apply pw_below_drewN | apply below_drew1) | exact HB.out)) hb); clear HO103; clear HO106; clear HO109; clear HB; have HO103 := n0_; have HO106 := n1_; have HO109 := n2_; have HO112 := n3_; have HB := n4_; clear n0_ n1_ n2_ n3_ n4_; clear hb ho15; obtain ⟨Ao16, co16, eo16⟩ := Kd.R_slice HO109.out; subst eo16; obtain ⟨Ao17, co17, eo17⟩ := Kd.R_slice HO112.out; subst eo17) | ((with_reducible refine gate_callee (f := 12) rfl ?_); refine goesL_ (some 7) rfl rfl Try.func12 (by kernel_rfl) rfl #[.slice Ao16 t107.length co16, .slice Ao17 y110.length co17] rfl (by (try simp only [List.map_toArray, List.map_cons, List.map_nil]); first | done | rfl | (simp only [List.length_drop, List.length_take]; rfl)) ?_; (with_reducible refine (manteletref13_Ints.calls k _ _ t107 _ _ y110 true _ ?side1 ?side2 ?side3 ?side4 A3.out).mono ?_); (case side1 => repeat (first | exact (Kd.R_reads' HO109.out).2.2 | (with_reducible refine Kd.C_alloc ?_ _) | (with_reducible refine Kd.C_drewN ?_ _) | (with_reducible refine Kd.C_drew ?_))); (case side2 => exact (Kd.R_reads' HO109.out).2.1); (case side3 => repeat (first | exact (Kd.R_reads' HO112.out).2.2 | (with_reducible refine Kd.C_alloc ?_ _) | (with_reducible refine Kd.C_drewN ?_ _) | (with_reducible refine Kd.C_drew ?_))); (case side4 => exact (Kd.R_reads' HO112.out).2.1); rintro e w' ⟨rfl, ⟨nd, rfl⟩⟩; refine ⟨_, rfl, ?_⟩) | (go_at_call 10; (with_reducible refine (rank_Prune.calls _ _ t104 5 t114 _ ?side1 ?side2 A5.out).mono ?_); (case side1 => repeat (first | exact (Kd.R_reads' HO106.out).2.2 | (with_reducible refine Kd.C_alloc ?_ _) | (with_reducible refine Kd.C_drewN ?_ _) | (with_reducible refine Kd.C_drew ?_))); (case side2 => exact (Kd.R_reads' HO106.out).2.1); rintro e w18 ⟨v115, rfl, ho0, hb⟩; have n0_ := Aside0.mk (Kd.R_below (by (with_reducible repeat (first | apply Kd.R_alloc | apply Kd.R_drewN | apply Kd.R_drew)); exact HO103.out) hb); have n1_ := Aside0.mk (Kd.R_elder' (by (with_reducible repeat (first | apply Kd.R_alloc | apply Kd.R_drewN | apply Kd.R_drew)); exact HO106.out) (Kd.R_base ho0) hb); have n2_ := Aside0.mk (Kd.R_below (by (with_reducible repeat (first | apply Kd.R_alloc | apply Kd.R_drewN | apply Kd.R_drew)); exact HO109.out) hb); have n3_ := Aside0.mk (Kd.R_below (by (with_reducible repeat (first | apply Kd.R_alloc | apply Kd.R_drewN | apply Kd.R_drew)); exact HO112.out) hb); have n4_ := Aside0.mk (Kd.R_lower (Kd.R_new' ho0 (Kd.R_lt (by (with_reducible repeat (first | apply Kd.R_alloc | apply Kd.R_drewN | apply Kd.R_drew)); exact HO106.out))) (below_size (by repeat (first | (with_reducible first | exact HB.out | apply below_alloc | apply pw_below_drewN | apply below_drew1) | exact HB.out)))); have n5_ := Aside0.mk (below_step (by repeat (first | (with_reducible first | exact HB.out | apply below_alloc | apply pw_below_drewN | apply below_drew1) | exact HB.out)) hb); clear HO103; clear HO106; clear HO109; clear HO112; clear HB; have HO103 := n0_; have HO106 := n1_; have HO109 := n2_; have HO112 := n3_; have HO116 := n4_; have HB := n5_; clear n0_ n1_ n2_ n3_ n4_ n5_; (try clear hb); (try clear hb2); (try clear hk); (try clear hi); (try clear ho0); obtain ⟨Ao19, co19, eo19⟩ := Kd.R_slice HO116.out; subst eo19) | (go_at_call 15; (with_reducible refine (rank_Half.calls k 9 t117 _ A7.out).mono ?_); rintro e w' ⟨rfl, ⟨nd, rfl⟩⟩))
      go_ret
      exact ⟨by first | rfl | (simp [errW_none, errW_some] <;> rfl) | (simp [*, errW_none, errW_some] <;> rfl), by repeat (first | (with_reducible first | exact HB.out | apply below_alloc | apply pw_below_drewN | apply below_drew1) | exact HB.out)⟩
    · rw [if_neg c6] at H
      have c6b0 : ((t114.length : Int) == 3) = false := beq_eq_false_iff_ne.mpr c6
      have c6b1 : ((t114.length : Int) != 3) = true := bne_iff_ne.mpr c6
      obtain rfl := Option.some.inj H
      go_enter Try.func8, Try.ntmps8
      go_wp2_with (first | ((with_reducible refine gate_dst (N := 2) rfl ?_); (try (refine gate_guard (by rfl) ?_; dsimp only)); refine Kd.R_lit (Kd.int .u64) _ 23 ?hg (N := 2) ?hd (xs := ([5, 9, 5, 1] : List Int)) (inner := [.int .u64 5, .int .u64 9, .int .u64 5, .int .u64 1]) (ok := fun _ => True) (okp := fun _ => True) ?hr ?hp (fun _ hk => hk) trivial (Below.refl _ _) (Nat.le_refl _) (by simp) ?_; (case hd => rfl); (case hg => rfl); (case hr => first | (go_simp; done) | (go_simp; rfl)); (case hp => exact (Reps.one (show Kd.M (Kd.int .u64) _ _ _ 5 [.int .u64 5] from rfl) (Reps.one (show Kd.M (Kd.int .u64) _ _ _ 9 [.int .u64 9] from rfl) (Reps.one (show Kd.M (Kd.int .u64) _ _ _ 5 [.int .u64 5] from rfl) (Reps.one (show Kd.M (Kd.int .u64) _ _ _ 1 [.int .u64 1] from rfl) (Reps.none _ _)))))); intro v102 w20 ho21 hb hg_ hnew_; clear hg_ hnew_; (first | rw [← Ny101.out] at ho21 | (simp only [Int.reduceToNat] at ho21; rw [← Ny101.out] at ho21)); have n0_ := Aside0.mk (Kd.R_lower ho21 (below_size (by repeat (first | (with_reducible first | exact HB.out | apply below_alloc | apply pw_below_drewN | apply below_drew1) | exact HB.out)))); have n1_ := Aside0.mk (below_step (by repeat (first | (with_reducible first | exact HB.out | apply below_alloc | apply pw_below_drewN | apply below_drew1) | exact HB.out)) hb); clear HB; have HO103 := n0_; have HB := n1_; clear n0_ n1_; clear hb ho21; obtain ⟨Ao22, co22, eo22⟩ := Kd.R_slice HO103.out; subst eo22) | ((with_reducible refine gate_callee (f := 17) rfl ?_); refine goesL_ (some 3) rfl rfl Try.func17 (by kernel_rfl) rfl #[.slice Ao22 y101.length co22] rfl (by (try simp only [List.map_toArray, List.map_cons, List.map_nil]); first | done | rfl | (simp only [List.length_drop, List.length_take]; rfl)) ?_; (with_reducible refine (manteletlaw13_counts.calls k _ _ y101 t104 _ ?side1 ?side2 A1.out).mono ?_); (case side1 => repeat (first | exact (Kd.R_reads' HO103.out).2.2 | (with_reducible refine Kd.C_alloc ?_ _) | (with_reducible refine Kd.C_drewN ?_ _) | (with_reducible refine Kd.C_drew ?_))); (case side2 => exact (Kd.R_reads' HO103.out).2.1); rintro e w23 ⟨v105, rfl, ho0, hb⟩; refine ⟨_, rfl, ?_⟩; have n0_ := Aside0.mk (Kd.R_below (by (with_reducible repeat (first | apply Kd.R_alloc | apply Kd.R_drewN | apply Kd.R_drew)); exact HO103.out) hb); have n1_ := Aside0.mk (Kd.R_lower ho0 (below_size (by repeat (first | (with_reducible first | exact HB.out | apply below_alloc | apply pw_below_drewN | apply below_drew1) | exact HB.out)))); have n2_ := Aside0.mk (below_step (by repeat (first | (with_reducible first | exact HB.out | apply below_alloc | apply pw_below_drewN | apply below_drew1) | exact HB.out)) hb); clear HO103; clear HB; have HO103 := n0_; have HO106 := n1_; have HB := n2_; clear n0_ n1_ n2_; (try clear hb); (try clear hb2); (try clear hk); (try clear hi); (try clear ho0); obtain ⟨Ao24, co24, eo24⟩ := Kd.R_slice HO106.out; subst eo24) | ((with_reducible refine gate_callee (f := 13) rfl ?_); refine goesL_ (some 5) rfl rfl Try.func13 (by kernel_rfl) rfl #[.slice Ao24 t104.length co24] rfl (by (try simp only [List.map_toArray, List.map_cons, List.map_nil]); first | done | rfl | (simp only [List.length_drop, List.length_take]; rfl)) ?_; (with_reducible refine (rank_Classes.calls _ _ t104 t107 _ ?side1 ?side2 A2.out).mono ?_); (case side1 => repeat (first | exact (Kd.R_reads' HO106.out).2.2 | (with_reducible refine Kd.C_alloc ?_ _) | (with_reducible refine Kd.C_drewN ?_ _) | (with_reducible refine Kd.C_drew ?_))); (case side2 => exact (Kd.R_reads' HO106.out).2.1); rintro e w25 ⟨v108, rfl, ho0, hb⟩; refine ⟨_, rfl, ?_⟩; have n0_ := Aside0.mk (Kd.R_below (by (with_reducible repeat (first | apply Kd.R_alloc | apply Kd.R_drewN | apply Kd.R_drew)); exact HO103.out) hb); have n1_ := Aside0.mk (Kd.R_below (by (with_reducible repeat (first | apply Kd.R_alloc | apply Kd.R_drewN | apply Kd.R_drew)); exact HO106.out) hb); have n2_ := Aside0.mk (Kd.R_lower ho0 (below_size (by repeat (first | (with_reducible first | exact HB.out | apply below_alloc | apply pw_below_drewN | apply below_drew1) | exact HB.out)))); have n3_ := Aside0.mk (below_step (by repeat (first | (with_reducible first | exact HB.out | apply below_alloc | apply pw_below_drewN | apply below_drew1) | exact HB.out)) hb); clear HO103; clear HO106; clear HB; have HO103 := n0_; have HO106 := n1_; have HO109 := n2_; have HB := n3_; clear n0_ n1_ n2_ n3_; (try clear hb); (try clear hb2); (try clear hk); (try clear hi); (try clear ho0)) | ((with_reducible refine gate_dst (N := 6) rfl ?_); (try (refine gate_guard (by rfl) ?_; dsimp only)); refine Kd.R_lit (Kd.int .i64) _ 3 ?hg (N := 6) ?hd (xs := ([1, 0, 1, 2] : List Int)) (inner := [.int .i64 1, .int .i64 0, .int .i64 1, .int .i64 2]) (ok := fun _ => True) (okp := fun _ => True) ?hr ?hp (fun _ hk => hk) trivial (Below.refl _ _) (Nat.le_refl _) (by simp) ?_; (case hd => rfl); (case hg => rfl); (case hr => first | (go_simp; done) | (go_simp; rfl)); (case hp => exact (Reps.one (show Kd.M (Kd.int .i64) _ _ _ 1 [.int .i64 1] from rfl) (Reps.one (show Kd.M (Kd.int .i64) _ _ _ 0 [.int .i64 0] from rfl) (Reps.one (show Kd.M (Kd.int .i64) _ _ _ 1 [.int .i64 1] from rfl) (Reps.one (show Kd.M (Kd.int .i64) _ _ _ 2 [.int .i64 2] from rfl) (Reps.none _ _)))))); intro v111 w26 ho27 hb hg_ hnew_; clear hg_ hnew_; (first | rw [← Ny110.out] at ho27 | (simp only [Int.reduceToNat] at ho27; rw [← Ny110.out] at ho27)); have n0_ := Aside0.mk (Kd.R_below (by (with_reducible repeat (first | apply Kd.R_alloc | apply Kd.R_drewN | apply Kd.R_drew)); exact HO103.out) hb); have n1_ := Aside0.mk (Kd.R_below (by (with_reducible repeat (first | apply Kd.R_alloc | apply Kd.R_drewN | apply Kd.R_drew)); exact HO106.out) hb); have n2_ := Aside0.mk (Kd.R_elder' (by (with_reducible repeat (first | apply Kd.R_alloc | apply Kd.R_drewN | apply Kd.R_drew)); exact HO109.out) (Kd.R_base ho27) hb); have n3_ := Aside0.mk (Kd.R_lower (Kd.R_new' ho27 (Kd.R_lt (by (with_reducible repeat (first | apply Kd.R_alloc | apply Kd.R_drewN | apply Kd.R_drew)); exact HO109.out))) (below_size (by repeat (first | (with_reducible first | exact HB.out | apply below_alloc | apply pw_below_drewN | apply below_drew1) | exact HB.out)))); have n4_ := Aside0.mk (below_step (by repeat (first | (with_reducible first | exact HB.out | apply below_alloc | apply pw_below_drewN | apply below_drew1) | exact HB.out)) hb); clear HO103; clear HO106; clear HO109; clear HB; have HO103 := n0_; have HO106 := n1_; have HO109 := n2_; have HO112 := n3_; have HB := n4_; clear n0_ n1_ n2_ n3_ n4_; clear hb ho27; obtain ⟨Ao28, co28, eo28⟩ := Kd.R_slice HO109.out; subst eo28; obtain ⟨Ao29, co29, eo29⟩ := Kd.R_slice HO112.out; subst eo29) | ((with_reducible refine gate_callee (f := 12) rfl ?_); refine goesL_ (some 7) rfl rfl Try.func12 (by kernel_rfl) rfl #[.slice Ao28 t107.length co28, .slice Ao29 y110.length co29] rfl (by (try simp only [List.map_toArray, List.map_cons, List.map_nil]); first | done | rfl | (simp only [List.length_drop, List.length_take]; rfl)) ?_; (with_reducible refine (manteletref13_Ints.calls k _ _ t107 _ _ y110 true _ ?side1 ?side2 ?side3 ?side4 A3.out).mono ?_); (case side1 => repeat (first | exact (Kd.R_reads' HO109.out).2.2 | (with_reducible refine Kd.C_alloc ?_ _) | (with_reducible refine Kd.C_drewN ?_ _) | (with_reducible refine Kd.C_drew ?_))); (case side2 => exact (Kd.R_reads' HO109.out).2.1); (case side3 => repeat (first | exact (Kd.R_reads' HO112.out).2.2 | (with_reducible refine Kd.C_alloc ?_ _) | (with_reducible refine Kd.C_drewN ?_ _) | (with_reducible refine Kd.C_drew ?_))); (case side4 => exact (Kd.R_reads' HO112.out).2.1); rintro e w' ⟨rfl, ⟨nd, rfl⟩⟩; refine ⟨_, rfl, ?_⟩) | (go_at_call 10; (with_reducible refine (rank_Prune.calls _ _ t104 5 t114 _ ?side1 ?side2 A5.out).mono ?_); (case side1 => repeat (first | exact (Kd.R_reads' HO106.out).2.2 | (with_reducible refine Kd.C_alloc ?_ _) | (with_reducible refine Kd.C_drewN ?_ _) | (with_reducible refine Kd.C_drew ?_))); (case side2 => exact (Kd.R_reads' HO106.out).2.1); rintro e w30 ⟨v115, rfl, ho0, hb⟩; have n0_ := Aside0.mk (Kd.R_below (by (with_reducible repeat (first | apply Kd.R_alloc | apply Kd.R_drewN | apply Kd.R_drew)); exact HO103.out) hb); have n1_ := Aside0.mk (Kd.R_elder' (by (with_reducible repeat (first | apply Kd.R_alloc | apply Kd.R_drewN | apply Kd.R_drew)); exact HO106.out) (Kd.R_base ho0) hb); have n2_ := Aside0.mk (Kd.R_below (by (with_reducible repeat (first | apply Kd.R_alloc | apply Kd.R_drewN | apply Kd.R_drew)); exact HO109.out) hb); have n3_ := Aside0.mk (Kd.R_below (by (with_reducible repeat (first | apply Kd.R_alloc | apply Kd.R_drewN | apply Kd.R_drew)); exact HO112.out) hb); have n4_ := Aside0.mk (Kd.R_lower (Kd.R_new' ho0 (Kd.R_lt (by (with_reducible repeat (first | apply Kd.R_alloc | apply Kd.R_drewN | apply Kd.R_drew)); exact HO106.out))) (below_size (by repeat (first | (with_reducible first | exact HB.out | apply below_alloc | apply pw_below_drewN | apply below_drew1) | exact HB.out)))); have n5_ := Aside0.mk (below_step (by repeat (first | (with_reducible first | exact HB.out | apply below_alloc | apply pw_below_drewN | apply below_drew1) | exact HB.out)) hb); clear HO103; clear HO106; clear HO109; clear HO112; clear HB; have HO103 := n0_; have HO106 := n1_; have HO109 := n2_; have HO112 := n3_; have HO116 := n4_; have HB := n5_; clear n0_ n1_ n2_ n3_ n4_ n5_; (try clear hb); (try clear hb2); (try clear hk); (try clear hi); (try clear ho0); obtain ⟨Ao31, co31, eo31⟩ := Kd.R_slice HO116.out; subst eo31))
      go_ret
      exact ⟨by first | rfl | (simp [errW_none, errW_some] <;> rfl) | (simp [*, errW_none, errW_some] <;> rfl), by repeat (first | (with_reducible first | exact HB.out | apply below_alloc | apply pw_below_drewN | apply below_drew1) | exact HB.out)⟩
  · replace c4 := Bool.eq_false_iff.mpr c4
    subst c4
    have H1 : (some false) = some r := by rw [if_neg (show ¬ (false = true) by decide)] at H; exact H
    clear H
    have H := H1
    clear H1
    obtain rfl := Option.some.inj H
    go_enter Try.func8, Try.ntmps8
    go_wp2_with (first | ((with_reducible refine gate_dst (N := 2) rfl ?_); (try (refine gate_guard (by rfl) ?_; dsimp only)); refine Kd.R_lit (Kd.int .u64) _ 23 ?hg (N := 2) ?hd (xs := ([5, 9, 5, 1] : List Int)) (inner := [.int .u64 5, .int .u64 9, .int .u64 5, .int .u64 1]) (ok := fun _ => True) (okp := fun _ => True) ?hr ?hp (fun _ hk => hk) trivial (Below.refl _ _) (Nat.le_refl _) (by simp) ?_; (case hd => rfl); (case hg => rfl); (case hr => first | (go_simp; done) | (go_simp; rfl)); (case hp => exact (Reps.one (show Kd.M (Kd.int .u64) _ _ _ 5 [.int .u64 5] from rfl) (Reps.one (show Kd.M (Kd.int .u64) _ _ _ 9 [.int .u64 9] from rfl) (Reps.one (show Kd.M (Kd.int .u64) _ _ _ 5 [.int .u64 5] from rfl) (Reps.one (show Kd.M (Kd.int .u64) _ _ _ 1 [.int .u64 1] from rfl) (Reps.none _ _)))))); intro v102 w32 ho33 hb hg_ hnew_; clear hg_ hnew_; (first | rw [← Ny101.out] at ho33 | (simp only [Int.reduceToNat] at ho33; rw [← Ny101.out] at ho33)); have n0_ := Aside0.mk (Kd.R_lower ho33 (below_size (by repeat (first | (with_reducible first | exact HB.out | apply below_alloc | apply pw_below_drewN | apply below_drew1) | exact HB.out)))); have n1_ := Aside0.mk (below_step (by repeat (first | (with_reducible first | exact HB.out | apply below_alloc | apply pw_below_drewN | apply below_drew1) | exact HB.out)) hb); clear HB; have HO103 := n0_; have HB := n1_; clear n0_ n1_; clear hb ho33; obtain ⟨Ao34, co34, eo34⟩ := Kd.R_slice HO103.out; subst eo34) | ((with_reducible refine gate_callee (f := 17) rfl ?_); refine goesL_ (some 3) rfl rfl Try.func17 (by kernel_rfl) rfl #[.slice Ao34 y101.length co34] rfl (by (try simp only [List.map_toArray, List.map_cons, List.map_nil]); first | done | rfl | (simp only [List.length_drop, List.length_take]; rfl)) ?_; (with_reducible refine (manteletlaw13_counts.calls k _ _ y101 t104 _ ?side1 ?side2 A1.out).mono ?_); (case side1 => repeat (first | exact (Kd.R_reads' HO103.out).2.2 | (with_reducible refine Kd.C_alloc ?_ _) | (with_reducible refine Kd.C_drewN ?_ _) | (with_reducible refine Kd.C_drew ?_))); (case side2 => exact (Kd.R_reads' HO103.out).2.1); rintro e w35 ⟨v105, rfl, ho0, hb⟩; refine ⟨_, rfl, ?_⟩; have n0_ := Aside0.mk (Kd.R_below (by (with_reducible repeat (first | apply Kd.R_alloc | apply Kd.R_drewN | apply Kd.R_drew)); exact HO103.out) hb); have n1_ := Aside0.mk (Kd.R_lower ho0 (below_size (by repeat (first | (with_reducible first | exact HB.out | apply below_alloc | apply pw_below_drewN | apply below_drew1) | exact HB.out)))); have n2_ := Aside0.mk (below_step (by repeat (first | (with_reducible first | exact HB.out | apply below_alloc | apply pw_below_drewN | apply below_drew1) | exact HB.out)) hb); clear HO103; clear HB; have HO103 := n0_; have HO106 := n1_; have HB := n2_; clear n0_ n1_ n2_; (try clear hb); (try clear hb2); (try clear hk); (try clear hi); (try clear ho0); obtain ⟨Ao36, co36, eo36⟩ := Kd.R_slice HO106.out; subst eo36) | ((with_reducible refine gate_callee (f := 13) rfl ?_); refine goesL_ (some 5) rfl rfl Try.func13 (by kernel_rfl) rfl #[.slice Ao36 t104.length co36] rfl (by (try simp only [List.map_toArray, List.map_cons, List.map_nil]); first | done | rfl | (simp only [List.length_drop, List.length_take]; rfl)) ?_; (with_reducible refine (rank_Classes.calls _ _ t104 t107 _ ?side1 ?side2 A2.out).mono ?_); (case side1 => repeat (first | exact (Kd.R_reads' HO106.out).2.2 | (with_reducible refine Kd.C_alloc ?_ _) | (with_reducible refine Kd.C_drewN ?_ _) | (with_reducible refine Kd.C_drew ?_))); (case side2 => exact (Kd.R_reads' HO106.out).2.1); rintro e w37 ⟨v108, rfl, ho0, hb⟩; refine ⟨_, rfl, ?_⟩; have n0_ := Aside0.mk (Kd.R_below (by (with_reducible repeat (first | apply Kd.R_alloc | apply Kd.R_drewN | apply Kd.R_drew)); exact HO103.out) hb); have n1_ := Aside0.mk (Kd.R_below (by (with_reducible repeat (first | apply Kd.R_alloc | apply Kd.R_drewN | apply Kd.R_drew)); exact HO106.out) hb); have n2_ := Aside0.mk (Kd.R_lower ho0 (below_size (by repeat (first | (with_reducible first | exact HB.out | apply below_alloc | apply pw_below_drewN | apply below_drew1) | exact HB.out)))); have n3_ := Aside0.mk (below_step (by repeat (first | (with_reducible first | exact HB.out | apply below_alloc | apply pw_below_drewN | apply below_drew1) | exact HB.out)) hb); clear HO103; clear HO106; clear HB; have HO103 := n0_; have HO106 := n1_; have HO109 := n2_; have HB := n3_; clear n0_ n1_ n2_ n3_; (try clear hb); (try clear hb2); (try clear hk); (try clear hi); (try clear ho0)) | ((with_reducible refine gate_dst (N := 6) rfl ?_); (try (refine gate_guard (by rfl) ?_; dsimp only)); refine Kd.R_lit (Kd.int .i64) _ 3 ?hg (N := 6) ?hd (xs := ([1, 0, 1, 2] : List Int)) (inner := [.int .i64 1, .int .i64 0, .int .i64 1, .int .i64 2]) (ok := fun _ => True) (okp := fun _ => True) ?hr ?hp (fun _ hk => hk) trivial (Below.refl _ _) (Nat.le_refl _) (by simp) ?_; (case hd => rfl); (case hg => rfl); (case hr => first | (go_simp; done) | (go_simp; rfl)); (case hp => exact (Reps.one (show Kd.M (Kd.int .i64) _ _ _ 1 [.int .i64 1] from rfl) (Reps.one (show Kd.M (Kd.int .i64) _ _ _ 0 [.int .i64 0] from rfl) (Reps.one (show Kd.M (Kd.int .i64) _ _ _ 1 [.int .i64 1] from rfl) (Reps.one (show Kd.M (Kd.int .i64) _ _ _ 2 [.int .i64 2] from rfl) (Reps.none _ _)))))); intro v111 w38 ho39 hb hg_ hnew_; clear hg_ hnew_; (first | rw [← Ny110.out] at ho39 | (simp only [Int.reduceToNat] at ho39; rw [← Ny110.out] at ho39)); have n0_ := Aside0.mk (Kd.R_below (by (with_reducible repeat (first | apply Kd.R_alloc | apply Kd.R_drewN | apply Kd.R_drew)); exact HO103.out) hb); have n1_ := Aside0.mk (Kd.R_below (by (with_reducible repeat (first | apply Kd.R_alloc | apply Kd.R_drewN | apply Kd.R_drew)); exact HO106.out) hb); have n2_ := Aside0.mk (Kd.R_elder' (by (with_reducible repeat (first | apply Kd.R_alloc | apply Kd.R_drewN | apply Kd.R_drew)); exact HO109.out) (Kd.R_base ho39) hb); have n3_ := Aside0.mk (Kd.R_lower (Kd.R_new' ho39 (Kd.R_lt (by (with_reducible repeat (first | apply Kd.R_alloc | apply Kd.R_drewN | apply Kd.R_drew)); exact HO109.out))) (below_size (by repeat (first | (with_reducible first | exact HB.out | apply below_alloc | apply pw_below_drewN | apply below_drew1) | exact HB.out)))); have n4_ := Aside0.mk (below_step (by repeat (first | (with_reducible first | exact HB.out | apply below_alloc | apply pw_below_drewN | apply below_drew1) | exact HB.out)) hb); clear HO103; clear HO106; clear HO109; clear HB; have HO103 := n0_; have HO106 := n1_; have HO109 := n2_; have HO112 := n3_; have HB := n4_; clear n0_ n1_ n2_ n3_ n4_; clear hb ho39; obtain ⟨Ao40, co40, eo40⟩ := Kd.R_slice HO109.out; subst eo40; obtain ⟨Ao41, co41, eo41⟩ := Kd.R_slice HO112.out; subst eo41) | ((with_reducible refine gate_callee (f := 12) rfl ?_); refine goesL_ (some 7) rfl rfl Try.func12 (by kernel_rfl) rfl #[.slice Ao40 t107.length co40, .slice Ao41 y110.length co41] rfl (by (try simp only [List.map_toArray, List.map_cons, List.map_nil]); first | done | rfl | (simp only [List.length_drop, List.length_take]; rfl)) ?_; (with_reducible refine (manteletref13_Ints.calls k _ _ t107 _ _ y110 false _ ?side1 ?side2 ?side3 ?side4 A3.out).mono ?_); (case side1 => repeat (first | exact (Kd.R_reads' HO109.out).2.2 | (with_reducible refine Kd.C_alloc ?_ _) | (with_reducible refine Kd.C_drewN ?_ _) | (with_reducible refine Kd.C_drew ?_))); (case side2 => exact (Kd.R_reads' HO109.out).2.1); (case side3 => repeat (first | exact (Kd.R_reads' HO112.out).2.2 | (with_reducible refine Kd.C_alloc ?_ _) | (with_reducible refine Kd.C_drewN ?_ _) | (with_reducible refine Kd.C_drew ?_))); (case side4 => exact (Kd.R_reads' HO112.out).2.1); rintro e w' ⟨rfl, ⟨nd, rfl⟩⟩; refine ⟨_, rfl, ?_⟩))
    go_ret
    exact ⟨by first | rfl | (simp [errW_none, errW_some] <;> rfl) | (simp [*, errW_none, errW_some] <;> rfl), by repeat (first | (with_reducible first | exact HB.out | apply below_alloc | apply pw_below_drewN | apply below_drew1) | exact HB.out)⟩

end Go.Proofs.Ytcikngokiodabaa.PSh13

namespace Go.Proofs.Ytcikngokiodabaa.PSh13
open Go.RowKit Go.Proofs.YtcikngokiodabaaW.PrintWords Go.Proofs.YtcikngokiodabaaW.PrintLast Go.Proofs.YtcikngokiodabaaW.PrintMore Go.Proofs.Ytcikngokiodabaa.K Go.Proofs.Ytcikngokiodabaa.PR13
attribute [local go_sem] max2_int min2_int max_two min_two max_three min_three max_four min_four   -- for this text's walks alone
set_option linter.unusedVariables false
set_option linter.unusedSimpArgs false

end Go.Proofs.Ytcikngokiodabaa.PSh13

namespace Go.Proofs.Ytcikngokiodabaa.PRankTwice
open Go.RowKit Go.Proofs.YtcikngokiodabaaW.PrintWords Go.Proofs.YtcikngokiodabaaW.PrintLast Go.Proofs.YtcikngokiodabaaW.PrintMore Go.Proofs.Ytcikngokiodabaa.K Go.Proofs.Ytcikngokiodabaa.PR13 Go.Proofs.Ytcikngokiodabaa.PSh13
attribute [local go_sem] max2_int min2_int max_two min_two max_three min_three max_four min_four   -- for this text's walks alone
set_option linter.unusedVariables false
set_option linter.unusedSimpArgs false



def errW : Option Int → Value
  | none => .nilIface
  | some c => .iface 0 (.int .i64 c)
theorem errW_none : errW none = .nilIface := rfl
theorem errW_some (c : Int) : errW (some c) = .iface 0 (.int .i64 c) := rfl

end Go.Proofs.Ytcikngokiodabaa.PRankTwice

