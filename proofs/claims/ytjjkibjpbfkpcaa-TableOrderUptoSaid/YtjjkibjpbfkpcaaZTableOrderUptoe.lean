/- TableOrderUpto. (The texts that the proof is made of, one behind the other: part 5 of 5.) -/
import Derived.Test.YtjjkibjpbfkpcaaProg
import Derived.Below
import Derived.Deep.Draws
import Derived.Deep.AppendLies
import Derived.Maps.AppendAt
import Derived.OwnWalk
import Derived.Laws.BytesArg
import Derived.Laws.MakeOwn
import Derived.Laws.OwnMore
import Derived.Deep.OwnRows
import Derived.Tactics
import Derived.Lib.ConvBytes
import Derived.Laws.Slices
import Derived.WalkKit
import Derived.KernelRfl
import Derived.RowKit3
import Derived.Deep.LoopGhost
import Derived.Deep.QuietTactic
import Derived.BigQuiet
import Derived.WideLaws
import Derived.Deep.DeepCutAuto
import Derived.Deep.CutBlock
import Derived.Deep.RegionHeld3
import Derived.Laws.Rows
import Derived.Lib.AppendStr
import Derived.ArgAppend
import Derived.Laws.IdiomCopy
import Derived.OrdersHeld
import Derived.Laws.BitsLemmas
import Derived.RowKit
import Derived.Lib.OthersKept
import Derived.WalkSmall
import Derived.Deep.RegionLaw
import Derived.BigRegion
import Derived.Deep.Matrix
import Derived.SliceStrings
import Derived.Test.YtjjkibjpbfkpcaaRows
import Derived.ProofKit
import Derived.OpenShut
import Derived.ShutString
import Derived.ChangeOld
import Derived.SizedLaws
import Derived.JoinedCond
import Derived.Deep.CondSized
import Derived.Test.YtjjkibjpbfkpcaaZTableOrderUptoa
import Derived.Test.YtjjkibjpbfkpcaaZTableOrderUptob
import Derived.Test.YtjjkibjpbfkpcaaZTableOrderUptoc
import Derived.Test.YtjjkibjpbfkpcaaZTableOrderUptod
namespace Go.Proofs.Ytjjkibjpbfkpcaa.K
open Go.RowKit Go.Proofs.YtjjkibjpbfkpcaaW.PrintWords Go.Proofs.YtjjkibjpbfkpcaaW.PrintLast Go.Proofs.YtjjkibjpbfkpcaaW.PrintMore Go.Proofs.Ytjjkibjpbfkpcaa
attribute [local go_sem] max2_int min2_int max_two min_two max_three min_three max_four min_four
set_option linter.unusedVariables false
set_option linter.unusedSimpArgs false
open Go.Proofs.Ytjjkibjpbfkpcaa.PTb Go.Proofs.Ytjjkibjpbfkpcaa.Tab
theorem sum_put : ∀ (L : List En) (w : Wd) (c : Nat), L.Pairwise (fun a b => a.1 < b.1) → ((putL L w c).map (fun e => e.2)).sum + getL L w = (L.map (fun e => e.2)).sum + c
  | [], w, c, _ => by simp [putL, getL]
  | x :: r, w, c, hs => by
    have hs0 := hs
    rw [List.pairwise_cons] at hs
    have ih := sum_put r w c hs.2
    unfold putL
    by_cases h1 : w < x.1
    · rw [if_pos h1]
      have hg : getL (x :: r) w = 0 := get_none (fun y hy he => by
        rcases List.mem_cons.1 hy with rfl | hy
        · rw [he] at h1; exact List.lt_irrefl w h1
        · have := hs.1 y hy
          rw [he] at this
          exact lt_no h1 this)
      rw [hg]; simp; omega
    · rw [if_neg h1]
      by_cases h2 : x.1 = w
      · rw [if_pos h2]
        have hg : getL (x :: r) w = x.2 := by rw [← h2]; exact get_mem hs0 (by simp)
        rw [hg]; simp; omega
      · rw [if_neg h2]
        have hg : getL (x :: r) w = getL r w := by
          unfold getL
          rw [List.find?_cons_of_neg (by simpa using h2)]
        rw [hg]; simp; omega
structure CI (ws : List Wd) (k : Nat) (L : List En) : Prop where
  sorted : L.Pairwise (fun a b => a.1 < b.1)
  mem : ∀ e : En, e ∈ L ↔ e.1 ≠ [] ∧ 0 < ws.count e.1 ∧ e.2 = k * ws.count e.1
  len : L.length ≤ ws.length
  sum : (L.map (fun e => e.2)).sum = k * (ws.filter (fun w => w ≠ [])).length
theorem CI.nil (k : Nat) : CI [] k [] := ⟨List.Pairwise.nil, fun e => by simp, Nat.le_refl _, by simp⟩
theorem CI.get {ws : List Wd} {k : Nat} {L : List En} (h : CI ws k L) {w : Wd} (hw : w ≠ []) : getL L w = k * ws.count w := by
  by_cases hc : 0 < ws.count w
  · have : (w, k * ws.count w) ∈ L := (h.mem _).2 ⟨hw, hc, rfl⟩
    exact get_mem h.sorted this
  · have h0 : ws.count w = 0 := by omega
    rw [h0, Nat.mul_zero]
    exact get_none (fun e he hew => by
      have := ((h.mem e).1 he).2.1
      rw [hew] at this
      omega)
theorem CI.step {ws : List Wd} {k : Nat} {L : List En} (h : CI ws k L) (hk : 1 ≤ k) {room : Nat} (hroom : ws.length < room) (hmax : k * (ws.length + 1) ≤ 4611686018427387904) (w : Wd) : ∃ L' r, addL L room w k = (L', r) ∧ CI (ws ++ [w]) k L' ∧ (r = 0 ↔ w ≠ []) := by
  unfold addL
  by_cases hw : w = []
  · rw [if_pos (Or.inl hw)]
    subst hw
    refine ⟨L, 1, rfl, ⟨h.sorted, fun e => ?_, by rw [List.length_append]; have := h.len; simp; omega, ?_⟩, by simp⟩
    · rw [h.mem e]
      constructor
      · rintro ⟨a, b, c⟩
        have : List.count e.1 (ws ++ [[]]) = ws.count e.1 := by rw [List.count_append, List.count_singleton, if_neg (by simpa using fun e2 : [] = e.1 => a e2.symm)]; rfl
        rw [this]; exact ⟨a, b, c⟩
      · rintro ⟨a, b, c⟩
        have : List.count e.1 (ws ++ [[]]) = ws.count e.1 := by rw [List.count_append, List.count_singleton, if_neg (by simpa using fun e2 : [] = e.1 => a e2.symm)]; rfl
        rw [this] at b c; exact ⟨a, b, c⟩
    · rw [h.sum, List.filter_append]; simp
  · rw [if_neg (by rintro (e | e); exact hw e; omega)]
    have hget := h.get hw
    have hcl : ws.count w ≤ ws.length := List.count_le_length
    have hle : getL L w + k ≤ 4611686018427387904 := by
      rw [hget]
      refine Nat.le_trans ?_ hmax
      rw [Nat.mul_add, Nat.mul_one]
      exact Nat.add_le_add_right (Nat.mul_le_mul_left _ hcl) _
    rw [if_neg (by omega)]
    have hlen : L.length ≠ room := by have := h.len; omega
    have hci : CI (ws ++ [w]) k (putL L w (getL L w + k)) := by
      have hcw : List.count w (ws ++ [w]) = ws.count w + 1 := by rw [List.count_append, List.count_singleton, if_pos (by simp)]
      refine ⟨sorted_put _ _ _ h.sorted, fun e => ?_, ?_, ?_⟩
      · rw [mem_put _ _ _ h.sorted, h.mem e]
        constructor
        · rintro (rfl | ⟨⟨a, b, c⟩, d⟩)
          · refine ⟨hw, by rw [hcw]; omega, ?_⟩
            show getL L w + k = k * List.count w (ws ++ [w])
            rw [hcw, hget, Nat.mul_add, Nat.mul_one]
          · have : List.count e.1 (ws ++ [w]) = ws.count e.1 := by rw [List.count_append, List.count_singleton, if_neg (by simpa using fun e2 : w = e.1 => d e2.symm)]; rfl
            rw [this]; exact ⟨a, b, c⟩
        · rintro ⟨a, b, c⟩
          by_cases d : e.1 = w
          · left
            obtain ⟨e1, e2⟩ := e
            simp only at d c
            subst d
            rw [hcw] at c
            rw [c, hget, Nat.mul_add, Nat.mul_one]
          · right
            have : List.count e.1 (ws ++ [w]) = ws.count e.1 := by rw [List.count_append, List.count_singleton, if_neg (by simpa using fun e2 : w = e.1 => d e2.symm)]; rfl
            rw [this] at b c; exact ⟨⟨a, b, c⟩, d⟩
      · rw [len_put _ _ _ h.sorted, List.length_append]
        have := h.len
        split <;> simp <;> omega
      · have h1 := sum_put L w (getL L w + k) h.sorted
        have h2 := h.sum
        rw [List.filter_append, List.length_append]
        have h3 : ([w].filter (fun w => w ≠ [])).length = 1 := by simp [hw]
        rw [h3, Nat.mul_add, Nat.mul_one]
        omega
    by_cases hp : 0 < getL L w
    · rw [if_pos hp]
      exact ⟨_, 0, rfl, hci, by simp [hw]⟩
    · rw [if_neg hp, if_neg hlen]
      have : getL L w = 0 := by omega
      rw [this, Nat.zero_add] at hci
      exact ⟨_, 0, rfl, hci, by simp [hw]⟩
end Go.Proofs.Ytjjkibjpbfkpcaa.K

namespace Go.Proofs.Ytjjkibjpbfkpcaa.K
open Go.RowKit Go.Proofs.YtjjkibjpbfkpcaaW.PrintWords Go.Proofs.YtjjkibjpbfkpcaaW.PrintLast Go.Proofs.YtjjkibjpbfkpcaaW.PrintMore Go.Proofs.Ytjjkibjpbfkpcaa
attribute [local go_sem] max2_int min2_int max_two min_two max_three min_three max_four min_four
set_option linter.unusedVariables false
set_option linter.unusedSimpArgs false
end Go.Proofs.Ytjjkibjpbfkpcaa.K

namespace Go.Proofs.Ytjjkibjpbfkpcaa.K
open Go.RowKit Go.Proofs.YtjjkibjpbfkpcaaW.PrintWords Go.Proofs.YtjjkibjpbfkpcaaW.PrintLast Go.Proofs.YtjjkibjpbfkpcaaW.PrintMore Go.Proofs.Ytjjkibjpbfkpcaa
attribute [local go_sem] max2_int min2_int max_two min_two max_three min_three max_four min_four
set_option linter.unusedVariables false
set_option linter.unusedSimpArgs false
open Go.Proofs.Ytjjkibjpbfkpcaa.PTb Go.Proofs.Ytjjkibjpbfkpcaa.Tab
theorem rd_at (l : List ByteArray) (i : Nat) (h : i < l.length) : rdOf ByteArray.empty l (i : Int) = l[i] := by
  unfold rdOf
  rw [Int.toNat_natCast, List.getD_eq_getElem?_getD, List.getElem?_eq_getElem h]; rfl
theorem take_at (l : List ByteArray) (n i : Nat) (h : i < n) (hn : n ≤ l.length) : ((l.take n).map Utf.nats).take (i + 1) = ((l.take n).map Utf.nats).take i ++ [Utf.nats (l[i]'(by omega))] := by
  have hl : i < ((l.take n).map Utf.nats).length := by rw [List.length_map, List.length_take]; omega
  rw [List.take_succ_eq_append_getElem hl]
  simp
theorem min_at (n : Nat) : (if (200 : Int) < (n : Int) then (200 : Int) else (n : Int)) = ((min n 200 : Nat) : Int) := by
  by_cases h : (200 : Int) < (n : Int)
  · rw [if_pos h]; omega
  · rw [if_neg h]; omega
def sumT (L : List En) (k : Nat) : Nat := ((L.take k).map (fun e => e.2)).sum
def nes (ws : List Wd) : Nat := (ws.filter (fun w => w ≠ [])).length
theorem addTF (base g room : Nat) (F : Nat → Prop) (L L' : List En) (r : Int) (word : ByteArray) (ni : Int) (n : Nat) (w : World) (hni : ni = (n : Int)) (h : TabF base g room F L w) (hwz : word.size ≤ 1048576) (e : addL L room (Utf.nats word) n = (L', r)) :
    Calls Try.prog 11 #[.pointer (some ⟨g, 0, none⟩), .string word, .int .u64 ni] w fun e w' => e = .returned (.int .i64 r) ∧ TabF base g room (fun k => F k ∨ w.heap.size ≤ k) L' w' ∧ Below base w w' ∧ Kept w w' F := by
  subst hni
  have := addF base g room F L word n w h hwz
  rw [e] at this
  exact this
theorem w64_1 {n : Nat} (h : 0 < n) (hn : n ≤ 1000000) : wrap64 ((n : Int) - 1) = ((n - 1 : Nat) : Int) := by unfold wrap64; omega
theorem w64_3 {k : Nat} (hn : k ≤ 1000000) : wrap64 ((k : Int) + 1) = ((k + 1 : Nat) : Int) := by unfold wrap64; omega
end Go.Proofs.Ytjjkibjpbfkpcaa.K

namespace Go.Proofs.Ytjjkibjpbfkpcaa.K
open Go.RowKit Go.Proofs.YtjjkibjpbfkpcaaW.PrintWords Go.Proofs.YtjjkibjpbfkpcaaW.PrintLast Go.Proofs.YtjjkibjpbfkpcaaW.PrintMore Go.Proofs.Ytjjkibjpbfkpcaa
attribute [local go_sem] max2_int min2_int max_two min_two max_three min_three max_four min_four
set_option linter.unusedVariables false
set_option linter.unusedSimpArgs false
open Go.Proofs.Ytjjkibjpbfkpcaa.PTb Go.Proofs.Ytjjkibjpbfkpcaa.Tab
def turn (n b i : Nat) : Nat := (n - 1 - i + b) % n
theorem turn_lt {n b i : Nat} (h : i < n) : turn n b i < n := Nat.mod_lt _ (by omega)
theorem turn_turn {n b i : Nat} (h : i < n) : turn n b (turn n b i) = i := by
  have h1 := Nat.div_add_mod (n - 1 - i + b) n
  have h2 : (n - 1 - i + b) % n < n := Nat.mod_lt _ (by omega)
  unfold turn
  generalize (n - 1 - i + b) % n = r at h1 h2 ⊢
  generalize (n - 1 - i + b) / n = q at h1
  have h3 : n - 1 - r + b = i + n * q := by omega
  rw [h3, Nat.add_mul_mod_self_left, Nat.mod_eq_of_lt h]
theorem turn_perm (n b : Nat) : ((List.range n).map (turn n b)).Perm (List.range n) := by
  refine (List.perm_ext_iff_of_nodup ?_ List.nodup_range).2 (fun p => ?_)
  · unfold List.Nodup
    rw [List.pairwise_map, List.pairwise_iff_getElem]
    intro i j hi hj hij
    rw [List.length_range] at hi hj
    rw [List.getElem_range, List.getElem_range]
    intro e
    have h1 := turn_turn (b := b) hi
    have h2 := turn_turn (b := b) hj
    rw [e, h2] at h1
    omega
  · rw [List.mem_map, List.mem_range]
    constructor
    · rintro ⟨i, hi, rfl⟩
      exact turn_lt (List.mem_range.1 hi)
    · intro hp
      exact ⟨turn n b p, List.mem_range.2 (turn_lt hp), turn_turn hp⟩
def turned (ws : List Wd) (b : Nat) : List Wd := (List.range ws.length).map (fun i => ws.getD (turn ws.length b i) [])
theorem turned_perm (ws : List Wd) (b : Nat) : (turned ws b).Perm ws := by
  have h := (turn_perm ws.length b).map (fun i => ws.getD i [])
  rw [List.map_map] at h
  have e : (List.range ws.length).map (fun i => ws.getD i []) = ws := by
    apply List.ext_getElem (by simp)
    intro i h1 h2
    simp at h1
    simp [List.getD_eq_getElem?_getD, h1]
  rw [e] at h
  exact h
theorem turned_len (ws : List Wd) (b : Nat) : (turned ws b).length = ws.length := by simp [turned]
theorem turned_take (ws : List Wd) (b i : Nat) (h : i < ws.length) : (turned ws b).take (i + 1) = (turned ws b).take i ++ [ws[turn ws.length b i]'(turn_lt h)] := by
  have hl : i < (turned ws b).length := by rw [turned_len]; exact h
  rw [List.take_succ_eq_append_getElem hl]
  congr 2
  simp only [turned, List.getElem_map, List.getElem_range]
  rw [List.getD_eq_getElem?_getD, List.getElem?_eq_getElem (turn_lt h)]; rfl
theorem CI.perm {ws ws' : List Wd} {k : Nat} {L L' : List En} (h : CI ws k L) (h' : CI ws' k L') (hp : ws'.Perm ws) : L' = L := by
  refine sorted_ext _ _ h'.sorted h.sorted (fun e => ?_)
  rw [h'.mem e, h.mem e, hp.count_eq]
theorem TabF.lower {base base' g room : Nat} {F : Nat → Prop} {L : List En} {wx : World} (h : TabF base g room F L wx) (hb : base' ≤ base) : TabF base' g room F L wx := by
  obtain ⟨va, vs, ar, sl, h1, h2, h3, h4, h5⟩ := h
  exact ⟨va, vs, ar, sl, h1, ⟨Nat.le_trans hb h2.1, h2.2⟩, Kd.R_lower h3 hb, Kd.R_lower h4 hb, h5⟩
/-- Two tables, no block of both. -/
def Two (B ga gb room : Nat) (La Lb : List En) (wx : World) : Prop := ∃ Fa Fb : Nat → Prop, TabF B ga room Fa La wx ∧ TabF B gb room Fb Lb wx ∧ ∀ k, Fa k → Fb k → False
theorem Two.swap {B ga gb room : Nat} {La Lb : List En} {wx : World} (h : Two B ga gb room La Lb wx) : Two B gb ga room Lb La wx := by
  obtain ⟨Fa, Fb, h1, h2, h3⟩ := h
  exact ⟨Fb, Fa, h2, h1, fun k a b => h3 k b a⟩
theorem Two.add {B ga gb room : Nat} {La La' Lb : List En} {r : Int} {wx : World} (h : Two B ga gb room La Lb wx) (word : ByteArray) (ni : Int) (n : Nat) (hni : ni = (n : Int)) (hwz : word.size ≤ 1048576) (e : addL La room (Utf.nats word) n = (La', r)) :
    Calls Try.prog 11 #[.pointer (some ⟨ga, 0, none⟩), .string word, .int .u64 ni] wx fun e w' => e = .returned (.int .i64 r) ∧ Two B ga gb room La' Lb w' ∧ Below B wx w' := by
  obtain ⟨Fa, Fb, h1, h2, h3⟩ := h
  refine (addTF B ga room Fa La La' r word ni n wx hni h1 hwz e).mono ?_
  rintro e w' ⟨rfl, hT, hB, hK⟩
  exact ⟨rfl, ⟨_, _, hT, h2.here.kept hK (fun k hk hs => h3 k hs hk.1), fun k ha hb => ha.elim (fun ha => h3 k ha hb.1) (fun ha => by have := hb.2; omega)⟩, hB⟩
end Go.Proofs.Ytjjkibjpbfkpcaa.K

namespace Go.Proofs.Ytjjkibjpbfkpcaa.K
open Go.RowKit Go.Proofs.YtjjkibjpbfkpcaaW.PrintWords Go.Proofs.YtjjkibjpbfkpcaaW.PrintLast Go.Proofs.YtjjkibjpbfkpcaaW.PrintMore Go.Proofs.Ytjjkibjpbfkpcaa
attribute [local go_sem] max2_int min2_int max_two min_two max_three min_three max_four min_four
set_option linter.unusedVariables false
set_option linter.unusedSimpArgs false
open Go.Proofs.Ytjjkibjpbfkpcaa.PTb Go.Proofs.Ytjjkibjpbfkpcaa.Tab
theorem u8_nat {x : Int} (h : (Lit.int .u8 x).wf = true) : ∃ n : Nat, x = (n : Int) ∧ n < 256 := by
  have h2 : 0 ≤ x ∧ x < 256 := by
    simp only [Lit.wf, IntKind.min, IntKind.max, IntKind.signed, IntKind.bits, Bool.and_eq_true, decide_eq_true_eq, Bool.false_eq_true, if_false] at h
    omega
  exact ⟨x.toNat, by omega, by omega⟩
theorem w64_4 {n i b : Nat} (hi : i < n) (hn : n ≤ 1000000) (hb : b < 256) : wrap64 (((n - 1 - i : Nat) : Int) + (b : Int)) = ((n - 1 - i + b : Nat) : Int) := by unfold wrap64; omega
theorem w64_5 {n i : Nat} (hi : i < n) (hn : n ≤ 1000000) : wrap64 (((n - 1 : Nat) : Int) - (i : Int)) = ((n - 1 - i : Nat) : Int) := by unfold wrap64; omega
theorem rem_5 (m n : Nat) : ((m : Nat) : Int) % (n : Int) = ((m % n : Nat) : Int) := by rw [Int.natCast_emod]
set_option maxHeartbeats 4000000 in
set_option maxRecDepth 100000 in
theorem TableOrder_walk (a0 : Option Addr) (cap0 : Nat) (l0 : List ByteArray) (a1 : Int) (w : World) (hC0 : Kd.C Kd.string w a0 l0.length l0) (hc0 : l0.length ≤ cap0) (hw0 : ∀ x ∈ l0, x.size ≤ 1048576) (w1 : (Lit.int .u8 a1).wf = true) :
    Calls Try.prog 3 #[.slice a0 l0.length cap0, .int .u8 a1] w fun e w' => e = .returned (.bool true) ∧ Below w.heap.size w w' := by
  obtain ⟨b, rfl, hb⟩ := u8_nat w1
  clear w1
  have HC := Aside0.mk hC0; have HCAP := Aside0.mk hc0; have HW := Aside0.mk hw0
  have hll : (l0.length : Int) ≤ 9223372036854775807 := by have := hC0.2.1; omega
  have HSH := Aside0.mk (shown_k w)
  clear hC0 hc0 hw0
  go_enter Try.func3, Try.ntmps3
  go_upto_region 2 with (first | (go_at_call 9; (with_reducible refine (HSH.out).mono ?_); rintro e w1 ⟨rfl, hB⟩; have HB := Aside0.mk hB; clear hB))
  go_upto_region 3 with fail
  rw [min_at]
  obtain ⟨n, hn⟩ : ∃ n, n = min l0.length 200 := ⟨_, rfl⟩
  rw [← hn]
  have HN : Aside0 (n ≤ l0.length ∧ n ≤ 200) := ⟨by omega⟩
  clear hn
  obtain ⟨ws, hws⟩ : ∃ ws, ws = (l0.take n).map Utf.nats := ⟨_, rfl⟩
  have HWS := Aside0.mk hws
  have hwl : ws.length = n := by rw [hws, List.length_map, List.length_take]; have := HN.out; omega
  have HWL := Aside0.mk hwl
  clear hws hwl
  have HNEW := fun W => (show Calls Try.prog 10 #[.int .i64 200] W (fun e w' => ∃ g, e = .returned (.tuple #[.pointer (some ⟨g, 0, none⟩), .int .i64 0]) ∧ TabF W.heap.size g 200 (fun k => W.heap.size ≤ k) [] w' ∧ Below W.heap.size W w') from newF 200 (by decide) (by decide) W)
  have HNEW := Aside0.mk HNEW
  go_upto_region 4 with (first | (go_at_call 10; (with_reducible refine (HNEW.out _).mono ?_); rintro e w2 ⟨ga, rfl, hT, hB⟩; have HT := Aside0.mk hT; have HB2 := Aside0.mk (HB.out.trans (hB.mono HB.out.size)); have HSZ := Aside0.mk HB.out.size; have HSW := Aside0.mk hB.size; clear hT hB HB))
  go_upto_region 5 with (first | (go_at_call 10; (with_reducible refine (HNEW.out _).mono ?_); rintro e w3 ⟨gb, rfl, hT, hB⟩; have HTW : Aside0 (Two w1.heap.size ga gb 200 [] [] w3) := ⟨⟨_, _, (HT.out.here).step hB, hT.lower HSW.out, fun k h1 h2 => by have := h1.2; omega⟩⟩; have HB3 := Aside0.mk (HB2.out.trans (hB.mono HB2.out.size)); clear hT hB HB2 HT))
  go_upto_block 0 with fail
  go_wp2
  go_loopg [11] n (fun gg v11 wr => ∃ (i : Nat) (La Lb : List En), v11 = .int .i64 (i : Int) ∧ Aside0 (i ≤ n ∧ n ≤ gg + i) ∧ Aside0 (CI (ws.take i) 1 La ∧ CI ((turned ws b).take i) 1 Lb) ∧ Aside0 (Two w1.heap.size ga gb 200 La Lb wr) ∧ Aside0 (Below w.heap.size w wr))
  case atStart => exact ⟨0, [], [], rfl, ⟨by omega⟩, ⟨CI.nil 1, CI.nil 1⟩, HTW, HB3⟩
  case round =>
    obtain ⟨i, La, Lb, rfl, hi, hci, hT, hB⟩ := hrel
    by_cases hlt : i < n
    · have hcb : decide ((i : Int) < (n : Int)) = true := decide_eq_true (by omega)
      have hcbN : decide (i < n) = true := decide_eq_true hlt
      have hil : i < l0.length := by have := HN.out; omega
      obtain ⟨ad, ead, hcell⟩ := Kd.at_string (Kd.C_below HC.out hB.out) (i : Int) (by omega) (by omega)
      cases ead
      rw [rd_at l0 i hil, Int.toNat_natCast] at hcell
      obtain ⟨x, hx⟩ : ∃ x, l0[i] = x := ⟨_, rfl⟩
      have hxs : x.size ≤ 1048576 := by rw [← hx]; exact HW.out _ (List.getElem_mem hil)
      rw [hx] at hcell
      have htk : ws.take (i + 1) = ws.take i ++ [Utf.nats x] := by rw [HWS.out, take_at l0 n i hlt HN.out.1, hx]
      have htl : (ws.take i).length = i := by rw [List.length_take]; have := HWL.out; omega
      obtain ⟨La', r, eadd, hci', hr⟩ := hci.out.1.step (room := 200) (by decide) (by rw [htl]; have := HN.out; omega) (by rw [htl]; have := HN.out; omega) (Utf.nats x)
      have HA := Aside0.mk (hT.out.add x 1 1 rfl hxs eadd)
      have HTK := Aside0.mk htk; have HCI := Aside0.mk hci'; have HLT := Aside0.mk hlt
      -- the other table's word
      obtain ⟨p, hp⟩ : ∃ p, p = turn n b i := ⟨_, rfl⟩
      have hpn : p < n := by rw [hp]; exact turn_lt hlt
      have hpl : p < l0.length := by have := HN.out; omega
      obtain ⟨z, hz⟩ : ∃ z, l0[p] = z := ⟨_, rfl⟩
      have hzs : z.size ≤ 1048576 := by rw [← hz]; exact HW.out _ (List.getElem_mem hpl)
      have hwp : (turned ws b).take (i + 1) = (turned ws b).take i ++ [Utf.nats z] := by
        rw [turned_take ws b i (by rw [HWL.out]; exact hlt)]
        congr 2
        have e1 : turn ws.length b i = p := by rw [HWL.out, hp]
        have hpw : p < ws.length := by rw [HWL.out]; exact hpn
        have e2 : ws[p] = Utf.nats z := by
          have : ∀ (us : List Wd) (h : p < us.length), us = (l0.take n).map Utf.nats → us[p] = Utf.nats z := by
            intro us h e
            subst e
            rw [List.getElem_map, List.getElem_take, hz]
          exact this ws hpw HWS.out
        rw [← e2]
        congr 1
      have htl2 : ((turned ws b).take i).length = i := by rw [List.length_take, turned_len]; have := HWL.out; omega
      obtain ⟨Lb', r2, eadd2, hcib, _⟩ := hci.out.2.step (room := 200) (by decide) (by rw [htl2]; have := HN.out; omega) (by rw [htl2]; have := HN.out; omega) (Utf.nats z)
      have HA2 := fun W (h : Two w1.heap.size ga gb 200 La' Lb W) => h.swap.add z 1 1 rfl hzs eadd2
      have HA2 := Aside0.mk HA2
      have HWP := Aside0.mk hwp; have HCB := Aside0.mk hcib
      have q0 : (0 : Int) ≤ (i : Int) := by omega
      have q1 : (i : Int) < (l0.length : Int) := by omega
      have p0 : (0 : Int) ≤ (p : Int) := by omega
      have p1 : (p : Int) < (l0.length : Int) := by omega
      have hn0 : 0 < n := by omega
      have hn0' : ¬ (n : Int) = 0 := by omega
      have hnm : n ≤ 1000000 := by have := HN.out; omega
      have HQ := Aside0.mk (And.intro (w64_1 hn0 hnm) (And.intro (w64_5 hlt hnm) (And.intro (w64_4 hlt hnm hb) (And.intro (rem_5 (n - 1 - i + b) n) (And.intro hp (w64_3 (k := i) (by omega)))))))
      have HZ := Aside0.mk hz; have HX := Aside0.mk hx
      clear hx htk htl eadd hci' hr hlt hxs hz hwp htl2 eadd2 hcib hzs hpn hp hn0 hnm
      go_upto_region 11 with (first | (go_at_call 11; (with_reducible refine (HA.out).mono ?_); rintro e w4 ⟨rfl, hT4, hB4⟩; have HT4 := Aside0.mk hT4; have HB4 := Aside0.mk (hB.out.trans (hB4.mono HSZ.out)); clear hT4 hB4))
      clear hcell hcb hcbN
      obtain ⟨ad2, ead, hcell⟩ := Kd.at_string (Kd.C_below HC.out HB4.out) (p : Int) p0 p1
      cases ead
      rw [rd_at l0 p hpl, Int.toNat_natCast, HZ.out] at hcell
      have hcell2 : w4.cell? (ad.add ((n - 1 - i + b) % n)) = some (.string z) := by
        have e : (n - 1 - i + b) % n = p := HQ.out.2.2.2.2.1.symm
        rw [e]; exact hcell
      have hq1 := HQ.out.1; have hq2 := HQ.out.2.1; have hq3 := HQ.out.2.2.1
      have hq4 : ((n - 1 - i + b : Nat) : Int) % (n : Int) = (p : Int) := by rw [HQ.out.2.2.2.1, HQ.out.2.2.2.2.1]; rfl
      have hq5 : (((n - 1 - i : Nat) : Int) + (b : Int)) % (n : Int) = (p : Int) := hq4
      go_upto_region 9 with (first | (go_at_call 11; (with_reducible refine (HA2.out _ HT4.out).mono ?_); rintro e w5 ⟨rfl, hT5, hB5⟩; have HT5 := Aside0.mk hT5.swap; have HB5 := Aside0.mk (HB4.out.trans (hB5.mono HSZ.out)); clear hT5 hB5))
      clear hq1 hq2 hq3 hq4 hq5 hcell hcell2
      go_wp2
      go_roundg (n - (i + 1))
      case measure => have := hi.out; have := HLT.out; omega
      case rel => exact ⟨i + 1, La', Lb', rfl, ⟨by have := HLT.out; omega⟩, ⟨by rw [HTK.out]; exact HCI.out, by rw [HWP.out]; exact HCB.out⟩, HT5, HB5⟩
    · have hcb : decide ((i : Int) < (n : Int)) = false := decide_eq_false (by omega)
      have hcbN : decide (i < n) = false := decide_eq_false hlt
      have hin : i = n := by have := hi.out; omega
      subst hin
      have htw : ws.take i = ws := List.take_of_length_le (by rw [HWL.out]; exact Nat.le_refl _)
      have htb : (turned ws b).take i = turned ws b := List.take_of_length_le (by rw [turned_len, HWL.out]; exact Nat.le_refl _)
      have hL : Lb = La := by
        have h1 := hci.out.1; have h2 := hci.out.2
        rw [htw] at h1; rw [htb] at h2
        exact h1.perm h2 (turned_perm ws b)
      have hlen : La.length ≤ 200 := by have h1 := hci.out.1.len; rw [htw, HWL.out] at h1; have := HN.out; omega
      subst hL
      clear htw htb
      obtain ⟨Fa, Fb, hTa, hTb, hab⟩ := hT.out
      have HDA := Aside0.mk (drainF _ ga 200 Fa _ wr hTa)
      have HTB := Aside0.mk hTb.here
      have HAB := Aside0.mk hab
      clear hTa hTb hab hlt
      go_upto_region 12 with fail
      clear hcb hcbN
      go_wp2_with (fail)
      refine Calls.mono HDA.out ?_
      rintro e w5 ⟨va, ea, rfl, hea, hpa, hRa, _, hBa, hKa⟩
      have hTb5 := HTB.out.kept hKa (fun k hk hs => HAB.out k hs hk.1)
      have HB5 := Aside0.mk (hB.out.trans (hBa.mono HSZ.out))
      have HRA := Aside0.mk hRa; have HEA := Aside0.mk hea; have HPA := Aside0.mk hpa
      have HDB := Aside0.mk (drainF _ gb 200 _ _ w5 hTb5)
      have HSA := Aside0.mk hKa.1
      clear hea hpa hRa hBa hKa hTb5
      go_wp2_with (fail)
      refine Calls.mono HDB.out ?_
      rintro e w6 ⟨vb, eb, rfl, heb, hpb, hRb, _, hBb, hKb⟩
      have HB6 := Aside0.mk (HB5.out.trans (hBb.mono HSZ.out))
      have hee : eb = ea := map_toEn_inj _ _ (heb.trans HEA.out.symm) (fun x hx => (hpb x hx).1) (fun x hx => (HPA.out x hx).1)
      subst hee
      have hRa6 := Kd.R_kept (Kd.R_bound HRA.out) hKb (fun k hk hs => by have h1 := hs.2; have h2 := hk.2.1; omega)
      have hel : eb.length ≤ 200 := by rw [← List.length_map (f := toEn), HEA.out]; exact hlen
      obtain ⟨A, c, hva⟩ := Kd.R_slice hRa6
      subst hva
      obtain ⟨A', c', hvb⟩ := Kd.R_slice hRb
      subst hvb
      obtain ⟨_, hca, hCa⟩ := Kd.R_reads' hRa6
      obtain ⟨_, hcb, hCb⟩ := Kd.R_reads' hRb
      have HSAME := Aside0.mk (manteletref08_Same.calls _ A c eb A' c' eb true w6 hCa hca hCb hcb (same_refl eb (by omega)))
      clear hRa6 hRb heb hpb hBb hKb hCa hCb hca hcb hel HRA HEA HPA hlen
      go_wp2_with (fail)
      refine Calls.mono HSAME.out ?_
      rintro e w7 ⟨rfl, hd⟩
      have HB7 := Aside0.mk (HB6.out.trans (hd.below.mono HB6.out.size))
      clear hd
      go_wp2
      go_ret
      exact ⟨rfl, HB7.out⟩
end Go.Proofs.Ytjjkibjpbfkpcaa.K

namespace Go.Proofs.Ytjjkibjpbfkpcaa.K
open Go.RowKit Go.Proofs.YtjjkibjpbfkpcaaW.PrintWords Go.Proofs.YtjjkibjpbfkpcaaW.PrintLast Go.Proofs.YtjjkibjpbfkpcaaW.PrintMore Go.Proofs.Ytjjkibjpbfkpcaa
attribute [local go_sem] max2_int min2_int max_two min_two max_three min_three max_four min_four
set_option linter.unusedVariables false
set_option linter.unusedSimpArgs false
end Go.Proofs.Ytjjkibjpbfkpcaa.K

namespace Go.Proofs.Ytjjkibjpbfkpcaa.K
open Go.RowKit Go.Proofs.YtjjkibjpbfkpcaaW.PrintWords Go.Proofs.YtjjkibjpbfkpcaaW.PrintLast Go.Proofs.YtjjkibjpbfkpcaaW.PrintMore Go.Proofs.Ytjjkibjpbfkpcaa
attribute [local go_sem] max2_int min2_int max_two min_two max_three min_three max_four min_four
set_option linter.unusedVariables false
set_option linter.unusedSimpArgs false
open Go.Proofs.Ytjjkibjpbfkpcaa
theorem bulk_str {H : Type} : ∀ (ss : List ByteArray) (x : ByteArray), x ∈ ss → x.size + 1 ≤ Rows.uptoBulkAll (H := H) (Go.ChangeShapes.strs ss)
  | [], _, h => by cases h
  | s :: ss, x, h => by
    have e : Rows.uptoBulkAll (H := H) (Go.ChangeShapes.strs (s :: ss)) = (s.size + 1) + Rows.uptoBulkAll (H := H) (Go.ChangeShapes.strs ss) := by
      show Rows.uptoBulk (DataW.lit (H := H) (.string s.data.toList)) + Rows.uptoBulkAll (H := H) (Go.ChangeShapes.strs ss) = _
      have e2 : s.data.toList.length = s.size := by rw [Array.length_toList]; rfl
      simp only [Rows.uptoBulk, e2]
    rw [e]
    rcases List.mem_cons.1 h with rfl | h
    · omega
    · have := bulk_str (H := H) ss x h
      omega
theorem open_strsU {H : Type} {enc : TypeId × Value → H} {P : Program} {w : World} {base : Nat} {held : Bool} {t e : TypeId} {a : Option Addr} {len cap : Nat} {d : DataW H} {ps : List MemPlace}
    (ht : P.underlying t = some (.slice e)) (he : P.underlying e = some .string) (ce : P.cellsOf e = 1)
    (h : DataW.Trod enc P w base (fun _ => true) held t (.slice a len cap) d ps) :
    ∃ l : List ByteArray, len = l.length ∧ l.length ≤ cap ∧ l.length ≤ maxLen ∧ Kd.C Kd.string w a l.length l ∧ ∀ x ∈ l, x.size + 1 ≤ Rows.uptoBulk d := by
  obtain ⟨fuel, hf⟩ := h
  rcases Go.ChangeShapes.open_strings ht he ce hf with ⟨hcs, _⟩ | ⟨a', len', cap', ss, hcs, hb, hl, hm, hsl, hd, hx, hs⟩
  · simp [Value.cells] at hcs
    obtain ⟨rfl, rfl, rfl⟩ := hcs
    exact ⟨[], rfl, Nat.le_refl _, Nat.zero_le _, ⟨rfl, Nat.zero_le _, fun h => absurd h (by simp)⟩, by simp⟩
  · simp [Value.cells] at hcs
    obtain ⟨rfl, rfl, rfl⟩ := hcs
    simp only [if_true] at hsl
    injection hd with hd _
    subst hd
    have hlen : (ss.take len).length = len := by rw [List.length_take]; omega
    refine ⟨ss.take len, hlen.symm, by omega, by omega, ?_, fun x hx => ?_⟩
    · refine Kd.C_of_reads (d := ByteArray.empty) (h1 := fun _ => rfl) ⟨rfl, by rw [hlen]; unfold maxLen at hm; omega, fun _ => ⟨a', rfl, fun j hj => ?_⟩⟩
      rw [hlen] at hj
      rw [hx j (by omega)]
      congr 2
      rw [List.getD_eq_getElem?_getD, List.getD_eq_getElem?_getD, List.getElem?_take, if_pos hj]
    · have := bulk_str (H := H) _ x hx
      simp only [Rows.uptoBulk]
      omega
/-- A part's bulk under the bound. -/
theorem bulk_part {H : Type} {d : DataW H} {l : List (DataW H)} (hk : Rows.uptoSmall H l = true) (h : d ∈ l) : Rows.uptoBulk d ≤ 1048576 := by
  have hb : Rows.uptoBulkAll l ≤ 1048576 := of_decide_eq_true hk
  have : ∀ l : List (DataW H), d ∈ l → Rows.uptoBulk d ≤ Rows.uptoBulkAll l := by
    intro l
    induction l with
    | nil => exact fun h => by cases h
    | cons x r ih =>
      intro h
      simp only [Rows.uptoBulkAll]
      rcases List.mem_cons.1 h with rfl | h
      · omega
      · have := ih h
        omega
  exact Nat.le_trans (this l h) hb
end Go.Proofs.Ytjjkibjpbfkpcaa.K

namespace Go.Proofs.Ytjjkibjpbfkpcaa.tableOrderUpto
open Go.ChangeShapes Go.WideShapes Go.ChangeAt Go.RowKit
open Go.ChangeMaps (open_string shut_string)
set_option linter.unusedVariables false
theorem own : ownKnob Try.prog.godebug = none := by kernel_rfl
theorem laidOut : laidOutB Try.prog = true := by kernel_rfl
def IsRow (k : IntKind) (w : World) (a : Option Addr) (len cap : Nat) (zs : List Int) : Prop :=
  (a = none ∧ len = 0 ∧ cap = 0 ∧ zs = []) ∨
  ∃ x, a = some x ∧ len ≤ cap ∧ cap ≤ maxLen ∧ zs.length = cap ∧ (∀ i, i < zs.length → w.cell? (x.add i) = some (.int k (zs.getD i 0))) ∧ ∀ n ∈ zs, (Lit.int k n).wf = true
set_option maxRecDepth 100000 in
theorem lifted (os : Os) (started : os.Started) (H : Type) (enc : TypeId × Value → H) (F : Stop.Interp) :
    ReturnsInHanded {} Try.checked os 3 .any ((Rows.OpenSpec.upto Rows.tableOrderSpec).pre6 enc Try.prog Try.f3 Rows.tableOrderUptoRow.domain false) (((Rows.OpenSpec.upto Rows.tableOrderSpec).at F).post enc Try.prog Try.f3 false true false false) := by
  refine returnsInHanded_of_cond_sized (C := Try.checked) (s := Rows.OpenSpec.upto Rows.tableOrderSpec) (k := Rows.uptoSmall) rfl own started (by kernel_rfl) Try.func3
    (OpenSpec.witness (enc := enc) (C := Try.checked) (s := Rows.OpenSpec.upto Rows.tableOrderSpec) (k := Rows.uptoSmall) rfl false ⟨#[], #[.slice none 0 0, .int .u8 0], []⟩ 8 (by kernel_rfl) (by kernel_rfl) (by kernel_rfl)
      (x := ([.nil, .lit (.int .u8 0)], [], [])) (by kernel_rfl) rfl (by kernel_rfl)) ?_
  intro W base args ds gs before hval0 hW hcnd hk hsz0 _
  have hsz : (DataW.weightsEach Try.prog (Try.f3.params.toList ++ Rows.tableOrderSpec.plain.varTypes Try.prog) (ds ++ gs)).all (· ≤ reachBytes) = true := hsz0
  have hval : ∀ (j : Nat) t v, Try.f3.params[j]? = some t → args[j]? = some v → Value.okWide Try.prog W .any base t v := hval0
  have hW' := hW
  obtain ⟨p, q, hA0, hV, rfl, hfz, hnd⟩ := hW
  have hA : DataW.TrodAll enc Try.prog W 0 (fun _ => true) true Try.f3.params.toList args.toList ds p := hA0
  rw [Try.params3] at hA hval hsz
  obtain ⟨v0, vs0, d0, ds0, p0, q0, hargs, rfl, rfl, h0, r0⟩ := trodAll_cons hA
  obtain ⟨v1, vs1, d1, ds1, p1, q1, rfl, rfl, rfl, h1, r1⟩ := trodAll_cons r0
  obtain ⟨rfl, rfl, rfl⟩ := trodAll_nil r1
  obtain rfl : args = #[v0, v1] := by cases args; simp_all
  obtain ⟨rfl, rfl⟩ := trodVars_none hV
  obtain ⟨a0, len0, cap0, rfl⟩ := okWide_slice Try.underlying22 (hval 0 22 v0 rfl rfl)
  have k0 := h0
  have lt0 : ∀ x ∈ p0, x.block < W.heap.size := by obtain ⟨m, hm⟩ := k0; exact DataW.trod_lt m _ _ _ hm
  obtain ⟨l0, rfl, hc0, hm0, hC0, hw0⟩ := K.open_strsU Try.underlying22 Try.underlying9 (by kernel_rfl) h0
  have hw0 := fun x hx => Nat.le_trans (Nat.le_of_succ_le (hw0 x hx)) (K.bulk_part hk (d := d0) (by simp))
  obtain ⟨a1, rfl, rfl, rfl, w1⟩ := open_int Try.underlying5 (hval 1 5 v1 rfl rfl) h1
  clear hA0 hval0 hsz0 hsz
  refine (K.TableOrder_walk a0 cap0 l0 a1 W hC0 hc0 hw0 w1).mono fun e W' ⟨he, bel⟩ => ?_
  subst he
  exact ⟨_, rfl, _, _, _, [], _, [], hW', trodAll_mk1 (shut_bool Try.underlying4 _), (trodAll_cons_mk (Below.trod laidOut (by kernel_rfl) (of_decide_eq_true (by kernel_rfl)) k0 bel lt0) (trodAll_cons_mk (shut_int Try.underlying5 w1) trodAll_mk0)), rfl, bel.frame _, fun h => by cases h⟩
theorem over : Rows.tableOrderUptoRow.holds Try.pinned (Rows.OpenSpec.upto Rows.tableOrderSpec) :=
  OpenClaim.holds_of_cond 3 Try.f3 rfl rfl rfl rfl rfl rfl rfl ⟨rfl, rfl, rfl, rfl, rfl⟩ rfl rfl rfl rfl rfl (by kernel_rfl) Try.func3 (by kernel_rfl)
    (of_decide_eq_true (by kernel_rfl)) (by unfold Func.isWrapper; first | (rw [if_pos (by decide +kernel)]; kernel_rfl) | (rw [if_neg (by decide +kernel)]; exact ⟨rfl, rfl⟩))
    (fun os started H enc _ F => lifted os started H enc F)
theorem proved : Rows.TableOrderUptoSaid := over
#print axioms proved
end Go.Proofs.Ytjjkibjpbfkpcaa.tableOrderUpto
namespace Go.Proofs.Ytjjkibjpbfkpcaa
/-- The row, under a short name, for the claim. -/
theorem tableOrderUpto_holds : Rows.TableOrderUptoSaid := tableOrderUpto.proved
end Go.Proofs.Ytjjkibjpbfkpcaa

