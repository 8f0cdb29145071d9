/- TableAgainUpto. (The texts that the proof is made of, one behind the other: part 5 of 5.) -/
import Derived.Test.YtjjkibjpbfkpcaaProg
import Derived.Below
import Derived.Deep.Draws
import Derived.Deep.AppendLies
import Derived.Maps.AppendAt
import Derived.OwnWalk
import Derived.Laws.BytesArg
import Derived.Laws.MakeOwn
import Derived.Laws.OwnMore
import Derived.Deep.OwnRows
import Derived.Tactics
import Derived.Lib.ConvBytes
import Derived.Laws.Slices
import Derived.WalkKit
import Derived.KernelRfl
import Derived.RowKit3
import Derived.Deep.LoopGhost
import Derived.Deep.QuietTactic
import Derived.BigQuiet
import Derived.WideLaws
import Derived.Deep.DeepCutAuto
import Derived.Deep.CutBlock
import Derived.Deep.RegionHeld3
import Derived.Laws.Rows
import Derived.Lib.AppendStr
import Derived.ArgAppend
import Derived.Laws.IdiomCopy
import Derived.OrdersHeld
import Derived.Laws.BitsLemmas
import Derived.RowKit
import Derived.Lib.OthersKept
import Derived.WalkSmall
import Derived.Deep.RegionLaw
import Derived.BigRegion
import Derived.Deep.Matrix
import Derived.SliceStrings
import Derived.Test.YtjjkibjpbfkpcaaRows
import Derived.ProofKit
import Derived.OpenShut
import Derived.ShutString
import Derived.ChangeOld
import Derived.SizedLaws
import Derived.JoinedCond
import Derived.Deep.CondSized
import Derived.Test.YtjjkibjpbfkpcaaZTableAgainUptoa
import Derived.Test.YtjjkibjpbfkpcaaZTableAgainUptob
import Derived.Test.YtjjkibjpbfkpcaaZTableAgainUptoc
import Derived.Test.YtjjkibjpbfkpcaaZTableAgainUptod
namespace Go.Proofs.Ytjjkibjpbfkpcaa.K
open Go.RowKit Go.Proofs.YtjjkibjpbfkpcaaW.PrintWords Go.Proofs.YtjjkibjpbfkpcaaW.PrintLast Go.Proofs.YtjjkibjpbfkpcaaW.PrintMore Go.Proofs.Ytjjkibjpbfkpcaa
attribute [local go_sem] max2_int min2_int max_two min_two max_three min_three max_four min_four
set_option linter.unusedVariables false
set_option linter.unusedSimpArgs false
open Go.Proofs.Ytjjkibjpbfkpcaa.PTb Go.Proofs.Ytjjkibjpbfkpcaa.Tab
theorem sum_put : ∀ (L : List En) (w : Wd) (c : Nat), L.Pairwise (fun a b => a.1 < b.1) → ((putL L w c).map (fun e => e.2)).sum + getL L w = (L.map (fun e => e.2)).sum + c
  | [], w, c, _ => by simp [putL, getL]
  | x :: r, w, c, hs => by
    have hs0 := hs
    rw [List.pairwise_cons] at hs
    have ih := sum_put r w c hs.2
    unfold putL
    by_cases h1 : w < x.1
    · rw [if_pos h1]
      have hg : getL (x :: r) w = 0 := get_none (fun y hy he => by
        rcases List.mem_cons.1 hy with rfl | hy
        · rw [he] at h1; exact List.lt_irrefl w h1
        · have := hs.1 y hy
          rw [he] at this
          exact lt_no h1 this)
      rw [hg]; simp; omega
    · rw [if_neg h1]
      by_cases h2 : x.1 = w
      · rw [if_pos h2]
        have hg : getL (x :: r) w = x.2 := by rw [← h2]; exact get_mem hs0 (by simp)
        rw [hg]; simp; omega
      · rw [if_neg h2]
        have hg : getL (x :: r) w = getL r w := by
          unfold getL
          rw [List.find?_cons_of_neg (by simpa using h2)]
        rw [hg]; simp; omega
structure CI (ws : List Wd) (k : Nat) (L : List En) : Prop where
  sorted : L.Pairwise (fun a b => a.1 < b.1)
  mem : ∀ e : En, e ∈ L ↔ e.1 ≠ [] ∧ 0 < ws.count e.1 ∧ e.2 = k * ws.count e.1
  len : L.length ≤ ws.length
  sum : (L.map (fun e => e.2)).sum = k * (ws.filter (fun w => w ≠ [])).length
theorem CI.nil (k : Nat) : CI [] k [] := ⟨List.Pairwise.nil, fun e => by simp, Nat.le_refl _, by simp⟩
theorem CI.get {ws : List Wd} {k : Nat} {L : List En} (h : CI ws k L) {w : Wd} (hw : w ≠ []) : getL L w = k * ws.count w := by
  by_cases hc : 0 < ws.count w
  · have : (w, k * ws.count w) ∈ L := (h.mem _).2 ⟨hw, hc, rfl⟩
    exact get_mem h.sorted this
  · have h0 : ws.count w = 0 := by omega
    rw [h0, Nat.mul_zero]
    exact get_none (fun e he hew => by
      have := ((h.mem e).1 he).2.1
      rw [hew] at this
      omega)
theorem CI.step {ws : List Wd} {k : Nat} {L : List En} (h : CI ws k L) (hk : 1 ≤ k) {room : Nat} (hroom : ws.length < room) (hmax : k * (ws.length + 1) ≤ 4611686018427387904) (w : Wd) : ∃ L' r, addL L room w k = (L', r) ∧ CI (ws ++ [w]) k L' ∧ (r = 0 ↔ w ≠ []) := by
  unfold addL
  by_cases hw : w = []
  · rw [if_pos (Or.inl hw)]
    subst hw
    refine ⟨L, 1, rfl, ⟨h.sorted, fun e => ?_, by rw [List.length_append]; have := h.len; simp; omega, ?_⟩, by simp⟩
    · rw [h.mem e]
      constructor
      · rintro ⟨a, b, c⟩
        have : List.count e.1 (ws ++ [[]]) = ws.count e.1 := by rw [List.count_append, List.count_singleton, if_neg (by simpa using fun e2 : [] = e.1 => a e2.symm)]; rfl
        rw [this]; exact ⟨a, b, c⟩
      · rintro ⟨a, b, c⟩
        have : List.count e.1 (ws ++ [[]]) = ws.count e.1 := by rw [List.count_append, List.count_singleton, if_neg (by simpa using fun e2 : [] = e.1 => a e2.symm)]; rfl
        rw [this] at b c; exact ⟨a, b, c⟩
    · rw [h.sum, List.filter_append]; simp
  · rw [if_neg (by rintro (e | e); exact hw e; omega)]
    have hget := h.get hw
    have hcl : ws.count w ≤ ws.length := List.count_le_length
    have hle : getL L w + k ≤ 4611686018427387904 := by
      rw [hget]
      refine Nat.le_trans ?_ hmax
      rw [Nat.mul_add, Nat.mul_one]
      exact Nat.add_le_add_right (Nat.mul_le_mul_left _ hcl) _
    rw [if_neg (by omega)]
    have hlen : L.length ≠ room := by have := h.len; omega
    have hci : CI (ws ++ [w]) k (putL L w (getL L w + k)) := by
      have hcw : List.count w (ws ++ [w]) = ws.count w + 1 := by rw [List.count_append, List.count_singleton, if_pos (by simp)]
      refine ⟨sorted_put _ _ _ h.sorted, fun e => ?_, ?_, ?_⟩
      · rw [mem_put _ _ _ h.sorted, h.mem e]
        constructor
        · rintro (rfl | ⟨⟨a, b, c⟩, d⟩)
          · refine ⟨hw, by rw [hcw]; omega, ?_⟩
            show getL L w + k = k * List.count w (ws ++ [w])
            rw [hcw, hget, Nat.mul_add, Nat.mul_one]
          · have : List.count e.1 (ws ++ [w]) = ws.count e.1 := by rw [List.count_append, List.count_singleton, if_neg (by simpa using fun e2 : w = e.1 => d e2.symm)]; rfl
            rw [this]; exact ⟨a, b, c⟩
        · rintro ⟨a, b, c⟩
          by_cases d : e.1 = w
          · left
            obtain ⟨e1, e2⟩ := e
            simp only at d c
            subst d
            rw [hcw] at c
            rw [c, hget, Nat.mul_add, Nat.mul_one]
          · right
            have : List.count e.1 (ws ++ [w]) = ws.count e.1 := by rw [List.count_append, List.count_singleton, if_neg (by simpa using fun e2 : w = e.1 => d e2.symm)]; rfl
            rw [this] at b c; exact ⟨⟨a, b, c⟩, d⟩
      · rw [len_put _ _ _ h.sorted, List.length_append]
        have := h.len
        split <;> simp <;> omega
      · have h1 := sum_put L w (getL L w + k) h.sorted
        have h2 := h.sum
        rw [List.filter_append, List.length_append]
        have h3 : ([w].filter (fun w => w ≠ [])).length = 1 := by simp [hw]
        rw [h3, Nat.mul_add, Nat.mul_one]
        omega
    by_cases hp : 0 < getL L w
    · rw [if_pos hp]
      exact ⟨_, 0, rfl, hci, by simp [hw]⟩
    · rw [if_neg hp, if_neg hlen]
      have : getL L w = 0 := by omega
      rw [this, Nat.zero_add] at hci
      exact ⟨_, 0, rfl, hci, by simp [hw]⟩
end Go.Proofs.Ytjjkibjpbfkpcaa.K

namespace Go.Proofs.Ytjjkibjpbfkpcaa.K
open Go.RowKit Go.Proofs.YtjjkibjpbfkpcaaW.PrintWords Go.Proofs.YtjjkibjpbfkpcaaW.PrintLast Go.Proofs.YtjjkibjpbfkpcaaW.PrintMore Go.Proofs.Ytjjkibjpbfkpcaa
attribute [local go_sem] max2_int min2_int max_two min_two max_three min_three max_four min_four
set_option linter.unusedVariables false
set_option linter.unusedSimpArgs false
end Go.Proofs.Ytjjkibjpbfkpcaa.K

namespace Go.Proofs.Ytjjkibjpbfkpcaa.K
open Go.RowKit Go.Proofs.YtjjkibjpbfkpcaaW.PrintWords Go.Proofs.YtjjkibjpbfkpcaaW.PrintLast Go.Proofs.YtjjkibjpbfkpcaaW.PrintMore Go.Proofs.Ytjjkibjpbfkpcaa
attribute [local go_sem] max2_int min2_int max_two min_two max_three min_three max_four min_four
set_option linter.unusedVariables false
set_option linter.unusedSimpArgs false
open Go.Proofs.Ytjjkibjpbfkpcaa.PTb Go.Proofs.Ytjjkibjpbfkpcaa.Tab
theorem rd_at (l : List ByteArray) (i : Nat) (h : i < l.length) : rdOf ByteArray.empty l (i : Int) = l[i] := by
  unfold rdOf
  rw [Int.toNat_natCast, List.getD_eq_getElem?_getD, List.getElem?_eq_getElem h]; rfl
theorem take_at (l : List ByteArray) (n i : Nat) (h : i < n) (hn : n ≤ l.length) : ((l.take n).map Utf.nats).take (i + 1) = ((l.take n).map Utf.nats).take i ++ [Utf.nats (l[i]'(by omega))] := by
  have hl : i < ((l.take n).map Utf.nats).length := by rw [List.length_map, List.length_take]; omega
  rw [List.take_succ_eq_append_getElem hl]
  simp
theorem min_at (n : Nat) : (if (200 : Int) < (n : Int) then (200 : Int) else (n : Int)) = ((min n 200 : Nat) : Int) := by
  by_cases h : (200 : Int) < (n : Int)
  · rw [if_pos h]; omega
  · rw [if_neg h]; omega
theorem wrap_i {x : Int} (h0 : 0 ≤ x) (h1 : x < 9223372036854775808) : IntKind.i64.wrap x = x := by
  simp [IntKind.wrap, IntKind.signed, IntKind.bits]; omega
theorem wrap_u {x : Int} (h0 : 0 ≤ x) (h1 : x < 18446744073709551616) : IntKind.u64.wrap x = x := by
  simp [IntKind.wrap, IntKind.signed, IntKind.bits]; omega
def sumT (L : List En) (k : Nat) : Nat := ((L.take k).map (fun e => e.2)).sum
def nes (ws : List Wd) : Nat := (ws.filter (fun w => w ≠ [])).length
theorem nes_le (ws : List Wd) : nes ws ≤ ws.length := List.length_filter_le _ _
theorem addTF (base g room : Nat) (F : Nat → Prop) (L L' : List En) (r : Int) (word : ByteArray) (ni : Int) (n : Nat) (w : World) (hni : ni = (n : Int)) (h : TabF base g room F L w) (hwz : word.size ≤ 1048576) (e : addL L room (Utf.nats word) n = (L', r)) :
    Calls Try.prog 11 #[.pointer (some ⟨g, 0, none⟩), .string word, .int .u64 ni] w fun e w' => e = .returned (.int .i64 r) ∧ TabF base g room (fun k => F k ∨ w.heap.size ≤ k) L' w' ∧ Below base w w' ∧ Kept w w' F := by
  subst hni
  have := addF base g room F L word n w h hwz
  rw [e] at this
  exact this
theorem getTF (base g room : Nat) (F : Nat → Prop) (L : List En) (r : Int) (word : ByteArray) (w : World) (h : TabF base g room F L w) (hwz : word.size ≤ 140737488355328) (hne : Utf.nats word ≠ []) (e : (getL L (Utf.nats word) : Int) = r) :
    Calls Try.prog 15 #[.pointer (some ⟨g, 0, none⟩), .string word] w fun e w' => e = .returned (.int .u64 r) ∧ Below w.heap.size w w' := by
  subst e
  exact getF base g room F L word w h hwz hne
/-- A row apart from a table stays, whatever is added. -/
theorem R_apart {α : Type} {d : Kd α} {e base : Nat} {w w1 : World} {F : Nat → Prop} {v : Value} {xs : List α} (h : Kd.R d e w base (fun k => ¬ F k) v xs) (hk : Kept w w1 F) : Kd.R d e w1 base (fun k => ¬ (F k ∨ w.heap.size ≤ k)) v xs :=
  Kd.R_kept (Kd.R_mono (Kd.R_bound h) (fun k hk => fun h => h.elim hk.1 (fun h => by have := hk.2.2.1; omega))) hk (fun k hk h => hk (Or.inl h))
theorem rdE_at (es : List S35) (i : Nat) (h : i < es.length) : rd_T35 es (i : Int) = es[i] := by
  unfold rd_T35
  rw [Int.toNat_natCast, List.getD_eq_getElem?_getD, List.getElem?_eq_getElem h]; rfl
theorem es_at {es : List S35} {L : List En} (h : es.map toEn = L) {i : Nat} (hi : i < es.length) (hL : i < L.length) : L[i] = toEn es[i] := by
  subst h
  rw [List.getElem_map]
/-- A word of the list is one of those that came in. -/
theorem word_small {l0 : List ByteArray} {n k : Nat} {L : List En} {B : Nat} (hci : CI ((l0.take n).map Utf.nats) k L) (hw : ∀ x ∈ l0, x.size ≤ B) {y : ByteArray} {c : Nat} (hm : (Utf.nats y, c) ∈ L) : y.size ≤ B ∧ Utf.nats y ≠ [] := by
  obtain ⟨h1, h2, _⟩ := (hci.mem _).1 hm
  have h3 := List.count_pos_iff.1 h2
  obtain ⟨x, hx, he⟩ := List.mem_map.1 h3
  have : x = y := nats_inj3 he
  subst this
  exact ⟨hw _ (List.mem_of_mem_take hx), h1⟩
theorem w64_1 {n : Nat} (h : 0 < n) (hn : n ≤ 1000000) : wrap64 ((n : Int) - 1) = ((n - 1 : Nat) : Int) := by unfold wrap64; omega
theorem wi_1 {n : Nat} (h : 0 < n) (hn : n ≤ 1000000) : IntKind.i64.wrap ((n : Int) - 1) = ((n - 1 : Nat) : Int) := by rw [wrap_i (by omega) (by omega)]; omega
theorem w64_2 {n k j : Nat} (h : j = n - 1 - k) (hk : k < n) (hn : n ≤ 1000000) : wrap64 (((n - 1 : Nat) : Int) - (k : Int)) = (j : Int) := by unfold wrap64; omega
theorem wi_2 {n k j : Nat} (h : j = n - 1 - k) (hk : k < n) (hn : n ≤ 1000000) : IntKind.i64.wrap (((n - 1 : Nat) : Int) - (k : Int)) = (j : Int) := by rw [wrap_i (by omega) (by omega)]; omega
theorem w64_3 {k : Nat} (hn : k ≤ 1000000) : wrap64 ((k : Int) + 1) = ((k + 1 : Nat) : Int) := by unfold wrap64; omega
end Go.Proofs.Ytjjkibjpbfkpcaa.K

namespace Go.Proofs.Ytjjkibjpbfkpcaa.K
open Go.RowKit Go.Proofs.YtjjkibjpbfkpcaaW.PrintWords Go.Proofs.YtjjkibjpbfkpcaaW.PrintLast Go.Proofs.YtjjkibjpbfkpcaaW.PrintMore Go.Proofs.Ytjjkibjpbfkpcaa
attribute [local go_sem] max2_int min2_int max_two min_two max_three min_three max_four min_four
set_option linter.unusedVariables false
set_option linter.unusedSimpArgs false
open Go.Proofs.Ytjjkibjpbfkpcaa.PTb Go.Proofs.Ytjjkibjpbfkpcaa.Tab
theorem put_mid (w : Wd) (c c' : Nat) (B : List En) : ∀ (A : List En), (∀ a ∈ A, a.1 < w) → putL (A ++ (w, c) :: B) w c' = A ++ (w, c') :: B
  | [], _ => by
    show putL ((w, c) :: B) w c' = (w, c') :: B
    unfold putL
    rw [if_neg (List.lt_irrefl w), if_pos rfl]
  | a :: A, h => by
    have h1 := h a (by simp)
    rw [List.cons_append]
    unfold putL
    rw [if_neg (lt_no h1), if_neg (fun e => List.lt_irrefl w (by rw [e] at h1; exact h1)), put_mid w c c' B A (fun x hx => h x (by simp [hx]))]
    rfl
theorem get_mid (w : Wd) (c : Nat) (B : List En) : ∀ (A : List En), (∀ a ∈ A, a.1 < w) → getL (A ++ (w, c) :: B) w = c
  | [], _ => by unfold getL; simp
  | a :: A, h => by
    have h1 := h a (by simp)
    have ih := get_mid w c B A (fun x hx => h x (by simp [hx]))
    unfold getL at ih ⊢
    rw [List.cons_append, List.find?_cons_of_neg (by simpa using fun e => List.lt_irrefl w (by rw [e] at h1; exact h1))]
    exact ih
theorem before_lt {L : List En} (hs : L.Pairwise (fun a b => a.1 < b.1)) {i : Nat} (h : i < L.length) : ∀ a ∈ L.take i, a.1 < L[i].1 := fun a ha => by
  obtain ⟨j, hj, rfl⟩ := List.getElem_of_mem ha
  rw [List.length_take] at hj
  rw [List.getElem_take]
  exact List.pairwise_iff_getElem.1 hs j i (by omega) h (by omega)
/-- Entries added from the last to the first. -/
theorem again_back {L : List En} (hs : L.Pairwise (fun a b => a.1 < b.1)) {j : Nat} (h : j < L.length) (hne : L[j].1 ≠ []) (hp : 0 < L[j].2) (hm : L[j].2 ≤ 4611686018427387904) {room : Nat} (hroom : L.length ≤ room) : addL (L.drop (j + 1)) room L[j].1 L[j].2 = (L.drop j, 0) := by
  have habs : ∀ e ∈ L.drop (j + 1), L[j].1 < e.1 := fun e he => by
    obtain ⟨k, hk, rfl⟩ := List.getElem_of_mem he
    rw [List.length_drop] at hk
    rw [List.getElem_drop]
    exact List.pairwise_iff_getElem.1 hs j (j + 1 + k) h (by omega) (by omega)
  have hg : getL (L.drop (j + 1)) L[j].1 = 0 := get_none (fun e he h2 => by have := habs e he; rw [h2] at this; exact List.lt_irrefl _ this)
  unfold addL
  rw [if_neg (by rintro (e | e); exact hne e; omega), hg, if_neg (by omega), if_neg (by omega), if_neg (by rw [List.length_drop]; omega)]
  have hput : putL (L.drop (j + 1)) L[j].1 L[j].2 = L.drop j := by
    rw [List.drop_eq_getElem_cons h]
    cases hd : L.drop (j + 1) with
    | nil => rfl
    | cons e r =>
      have := habs e (by rw [hd]; simp)
      unfold putL
      rw [if_pos this]
  rw [hput]
/-- One more of each, up to place i. -/
def bump (L : List En) (i : Nat) : List En := (L.take i).map (fun e => (e.1, e.2 + 1)) ++ L.drop i
theorem bump_0 (L : List En) : bump L 0 = L := by simp [bump]
theorem bump_len (L : List En) (i : Nat) : (bump L i).length = L.length := by simp [bump]; omega
theorem bump_step {L : List En} (hs : L.Pairwise (fun a b => a.1 < b.1)) {i : Nat} (h : i < L.length) (hne : L[i].1 ≠ []) (hm : L[i].2 < 4611686018427387904) (hp : 0 < L[i].2) (room : Nat) : addL (bump L i) room L[i].1 1 = (bump L (i + 1), 0) ∧ getL (bump L (i + 1)) L[i].1 = L[i].2 + 1 := by
  have hbl : ∀ a ∈ (L.take i).map (fun e : En => (e.1, e.2 + 1)), a.1 < L[i].1 := fun a ha => by
    obtain ⟨e, he, rfl⟩ := List.mem_map.1 ha
    exact before_lt hs h e he
  have e0 : bump L i = (L.take i).map (fun e => (e.1, e.2 + 1)) ++ (L[i].1, L[i].2) :: L.drop (i + 1) := by unfold bump; rw [List.drop_eq_getElem_cons h]
  have e1 : bump L (i + 1) = (L.take i).map (fun e => (e.1, e.2 + 1)) ++ (L[i].1, L[i].2 + 1) :: L.drop (i + 1) := by
    unfold bump
    rw [List.take_succ_eq_append_getElem h, List.map_append]
    simp
  have hg : getL (bump L i) L[i].1 = L[i].2 := by rw [e0]; exact get_mid _ _ _ _ hbl
  refine ⟨?_, by rw [e1]; exact get_mid _ _ _ _ hbl⟩
  unfold addL
  rw [if_neg (by rintro (e | e); exact hne e; omega), hg, if_neg (by omega), if_pos hp, e0, put_mid _ _ _ _ _ hbl, e1]
end Go.Proofs.Ytjjkibjpbfkpcaa.K

namespace Go.Proofs.Ytjjkibjpbfkpcaa.K
open Go.RowKit Go.Proofs.YtjjkibjpbfkpcaaW.PrintWords Go.Proofs.YtjjkibjpbfkpcaaW.PrintLast Go.Proofs.YtjjkibjpbfkpcaaW.PrintMore Go.Proofs.Ytjjkibjpbfkpcaa
attribute [local go_sem] max2_int min2_int max_two min_two max_three min_three max_four min_four
set_option linter.unusedVariables false
set_option linter.unusedSimpArgs false
open Go.Proofs.Ytjjkibjpbfkpcaa.PTb Go.Proofs.Ytjjkibjpbfkpcaa.Tab
set_option maxHeartbeats 4000000 in
set_option maxRecDepth 100000 in
theorem TableAgain_walk (a0 : Option Addr) (cap0 : Nat) (l0 : List ByteArray) (w : World) (hC0 : Kd.C Kd.string w a0 l0.length l0) (hc0 : l0.length ≤ cap0) (hw0 : ∀ x ∈ l0, x.size ≤ 1048576) :
    Calls Try.prog 8 #[.slice a0 l0.length cap0] w fun e w' => e = .returned (.bool true) ∧ Below w.heap.size w w' := by
  have HC := Aside0.mk hC0; have HCAP := Aside0.mk hc0; have HW := Aside0.mk hw0
  have hll : (l0.length : Int) ≤ 9223372036854775807 := by have := hC0.2.1; omega
  have HSH := Aside0.mk (shown_k w)
  clear hC0 hc0 hw0
  go_enter Try.func8, Try.ntmps8
  go_upto_region 2 with (first | (go_at_call 9; (with_reducible refine (HSH.out).mono ?_); rintro e w1 ⟨rfl, hB⟩; have HB := Aside0.mk hB; clear hB))
  go_upto_region 3 with fail
  rw [min_at]
  obtain ⟨n, hn⟩ : ∃ n, n = min l0.length 200 := ⟨_, rfl⟩
  rw [← hn]
  have HN : Aside0 (n ≤ l0.length ∧ n ≤ 200) := ⟨by omega⟩
  clear hn
  obtain ⟨ws, hws⟩ : ∃ ws, ws = (l0.take n).map Utf.nats := ⟨_, rfl⟩
  have HWS := Aside0.mk hws
  have hwl : ws.length = n := by rw [hws, List.length_map, List.length_take]; have := HN.out; omega
  have HWL := Aside0.mk hwl
  clear hws hwl
  have HNEW := Aside0.mk (show Calls Try.prog 10 #[.int .i64 200] w1 (fun e w' => ∃ g, e = .returned (.tuple #[.pointer (some ⟨g, 0, none⟩), .int .i64 0]) ∧ TabW w1.heap.size g 200 [] w' ∧ Below w1.heap.size w1 w') from new_k 200 (by decide) (by decide) w1)
  go_upto_region 4 with (first | (go_at_call 10; (with_reducible refine (HNEW.out).mono ?_); rintro e w2 ⟨g, rfl, hT, hB⟩; have HT := Aside0.mk hT; have HB2 := Aside0.mk (HB.out.trans (hB.mono HB.out.size)); have HSZ := Aside0.mk HB.out.size; clear hT hB HB))
  go_upto_block 0 with fail
  go_wp2
  go_loopg [7] n (fun gg v7 wr => ∃ (i : Nat) (L : List En), v7 = .int .i64 (i : Int) ∧ Aside0 (i ≤ n ∧ n ≤ gg + i) ∧ Aside0 (CI (ws.take i) 3 L) ∧ Aside0 (TabW w1.heap.size g 200 L wr) ∧ Aside0 (Below w.heap.size w wr))
  case atStart => exact ⟨0, [], rfl, ⟨by omega⟩, ⟨CI.nil 3⟩, HT, HB2⟩
  case round =>
    obtain ⟨i, L, rfl, hi, hci, hT, hB⟩ := hrel
    by_cases hlt : i < n
    · have hcb : decide ((i : Int) < (n : Int)) = true := decide_eq_true (by omega)
      have hcbN : decide (i < n) = true := decide_eq_true hlt
      have hil : i < l0.length := by have := HN.out; omega
      obtain ⟨ad, ead, hcell⟩ := Kd.at_string (Kd.C_below HC.out hB.out) (i : Int) (by omega) (by omega)
      cases ead
      rw [rd_at l0 i hil, Int.toNat_natCast] at hcell
      obtain ⟨x, hx⟩ : ∃ x, l0[i] = x := ⟨_, rfl⟩
      have hxs : x.size ≤ 1048576 := by rw [← hx]; exact HW.out _ (List.getElem_mem hil)
      rw [hx] at hcell
      have htk : ws.take (i + 1) = ws.take i ++ [Utf.nats x] := by rw [HWS.out, take_at l0 n i hlt HN.out.1, hx]
      have htl : (ws.take i).length = i := by rw [List.length_take]; have := HWL.out; omega
      obtain ⟨L', r, eadd, hci', hr⟩ := hci.out.step (room := 200) (by decide) (by rw [htl]; have := HN.out; omega) (by rw [htl]; have := HN.out; omega) (Utf.nats x)
      have HA := Aside0.mk (addT _ g 200 _ _ _ x 3 3 wr rfl hT.out hxs eadd)
      have HTK := Aside0.mk htk; have HCI := Aside0.mk hci'; have HLT := Aside0.mk hlt; have HR := Aside0.mk hr
      have hnl : nes (ws.take i) ≤ 200 := by have := nes_le (ws.take i); have := HN.out; omega
      have HNL := Aside0.mk hnl
      have q0 : (0 : Int) ≤ (i : Int) := by omega
      have q1 : (i : Int) < (l0.length : Int) := by omega
      have hiw : wrap64 ((i : Int) + 1) = ((i + 1 : Nat) : Int) := by have := HN.out; unfold wrap64; omega
      have HIW := Aside0.mk hiw
      have HX := Aside0.mk hx
      clear hx htk htl eadd hci' hr hlt hxs hnl hiw
      go_upto_region 8 with (first | (go_at_call 11; (with_reducible refine (HA.out).mono ?_); rintro e w3 ⟨rfl, hT3, hB3⟩; have HT3 := Aside0.mk hT3; have HB3 := Aside0.mk (hB.out.trans (hB3.mono HSZ.out)); clear hT3 hB3))
      clear hcell
      have hiw := HIW.out
      go_wp2
      go_roundg (n - (i + 1))
      case measure => have := hi.out; have := HLT.out; omega
      case rel => exact ⟨i + 1, L', rfl, ⟨by have := HLT.out; omega⟩, ⟨by rw [HTK.out]; exact HCI.out⟩, HT3, HB3⟩
    · have hcb : decide ((i : Int) < (n : Int)) = false := decide_eq_false (by omega)
      have hcbN : decide (i < n) = false := decide_eq_false hlt
      have hin : i = n := by have := hi.out; omega
      subst hin
      have htw : ws.take i = ws := List.take_of_length_le (by rw [HWL.out]; exact Nat.le_refl _)
      rw [htw] at hci
      clear htw
      go_upto_region 10 with fail
      clear hcb hcbN hlt
      have HDR := Aside0.mk (drainF _ g 200 _ _ wr hT.out.here)
      go_upto_region 11 with (first | (go_at_call 13; (with_reducible refine (HDR.out).mono ?_); rintro e w5 ⟨v, es, rfl, hes, hpos, hR, hT5, hB5, _⟩; have HT5 := Aside0.mk hT5; have HB5 := Aside0.mk (hB.out.trans (hB5.mono HSZ.out)); have HR5 := Aside0.mk hR; have HES := Aside0.mk hes; have HPOS := Aside0.mk hpos; have HSZ5 := Aside0.mk hB5.size; clear hT5 hB5 hR hes hpos hT))
      obtain ⟨A, c, hv⟩ := Kd.R_slice HR5.out
      subst hv
      have hel : es.length ≤ 200 := by have := hci.out.len; rw [← HES.out, List.length_map, HWL.out] at this; have := HN.out; omega
      have hei : (es.length : Int) ≤ 9223372036854775807 := by omega
      have HEL := Aside0.mk hel
      clear hel
      have hlL : L.length = es.length := by rw [← HES.out, List.length_map]
      have HLL := Aside0.mk hlL
      have hR5 : Aside0 (Kd.R k35 35 w5 wr.heap.size (fun j => ¬ (True ∧ j < wr.heap.size)) (.slice A es.length c) es) := ⟨Kd.R_mono (Kd.R_bound HR5.out) (fun j hj => fun h => by have := hj.2.1; omega)⟩
      have hdr0 : L.drop (es.length - 0) = [] := List.drop_eq_nil_of_le (by omega)
      obtain ⟨W5, hW5⟩ : ∃ W5, W5 = w5 := ⟨_, rfl⟩
      rw [← hW5] at HT5 HB5 hR5 ⊢
      clear hW5 HR5 hlL
      obtain ⟨N5, hN5⟩ : ∃ N5, N5 = wr.heap.size := ⟨_, rfl⟩
      rw [← hN5] at hR5 HT5
      clear hN5
      go_upto_block 2 with fail
      go_wp2
      go_loopg [9] es.length (fun gg v9 wx => ∃ (k : Nat) (F : Nat → Prop), v9 = .int .i64 (k : Int) ∧ Aside0 (k ≤ es.length ∧ es.length ≤ gg + k) ∧ Aside0 (TabF w1.heap.size g 200 F (L.drop (es.length - k)) wx) ∧ Aside0 (Kd.R k35 35 wx N5 (fun j => ¬ F j) (.slice A es.length c) es) ∧ Aside0 (Below w.heap.size w wx))
      case atStart => exact ⟨0, _, rfl, ⟨by omega⟩, ⟨by rw [hdr0]; exact HT5.out⟩, hR5, HB5⟩
      case round =>
        obtain ⟨k, F, rfl, hk, hTk, hRk, hBk⟩ := hrel
        by_cases hke : k < es.length
        · have hcb : decide ((k : Int) < (es.length : Int)) = true := decide_eq_true (by omega)
          have hcbN : decide (k < es.length) = true := decide_eq_true hke
          obtain ⟨j, hj⟩ : ∃ j, j = es.length - 1 - k := ⟨_, rfl⟩
          have hjl : j < es.length := by omega
          have hjL : j < L.length := by have := HLL.out; omega
          have z0 : (0 : Int) ≤ (j : Int) := by omega
          have z1 : (j : Int) < (es.length : Int) := by omega
          obtain ⟨ae, eae, y0, y1⟩ := at_T35 (Kd.R_reads' hRk.out).2.2 (j : Int) z0 z1
          cases eae
          rw [rdE_at es j hjl, Int.toNat_natCast] at y0 y1
          obtain ⟨y, hy⟩ : ∃ y, es[j] = y := ⟨_, rfl⟩
          rw [hy] at y0 y1
          have hLj : L[j] = toEn y := by rw [es_at HES.out hjl hjL, hy]
          have hmem : toEn y ∈ L := by rw [← hLj]; exact List.getElem_mem hjL
          have hsm := word_small (B := 1048576) (by have h := hci.out; rw [HWS.out] at h; exact h) HW.out hmem
          have hyp := HPOS.out y (by rw [← hy]; exact List.getElem_mem hjl)
          have hcn := (hci.out.mem _).1 hmem
          have hadd := again_back hci.out.sorted hjL (by rw [hLj]; exact hsm.2) (by rw [hLj, hcn.2.2]; have := hcn.2.1; omega) (by rw [hLj]; show y.f1.toNat ≤ _; omega) (room := 200) (by have := HLL.out; have := HEL.out; omega)
          rw [hLj, show j + 1 = es.length - k by omega] at hadd
          have hjd : j = es.length - (k + 1) := by omega
          have HJD := Aside0.mk hjd
          have HKE := Aside0.mk hke
          have HCALL := fun W (hT : TabF w1.heap.size g 200 F (L.drop (es.length - k)) W) => addTF _ g 200 F _ _ _ y.f0 y.f1 y.f1.toNat W (by omega) hT hsm.1 hadd
          have HCALL := Aside0.mk HCALL
          have hen : 0 < es.length := by omega
          have hem : es.length ≤ 1000000 := by have := HEL.out; omega
          have hs1 := w64_1 hen hem; have hs2 := wi_1 hen hem
          have hs3 := w64_2 hj hke hem; have hs4 := wi_2 hj hke hem
          have HKW := Aside0.mk (w64_3 (k := k) (Nat.le_trans (Nat.le_of_lt hke) hem))
          clear hj hjl hjL hy hLj hmem hsm hyp hcn hadd hjd hke hen hem
          go_upto_region 14 with fail
          clear hcb hcbN
          refine start_ (n := 21) (S := fun w' => w'.cell? (ae.add (j * 2)) = some (.string y.f0) ∧ w'.cell? ⟨(ae.add (j * 2)).block, (ae.add (j * 2)).off + 1, none⟩ = some (.int .u64 y.f1)) (ds := [19, 20]) #[false, false, false, false, false, false, false, false, false, false, false, false, false, false, false, false, false, false, false, false, false] (by kernel_rfl) rfl rfl (by exact ⟨y0, y1⟩) (fun hHeld => ?_)
          have HT2 : Aside0 (TabF w1.heap.size g 200 F (L.drop (es.length - k)) wr.drew) := ⟨hTk.out.step (below_drew (Below.refl _ _))⟩
          have HR2 : Aside0 (Kd.R k35 35 wr.drew N5 (fun j => ¬ F j) (.slice (some ae) es.length c) es) := ⟨Kd.R_drew hRk.out⟩
          have HB2' := Aside0.mk (below_drew hBk.out)
          clear y0 y1 hTk hRk hBk
          generalize wr.drew = w2 at HT2 HR2 HB2' hHeld ⊢
          (refine pure_ (i := 0) (N := some 46) (v := ?_) (a' := ?_) #[true, false, false, false, false, false, false, false, false, false, false, false, false, false, false, false, false, false, false, false, false] rfl rfl (by kernel_rfl) (fun _ _ _ h => h) (Or.inl ⟨by rfl, ?_⟩) ?_ ?_; rotate_left; (intro w'; go_simp; with_reducible rfl); rotate_left; (simp only [Act.put, List.setIfInBounds_toArray, List.set_cons_zero, List.set_cons_succ, i64_w, i32_w]; rfl)); (refine pure_ (i := 1) (N := some 47) (v := ?_) (a' := ?_) #[true, true, false, false, false, false, false, false, false, false, false, false, false, false, false, false, false, false, false, false, false] rfl rfl (by kernel_rfl) (fun _ _ _ h => h) (Or.inl ⟨by rfl, ?_⟩) ?_ ?_; rotate_left; (intro w'; go_simp; with_reducible rfl); rotate_left; (simp only [Act.put, List.setIfInBounds_toArray, List.set_cons_zero, List.set_cons_succ, i64_w, i32_w]; rfl)); (refine pure_ (i := 2) (N := some 48) (v := ?_) (a' := ?_) #[true, true, true, false, false, false, false, false, false, false, false, false, false, false, false, false, false, false, false, false, false] rfl rfl (by kernel_rfl) (fun _ _ _ h => h) (Or.inl ⟨by rfl, ?_⟩) ?_ ?_; rotate_left; (intro w'; go_simp; with_reducible rfl); rotate_left; (simp only [Act.put, List.setIfInBounds_toArray, List.set_cons_zero, List.set_cons_succ, i64_w, i32_w]; rfl)); (refine pure_ (i := 5) (N := some 51) (v := ?_) (a' := ?_) #[true, true, true, false, false, true, false, false, false, false, false, false, false, false, false, false, false, false, false, false, false] rfl rfl (by kernel_rfl) (fun _ _ _ h => h) (Or.inl ⟨by rfl, ?_⟩) ?_ ?_; rotate_left; (intro w'; go_simp; with_reducible rfl); rotate_left; (simp only [Act.put, List.setIfInBounds_toArray, List.set_cons_zero, List.set_cons_succ, i64_w, i32_w]; rfl)); (refine pure_ (i := 10) (N := some 56) (v := ?_) (a' := ?_) #[true, true, true, false, false, true, false, false, false, false, true, false, false, false, false, false, false, false, false, false, false] rfl rfl (by kernel_rfl) (fun _ _ _ h => h) (Or.inl ⟨by rfl, ?_⟩) ?_ ?_; rotate_left; (intro w'; go_simp; with_reducible rfl); rotate_left; (simp only [Act.put, List.setIfInBounds_toArray, List.set_cons_zero, List.set_cons_succ, i64_w, i32_w]; rfl)); (refine pure_ (i := 11) (N := some 57) (v := ?_) (a' := ?_) #[true, true, true, false, false, true, false, false, false, false, true, true, false, false, false, false, false, false, false, false, false] rfl rfl (by kernel_rfl) (fun _ _ _ h => h) (Or.inl ⟨by rfl, ?_⟩) ?_ ?_; rotate_left; (intro w'; go_simp; with_reducible rfl); rotate_left; (simp only [Act.put, List.setIfInBounds_toArray, List.set_cons_zero, List.set_cons_succ, i64_w, i32_w]; rfl)); (refine pure_ (i := 14) (N := some 60) (v := ?_) (a' := ?_) #[true, true, true, false, false, true, false, false, false, false, true, true, false, false, true, false, false, false, false, false, false] rfl rfl (by kernel_rfl) (fun _ _ _ h => h) (Or.inl ⟨by rfl, ?_⟩) ?_ ?_; rotate_left; (intro w'; go_simp; with_reducible rfl); rotate_left; (simp only [Act.put, List.setIfInBounds_toArray, List.set_cons_zero, List.set_cons_succ, i64_w, i32_w]; rfl)); (refine pure_ (i := 3) (N := some 49) (v := ?_) (a' := ?_) #[true, true, true, true, false, true, false, false, false, false, true, true, false, false, true, false, false, false, false, false, false] rfl rfl (by kernel_rfl) (fun _ _ _ h => h) (Or.inl ⟨by rfl, ?_⟩) ?_ ?_; rotate_left; (intro w'; go_simp; with_reducible rfl); rotate_left; (simp only [Act.put, List.setIfInBounds_toArray, List.set_cons_zero, List.set_cons_succ, i64_w, i32_w]; rfl)); (refine pure_ (i := 12) (N := some 58) (v := ?_) (a' := ?_) #[true, true, true, true, false, true, false, false, false, false, true, true, true, false, true, false, false, false, false, false, false] rfl rfl (by kernel_rfl) (fun _ _ _ h => h) (Or.inl ⟨by rfl, ?_⟩) ?_ ?_; rotate_left; (intro w'; go_simp; with_reducible rfl); rotate_left; (simp only [Act.put, List.setIfInBounds_toArray, List.set_cons_zero, List.set_cons_succ, i64_w, i32_w]; rfl)); (refine pure_ (i := 4) (N := some 50) (v := ?_) (a' := ?_) #[true, true, true, true, true, true, false, false, false, false, true, true, true, false, true, false, false, false, false, false, false] rfl rfl (by kernel_rfl) (fun _ _ _ h => h) (Or.inl ⟨by rfl, ?_⟩) ?_ ?_; rotate_left; (intro w'; go_simp; with_reducible rfl); rotate_left; (simp only [Act.put, List.setIfInBounds_toArray, List.set_cons_zero, List.set_cons_succ, i64_w, i32_w]; rfl)); (refine pure_ (i := 13) (N := some 59) (v := ?_) (a' := ?_) #[true, true, true, true, true, true, false, false, false, false, true, true, true, true, true, false, false, false, false, false, false] rfl rfl (by kernel_rfl) (fun _ _ _ h => h) (Or.inl ⟨by rfl, ?_⟩) ?_ ?_; rotate_left; (intro w'; go_simp; with_reducible rfl); rotate_left; (simp only [Act.put, List.setIfInBounds_toArray, List.set_cons_zero, List.set_cons_succ, i64_w, i32_w]; rfl)); (refine pure_ (i := 6) (N := some 52) (v := ?_) (a' := ?_) #[true, true, true, true, true, true, true, false, false, false, true, true, true, true, true, false, false, false, false, false, false] rfl rfl (by kernel_rfl) (fun _ _ _ h => h) (Or.inl ⟨by rfl, ?_⟩) ?_ ?_; rotate_left; (intro w'; go_simp; with_reducible rfl); rotate_left; (simp only [Act.put, List.setIfInBounds_toArray, List.set_cons_zero, List.set_cons_succ, i64_w, i32_w]; rfl)); (refine pure_ (i := 15) (N := some 61) (v := ?_) (a' := ?_) #[true, true, true, true, true, true, true, false, false, false, true, true, true, true, true, true, false, false, false, false, false] rfl rfl (by kernel_rfl) (fun _ _ _ h => h) (Or.inl ⟨by rfl, ?_⟩) ?_ ?_; rotate_left; (intro w'; go_simp; with_reducible rfl); rotate_left; (simp only [Act.put, List.setIfInBounds_toArray, List.set_cons_zero, List.set_cons_succ, i64_w, i32_w]; rfl)); (refine pure_ (i := 7) (N := some 53) (v := ?_) (a' := ?_) #[true, true, true, true, true, true, true, true, false, false, true, true, true, true, true, true, false, false, false, false, false] rfl rfl (by kernel_rfl) (fun _ _ _ h => h) (Or.inl ⟨by rfl, ?_⟩) ?_ ?_; rotate_left; (intro w'; go_simp; with_reducible rfl); rotate_left; (simp only [Act.put, List.setIfInBounds_toArray, List.set_cons_zero, List.set_cons_succ, i64_w, i32_w]; rfl)); (refine pure_ (i := 16) (N := some 62) (v := ?_) (a' := ?_) #[true, true, true, true, true, true, true, true, false, false, true, true, true, true, true, true, true, false, false, false, false] rfl rfl (by kernel_rfl) (fun _ _ _ h => h) (Or.inl ⟨by rfl, ?_⟩) ?_ ?_; rotate_left; (intro w'; go_simp; with_reducible rfl); rotate_left; (simp only [Act.put, List.setIfInBounds_toArray, List.set_cons_zero, List.set_cons_succ, i64_w, i32_w]; rfl)); (refine pure_ (i := 8) (N := some 54) (v := ?_) (a' := ?_) #[true, true, true, true, true, true, true, true, true, false, true, true, true, true, true, true, true, false, false, false, false] rfl rfl (by kernel_rfl) (fun _ _ _ h => h) (Or.inl ⟨by rfl, ?_⟩) ?_ ?_; rotate_left; (intro w'; go_simp; with_reducible rfl); rotate_left; (simp only [Act.put, List.setIfInBounds_toArray, List.set_cons_zero, List.set_cons_succ, i64_w, i32_w]; rfl)); (refine pure_ (i := 17) (N := some 63) (v := ?_) (a' := ?_) #[true, true, true, true, true, true, true, true, true, false, true, true, true, true, true, true, true, true, false, false, false] rfl rfl (by kernel_rfl) (fun _ _ _ h => h) (Or.inl ⟨by rfl, ?_⟩) ?_ ?_; rotate_left; (intro w'; go_simp; with_reducible rfl); rotate_left; (simp only [Act.put, List.setIfInBounds_toArray, List.set_cons_zero, List.set_cons_succ, i64_w, i32_w]; rfl))
          (refine take_ (i := 9) (N := some 55) (v := ?_) (a' := ?_) #[true, true, true, true, true, true, true, true, true, true, true, true, true, true, true, true, true, true, false, false, false] rfl rfl (by kernel_rfl) (fun _ _ _ h => h) (Or.inl ⟨by rfl, ?_⟩) hHeld ?_ ?_; rotate_left; (rintro w' ⟨s0, s1⟩; go_simp; with_reducible rfl); rotate_left; (simp only [Act.put, List.setIfInBounds_toArray, List.set_cons_zero, List.set_cons_succ, i64_w, i32_w]; rfl)); (refine take_ (i := 18) (N := some 64) (v := ?_) (a' := ?_) #[true, true, true, true, true, true, true, true, true, true, true, true, true, true, true, true, true, true, true, false, false] rfl rfl (by kernel_rfl) (fun _ _ _ h => h) (Or.inl ⟨by rfl, ?_⟩) hHeld ?_ ?_; rotate_left; (rintro w' ⟨s0, s1⟩; go_simp; with_reducible rfl); rotate_left; (simp only [Act.put, List.setIfInBounds_toArray, List.set_cons_zero, List.set_cons_succ, i64_w, i32_w]; rfl))
          refine last_ (i := 19) (N := some 65) #[true, true, true, true, true, true, true, true, true, true, true, true, true, true, true, true, true, true, true, true, false] rfl rfl (by kernel_rfl) (by decide) (fun K hK => ?_)
          refine goes_ Try.func11 (by kernel_rfl) rfl #[.pointer (some ⟨g, 0, none⟩), .string y.f0, .int .u64 y.f1] (by rfl) rfl rfl (by simp only [List.map_toArray, List.map_cons, List.map_nil]; rfl) ?_
          refine (HCALL.out w2 HT2.out).mono fun e w3 hh => ?_
          obtain ⟨rfl, hT3, hB3, hK3⟩ := hh
          have HT3 := Aside0.mk hT3
          have HB3 := Aside0.mk (HB2'.out.trans (hB3.mono HSZ.out))
          have HR3 := Aside0.mk (R_apart HR2.out hK3)
          clear hT3 hB3 hK3 HT2 HR2 HB2' hHeld
          refine ⟨_, rfl, hK.out _ _ ?_⟩
          (clear hK K; refine norm_ (a' := ?_) ?_ ?_; rotate_left; (show Act.put _ (some 65) _ = _; simp only [Act.put, List.setIfInBounds_toArray, List.set_cons_zero, List.set_cons_succ, i64_w, i32_w]; rfl))
          (refine pure_ (i := 20) (N := some 66) (v := ?_) (a' := ?_) #[true, true, true, true, true, true, true, true, true, true, true, true, true, true, true, true, true, true, true, true, true] rfl rfl (by kernel_rfl) (fun _ _ _ h => h) (Or.inl ⟨by rfl, ?_⟩) ?_ ?_; rotate_left; (intro w'; go_simp; with_reducible rfl); rotate_left; (simp only [Act.put, List.setIfInBounds_toArray, List.set_cons_zero, List.set_cons_succ, i64_w, i32_w]; rfl))
          refine done_ (by kernel_rfl) ?_
          have hkw := HKW.out
          try go_wp2
          go_roundg (es.length - (k + 1))
          case measure => have := hk.out; have := HKE.out; omega
          case rel =>
            refine ⟨k + 1, _, congrArg (Value.int .i64) HKW.out, ⟨by have := HKE.out; omega⟩, ⟨?_⟩, HR3, HB3⟩
            rw [← HJD.out]
            exact HT3.out
        · have hcb : decide ((k : Int) < (es.length : Int)) = false := decide_eq_false (by omega)
          have hcbN : decide (k < es.length) = false := decide_eq_false hke
          have hk0 : L.drop (es.length - k) = L := by rw [show es.length - k = 0 by omega]; rfl
          rw [hk0] at hTk
          clear hk0
          have hke2 : ¬ (k : Int) < (es.length : Int) := by omega
          go_upto_region 16 with fail
          clear hcb hcbN hke2
          have HLEN := Aside0.mk (lenF _ g 200 F L wr hTk.out)
          go_upto_region 17 with (first | (go_at_call 17; (with_reducible refine (HLEN.out).mono ?_); rintro e w6 ⟨rfl, rfl⟩))
          obtain ⟨W6, hW6⟩ : ∃ W6, W6 = w6 := ⟨_, rfl⟩
          rw [← hW6] at hTk hRk hBk ⊢
          clear hW6
          go_upto_block 4 with fail
          go_wp2
          go_loopg [11] es.length (fun gg v11 wx => ∃ (k : Nat) (F : Nat → Prop), v11 = .int .i64 (k : Int) ∧ Aside0 (k ≤ es.length ∧ es.length ≤ gg + k) ∧ Aside0 (TabF w1.heap.size g 200 F (bump L k) wx) ∧ Aside0 (Kd.R k35 35 wx N5 (fun j => ¬ F j) (.slice A es.length c) es) ∧ Aside0 (Below w.heap.size w wx))
          case atStart => exact ⟨0, F, rfl, ⟨by omega⟩, ⟨by rw [bump_0]; exact hTk.out⟩, hRk, hBk⟩
          case round =>
            clear hTk hRk hBk hk hke HLEN
            obtain ⟨m, F2, rfl, hm, hTm, hRm, hBm⟩ := hrel
            by_cases hme : m < es.length
            · have hcb : decide ((m : Int) < (es.length : Int)) = true := decide_eq_true (by omega)
              have hcbN : decide (m < es.length) = true := decide_eq_true hme
              have hmL : m < L.length := by have := HLL.out; omega
              have z0 : (0 : Int) ≤ (m : Int) := by omega
              have z1 : (m : Int) < (es.length : Int) := by omega
              obtain ⟨ae, eae, y0, y1⟩ := at_T35 (Kd.R_reads' hRm.out).2.2 (m : Int) z0 z1
              cases eae
              rw [rdE_at es m hme, Int.toNat_natCast] at y0 y1
              obtain ⟨y, hy⟩ : ∃ y, es[m] = y := ⟨_, rfl⟩
              rw [hy] at y0 y1
              have hLj : L[m] = toEn y := by rw [es_at HES.out hme hmL, hy]
              have hmem : toEn y ∈ L := by rw [← hLj]; exact List.getElem_mem hmL
              have hsm := word_small (B := 1048576) (by have h := hci.out; rw [HWS.out] at h; exact h) HW.out hmem
              have hyp := HPOS.out y (by rw [← hy]; exact List.getElem_mem hme)
              have hcn := (hci.out.mem _).1 hmem
              have hcl : ws.count (Utf.nats y.f0) ≤ 200 := Nat.le_trans List.count_le_length (by rw [HWL.out]; exact HN.out.2)
              have hc3 : y.f1.toNat = 3 * ws.count (Utf.nats y.f0) := hcn.2.2
              have hstep := bump_step hci.out.sorted hmL (by rw [hLj]; exact hsm.2) (by rw [hLj]; show y.f1.toNat < _; omega) (by rw [hLj, hcn.2.2]; have := hcn.2.1; omega) 200
              rw [hLj] at hstep
              have hu1 : IntKind.u64.wrap (y.f1 + 1) = y.f1 + 1 := wrap_u (by omega) (by omega)
              have hu2 : (y.f1 + 1) % 18446744073709551616 = y.f1 + 1 := by omega
              have ht1 : y.f1 % 3 = 0 := by omega
              have ht2 : y.f1.tmod 3 = 0 := by rw [Int.tmod_eq_emod_of_nonneg (by omega)]; exact ht1
              have hgetv : ((getL (bump L (m + 1)) (Utf.nats y.f0) : Nat) : Int) = y.f1 + 1 := by rw [show Utf.nats y.f0 = (toEn y).1 from rfl, hstep.2]; show ((y.f1.toNat + 1 : Nat) : Int) = _; omega
              have HU := Aside0.mk (And.intro hu1 (And.intro hu2 (And.intro ht1 ht2)))
              have HYY := Aside0.mk hy; have HSM := Aside0.mk hsm; have HGV := Aside0.mk hgetv; have HME := Aside0.mk hme
              have HMW := Aside0.mk (w64_3 (k := m) (by have := HEL.out; omega))
              have HA := Aside0.mk (addTF _ g 200 F2 _ _ _ y.f0 1 1 wr rfl hTm.out hsm.1 hstep.1)
              clear hy hLj hmem hsm hyp hcn hcl hc3 hstep hu1 hu2 ht1 ht2 hgetv hmL
              go_upto_region 20 with fail
              clear hcb hcbN
              go_upto_region 21 with (first | (go_at_call 11; (with_reducible refine (HA.out).mono ?_); rintro e w7 ⟨rfl, hT7, hB7, hK7⟩; have HT7 := Aside0.mk hT7; have HB7 := Aside0.mk (hBm.out.trans (hB7.mono HSZ.out)); have HR7 := Aside0.mk (R_apart hRm.out hK7); clear hT7 hB7 hK7))
              clear y0 y1
              obtain ⟨ae2, eae, y0, y1⟩ := at_T35 (Kd.R_reads' HR7.out).2.2 (m : Int) z0 z1
              cases eae
              rw [rdE_at es m HME.out, Int.toNat_natCast] at y0 y1
              obtain ⟨y', hy'⟩ : ∃ y', es[m]'(HME.out) = y' := ⟨_, rfl⟩
              rw [hy'] at y0 y1
              obtain rfl : y' = y := by rw [← hy']; exact HYY.out
              have HGET := Aside0.mk (fun W (hT : TabF w1.heap.size g 200 (fun k => F2 k ∨ wr.heap.size ≤ k) (bump L (m + 1)) W) => getTF _ g 200 _ _ (y'.f1 + 1) y'.f0 W hT (Nat.le_trans HSM.out.1 (by decide)) HSM.out.2 HGV.out)
              clear hy'
              refine start_ (n := 23) (S := fun w' => w'.cell? (ae.add (m * 2)) = some (.string y'.f0) ∧ w'.cell? ⟨(ae.add (m * 2)).block, (ae.add (m * 2)).off + 1, none⟩ = some (.int .u64 y'.f1)) (ds := []) #[false, false, false, false, false, false, false, false, false, false, false, false, false, false, false, false, false, false, false, false, false, false, false] (by kernel_rfl) rfl rfl (by exact ⟨y0, y1⟩) (fun hHeld => ?_)
              have HT8 : Aside0 (TabF w1.heap.size g 200 (fun k => F2 k ∨ wr.heap.size ≤ k) (bump L (m + 1)) w7.drew) := ⟨HT7.out.step (below_drew (Below.refl _ _))⟩
              have HR8 : Aside0 (Kd.R k35 35 w7.drew N5 (fun j => ¬ (F2 j ∨ wr.heap.size ≤ j)) (.slice (some ae) es.length c) es) := ⟨Kd.R_drew HR7.out⟩
              have HB8 := Aside0.mk (below_drew HB7.out)
              clear y0 y1 HT7 HR7 HB7
              generalize w7.drew = w8 at HT8 HR8 HB8 hHeld ⊢
              (refine pure_ (i := 0) (N := some 82) (v := ?_) (a' := ?_) #[true, false, false, false, false, false, false, false, false, false, false, false, false, false, false, false, false, false, false, false, false, false, false] rfl rfl (by kernel_rfl) (fun _ _ _ h => h) (Or.inl ⟨by rfl, ?_⟩) ?_ ?_; rotate_left; (intro w'; go_simp; with_reducible rfl); rotate_left; (simp only [Act.put, List.setIfInBounds_toArray, List.set_cons_zero, List.set_cons_succ, i64_w, i32_w]; rfl)); (refine pure_ (i := 1) (N := some 83) (v := ?_) (a' := ?_) #[true, true, false, false, false, false, false, false, false, false, false, false, false, false, false, false, false, false, false, false, false, false, false] rfl rfl (by kernel_rfl) (fun _ _ _ h => h) (Or.inl ⟨by rfl, ?_⟩) ?_ ?_; rotate_left; (intro w'; go_simp; with_reducible rfl); rotate_left; (simp only [Act.put, List.setIfInBounds_toArray, List.set_cons_zero, List.set_cons_succ, i64_w, i32_w]; rfl)); (refine pure_ (i := 2) (N := some 84) (v := ?_) (a' := ?_) #[true, true, true, false, false, false, false, false, false, false, false, false, false, false, false, false, false, false, false, false, false, false, false] rfl rfl (by kernel_rfl) (fun _ _ _ h => h) (Or.inl ⟨by rfl, ?_⟩) ?_ ?_; rotate_left; (intro w'; go_simp; with_reducible rfl); rotate_left; (simp only [Act.put, List.setIfInBounds_toArray, List.set_cons_zero, List.set_cons_succ, i64_w, i32_w]; rfl)); (refine pure_ (i := 7) (N := some 89) (v := ?_) (a' := ?_) #[true, true, true, false, false, false, false, true, false, false, false, false, false, false, false, false, false, false, false, false, false, false, false] rfl rfl (by kernel_rfl) (fun _ _ _ h => h) (Or.inl ⟨by rfl, ?_⟩) ?_ ?_; rotate_left; (intro w'; go_simp; with_reducible rfl); rotate_left; (simp only [Act.put, List.setIfInBounds_toArray, List.set_cons_zero, List.set_cons_succ, i64_w, i32_w]; rfl)); (refine pure_ (i := 8) (N := some 90) (v := ?_) (a' := ?_) #[true, true, true, false, false, false, false, true, true, false, false, false, false, false, false, false, false, false, false, false, false, false, false] rfl rfl (by kernel_rfl) (fun _ _ _ h => h) (Or.inl ⟨by rfl, ?_⟩) ?_ ?_; rotate_left; (intro w'; go_simp; with_reducible rfl); rotate_left; (simp only [Act.put, List.setIfInBounds_toArray, List.set_cons_zero, List.set_cons_succ, i64_w, i32_w]; rfl)); (refine pure_ (i := 3) (N := some 85) (v := ?_) (a' := ?_) #[true, true, true, true, false, false, false, true, true, false, false, false, false, false, false, false, false, false, false, false, false, false, false] rfl rfl (by kernel_rfl) (fun _ _ _ h => h) (Or.inl ⟨by rfl, ?_⟩) ?_ ?_; rotate_left; (intro w'; go_simp; with_reducible rfl); rotate_left; (simp only [Act.put, List.setIfInBounds_toArray, List.set_cons_zero, List.set_cons_succ, i64_w, i32_w]; rfl)); (refine pure_ (i := 9) (N := some 91) (v := ?_) (a' := ?_) #[true, true, true, true, false, false, false, true, true, true, false, false, false, false, false, false, false, false, false, false, false, false, false] rfl rfl (by kernel_rfl) (fun _ _ _ h => h) (Or.inl ⟨by rfl, ?_⟩) ?_ ?_; rotate_left; (intro w'; go_simp; with_reducible rfl); rotate_left; (simp only [Act.put, List.setIfInBounds_toArray, List.set_cons_zero, List.set_cons_succ, i64_w, i32_w]; rfl)); (refine pure_ (i := 4) (N := some 86) (v := ?_) (a' := ?_) #[true, true, true, true, true, false, false, true, true, true, false, false, false, false, false, false, false, false, false, false, false, false, false] rfl rfl (by kernel_rfl) (fun _ _ _ h => h) (Or.inl ⟨by rfl, ?_⟩) ?_ ?_; rotate_left; (intro w'; go_simp; with_reducible rfl); rotate_left; (simp only [Act.put, List.setIfInBounds_toArray, List.set_cons_zero, List.set_cons_succ, i64_w, i32_w]; rfl)); (refine pure_ (i := 10) (N := some 92) (v := ?_) (a' := ?_) #[true, true, true, true, true, false, false, true, true, true, true, false, false, false, false, false, false, false, false, false, false, false, false] rfl rfl (by kernel_rfl) (fun _ _ _ h => h) (Or.inl ⟨by rfl, ?_⟩) ?_ ?_; rotate_left; (intro w'; go_simp; with_reducible rfl); rotate_left; (simp only [Act.put, List.setIfInBounds_toArray, List.set_cons_zero, List.set_cons_succ, i64_w, i32_w]; rfl))
              (refine take_ (i := 5) (N := some 87) (v := ?_) (a' := ?_) #[true, true, true, true, true, true, false, true, true, true, true, false, false, false, false, false, false, false, false, false, false, false, false] rfl rfl (by kernel_rfl) (fun _ _ _ h => h) (Or.inl ⟨by rfl, ?_⟩) hHeld ?_ ?_; rotate_left; (rintro w' ⟨s0, s1⟩; go_simp; with_reducible rfl); rotate_left; (simp only [Act.put, List.setIfInBounds_toArray, List.set_cons_zero, List.set_cons_succ, i64_w, i32_w]; rfl)); (refine take_ (i := 11) (N := some 93) (v := ?_) (a' := ?_) #[true, true, true, true, true, true, false, true, true, true, true, true, false, false, false, false, false, false, false, false, false, false, false] rfl rfl (by kernel_rfl) (fun _ _ _ h => h) (Or.inl ⟨by rfl, ?_⟩) hHeld ?_ ?_; rotate_left; (rintro w' ⟨s0, s1⟩; go_simp; with_reducible rfl); rotate_left; (simp only [Act.put, List.setIfInBounds_toArray, List.set_cons_zero, List.set_cons_succ, i64_w, i32_w]; rfl))
              have hu1 := HU.out.1
              have hu2 := HU.out.2.1
              (refine pure_ (i := 12) (N := some 94) (v := ?_) (a' := ?_) #[true, true, true, true, true, true, false, true, true, true, true, true, true, false, false, false, false, false, false, false, false, false, false] rfl rfl (by kernel_rfl) (fun _ _ _ h => h) (Or.inl ⟨by rfl, ?_⟩) ?_ ?_; rotate_left; (intro w'; go_simp; with_reducible rfl); rotate_left; (simp only [Act.put, List.setIfInBounds_toArray, List.set_cons_zero, List.set_cons_succ, i64_w, i32_w]; rfl))
              clear hu1 hu2
              refine one_ (i := 6) (N := some 88) #[true, true, true, true, true, true, true, true, true, true, true, true, true, false, false, false, false, false, false, false, false, false, false] rfl rfl (by kernel_rfl) (by decide) (fun K hK => ?_)
              refine goes_ Try.func15 (by kernel_rfl) rfl #[.pointer (some ⟨g, 0, none⟩), .string y'.f0] (by rfl) rfl rfl (by simp only [List.map_toArray, List.map_cons, List.map_nil]; rfl) ?_
              refine (HGET.out w8 HT8.out).mono fun e w9 hh => ?_
              obtain ⟨rfl, hB9⟩ := hh
              have HT9 := Aside0.mk (HT8.out.step hB9)
              have HB9 := Aside0.mk (HB8.out.trans (hB9.mono HB8.out.size))
              have HR9 := Aside0.mk (Kd.R_below HR8.out hB9)
              refine ⟨_, rfl, hK.out _ _ ⟨pw_cell_below hB9 hHeld.1, pw_cell_below hB9 hHeld.2⟩ (fun hHeld => ?_)⟩
              clear HT8 HR8 HB8 hB9
              (clear hK K; refine norm_ (a' := ?_) ?_ ?_; rotate_left; (show Act.put _ (some 88) _ = _; simp only [Act.put, List.setIfInBounds_toArray, List.set_cons_zero, List.set_cons_succ, i64_w, i32_w]; rfl))
              (refine pure_ (i := 13) (N := some 95) (v := ?_) (a' := ?_) #[true, true, true, true, true, true, true, true, true, true, true, true, true, true, false, false, false, false, false, false, false, false, false] rfl rfl (by kernel_rfl) (fun _ _ _ h => h) (Or.inl ⟨by rfl, ?_⟩) ?_ ?_; rotate_left; (intro w'; go_simp; with_reducible rfl); rotate_left; (simp only [Act.put, List.setIfInBounds_toArray, List.set_cons_zero, List.set_cons_succ, i64_w, i32_w]; rfl)); (refine pure_ (i := 14) (N := some 96) (v := ?_) (a' := ?_) #[true, true, true, true, true, true, true, true, true, true, true, true, true, true, true, false, false, false, false, false, false, false, false] rfl rfl (by kernel_rfl) (fun _ _ _ h => h) (Or.inl ⟨by rfl, ?_⟩) ?_ ?_; rotate_left; (intro w'; go_simp; with_reducible rfl); rotate_left; (simp only [Act.put, List.setIfInBounds_toArray, List.set_cons_zero, List.set_cons_succ, i64_w, i32_w]; rfl)); (refine pure_ (i := 15) (N := some 97) (v := ?_) (a' := ?_) #[true, true, true, true, true, true, true, true, true, true, true, true, true, true, true, true, false, false, false, false, false, false, false] rfl rfl (by kernel_rfl) (fun _ _ _ h => h) (Or.inl ⟨by rfl, ?_⟩) ?_ ?_; rotate_left; (intro w'; go_simp; with_reducible rfl); rotate_left; (simp only [Act.put, List.setIfInBounds_toArray, List.set_cons_zero, List.set_cons_succ, i64_w, i32_w]; rfl)); (refine pure_ (i := 16) (N := some 98) (v := ?_) (a' := ?_) #[true, true, true, true, true, true, true, true, true, true, true, true, true, true, true, true, true, false, false, false, false, false, false] rfl rfl (by kernel_rfl) (fun _ _ _ h => h) (Or.inl ⟨by rfl, ?_⟩) ?_ ?_; rotate_left; (intro w'; go_simp; with_reducible rfl); rotate_left; (simp only [Act.put, List.setIfInBounds_toArray, List.set_cons_zero, List.set_cons_succ, i64_w, i32_w]; rfl)); (refine pure_ (i := 17) (N := some 99) (v := ?_) (a' := ?_) #[true, true, true, true, true, true, true, true, true, true, true, true, true, true, true, true, true, true, false, false, false, false, false] rfl rfl (by kernel_rfl) (fun _ _ _ h => h) (Or.inl ⟨by rfl, ?_⟩) ?_ ?_; rotate_left; (intro w'; go_simp; with_reducible rfl); rotate_left; (simp only [Act.put, List.setIfInBounds_toArray, List.set_cons_zero, List.set_cons_succ, i64_w, i32_w]; rfl)); (refine pure_ (i := 18) (N := some 100) (v := ?_) (a' := ?_) #[true, true, true, true, true, true, true, true, true, true, true, true, true, true, true, true, true, true, true, false, false, false, false] rfl rfl (by kernel_rfl) (fun _ _ _ h => h) (Or.inl ⟨by rfl, ?_⟩) ?_ ?_; rotate_left; (intro w'; go_simp; with_reducible rfl); rotate_left; (simp only [Act.put, List.setIfInBounds_toArray, List.set_cons_zero, List.set_cons_succ, i64_w, i32_w]; rfl))
              (refine take_ (i := 19) (N := some 101) (v := ?_) (a' := ?_) #[true, true, true, true, true, true, true, true, true, true, true, true, true, true, true, true, true, true, true, true, false, false, false] rfl rfl (by kernel_rfl) (fun _ _ _ h => h) (Or.inl ⟨by rfl, ?_⟩) hHeld ?_ ?_; rotate_left; (rintro w' ⟨s0, s1⟩; go_simp; with_reducible rfl); rotate_left; (simp only [Act.put, List.setIfInBounds_toArray, List.set_cons_zero, List.set_cons_succ, i64_w, i32_w]; rfl))
              have ht1 := HU.out.2.2.1
              have ht2 := HU.out.2.2.2
              (refine pure_ (i := 20) (N := some 102) (v := ?_) (a' := ?_) #[true, true, true, true, true, true, true, true, true, true, true, true, true, true, true, true, true, true, true, true, true, false, false] rfl rfl (by kernel_rfl) (fun _ _ _ h => h) (Or.inl ⟨by rfl, ?_⟩) ?_ ?_; rotate_left; (intro w'; go_simp; with_reducible rfl); rotate_left; (simp only [Act.put, List.setIfInBounds_toArray, List.set_cons_zero, List.set_cons_succ, i64_w, i32_w]; rfl))
              clear ht1 ht2
              (refine pure_ (i := 21) (N := some 103) (v := ?_) (a' := ?_) #[true, true, true, true, true, true, true, true, true, true, true, true, true, true, true, true, true, true, true, true, true, true, false] rfl rfl (by kernel_rfl) (fun _ _ _ h => h) (Or.inl ⟨by rfl, ?_⟩) ?_ ?_; rotate_left; (intro w'; go_simp; with_reducible rfl); rotate_left; (simp only [Act.put, List.setIfInBounds_toArray, List.set_cons_zero, List.set_cons_succ, i64_w, i32_w]; rfl)); (refine pure_ (i := 22) (N := some 104) (v := ?_) (a' := ?_) #[true, true, true, true, true, true, true, true, true, true, true, true, true, true, true, true, true, true, true, true, true, true, true] rfl rfl (by kernel_rfl) (fun _ _ _ h => h) (Or.inl ⟨by rfl, ?_⟩) ?_ ?_; rotate_left; (intro w'; go_simp; with_reducible rfl); rotate_left; (simp only [Act.put, List.setIfInBounds_toArray, List.set_cons_zero, List.set_cons_succ, i64_w, i32_w]; rfl))
              refine done_ (by kernel_rfl) ?_
              try go_wp2
              go_roundg (es.length - (m + 1))
              case measure => have := hm.out; have := HME.out; omega
              case rel => exact ⟨m + 1, _, rfl, ⟨by have := HME.out; omega⟩, HT9, HR9, HB9⟩
            · have hcb : decide ((m : Int) < (es.length : Int)) = false := decide_eq_false (by omega)
              have hcbN : decide (m < es.length) = false := decide_eq_false hme
              have hme2 : ¬ (m : Int) < (es.length : Int) := by omega
              go_upto_region 23 with fail
              clear hcb hcbN hme2
              have HDR2 := Aside0.mk (drainF _ g 200 _ _ wr hTm.out)
              go_upto_region 24 with (first | (go_at_call 13; (with_reducible refine (HDR2.out).mono ?_); rintro e w7 ⟨v2, es2, rfl, hes2, _, hR2, _, hB2, _⟩; have HB7 := Aside0.mk (hBm.out.trans (hB2.mono HSZ.out)); have HR2 := Aside0.mk hR2; have HES2 := Aside0.mk hes2; clear hB2 hR2 hes2))
              obtain ⟨A2, c2, hv2⟩ := Kd.R_slice HR2.out
              subst hv2
              have hl2 : es2.length = L.length := by rw [← List.length_map (f := toEn), HES2.out, bump_len]
              have hl1 : (L.length : Int) = (es.length : Int) := by have := HLL.out; omega
              have hl3 : (es2.length : Int) = (es.length : Int) := by have := HLL.out; omega
              rw [hl1]
              rw [hl2, HLL.out]
              clear hl1 hl2 hl3
              go_wp2
              go_ret
              exact ⟨rfl, HB7.out⟩
end Go.Proofs.Ytjjkibjpbfkpcaa.K

namespace Go.Proofs.Ytjjkibjpbfkpcaa.K
open Go.RowKit Go.Proofs.YtjjkibjpbfkpcaaW.PrintWords Go.Proofs.YtjjkibjpbfkpcaaW.PrintLast Go.Proofs.YtjjkibjpbfkpcaaW.PrintMore Go.Proofs.Ytjjkibjpbfkpcaa
attribute [local go_sem] max2_int min2_int max_two min_two max_three min_three max_four min_four
set_option linter.unusedVariables false
set_option linter.unusedSimpArgs false
end Go.Proofs.Ytjjkibjpbfkpcaa.K

namespace Go.Proofs.Ytjjkibjpbfkpcaa.K
open Go.RowKit Go.Proofs.YtjjkibjpbfkpcaaW.PrintWords Go.Proofs.YtjjkibjpbfkpcaaW.PrintLast Go.Proofs.YtjjkibjpbfkpcaaW.PrintMore Go.Proofs.Ytjjkibjpbfkpcaa
attribute [local go_sem] max2_int min2_int max_two min_two max_three min_three max_four min_four
set_option linter.unusedVariables false
set_option linter.unusedSimpArgs false
open Go.Proofs.Ytjjkibjpbfkpcaa
theorem bulk_str {H : Type} : ∀ (ss : List ByteArray) (x : ByteArray), x ∈ ss → x.size + 1 ≤ Rows.uptoBulkAll (H := H) (Go.ChangeShapes.strs ss)
  | [], _, h => by cases h
  | s :: ss, x, h => by
    have e : Rows.uptoBulkAll (H := H) (Go.ChangeShapes.strs (s :: ss)) = (s.size + 1) + Rows.uptoBulkAll (H := H) (Go.ChangeShapes.strs ss) := by
      show Rows.uptoBulk (DataW.lit (H := H) (.string s.data.toList)) + Rows.uptoBulkAll (H := H) (Go.ChangeShapes.strs ss) = _
      have e2 : s.data.toList.length = s.size := by rw [Array.length_toList]; rfl
      simp only [Rows.uptoBulk, e2]
    rw [e]
    rcases List.mem_cons.1 h with rfl | h
    · omega
    · have := bulk_str (H := H) ss x h
      omega
theorem open_strsU {H : Type} {enc : TypeId × Value → H} {P : Program} {w : World} {base : Nat} {held : Bool} {t e : TypeId} {a : Option Addr} {len cap : Nat} {d : DataW H} {ps : List MemPlace}
    (ht : P.underlying t = some (.slice e)) (he : P.underlying e = some .string) (ce : P.cellsOf e = 1)
    (h : DataW.Trod enc P w base (fun _ => true) held t (.slice a len cap) d ps) :
    ∃ l : List ByteArray, len = l.length ∧ l.length ≤ cap ∧ l.length ≤ maxLen ∧ Kd.C Kd.string w a l.length l ∧ ∀ x ∈ l, x.size + 1 ≤ Rows.uptoBulk d := by
  obtain ⟨fuel, hf⟩ := h
  rcases Go.ChangeShapes.open_strings ht he ce hf with ⟨hcs, _⟩ | ⟨a', len', cap', ss, hcs, hb, hl, hm, hsl, hd, hx, hs⟩
  · simp [Value.cells] at hcs
    obtain ⟨rfl, rfl, rfl⟩ := hcs
    exact ⟨[], rfl, Nat.le_refl _, Nat.zero_le _, ⟨rfl, Nat.zero_le _, fun h => absurd h (by simp)⟩, by simp⟩
  · simp [Value.cells] at hcs
    obtain ⟨rfl, rfl, rfl⟩ := hcs
    simp only [if_true] at hsl
    injection hd with hd _
    subst hd
    have hlen : (ss.take len).length = len := by rw [List.length_take]; omega
    refine ⟨ss.take len, hlen.symm, by omega, by omega, ?_, fun x hx => ?_⟩
    · refine Kd.C_of_reads (d := ByteArray.empty) (h1 := fun _ => rfl) ⟨rfl, by rw [hlen]; unfold maxLen at hm; omega, fun _ => ⟨a', rfl, fun j hj => ?_⟩⟩
      rw [hlen] at hj
      rw [hx j (by omega)]
      congr 2
      rw [List.getD_eq_getElem?_getD, List.getD_eq_getElem?_getD, List.getElem?_take, if_pos hj]
    · have := bulk_str (H := H) _ x hx
      simp only [Rows.uptoBulk]
      omega
/-- A part's bulk under the bound. -/
theorem bulk_part {H : Type} {d : DataW H} {l : List (DataW H)} (hk : Rows.uptoSmall H l = true) (h : d ∈ l) : Rows.uptoBulk d ≤ 1048576 := by
  have hb : Rows.uptoBulkAll l ≤ 1048576 := of_decide_eq_true hk
  have : ∀ l : List (DataW H), d ∈ l → Rows.uptoBulk d ≤ Rows.uptoBulkAll l := by
    intro l
    induction l with
    | nil => exact fun h => by cases h
    | cons x r ih =>
      intro h
      simp only [Rows.uptoBulkAll]
      rcases List.mem_cons.1 h with rfl | h
      · omega
      · have := ih h
        omega
  exact Nat.le_trans (this l h) hb
end Go.Proofs.Ytjjkibjpbfkpcaa.K

namespace Go.Proofs.Ytjjkibjpbfkpcaa.tableAgainUpto
open Go.ChangeShapes Go.WideShapes Go.ChangeAt Go.RowKit
open Go.ChangeMaps (open_string shut_string)
set_option linter.unusedVariables false
theorem own : ownKnob Try.prog.godebug = none := by kernel_rfl
theorem laidOut : laidOutB Try.prog = true := by kernel_rfl
def IsRow (k : IntKind) (w : World) (a : Option Addr) (len cap : Nat) (zs : List Int) : Prop :=
  (a = none ∧ len = 0 ∧ cap = 0 ∧ zs = []) ∨
  ∃ x, a = some x ∧ len ≤ cap ∧ cap ≤ maxLen ∧ zs.length = cap ∧ (∀ i, i < zs.length → w.cell? (x.add i) = some (.int k (zs.getD i 0))) ∧ ∀ n ∈ zs, (Lit.int k n).wf = true
set_option maxRecDepth 100000 in
theorem lifted (os : Os) (started : os.Started) (H : Type) (enc : TypeId × Value → H) (F : Stop.Interp) :
    ReturnsInHanded {} Try.checked os 8 .any ((Rows.OpenSpec.upto Rows.tableAgainSpec).pre6 enc Try.prog Try.f8 Rows.tableAgainUptoRow.domain false) (((Rows.OpenSpec.upto Rows.tableAgainSpec).at F).post enc Try.prog Try.f8 false true false false) := by
  refine returnsInHanded_of_cond_sized (C := Try.checked) (s := Rows.OpenSpec.upto Rows.tableAgainSpec) (k := Rows.uptoSmall) rfl own started (by kernel_rfl) Try.func8
    (OpenSpec.witness (enc := enc) (C := Try.checked) (s := Rows.OpenSpec.upto Rows.tableAgainSpec) (k := Rows.uptoSmall) rfl false ⟨#[], #[.slice none 0 0], []⟩ 8 (by kernel_rfl) (by kernel_rfl) (by kernel_rfl)
      (x := ([.nil], [], [])) (by kernel_rfl) rfl (by kernel_rfl)) ?_
  intro W base args ds gs before hval0 hW hcnd hk hsz0 _
  have hsz : (DataW.weightsEach Try.prog (Try.f8.params.toList ++ Rows.tableAgainSpec.plain.varTypes Try.prog) (ds ++ gs)).all (· ≤ reachBytes) = true := hsz0
  have hval : ∀ (j : Nat) t v, Try.f8.params[j]? = some t → args[j]? = some v → Value.okWide Try.prog W .any base t v := hval0
  have hW' := hW
  obtain ⟨p, q, hA0, hV, rfl, hfz, hnd⟩ := hW
  have hA : DataW.TrodAll enc Try.prog W 0 (fun _ => true) true Try.f8.params.toList args.toList ds p := hA0
  rw [Try.params8] at hA hval hsz
  obtain ⟨v0, vs0, d0, ds0, p0, q0, hargs, rfl, rfl, h0, r0⟩ := trodAll_cons hA
  obtain ⟨rfl, rfl, rfl⟩ := trodAll_nil r0
  obtain rfl : args = #[v0] := by cases args; simp_all
  obtain ⟨rfl, rfl⟩ := trodVars_none hV
  obtain ⟨a0, len0, cap0, rfl⟩ := okWide_slice Try.underlying22 (hval 0 22 v0 rfl rfl)
  have k0 := h0
  have lt0 : ∀ x ∈ p0, x.block < W.heap.size := by obtain ⟨m, hm⟩ := k0; exact DataW.trod_lt m _ _ _ hm
  obtain ⟨l0, rfl, hc0, hm0, hC0, hw0⟩ := K.open_strsU Try.underlying22 Try.underlying9 (by kernel_rfl) h0
  have hw0 := fun x hx => Nat.le_trans (Nat.le_of_succ_le (hw0 x hx)) (K.bulk_part hk (d := d0) (by simp))
  clear hA0 hval0 hsz0 hsz
  refine (K.TableAgain_walk a0 cap0 l0 W hC0 hc0 hw0).mono fun e W' ⟨he, bel⟩ => ?_
  subst he
  exact ⟨_, rfl, _, _, _, [], _, [], hW', trodAll_mk1 (shut_bool Try.underlying4 _), (trodAll_cons_mk (Below.trod laidOut (by kernel_rfl) (of_decide_eq_true (by kernel_rfl)) k0 bel lt0) trodAll_mk0), rfl, bel.frame _, fun h => by cases h⟩
theorem over : Rows.tableAgainUptoRow.holds Try.pinned (Rows.OpenSpec.upto Rows.tableAgainSpec) :=
  OpenClaim.holds_of_cond 8 Try.f8 rfl rfl rfl rfl rfl rfl rfl ⟨rfl, rfl, rfl, rfl, rfl⟩ rfl rfl rfl rfl rfl (by kernel_rfl) Try.func8 (by kernel_rfl)
    (of_decide_eq_true (by kernel_rfl)) (by unfold Func.isWrapper; first | (rw [if_pos (by decide +kernel)]; kernel_rfl) | (rw [if_neg (by decide +kernel)]; exact ⟨rfl, rfl⟩))
    (fun os started H enc _ F => lifted os started H enc F)
theorem proved : Rows.TableAgainUptoSaid := over
#print axioms proved
end Go.Proofs.Ytjjkibjpbfkpcaa.tableAgainUpto
namespace Go.Proofs.Ytjjkibjpbfkpcaa
/-- The row, under a short name, for the claim. -/
theorem tableAgainUpto_holds : Rows.TableAgainUptoSaid := tableAgainUpto.proved
end Go.Proofs.Ytjjkibjpbfkpcaa

