/- TablePlaysUpto. (The texts that the proof is made of, one behind the other: part 5 of 7.) -/
import Derived.KernelRfl
import Derived.Test.YtjjkibjpbfkpcaaProg
import Derived.Below
import Derived.Deep.Draws
import Derived.Deep.AppendLies
import Derived.Maps.AppendAt
import Derived.OwnWalk
import Derived.Laws.BytesArg
import Derived.Laws.MakeOwn
import Derived.Laws.OwnMore
import Derived.Deep.OwnRows
import Derived.Tactics
import Derived.Lib.ConvBytes
import Derived.Laws.Slices
import Derived.WalkKit
import Derived.RowKit3
import Derived.Deep.LoopGhost
import Derived.Deep.QuietTactic
import Derived.BigQuiet
import Derived.WideLaws
import Derived.Deep.DeepCutAuto
import Derived.Deep.CutBlock
import Derived.Deep.RegionHeld3
import Derived.Laws.Rows
import Derived.Lib.AppendStr
import Derived.ArgAppend
import Derived.Laws.IdiomCopy
import Derived.OrdersHeld
import Derived.Laws.BitsLemmas
import Derived.RowKit
import Derived.Lib.OthersKept
import Derived.WalkSmall
import Derived.Deep.RegionLaw
import Derived.BigRegion
import Derived.Test.YtjjkibjpbfkpcaaZTablePlaysUptoa
import Derived.Test.YtjjkibjpbfkpcaaZTablePlaysUptob
import Derived.Test.YtjjkibjpbfkpcaaZTablePlaysUptoc
import Derived.Test.YtjjkibjpbfkpcaaZTablePlaysUptod
namespace Go.Proofs.Ytjjkibjpbfkpcaa.Tab
set_option linter.unusedVariables false
set_option linter.unusedSimpArgs false
abbrev Wd := List Nat
abbrev En := Wd × Nat
/-- The slots' contents (p < N) are the list's entries, each once, each found from where its word's number says, past slots that are taken. -/
structure TI (N : Nat) (h : Wd → Nat) (ct : Nat → Option En) (L : List En) : Prop where
  sorted : L.Pairwise (fun a b => a.1 < b.1)
  mem : ∀ e, e ∈ L ↔ ∃ p, p < N ∧ ct p = some e
  uniq : ∀ p q e f, p < N → q < N → ct p = some e → ct q = some f → e.1 = f.1 → p = q
  probe : ∀ p e, p < N → ct p = some e → ∃ d, d < N ∧ (h e.1 + d) % N = p ∧ ∀ d', d' < d → ∃ f, ct ((h e.1 + d') % N) = some f
  few : L.length < N
/-- A word's count. -/
def getL (L : List En) (w : Wd) : Nat := match L.find? (fun e => e.1 == w) with | some e => e.2 | none => 0
/-- A word's count set. -/
def putL : List En → Wd → Nat → List En
  | [], w, c => [(w, c)]
  | e :: r, w, c => if w < e.1 then (w, c) :: e :: r else if e.1 = w then (w, c) :: r else e :: putL r w c
theorem lt_tri (a b : Wd) : a < b ∨ a = b ∨ b < a := by
  rcases Classical.em (a < b) with h | h
  · exact Or.inl h
  · rcases Classical.em (a = b) with h2 | h2
    · exact Or.inr (Or.inl h2)
    · right; right
      rcases List.le_iff_lt_or_eq.1 (List.not_lt.1 h) with h3 | h3
      · exact h3
      · exact absurd h3.symm h2
theorem lt_no {a b : Wd} (h : a < b) : ¬ b < a := fun k => List.lt_irrefl a (List.lt_trans h k)
theorem mem_put : ∀ (L : List En) (w : Wd) (c : Nat), L.Pairwise (fun a b => a.1 < b.1) → ∀ e, e ∈ putL L w c ↔ e = (w, c) ∨ (e ∈ L ∧ e.1 ≠ w)
  | [], w, c, _, e => by simp [putL]
  | x :: r, w, c, hs, e => by
    rw [List.pairwise_cons] at hs
    unfold putL
    by_cases h1 : w < x.1
    · rw [if_pos h1]
      have hne : ∀ y ∈ x :: r, y.1 ≠ w := fun y hy he => by
        rcases List.mem_cons.1 hy with rfl | hy
        · rw [he] at h1; exact List.lt_irrefl w h1
        · have := hs.1 y hy
          rw [he] at this
          exact lt_no h1 this
      constructor
      · intro h
        rcases List.mem_cons.1 h with rfl | h
        · exact Or.inl rfl
        · exact Or.inr ⟨h, hne e h⟩
      · rintro (rfl | ⟨h, _⟩)
        · simp
        · exact List.mem_cons_of_mem _ h
    · rw [if_neg h1]
      by_cases h2 : x.1 = w
      · rw [if_pos h2]
        have hne : ∀ y ∈ r, y.1 ≠ w := fun y hy he => by
          have := hs.1 y hy
          rw [he, h2] at this
          exact List.lt_irrefl w this
        constructor
        · intro h
          rcases List.mem_cons.1 h with rfl | h
          · exact Or.inl rfl
          · exact Or.inr ⟨List.mem_cons_of_mem _ h, hne e h⟩
        · rintro (rfl | ⟨h, h3⟩)
          · simp
          · rcases List.mem_cons.1 h with rfl | h
            · exact absurd h2 h3
            · exact List.mem_cons_of_mem _ h
      · rw [if_neg h2]
        have ih := mem_put r w c hs.2 e
        constructor
        · intro h
          rcases List.mem_cons.1 h with rfl | h
          · exact Or.inr ⟨by simp, h2⟩
          · rcases ih.1 h with h | ⟨h, h3⟩
            · exact Or.inl h
            · exact Or.inr ⟨List.mem_cons_of_mem _ h, h3⟩
        · rintro (h | ⟨h, h3⟩)
          · exact List.mem_cons_of_mem _ (ih.2 (Or.inl h))
          · rcases List.mem_cons.1 h with rfl | h
            · simp
            · exact List.mem_cons_of_mem _ (ih.2 (Or.inr ⟨h, h3⟩))
theorem sorted_put : ∀ (L : List En) (w : Wd) (c : Nat), L.Pairwise (fun a b => a.1 < b.1) → (putL L w c).Pairwise (fun a b => a.1 < b.1)
  | [], w, c, _ => by simp [putL]
  | x :: r, w, c, hs => by
    have hs0 := hs
    rw [List.pairwise_cons] at hs
    unfold putL
    by_cases h1 : w < x.1
    · rw [if_pos h1, List.pairwise_cons]
      refine ⟨fun y hy => ?_, hs0⟩
      rcases List.mem_cons.1 hy with rfl | hy
      · exact h1
      · exact List.lt_trans h1 (hs.1 y hy)
    · rw [if_neg h1]
      by_cases h2 : x.1 = w
      · rw [if_pos h2, List.pairwise_cons]
        exact ⟨fun y hy => by have := hs.1 y hy; rwa [h2] at this, hs.2⟩
      · rw [if_neg h2, List.pairwise_cons]
        refine ⟨fun y hy => ?_, sorted_put r w c hs.2⟩
        rcases (mem_put r w c hs.2 y).1 hy with rfl | ⟨hy, _⟩
        · rcases lt_tri x.1 w with h | h | h
          · exact h
          · exact absurd h h2
          · exact absurd h h1
        · exact hs.1 y hy
theorem len_put : ∀ (L : List En) (w : Wd) (c : Nat), L.Pairwise (fun a b => a.1 < b.1) → (putL L w c).length = if ∃ e ∈ L, e.1 = w then L.length else L.length + 1
  | [], w, c, _ => by simp [putL]
  | x :: r, w, c, hs => by
    rw [List.pairwise_cons] at hs
    have ih := len_put r w c hs.2
    unfold putL
    by_cases h1 : w < x.1
    · rw [if_pos h1, if_neg]
      · rfl
      · rintro ⟨e, he, rfl⟩
        rcases List.mem_cons.1 he with rfl | he
        · exact List.lt_irrefl _ h1
        · exact lt_no h1 (hs.1 e he)
    · rw [if_neg h1]
      by_cases h2 : x.1 = w
      · rw [if_pos h2, if_pos ⟨x, by simp, h2⟩]; rfl
      · rw [if_neg h2, List.length_cons, ih]
        by_cases h3 : ∃ e ∈ r, e.1 = w
        · obtain ⟨e, he, h4⟩ := h3
          rw [if_pos ⟨e, he, h4⟩, if_pos ⟨e, List.mem_cons_of_mem _ he, h4⟩]; rfl
        · rw [if_neg h3, if_neg]
          · rfl
          · rintro ⟨e, he, h4⟩
            rcases List.mem_cons.1 he with rfl | he
            · exact h2 h4
            · exact h3 ⟨e, he, h4⟩
theorem get_mem {L : List En} (hs : L.Pairwise (fun a b => a.1 < b.1)) {e : En} (h : e ∈ L) : getL L e.1 = e.2 := by
  unfold getL
  cases hf : L.find? (fun x => x.1 == e.1) with
  | none => exact absurd (List.find?_eq_none.1 hf e h) (by simp)
  | some y =>
    have h1 := List.mem_of_find?_eq_some hf
    have h2 := List.find?_some hf
    simp only [beq_iff_eq] at h2
    obtain ⟨i, hi, ei⟩ := List.getElem_of_mem h
    obtain ⟨j, hj, ej⟩ := List.getElem_of_mem h1
    have hp := List.pairwise_iff_getElem.1 hs
    have hij : i = j := by
      rcases Nat.lt_trichotomy i j with h3 | h3 | h3
      · have := hp i j hi hj h3
        rw [ei, ej, h2] at this
        exact absurd this (List.lt_irrefl _)
      · exact h3
      · have := hp j i hj hi h3
        rw [ei, ej, h2] at this
        exact absurd this (List.lt_irrefl _)
    subst hij
    rw [← ej, ei]
theorem get_none {L : List En} {w : Wd} (h : ∀ e ∈ L, e.1 ≠ w) : getL L w = 0 := by
  unfold getL
  rw [List.find?_eq_none.2 (fun e he => by simpa using h e he)]
namespace TI
variable {N : Nat} {h : Wd → Nat} {ct : Nat → Option En} {L : List En}
/-- Distinct slots hold distinct words: no more slots are taken than there are words. -/
theorem count (t : TI N h ct L) : ∀ (n : Nat), n ≤ N → (∀ p, p < n → ∃ e, ct p = some e) → n ≤ L.length := by
  intro n hn hall
  have key : ∀ n, n ≤ N → (∀ p, p < n → ∃ e, ct p = some e) → ∃ M : List En, M.length = n ∧ (∀ e ∈ M, ∃ p, p < n ∧ ct p = some e) ∧ M.Pairwise (fun a b => a.1 ≠ b.1) := by
    intro n
    induction n with
    | zero => exact fun _ _ => ⟨[], rfl, by simp, List.Pairwise.nil⟩
    | succ n ih =>
      intro hn hall
      obtain ⟨M, h1, h2, h3⟩ := ih (by omega) (fun p hp => hall p (by omega))
      obtain ⟨e, he⟩ := hall n (by omega)
      refine ⟨e :: M, by simp [h1], fun f hf => ?_, List.pairwise_cons.2 ⟨fun f hf heq => ?_, h3⟩⟩
      · rcases List.mem_cons.1 hf with rfl | hf
        · exact ⟨n, by omega, he⟩
        · obtain ⟨p, hp, e2⟩ := h2 f hf
          exact ⟨p, by omega, e2⟩
      · obtain ⟨p, hp, e2⟩ := h2 f hf
        have := t.uniq n p e f (by omega) (by omega) he e2 heq
        omega
  obtain ⟨M, h1, h2, h3⟩ := key n hn hall
  have hsub : ∀ (M K : List En), M.Pairwise (fun a b => a.1 ≠ b.1) → (∀ e ∈ M, e ∈ K) → M.length ≤ K.length := by
    intro M
    induction M with
    | nil => exact fun _ _ _ => Nat.zero_le _
    | cons a M ih =>
      intro K hp hk
      rw [List.pairwise_cons] at hp
      have ha := hk a (by simp)
      have := ih (K.erase a) hp.2 (fun e he => (List.mem_erase_of_ne (fun h => hp.1 e he (by rw [h]))).2 (hk e (by simp [he])))
      rw [List.length_erase_of_mem ha] at this
      have := List.length_pos_of_mem ha
      simp only [List.length_cons]; omega
  have := hsub M L h3 (fun e he => by
    obtain ⟨p, hp, e2⟩ := h2 e he
    exact (t.mem e).2 ⟨p, by omega, e2⟩)
  omega
/-- Somewhere a slot is free: a search ends before all have been seen. -/
theorem free (t : TI N h ct L) (a d : Nat) (hd : ∀ d', d' < d → ∃ f, ct ((a + d') % N) = some f) : d < N := by
  rcases Nat.lt_or_ge d N with h1 | h1
  · exact h1
  · exfalso
    have hN : 0 < N := by have := t.few; omega
    have := t.count N (Nat.le_refl _) (fun p hp => by
      -- p is met at (p - a) mod N
      obtain ⟨d', hd1, hd2⟩ : ∃ d', d' < N ∧ (a + d') % N = p := by
        refine ⟨(p + (N - a % N)) % N, Nat.mod_lt _ hN, ?_⟩
        rw [Nat.add_mod, Nat.mod_mod, ← Nat.add_mod]
        have h3 : a % N < N := Nat.mod_lt _ hN
        have h4 : a + (p + (N - a % N)) = p + N * (a / N + 1) := by
          have := Nat.div_add_mod a N
          rw [Nat.mul_add, Nat.mul_one]; omega
        rw [h4, Nat.add_mul_mod_self_left, Nat.mod_eq_of_lt hp]
      rw [← hd2]
      exact hd d' (by omega))
    have := t.few
    omega
/-- The search's end: the word's own slot, or a free one; then the word is nowhere. -/
theorem found (t : TI N h ct L) {p : Nat} (hp : p < N) {e : En} (he : ct p = some e) : e ∈ L := (t.mem e).2 ⟨p, hp, he⟩
theorem absent (t : TI N h ct L) (w : Wd) (d : Nat) (hd : ∀ d', d' < d → ∃ f, ct ((h w + d') % N) = some f ∧ f.1 ≠ w) (hn : ct ((h w + d) % N) = none) : ∀ e ∈ L, e.1 ≠ w := by
  intro e he hw
  obtain ⟨p, hp, hc⟩ := (t.mem e).1 he
  obtain ⟨d2, h1, h2, h3⟩ := t.probe p e hp hc
  rw [hw] at h2 h3
  rcases Nat.lt_trichotomy d2 d with h4 | h4 | h4
  · obtain ⟨f, hf, hne⟩ := hd d2 h4
    rw [h2, hc] at hf
    injection hf with hf
    exact hne (by rw [← hf, hw])
  · rw [← h4, h2, hc] at hn; cases hn
  · obtain ⟨f, hf⟩ := h3 d h4
    rw [hf] at hn; cases hn
def upd (ct : Nat → Option En) (p : Nat) (e : En) : Nat → Option En := fun q => if q = p then some e else ct q
/-- A count set, or a word put into a free slot where a search for it ends. -/
theorem put (t : TI N h ct L) {p : Nat} (hp : p < N) (w : Wd) (c : Nat) (d : Nat) (hd : ∀ d', d' < d → ∃ f, ct ((h w + d') % N) = some f ∧ f.1 ≠ w) (hpd : (h w + d) % N = p) (hc : (∃ f, ct p = some f ∧ f.1 = w) ∨ (ct p = none ∧ L.length + 1 < N)) :
    TI N h (upd ct p (w, c)) (putL L w c) := by
  have hother : ∀ q f, q < N → q ≠ p → ct q = some f → f.1 ≠ w := by
    intro q f hq hqp hf hw
    rcases hc with ⟨g, hg, hgw⟩ | ⟨hn, _⟩
    · exact hqp (t.uniq q p f g hq hp hf hg (by rw [hw, hgw]))
    · exact t.absent w d hd (by rw [hpd]; exact hn) f ((t.mem f).2 ⟨q, hq, hf⟩) hw
  refine ⟨sorted_put L w c t.sorted, fun e => ?_, fun q r e f hq hr he hf hw => ?_, fun q e hq he => ?_, ?_⟩
  · rw [mem_put L w c t.sorted e]
    constructor
    · rintro (rfl | ⟨h1, h2⟩)
      · exact ⟨p, hp, by simp [upd]⟩
      · obtain ⟨q, hq, hf⟩ := (t.mem e).1 h1
        refine ⟨q, hq, ?_⟩
        unfold upd
        rw [if_neg]
        · exact hf
        · rintro rfl
          rcases hc with ⟨g, hg, hgw⟩ | ⟨hn, _⟩
          · rw [hf] at hg; injection hg with hg; exact h2 (by rw [hg, hgw])
          · rw [hf] at hn; cases hn
    · rintro ⟨q, hq, hf⟩
      unfold upd at hf
      by_cases hqp : q = p
      · rw [if_pos hqp] at hf; injection hf with hf; exact Or.inl hf.symm
      · rw [if_neg hqp] at hf
        exact Or.inr ⟨(t.mem e).2 ⟨q, hq, hf⟩, hother q e hq hqp hf⟩
  · unfold upd at he hf
    by_cases hqp : q = p
    · by_cases hrp : r = p
      · rw [hqp, hrp]
      · rw [if_pos hqp] at he
        rw [if_neg hrp] at hf
        injection he with he
        exact absurd (by rw [← hw, ← he]) (hother r f hr hrp hf)
    · rw [if_neg hqp] at he
      by_cases hrp : r = p
      · rw [if_pos hrp] at hf
        injection hf with hf
        exact absurd (by rw [hw, ← hf]) (hother q e hq hqp he)
      · rw [if_neg hrp] at hf
        exact t.uniq q r e f hq hr he hf hw
  · have mono : ∀ a f, ct a = some f → ∃ g, upd ct p (w, c) a = some g := fun a f hf => by
      unfold upd
      split
      · exact ⟨_, rfl⟩
      · exact ⟨f, hf⟩
    by_cases hqp : q = p
    · unfold upd at he
      rw [if_pos hqp] at he
      injection he with he
      subst he
      refine ⟨d, t.free (h w) d (fun d' h1 => by obtain ⟨f, hf, _⟩ := hd d' h1; exact ⟨f, hf⟩), by rw [hqp]; exact hpd, fun d' h1 => ?_⟩
      obtain ⟨f, hf, _⟩ := hd d' h1
      exact mono _ f hf
    · have he2 : ct q = some e := by unfold upd at he; rwa [if_neg hqp] at he
      obtain ⟨d2, h1, h2, h3⟩ := t.probe q e hq he2
      exact ⟨d2, h1, h2, fun d' h4 => by obtain ⟨f, hf⟩ := h3 d' h4; exact mono _ f hf⟩
  · rw [len_put L w c t.sorted]
    rcases hc with ⟨g, hg, hgw⟩ | ⟨_, hl⟩
    · rw [if_pos ⟨g, (t.mem g).2 ⟨p, hp, hg⟩, hgw⟩]; exact t.few
    · have := t.few
      split <;> omega
theorem empty (h : Wd → Nat) {N : Nat} (hN : 0 < N) : TI N h (fun _ => none) [] :=
  ⟨List.Pairwise.nil, fun e => by simp, fun p q e f _ _ he => (by cases he), fun p e _ he => (by cases he), hN⟩
end TI
end Go.Proofs.Ytjjkibjpbfkpcaa.Tab

namespace Go.Proofs.Ytjjkibjpbfkpcaa.K
open Go.RowKit Go.Proofs.YtjjkibjpbfkpcaaW.PrintWords Go.Proofs.YtjjkibjpbfkpcaaW.PrintLast Go.Proofs.YtjjkibjpbfkpcaaW.PrintMore Go.Proofs.Ytjjkibjpbfkpcaa
attribute [local go_sem] max2_int min2_int max_two min_two max_three min_three max_four min_four
set_option linter.unusedVariables false
set_option linter.unusedSimpArgs false
open Go.Proofs.Ytjjkibjpbfkpcaa.PTb Go.Proofs.Ytjjkibjpbfkpcaa.Tab
/-- A slot: where a word stands in the arena, and its count. -/
structure Sl where
  f0 : Int
  f1 : Int
  f2 : Int
def zSl : Sl := ⟨0, 0, 0⟩
def kSl : Kd Sl := Kd.iso (Kd.pair (Kd.int .i64) (Kd.pair (Kd.int .i64) (Kd.int .u64))) (fun x : Sl => (x.f0, x.f1, x.f2))
theorem kSl_mkM (w : World) (base : Nat) (ok : Nat → Prop) (x : Sl) : kSl.M w base ok x [.int .i64 x.f0, .int .i64 x.f1, .int .u64 x.f2] := ⟨[.int .i64 x.f0], [.int .i64 x.f1, .int .u64 x.f2], rfl, rfl, ⟨[.int .i64 x.f1], [.int .u64 x.f2], rfl, rfl, rfl⟩⟩
theorem kSl_open {w : World} {x : Sl} {cs : List Value} (h : kSl.K w x cs) : cs = [.int .i64 x.f0, .int .i64 x.f1, .int .u64 x.f2] := by
  obtain ⟨_, _, rfl, rfl, ⟨_, _, rfl, rfl, rfl⟩⟩ := h
  rfl
/-- A cut of the arena. -/
def cutA (ar : List Int) (a b : Nat) : List Int := (ar.take b).drop a
set_option maxHeartbeats 4000000 in
set_option maxRecDepth 100000 in
theorem word_k (g : Nat) (c0 c1 c3 : Value) (Aa : Option Addr) (ca : Nat) (ar : List Int) (na nb : Nat) (n : Int) (w : World) (hg : w.heap[g]? = some (.cells #[c0, c1, .slice Aa ar.length ca, c3] 51 (0, 0))) (hC : Kd.C (Kd.int .u8) w Aa ar.length ar) (hca : ar.length ≤ ca) (h1 : na ≤ nb) (h2 : nb ≤ ar.length) :
    Calls Try.prog 20 #[.pointer (some ⟨g, 0, none⟩), .agg #[.int .i64 (na : Int), .int .i64 (nb : Int), .int .u64 n]] w fun e w' => e = .returned (.string (strOfNums (cutA ar na nb))) ∧ Below w.heap.size w w' := by
  have HG := Aside0.mk hg; have HC := Aside0.mk hC
  clear hg hC
  go_enter Try.func20, Try.ntmps20
  go_upto_region 1 with fail
  have n1 := heap_alloc_new w (.cells #[.int .i64 (na : Int), .int .i64 (nb : Int), .int .u64 n] 57)
  have b1 : Below w.heap.size w (w.alloc (.cells #[.int .i64 (na : Int), .int .i64 (nb : Int), .int .u64 n] 57)) := below_alloc (Below.refl _ _) _
  have HG1 := Aside0.mk (blk_below HG.out b1)
  have HC1 := Aside0.mk (Kd.C_below HC.out b1)
  have HB1 := Aside0.mk b1; have HN1 := Aside0.mk n1
  clear HG HC n1 b1
  generalize w.alloc (.cells #[.int .i64 (na : Int), .int .i64 (nb : Int), .int .u64 n] 57) = w1 at HG1 HC1 HB1 HN1 ⊢
  refine start_ (n := 11) (S := fun w' => w'.cell? ⟨g, 2, none⟩ = some (.slice Aa ar.length ca) ∧ w'.cell? ⟨w.heap.size, 0, none⟩ = some (.int .i64 (na : Int)) ∧ w'.cell? ⟨w.heap.size, 1, none⟩ = some (.int .i64 (nb : Int)) ∧ Kd.C (Kd.int .u8) w' Aa ar.length ar) (ds := []) #[false, false, false, false, false, false, false, false, false, false, false] (by kernel_rfl) rfl rfl (by exact ⟨(blk_cell (blk_drew HG1.out) 2).trans rfl, (blk_cell (blk_drew HN1.out) 0).trans rfl, (blk_cell (blk_drew HN1.out) 1).trans rfl, Kd.C_drew HC1.out⟩) (fun hHeld => ?_)
  have HB2 := Aside0.mk (below_drew HB1.out)
  clear HB1 HG1 HC1 HN1
  generalize w1.drew = w2 at HB2 hHeld ⊢
  (refine pure_ (i := 0) (N := some 5) (v := ?_) (a' := ?_) #[true, false, false, false, false, false, false, false, false, false, false] rfl rfl (by kernel_rfl) (fun _ _ _ h => h) (Or.inl ⟨by rfl, ?_⟩) ?_ ?_; rotate_left; (intro w'; go_simp; with_reducible rfl); rotate_left; (simp only [Act.put, List.setIfInBounds_toArray, List.set_cons_zero, List.set_cons_succ, i64_w, i32_w]; rfl)); (refine pure_ (i := 1) (N := some 6) (v := ?_) (a' := ?_) #[true, true, false, false, false, false, false, false, false, false, false] rfl rfl (by kernel_rfl) (fun _ _ _ h => h) (Or.inl ⟨by rfl, ?_⟩) ?_ ?_; rotate_left; (intro w'; go_simp; with_reducible rfl); rotate_left; (simp only [Act.put, List.setIfInBounds_toArray, List.set_cons_zero, List.set_cons_succ, i64_w, i32_w]; rfl)); (refine pure_ (i := 2) (N := some 7) (v := ?_) (a' := ?_) #[true, true, true, false, false, false, false, false, false, false, false] rfl rfl (by kernel_rfl) (fun _ _ _ h => h) (Or.inl ⟨by rfl, ?_⟩) ?_ ?_; rotate_left; (intro w'; go_simp; with_reducible rfl); rotate_left; (simp only [Act.put, List.setIfInBounds_toArray, List.set_cons_zero, List.set_cons_succ, i64_w, i32_w]; rfl)); (refine pure_ (i := 4) (N := some 9) (v := ?_) (a' := ?_) #[true, true, true, false, true, false, false, false, false, false, false] rfl rfl (by kernel_rfl) (fun _ _ _ h => h) (Or.inl ⟨by rfl, ?_⟩) ?_ ?_; rotate_left; (intro w'; go_simp; with_reducible rfl); rotate_left; (simp only [Act.put, List.setIfInBounds_toArray, List.set_cons_zero, List.set_cons_succ, i64_w, i32_w]; rfl)); (refine pure_ (i := 6) (N := some 11) (v := ?_) (a' := ?_) #[true, true, true, false, true, false, true, false, false, false, false] rfl rfl (by kernel_rfl) (fun _ _ _ h => h) (Or.inl ⟨by rfl, ?_⟩) ?_ ?_; rotate_left; (intro w'; go_simp; with_reducible rfl); rotate_left; (simp only [Act.put, List.setIfInBounds_toArray, List.set_cons_zero, List.set_cons_succ, i64_w, i32_w]; rfl))
  (refine take_ (i := 3) (N := some 8) (v := ?_) (a' := ?_) #[true, true, true, true, true, false, true, false, false, false, false] rfl rfl (by kernel_rfl) (fun _ _ _ h => h) (Or.inl ⟨by rfl, ?_⟩) hHeld ?_ ?_; rotate_left; (rintro w' ⟨s0, s1, s2, s3⟩; go_simp; with_reducible rfl); rotate_left; (simp only [Act.put, List.setIfInBounds_toArray, List.set_cons_zero, List.set_cons_succ, i64_w, i32_w]; rfl)); (refine take_ (i := 5) (N := some 10) (v := ?_) (a' := ?_) #[true, true, true, true, true, true, true, false, false, false, false] rfl rfl (by kernel_rfl) (fun _ _ _ h => h) (Or.inl ⟨by rfl, ?_⟩) hHeld ?_ ?_; rotate_left; (rintro w' ⟨s0, s1, s2, s3⟩; go_simp; with_reducible rfl); rotate_left; (simp only [Act.put, List.setIfInBounds_toArray, List.set_cons_zero, List.set_cons_succ, i64_w, i32_w]; rfl)); (refine take_ (i := 7) (N := some 12) (v := ?_) (a' := ?_) #[true, true, true, true, true, true, true, true, false, false, false] rfl rfl (by kernel_rfl) (fun _ _ _ h => h) (Or.inl ⟨by rfl, ?_⟩) hHeld ?_ ?_; rotate_left; (rintro w' ⟨s0, s1, s2, s3⟩; go_simp; with_reducible rfl); rotate_left; (simp only [Act.put, List.setIfInBounds_toArray, List.set_cons_zero, List.set_cons_succ, i64_w, i32_w]; rfl))
  have hz1 : (0 : Int) ≤ (na : Int) := by omega
  have hz2 : (na : Int) ≤ (nb : Int) := by omega
  have hz3 : (nb : Int) ≤ (ca : Int) := by omega
  (refine pure_ (i := 8) (N := some 13) (v := ?_) (a' := ?_) #[true, true, true, true, true, true, true, true, true, false, false] rfl rfl (by kernel_rfl) (fun _ _ _ h => h) (Or.inl ⟨by rfl, ?_⟩) ?_ ?_; rotate_left; (intro w'; go_simp; with_reducible rfl); rotate_left; (simp only [Act.put, List.setIfInBounds_toArray, List.set_cons_zero, List.set_cons_succ, i64_w, i32_w]; rfl))
  have hcut : ∀ w' : World, Kd.C (Kd.int .u8) w' Aa ar.length ar → (convert 49 9 (.slice (if ca = na then Aa else Option.map (fun x => x.add na) Aa) (nb - na) (ca - na))).run Try.prog w' = .ok (.string (strOfNums (cutA ar na nb))) w' := fun w' hC => by
    have hm := Kd.C_mid hC h1 h2 hca
    have hl : ((ar.take nb).drop na).length = nb - na := by rw [List.length_drop, List.length_take]; omega
    rw [hl] at hm
    have := Kd.C_string (P := Try.prog) (c := ca - na) Try.underlying49 Try.underlying5 Try.underlying9 hm
    have e : na * (Kd.int .u8).sz = na := Nat.mul_one _
    rw [e] at this
    exact this
  refine take_ (i := 9) (N := some 14) (v := ?_) (a' := ?_) #[true, true, true, true, true, true, true, true, true, true, false] rfl rfl (by kernel_rfl) (fun _ _ _ h => h) (Or.inl ⟨by rfl, ?_⟩) hHeld ?_ ?_
  rotate_left
  · rintro w' ⟨s0, s1, s2, s3⟩
    have hcv := hcut w' s3
    go_simp
    with_reducible rfl
  rotate_left
  · simp only [Act.put, List.setIfInBounds_toArray, List.set_cons_zero, List.set_cons_succ, i64_w, i32_w]
    rfl
  clear hcut
  skip
  (refine pure_ (i := 10) (N := some 4) (v := ?_) (a' := ?_) #[true, true, true, true, true, true, true, true, true, true, true] rfl rfl (by kernel_rfl) (fun _ _ _ h => h) (Or.inl ⟨by rfl, ?_⟩) ?_ ?_; rotate_left; (intro w'; go_simp; with_reducible rfl); rotate_left; (simp only [Act.put, List.setIfInBounds_toArray, List.set_cons_zero, List.set_cons_succ, i64_w, i32_w]; rfl))
  refine done_ (by kernel_rfl) ?_
  try go_wp2
  all_goals
    go_ret
    exact ⟨rfl, HB2.out⟩
theorem toList_inj3 {s t : ByteArray} (h : s.toList = t.toList) : s = t := by
  rw [ByteArray.toList_eq, ByteArray.toList_eq] at h
  exact ByteArray.ext (Array.toList_inj.1 h)
theorem next_mod (hv d N p : Nat) (h : (hv + d) % N = p) : ((p : Int) + 1) % (N : Int) = (((hv + (d + 1)) % N : Nat) : Int) := by
  have e : (hv + (d + 1)) % N = (p + 1) % N := by rw [← h, Nat.mod_add_mod, Nat.add_assoc]
  rw [e, Int.natCast_emod, Int.natCast_add]; rfl
theorem wrap_next {p : Nat} (h : p < 1000000) : wrap64 ((p : Int) + 1) = (p : Int) + 1 := by unfold wrap64; omega
theorem fuel_less {N d g : Nat} (h1 : N ≤ g + d) (h2 : d < N) : N - (d + 1) < g := by omega
theorem fuel_keep {N d : Nat} : N ≤ N - (d + 1) + (d + 1) := by omega
def hstep (x : Int) (c : Nat) : Int := bits BinOp.xor IntKind.u32 x ((c : Int) % 4294967296) * 16777619 % 4294967296
def hashL (l : List Nat) : Int := l.foldl hstep 2166136261
theorem hashL_range (l : List Nat) : 0 ≤ hashL l ∧ hashL l < 4294967296 := by
  have key : ∀ (l : List Nat) (x : Int), 0 ≤ x → x < 4294967296 → 0 ≤ l.foldl hstep x ∧ l.foldl hstep x < 4294967296 := by
    intro l
    induction l with
    | nil => exact fun x h0 h1 => ⟨h0, h1⟩
    | cons c l ih => exact fun x _ _ => ih _ (Int.emod_nonneg _ (by decide)) (Int.emod_lt_of_pos _ (by decide))
  exact key l _ (by decide) (by decide)
theorem hashL_step (s : ByteArray) (i : Nat) (h : i < s.size) : hashL ((Utf.nats s).take (i + 1)) = hstep (hashL ((Utf.nats s).take i)) (s[i]'h).toNat := by
  have hl : i < (Utf.nats s).length := by rw [Utf.nats_length]; exact h
  have e : (Utf.nats s)[i] = (s[i]'h).toNat := by simp [Utf.nats]; rfl
  unfold hashL
  rw [List.take_succ_eq_append_getElem hl, List.foldl_append, e]; rfl
def hashW (s : ByteArray) : Nat := (hashL (Utf.nats s)).toNat
/-- A slot's word. -/
def slotW (ar : List Int) (s : Sl) : ByteArray := strOfNums (cutA ar s.f0.toNat s.f1.toNat)
def SlOk (ar : List Int) (s : Sl) : Prop := s.f2 = 0 ∨ ∃ a b : Nat, s.f0 = (a : Int) ∧ s.f1 = (b : Int) ∧ a ≤ b ∧ b ≤ ar.length
/-- What find answers: where a search for the word ends. -/
def FindOut (ar : List Int) (sl : List Sl) (ad : Addr) (word : ByteArray) (w : World) (e : Ending) (w' : World) : Prop :=
  ∃ (p d : Nat), e = .returned (.pointer (some (ad.add (p * 3)))) ∧ p < sl.length ∧ (hashW word + d) % sl.length = p ∧ ((sl.getD p zSl).f2 = 0 ∨ slotW ar (sl.getD p zSl) = word) ∧
    (∀ d', d' < d → (sl.getD ((hashW word + d') % sl.length) zSl).f2 ≠ 0 ∧ slotW ar (sl.getD ((hashW word + d') % sl.length) zSl) ≠ word) ∧ Below w.heap.size w w'
set_option maxHeartbeats 4000000 in
set_option maxRecDepth 100000 in
theorem find_k (g : Nat) (c0 c1 : Value) (Aa : Option Addr) (ca : Nat) (ar : List Int) (ad : Addr) (cs : Nat) (sl : List Sl) (word : ByteArray) (w : World) (hg : w.heap[g]? = some (.cells #[c0, c1, .slice Aa ar.length ca, .slice (some ad) sl.length cs] 51 (0, 0)))
    (hC : Kd.C (Kd.int .u8) w Aa ar.length ar) (hca : ar.length ≤ ca) (hS : Kd.C kSl w (some ad) sl.length sl) (hok : ∀ s ∈ sl, SlOk ar s) (hN : 0 < sl.length) (hNm : sl.length ≤ 1000000) (hwz : word.size ≤ 140737488355328)
    (hfree : ∀ d, (∀ d', d' < d → (sl.getD ((hashW word + d') % sl.length) zSl).f2 ≠ 0) → d < sl.length) :
    Calls Try.prog 18 #[.pointer (some ⟨g, 0, none⟩), .string word] w (FindOut ar sl ad word w) := by
  have HG := Aside0.mk hg; have HC := Aside0.mk hC; have HS := Aside0.mk hS; have HOK := Aside0.mk hok; have HF := Aside0.mk hfree
  clear hg hC hS hok hfree
  go_enter Try.func18, Try.ntmps18
  go_upto_block 0 with fail
  go_wp2
  go_loopg [5, 11] word.size (fun gg v5 v11 wr => ∃ i : Nat, v5 = .int .u32 (hashL ((Utf.nats word).take i)) ∧ v11 = .int .i64 (i : Int) ∧ Aside0 (i ≤ word.size ∧ word.size ≤ gg + i) ∧ wr = w)
  case atStart => exact ⟨0, rfl, rfl, ⟨Nat.zero_le _, by omega⟩, rfl⟩
  case round =>
    obtain ⟨i, rfl, rfl, hi, rfl⟩ := hrel
    by_cases hc : i < word.size
    · have hcb : decide ((i : Int) < (word.size : Int)) = true := decide_eq_true (by omega)
      have HH := Aside0.mk (hashL_step word i hc)
      go_wp2
      go_roundg (word.size - (i + 1))
      case measure => have := hi.out; omega
      case rel =>
        refine ⟨i + 1, congrArg (Value.int .u32) ?_, congrArg (Value.int .i64) ?_, ⟨by have := hi.out; omega⟩, rfl⟩
        · rw [HH.out]; rfl
        · omega
    · have hcb : decide ((i : Int) < (word.size : Int)) = false := decide_eq_false (by omega)
      have hti : (Utf.nats word).take i = Utf.nats word := List.take_of_length_le (by rw [Utf.nats_length]; omega)
      rw [hti]
      have hr := hashL_range (Utf.nats word)
      obtain ⟨hv, ehv⟩ : ∃ hv : Nat, hv = hashW word := ⟨_, rfl⟩
      have ehz : hashL (Utf.nats word) = (hv : Int) := by rw [ehv]; unfold hashW; omega
      rw [ehz] at hr ⊢
      have HV := Aside0.mk ehv
      clear ehv ehz hti
      have c3 : wr.cell? ⟨g, 3, none⟩ = some (.slice (some ad) sl.length cs) := (blk_cell HG.out 3).trans rfl
      go_upto_block 2 with fail
      have hm0 : ((hv : Int) % (sl.length : Int)) = (((hv + 0) % sl.length : Nat) : Int) := by rw [Nat.add_zero]; rfl
      rw [hm0]
      clear hm0 c3
      obtain ⟨W0, hW0⟩ : ∃ W0, W0 = wr := ⟨_, rfl⟩
      rw [← hW0] at HG HC HS ⊢
      clear hW0
      go_wp2
      go_loopg [7] sl.length (fun gg v7 wx => ∃ d : Nat, v7 = .int .i64 (((hv + d) % sl.length : Nat) : Int) ∧ Aside0 (sl.length ≤ gg + d) ∧ Aside0 (∀ d', d' < d → (sl.getD ((hv + d') % sl.length) zSl).f2 ≠ 0 ∧ slotW ar (sl.getD ((hv + d') % sl.length) zSl) ≠ word) ∧ Aside0 (Below W0.heap.size W0 wx))
      case atStart => exact ⟨0, rfl, ⟨by omega⟩, ⟨fun d' h => absurd h (by omega)⟩, ⟨Below.refl _ _⟩⟩
      case round =>
        obtain ⟨d, rfl, hd, hpast, hb⟩ := hrel
        have HG1 := Aside0.mk (blk_below HG.out hb.out)
        have HC1 := Aside0.mk (Kd.C_below HC.out hb.out)
        have hdN : d < sl.length := HF.out d (fun d' h => by rw [← HV.out]; exact (hpast.out d' h).1)
        obtain ⟨p, hp⟩ : ∃ p, (hv + d) % sl.length = p := ⟨_, rfl⟩
        have hpN : p < sl.length := by rw [← hp]; exact Nat.mod_lt _ hN
        have HPP := Aside0.mk hp
        rw [hp]
        clear hp
        obtain ⟨ad2, cc, e0, _, hK, hcc⟩ := Kd.C_get (Kd.C_below HS.out hb.out) zSl (p : Int) (by omega) (by omega)
        cases e0
        rw [Int.toNat_natCast] at hK hcc
        obtain ⟨s, hs⟩ : ∃ s, sl.getD p zSl = s := ⟨_, rfl⟩
        rw [hs] at hK
        have HSS := Aside0.mk hs
        have hsok : SlOk ar s := by
          rw [← hs, List.getD_eq_getElem?_getD, List.getElem?_eq_getElem hpN]
          exact HOK.out _ (List.getElem_mem hpN)
        have HSO := Aside0.mk hsok
        clear hs hsok
        obtain rfl := kSl_open hK
        have hc : ∀ j u, ([.int .i64 s.f0, .int .i64 s.f1, .int .u64 s.f2] : List Value)[j]? = some u → wr.cell? (ad.add (p * 3 + j)) = some u := hcc
        have q0 : wr.cell? (ad.add (p * 3)) = some (.int .i64 s.f0) := hc 0 _ rfl
        have q1 : wr.cell? ⟨(ad.add (p * 3)).block, (ad.add (p * 3)).off + 1, none⟩ = some (.int .i64 s.f1) := by rw [← add_field _ _ 1 (by omega)]; exact hc 1 _ rfl
        have q2 : wr.cell? ⟨(ad.add (p * 3)).block, (ad.add (p * 3)).off + 2, none⟩ = some (.int .u64 s.f2) := by rw [← add_field _ _ 2 (by omega)]; exact hc 2 _ rfl
        have c3 : wr.cell? ⟨g, 3, none⟩ = some (.slice (some ad) sl.length cs) := (blk_cell HG1.out 3).trans rfl
        have z1 : (0 : Int) ≤ (p : Int) := by omega
        have z2 : (p : Int) < (sl.length : Int) := by omega
        clear hK hcc hc
        by_cases hz : s.f2 = 0
        · have hzb : (s.f2 == 0) = true := beq_iff_eq.2 hz
          have HZ := Aside0.mk hz
          clear hz
          go_wp2
          go_ret
          exact ⟨p, d, rfl, hpN, by rw [← HV.out]; exact HPP.out, Or.inl (by rw [HSS.out]; exact HZ.out), fun d' h => by rw [← HV.out]; exact hpast.out d' h, hb.out⟩
        · have hzb : (s.f2 == 0) = false := beq_eq_false_iff_ne.2 hz
          have HZ := Aside0.mk hz
          have hslot : ∃ a b : Nat, s.f0 = (a : Int) ∧ s.f1 = (b : Int) ∧ a ≤ b ∧ b ≤ ar.length := by
            rcases HSO.out with h | h
            · exact absurd h hz
            · exact h
          obtain ⟨a, b, ea, eb, hab, hbl⟩ := hslot
          have hsw : slotW ar s = strOfNums (cutA ar a b) := by unfold slotW; rw [ea, eb, Int.toNat_natCast, Int.toNat_natCast]
          rw [ea] at q0
          rw [eb] at q1
          have hcall := word_k g c0 c1 (.slice (some ad) sl.length cs) Aa ca ar a b s.f2 wr HG1.out HC1.out hca hab hbl
          rw [← hsw] at hcall
          have HCALL := Aside0.mk hcall
          clear hcall hz hsw ea eb
          obtain ⟨x, hxe⟩ : ∃ x, slotW ar s = x := ⟨_, rfl⟩
          rw [hxe] at HCALL
          have HXE := Aside0.mk hxe
          clear hxe
          by_cases hx : x = word
          · have hxb : (x.toList == word.toList) = true := by rw [hx]; exact beq_self_eq_true _
            have HXX := Aside0.mk hx
            clear hx
            go_wp2_with (first | (go_at_call 20; (with_reducible refine (HCALL.out).mono ?_)))
            (first | rintro e w2 rfl hb2 | rintro e w2 ⟨rfl, hb2⟩)
            have HB2 := Aside0.mk (hb.out.trans (hb2.mono hb.out.size))
            clear hb2
            go_wp2
            go_ret
            exact ⟨p, d, rfl, hpN, by rw [← HV.out]; exact HPP.out, Or.inr (by rw [HSS.out, HXE.out]; exact HXX.out), fun d' h => by rw [← HV.out]; exact hpast.out d' h, HB2.out⟩
          · have hxb : (x.toList == word.toList) = false := beq_eq_false_iff_ne.2 (fun h => hx (toList_inj3 h))
            have HXX := Aside0.mk hx
            clear hx
            have HNX := Aside0.mk (next_mod hv d sl.length p HPP.out)
            go_wp2_with (first | (go_at_call 20; (with_reducible refine (HCALL.out).mono ?_)))
            (first | rintro e w2 rfl hb2 | rintro e w2 ⟨rfl, hb2⟩)
            have HB2 := Aside0.mk (hb.out.trans (hb2.mono hb.out.size))
            have c3 : w2.cell? ⟨g, 3, none⟩ = some (.slice (some ad) sl.length cs) := (blk_cell (blk_below HG1.out hb2) 3).trans rfl
            clear hb2
            go_upto_region 8 with fail
            clear hxb hzb q0 q1 q2 hab hbl hcb hc hr hca hwz
            have hw1 : wrap64 ((p : Int) + 1) = (p : Int) + 1 := wrap_next (Nat.lt_of_lt_of_le hpN hNm)
            go_wp2
            clear hw1 c3
            go_roundg (sl.length - (d + 1))
            case measure => exact fuel_less hd.out hdN
            case rel =>
              refine ⟨d + 1, ?_, ⟨?_⟩, ⟨fun d' h => ?_⟩, HB2⟩
              · exact congrArg (Value.int .i64) HNX.out
              · exact fuel_keep
              · by_cases hdd : d' = d
                · subst hdd
                  rw [HPP.out, HSS.out]
                  exact ⟨HZ.out, by rw [HXE.out]; exact HXX.out⟩
                · exact hpast.out d' (Nat.lt_of_le_of_ne (Nat.le_of_lt_succ h) hdd)
end Go.Proofs.Ytjjkibjpbfkpcaa.K

namespace Go.Proofs.Ytjjkibjpbfkpcaa.K
open Go.RowKit Go.Proofs.YtjjkibjpbfkpcaaW.PrintWords Go.Proofs.YtjjkibjpbfkpcaaW.PrintLast Go.Proofs.YtjjkibjpbfkpcaaW.PrintMore Go.Proofs.Ytjjkibjpbfkpcaa
attribute [local go_sem] max2_int min2_int max_two min_two max_three min_three max_four min_four
set_option linter.unusedVariables false
set_option linter.unusedSimpArgs false
open Go.Proofs.Ytjjkibjpbfkpcaa.PTb Go.Proofs.Ytjjkibjpbfkpcaa.Tab
theorem nats_inj3 {s t : ByteArray} (h : Utf.nats s = Utf.nats t) : s = t := by
  unfold Utf.nats at h
  have h2 := (List.map_inj_right (f := fun b : UInt8 => b.toNat) (fun a b h => UInt8.toNat_inj.1 h)).1 h
  exact ByteArray.ext (Array.toList_inj.1 h2)
/-- What slot p holds. -/
def ctOf (ar : List Int) (sl : List Sl) (p : Nat) : Option En := if (sl.getD p zSl).f2 = 0 then none else some (Utf.nats (slotW ar (sl.getD p zSl)), (sl.getD p zSl).f2.toNat)
def hN (w : Wd) : Nat := (hashL w).toNat
/-- The table's rows and the list that it stands for. -/
structure TabR (room : Nat) (ar : List Int) (sl : List Sl) (L : List En) : Prop where
  lo : 1 ≤ room
  hi : room ≤ 65536
  len : sl.length = 2 * room
  many : L.length ≤ room
  byt : ∀ x ∈ ar, 0 ≤ x ∧ x < 256
  small : ar.length ≤ L.length * 1048576
  ok : ∀ s ∈ sl, SlOk ar s ∧ 0 ≤ s.f2 ∧ s.f2 ≤ 4611686018427387904
  ti : TI (2 * room) hN (ctOf ar sl) L
/-- A table at block g: its four cells, the arena's row and the slots' row of its own; all its blocks are F's. -/
def TabF (base g room : Nat) (F : Nat → Prop) (L : List En) (wx : World) : Prop :=
  ∃ (va vs : Value) (ar : List Int) (sl : List Sl), wx.heap[g]? = some (.cells #[.int .i64 (room : Int), .int .i64 (L.length : Int), va, vs] 51 (0, 0)) ∧ (base ≤ g ∧ F g) ∧
    Kd.R (Kd.int .u8) 5 wx base (fun k => k ≠ g ∧ F k) va ar ∧ Kd.R kSl 57 wx base (fun k => k ≠ g ∧ F k) vs sl ∧ TabR room ar sl L
abbrev TabW (base g room : Nat) (L : List En) (wx : World) : Prop := TabF base g room (fun _ => True) L wx
theorem TabF.mono {base g room : Nat} {F F' : Nat → Prop} {L : List En} {wx : World} (h : TabF base g room F L wx) (hF : ∀ k, F k → F' k) : TabF base g room F' L wx := by
  obtain ⟨va, vs, ar, sl, h1, h2, h3, h4, h5⟩ := h
  exact ⟨va, vs, ar, sl, h1, ⟨h2.1, hF _ h2.2⟩, Kd.R_mono h3 (fun k hk => ⟨hk.1, hF k hk.2⟩), Kd.R_mono h4 (fun k hk => ⟨hk.1, hF k hk.2⟩), h5⟩
theorem TabF.step {base g room : Nat} {F : Nat → Prop} {L : List En} {wx w1 : World} (h : TabF base g room F L wx) (hb : Below wx.heap.size wx w1) : TabF base g room F L w1 := by
  obtain ⟨va, vs, ar, sl, h1, h2, h3, h4, h5⟩ := h
  exact ⟨va, vs, ar, sl, blk_below h1 hb, h2, Kd.R_below h3 hb, Kd.R_below h4 hb, h5⟩
/-- Apart from what another call has written. -/
theorem TabF.kept {base g room : Nat} {F S : Nat → Prop} {L : List En} {wx w1 : World} (h : TabF base g room F L wx) (hk : Kept wx w1 S) (hd : ∀ k, F k → ¬ S k) : TabF base g room F L w1 := by
  obtain ⟨va, vs, ar, sl, h1, h2, h3, h4, h5⟩ := h
  exact ⟨va, vs, ar, sl, blk_kept h1 hk (hd g h2.2), h2, Kd.R_kept h3 hk (fun k hk => hd k hk.2), Kd.R_kept h4 hk (fun k hk => hd k hk.2), h5⟩
/-- All its blocks are there. -/
theorem TabF.here {base g room : Nat} {F : Nat → Prop} {L : List En} {wx : World} (h : TabF base g room F L wx) : TabF base g room (fun k => F k ∧ k < wx.heap.size) L wx := by
  obtain ⟨va, vs, ar, sl, h1, h2, h3, h4, h5⟩ := h
  exact ⟨va, vs, ar, sl, h1, ⟨h2.1, h2.2, blk_lt h1⟩, Kd.R_mono (Kd.R_bound h3) (fun k hk => ⟨hk.1.1, hk.1.2, hk.2.2.1⟩), Kd.R_mono (Kd.R_bound h4) (fun k hk => ⟨hk.1.1, hk.1.2, hk.2.2.1⟩), h5⟩
theorem tab_empty (room : Nat) (h1 : 1 ≤ room) (h2 : room ≤ 65536) : TabR room [] (List.replicate (2 * room) zSl) [] := by
  have hz : ∀ p, (List.replicate (2 * room) zSl).getD p zSl = zSl := fun p => by
    rw [List.getD_eq_getElem?_getD, List.getElem?_replicate]
    split <;> rfl
  refine ⟨h1, h2, by simp, Nat.zero_le _, by simp, Nat.zero_le _, fun s hs => ?_, ?_⟩
  · rw [(List.mem_replicate.1 hs).2]
    exact ⟨Or.inl rfl, by decide, by decide⟩
  · have e : ctOf [] (List.replicate (2 * room) zSl) = fun _ => none := by
      funext p
      unfold ctOf
      rw [hz, if_pos (by decide)]
    rw [e]
    exact TI.empty hN (by omega)
set_option maxHeartbeats 4000000 in
set_option maxRecDepth 100000 in
theorem lenF (base g room : Nat) (F : Nat → Prop) (L : List En) (w : World) (h : TabF base g room F L w) : Calls Try.prog 17 #[.pointer (some ⟨g, 0, none⟩)] w fun e w' => e = .returned (.int .i64 (L.length : Int)) ∧ w' = w := by
  obtain ⟨va, vs, ar, sl, h1, h2, h3, h4, h5⟩ := h
  have c1 : w.cell? ⟨g, 1, none⟩ = some (.int .i64 (L.length : Int)) := (blk_cell h1 1).trans rfl
  clear h1 h3 h4 h5
  go_enter Try.func17, Try.ntmps17
  go_wp2
  go_ret
  exact ⟨rfl, rfl⟩
set_option maxHeartbeats 4000000 in
set_option maxRecDepth 100000 in
theorem newF (room : Nat) (h1 : 1 ≤ room) (h2 : room ≤ 65536) (w : World) : Calls Try.prog 10 #[.int .i64 (room : Int)] w fun e w' => ∃ g, e = .returned (.tuple #[.pointer (some ⟨g, 0, none⟩), .int .i64 0]) ∧ TabF w.heap.size g room (fun k => w.heap.size ≤ k) [] w' ∧ Below w.heap.size w w' := by
  have z1 : decide ((room : Int) < 1) = false := decide_eq_false (by omega)
  have z2 : decide (65536 < (room : Int)) = false := decide_eq_false (by omega)
  have z3 : decide ((room : Int) > 65536) = false := decide_eq_false (by omega)
  have hm : wrap64 (2 * (room : Int)) = ((2 * room : Nat) : Int) := by unfold wrap64; omega
  go_enter Try.func10, Try.ntmps10
  go_wp2_with ((with_reducible refine gate_dst (N := 13) rfl ?_); refine Kd.R_make kSl _ 57 rfl (N := 13) rfl 48 _ _ rfl ((2 * room : Nat) : Int) ?hx ?hy Try.underlying48 (.agg #[(.int .i64 0), (.int .i64 0), (.int .u64 0)]) 24 info57 rfl (by decide) (by omega) zSl (ok := fun _ => True) (okp := fun _ => True) (kSl_mkM _ _ _ _) (fun _ hk => hk) trivial (Int.natCast_nonneg _) (by rw [Int.toNat_natCast]; omega) (Below.refl _ _) (Nat.le_refl _) ?_; (case hx => first | rfl | (go_simp; rfl)); (case hy => first | rfl | (go_simp; rfl)); intro v1 w1 hR hb hg hat; rw [Int.toNat_natCast] at hR; obtain ⟨As, cs, e1⟩ : ∃ A c, v1 = .slice A (2 * room) c := (by obtain ⟨A, c, e⟩ := Kd.R_slice hR; exact ⟨A, c, by rw [e, List.length_replicate]⟩); subst e1; have HR := Aside0.mk hR; have HB := Aside0.mk hb; clear hR hb hg hat)
  go_ret2
  have hn := heap_alloc_new w1 (.cells #[.int .i64 (room : Int), .int .i64 (([] : List En).length : Int), .slice none 0 0, .slice As (2 * room) cs] 51)
  have hb2 : Below w1.heap.size w1 (w1.alloc (.cells #[.int .i64 (room : Int), .int .i64 (([] : List En).length : Int), .slice none 0 0, .slice As (2 * room) cs] 51)) := below_alloc (Below.refl _ _) _
  have hlt := Kd.R_lt HR.out
  refine ⟨w1.heap.size, rfl, ⟨_, _, [], List.replicate (2 * room) zSl, hn, ⟨HB.out.size, HB.out.size⟩, Kd.R_nil _ _ _ _ _, ?_, tab_empty room h1 h2⟩, HB.out.trans (hb2.mono HB.out.size)⟩
  have hbs := Kd.R_base HR.out
  exact Kd.R_reok rfl (Kd.R_below HR.out hb2) (fun k hk => ⟨fun e => by have := hlt k hk; omega, hbs k hk⟩)
theorem new_k (room : Nat) (h1 : 1 ≤ room) (h2 : room ≤ 65536) (w : World) : Calls Try.prog 10 #[.int .i64 (room : Int)] w fun e w' => ∃ g, e = .returned (.tuple #[.pointer (some ⟨g, 0, none⟩), .int .i64 0]) ∧ TabW w.heap.size g room [] w' ∧ Below w.heap.size w w' := by
  refine (newF room h1 h2 w).mono ?_
  rintro e w' ⟨g, rfl, hT, hB⟩
  exact ⟨g, rfl, hT.mono (fun _ _ => trivial), hB⟩
theorem len_k (base g room : Nat) (L : List En) (w : World) (h : TabW base g room L w) : Calls Try.prog 17 #[.pointer (some ⟨g, 0, none⟩)] w fun e w' => e = .returned (.int .i64 (L.length : Int)) ∧ w' = w := lenF base g room _ L w h

theorem get_le {L : List En} {w : Wd} {c : Nat} (hs : L.Pairwise (fun a b => a.1 < b.1)) (h : (w, c) ∈ L) : getL L w = c := get_mem hs h
/-- What find's end tells of the list. -/
theorem find_get {room : Nat} {ar : List Int} {sl : List Sl} {L : List En} (h : TabR room ar sl L) (word : ByteArray) (p d : Nat) (hp : p < sl.length) (hpd : (hashW word + d) % sl.length = p) (he : (sl.getD p zSl).f2 = 0 ∨ slotW ar (sl.getD p zSl) = word)
    (hpast : ∀ d', d' < d → (sl.getD ((hashW word + d') % sl.length) zSl).f2 ≠ 0 ∧ slotW ar (sl.getD ((hashW word + d') % sl.length) zSl) ≠ word) : (sl.getD p zSl).f2 = (getL L (Utf.nats word) : Int) := by
  by_cases hz : (sl.getD p zSl).f2 = 0
  · have hab := h.ti.absent (Utf.nats word) d (fun d' h1 => by
      obtain ⟨q1, q2⟩ := hpast d' h1
      rw [h.len] at q1 q2
      refine ⟨(Utf.nats (slotW ar (sl.getD ((hashW word + d') % (2 * room)) zSl)), (sl.getD ((hashW word + d') % (2 * room)) zSl).f2.toNat), ?_, fun e => q2 (nats_inj3 e)⟩
      show ctOf ar sl ((hashW word + d') % (2 * room)) = _
      unfold ctOf
      rw [if_neg q1]) (by
      show ctOf ar sl ((hashW word + d) % (2 * room)) = none
      rw [← h.len, hpd]
      unfold ctOf
      rw [if_pos hz])
    rw [hz, get_none hab]; rfl
  · have hw : slotW ar (sl.getD p zSl) = word := by
      rcases he with h1 | h1
      · exact absurd h1 hz
      · exact h1
    have hct : ctOf ar sl p = some (Utf.nats word, (sl.getD p zSl).f2.toNat) := by
      unfold ctOf
      rw [if_neg hz, hw]
    have hm := h.ti.found (by rw [← h.len]; exact hp) hct
    rw [get_le h.ti.sorted hm]
    have hsl := (h.ok (sl.getD p zSl) (by rw [List.getD_eq_getElem?_getD, List.getElem?_eq_getElem hp]; exact List.getElem_mem hp)).2.1
    omega
theorem tab_free {room : Nat} {ar : List Int} {sl : List Sl} {L : List En} (h : TabR room ar sl L) (word : ByteArray) (d : Nat) (hd : ∀ d', d' < d → (sl.getD ((hashW word + d') % sl.length) zSl).f2 ≠ 0) : d < sl.length := by
  rw [h.len] at hd ⊢
  refine h.ti.free (hashW word) d (fun d' h1 => ⟨(Utf.nats (slotW ar (sl.getD ((hashW word + d') % (2 * room)) zSl)), (sl.getD ((hashW word + d') % (2 * room)) zSl).f2.toNat), ?_⟩)
  unfold ctOf
  rw [if_neg (hd d' h1)]
set_option maxHeartbeats 4000000 in
set_option maxRecDepth 100000 in
theorem getF (base g room : Nat) (F : Nat → Prop) (L : List En) (word : ByteArray) (w : World) (h : TabF base g room F L w) (hwz : word.size ≤ 140737488355328) (hne : Utf.nats word ≠ []) :
    Calls Try.prog 15 #[.pointer (some ⟨g, 0, none⟩), .string word] w fun e w' => e = .returned (.int .u64 (getL L (Utf.nats word) : Int)) ∧ Below w.heap.size w w' := by
  obtain ⟨va, vs, ar, sl, h1, h2, h3, h4, h5⟩ := h
  have hsl : 0 < sl.length := by rw [h5.len]; have := h5.lo; omega
  have hslm : sl.length ≤ 1000000 := by rw [h5.len]; have := h5.hi; omega
  obtain ⟨Aa, ca, ea⟩ := Kd.R_slice h3
  subst ea
  obtain ⟨ad, cs, es⟩ := Kd.R_slice1 h4 hsl
  subst es
  obtain ⟨_, hca, hCa⟩ := Kd.R_reads' h3
  obtain ⟨_, hcs, hCs⟩ := Kd.R_reads' h4
  have hfind := find_k g _ _ Aa ca ar ad cs sl word w h1 hCa hca hCs (fun s hs => (h5.ok s hs).1) hsl hslm hwz (tab_free h5 word)
  have HF := Aside0.mk hfind; have HC := Aside0.mk hCs; have H5 := Aside0.mk h5
  have hemp : word.toList.isEmpty = false := by
    cases hh : word.toList with
    | nil => exact absurd (by rw [ByteArray.toList_eq] at hh; unfold Utf.nats; rw [hh]; rfl) hne
    | cons a l => rfl
  clear h1 h2 h3 h4 h5 hfind hCa hCs hca hcs hne
  go_enter Try.func15, Try.ntmps15
  go_wp2_with (first | (go_at_call 18; (with_reducible refine (HF.out).mono ?_)))
  rintro e w2 ⟨p, d, rfl, hp, hpd, he, hpast, hb⟩
  obtain ⟨ad2, cc, e0, _, hK, hcc⟩ := Kd.C_get (Kd.C_below HC.out hb) zSl (p : Int) (by omega) (by omega)
  cases e0
  rw [Int.toNat_natCast] at hK hcc
  have hg := find_get H5.out word p d hp hpd he hpast
  clear he hpast hpd
  generalize sl.getD p zSl = s at hK hg
  have HG := Aside0.mk hg
  obtain rfl := kSl_open hK
  have q2 : w2.cell? ⟨(ad.add (p * 3)).block, (ad.add (p * 3)).off + 2, none⟩ = some (.int .u64 s.f2) := by rw [← add_field _ _ 2 (by omega)]; exact hcc 2 _ rfl
  have HB := Aside0.mk hb
  clear hK hcc hg hb
  go_wp2
  go_ret
  rw [HG.out]
  exact ⟨rfl, HB.out⟩
end Go.Proofs.Ytjjkibjpbfkpcaa.K

namespace Go.Proofs.Ytjjkibjpbfkpcaa.K
open Go.RowKit Go.Proofs.YtjjkibjpbfkpcaaW.PrintWords Go.Proofs.YtjjkibjpbfkpcaaW.PrintLast Go.Proofs.YtjjkibjpbfkpcaaW.PrintMore Go.Proofs.Ytjjkibjpbfkpcaa
attribute [local go_sem] max2_int min2_int max_two min_two max_three min_three max_four min_four
set_option linter.unusedVariables false
set_option linter.unusedSimpArgs false
open Go.Proofs.Ytjjkibjpbfkpcaa.PTb Go.Proofs.Ytjjkibjpbfkpcaa.Tab
theorem getD_set (sl : List Sl) (p q : Nat) (s : Sl) (hp : p < sl.length) : (sl.set p s).getD q zSl = if q = p then s else sl.getD q zSl := by
  rw [List.getD_eq_getElem?_getD, List.getD_eq_getElem?_getD, List.getElem?_set]
  by_cases h : p = q
  · subst h
    rw [if_pos rfl, if_pos hp, if_pos rfl]; rfl
  · rw [if_neg h, if_neg (fun e => h e.symm)]
theorem past_ct {room : Nat} {ar : List Int} {sl : List Sl} (hlen : sl.length = 2 * room) (word : ByteArray) (d : Nat) (hpast : ∀ d', d' < d → (sl.getD ((hashW word + d') % sl.length) zSl).f2 ≠ 0 ∧ slotW ar (sl.getD ((hashW word + d') % sl.length) zSl) ≠ word) :
    ∀ d', d' < d → ∃ f, ctOf ar sl ((hN (Utf.nats word) + d') % (2 * room)) = some f ∧ f.1 ≠ Utf.nats word := fun d' h1 => by
  obtain ⟨q1, q2⟩ := hpast d' h1
  rw [hlen] at q1 q2
  refine ⟨(Utf.nats (slotW ar (sl.getD ((hashW word + d') % (2 * room)) zSl)), (sl.getD ((hashW word + d') % (2 * room)) zSl).f2.toNat), ?_, fun e => q2 (nats_inj3 e)⟩
  show ctOf ar sl ((hashW word + d') % (2 * room)) = _
  unfold ctOf
  rw [if_neg q1]
/-- A word's count set anew. -/
theorem tabR_set {room : Nat} {ar : List Int} {sl : List Sl} {L : List En} (h : TabR room ar sl L) (word : ByteArray) (p d : Nat) (hp : p < sl.length) (hpd : (hashW word + d) % sl.length = p) (hz : (sl.getD p zSl).f2 ≠ 0) (hw : slotW ar (sl.getD p zSl) = word)
    (hpast : ∀ d', d' < d → (sl.getD ((hashW word + d') % sl.length) zSl).f2 ≠ 0 ∧ slotW ar (sl.getD ((hashW word + d') % sl.length) zSl) ≠ word) (c : Nat) (h1 : 1 ≤ c) (h2 : c ≤ 4611686018427387904) :
    TabR room ar (sl.set p ⟨(sl.getD p zSl).f0, (sl.getD p zSl).f1, (c : Int)⟩) (putL L (Utf.nats word) c) ∧ (putL L (Utf.nats word) c).length = L.length := by
  have hp2 : p < 2 * room := by rw [← h.len]; exact hp
  have hct : ctOf ar sl p = some (Utf.nats word, (sl.getD p zSl).f2.toNat) := by
    unfold ctOf
    rw [if_neg hz, hw]
  have hup : ctOf ar (sl.set p ⟨(sl.getD p zSl).f0, (sl.getD p zSl).f1, (c : Int)⟩) = TI.upd (ctOf ar sl) p (Utf.nats word, c) := by
    funext q
    unfold ctOf TI.upd
    rw [getD_set sl p q _ hp]
    by_cases hq : q = p
    · rw [if_pos hq, if_pos hq, if_neg (show (c : Int) ≠ 0 by omega)]
      have e : slotW ar ⟨(sl.getD p zSl).f0, (sl.getD p zSl).f1, (c : Int)⟩ = word := hw
      rw [e]; rfl
    · rw [if_neg hq, if_neg hq]
  have ht := h.ti.put hp2 (Utf.nats word) c d (past_ct h.len word d hpast) (by rw [← h.len]; exact hpd) (Or.inl ⟨_, hct, rfl⟩)
  have hmem := h.ti.found hp2 hct
  have hlp : (putL L (Utf.nats word) c).length = L.length := by rw [len_put L _ _ h.ti.sorted, if_pos ⟨_, hmem, rfl⟩]
  refine ⟨⟨h.lo, h.hi, by rw [List.length_set]; exact h.len, by rw [hlp]; exact h.many, h.byt, by rw [hlp]; exact h.small, fun s hs => ?_, by rw [hup]; exact ht⟩, hlp⟩
  · rcases List.mem_or_eq_of_mem_set hs with h3 | h3
    · exact h.ok s h3
    · subst h3
      have hso := h.ok (sl.getD p zSl) (by rw [List.getD_eq_getElem?_getD, List.getElem?_eq_getElem hp]; exact List.getElem_mem hp)
      refine ⟨Or.inr ?_, by show (0 : Int) ≤ (c : Int); omega, by show (c : Int) ≤ 4611686018427387904; omega⟩
      rcases hso.1 with h4 | h4
      · exact absurd h4 hz
      · exact h4

def bytesI (s : ByteArray) : List Int := (Utf.nats s).map Int.ofNat
theorem bytesI_len (s : ByteArray) : (bytesI s).length = s.size := by unfold bytesI; rw [List.length_map, Utf.nats_length]
theorem bytesI_str (s : ByteArray) : strOfNums (bytesI s) = s := by
  apply nats_inj3
  rw [nats_str]
  unfold bytesI
  rw [List.map_map]
  refine (List.map_congr_left (fun x hx => ?_)).trans (List.map_id _)
  have := Utf.nats_lt s x hx
  show (Int.ofNat x).toNat % 256 = x
  simp; omega
theorem cut_old (ar x : List Int) (a b : Nat) (h : b ≤ ar.length) : cutA (ar ++ x) a b = cutA ar a b := by
  unfold cutA
  rw [List.take_append_of_le_length h]
theorem cut_new (ar x : List Int) : cutA (ar ++ x) ar.length (ar.length + x.length) = x := by
  unfold cutA
  rw [List.take_of_length_le (by rw [List.length_append]; exact Nat.le_refl _), List.drop_left]
theorem slotW_old {ar x : List Int} {s : Sl} (h : SlOk ar s) (hz : s.f2 ≠ 0) : slotW (ar ++ x) s = slotW ar s := by
  rcases h with h | ⟨a, b, e0, e1, h1, h2⟩
  · exact absurd h hz
  · unfold slotW
    rw [e0, e1, Int.toNat_natCast, Int.toNat_natCast, cut_old ar x a b h2]
/-- A new word. -/
theorem tabR_new {room : Nat} {ar : List Int} {sl : List Sl} {L : List En} (h : TabR room ar sl L) (word : ByteArray) (p d : Nat) (hp : p < sl.length) (hpd : (hashW word + d) % sl.length = p) (hz : (sl.getD p zSl).f2 = 0)
    (hpast : ∀ d', d' < d → (sl.getD ((hashW word + d') % sl.length) zSl).f2 ≠ 0 ∧ slotW ar (sl.getD ((hashW word + d') % sl.length) zSl) ≠ word) (c : Nat) (h1 : 1 ≤ c) (h2 : c ≤ 4611686018427387904) (hroom : L.length < room) (hsm : word.size ≤ 1048576) :
    TabR room (ar ++ bytesI word) (sl.set p ⟨(ar.length : Int), ((ar.length + word.size : Nat) : Int), (c : Int)⟩) (putL L (Utf.nats word) c) ∧ (putL L (Utf.nats word) c).length = L.length + 1 := by
  have hp2 : p < 2 * room := by rw [← h.len]; exact hp
  have hct : ctOf ar sl p = none := by
    unfold ctOf
    rw [if_pos hz]
  have hslq : ∀ q, (sl.getD q zSl).f2 ≠ 0 → SlOk ar (sl.getD q zSl) := fun q hq => by
    by_cases hql : q < sl.length
    · rw [List.getD_eq_getElem?_getD, List.getElem?_eq_getElem hql]
      exact (h.ok _ (List.getElem_mem hql)).1
    · exact absurd (by rw [List.getD_eq_getElem?_getD, List.getElem?_eq_none (by omega)]; rfl) hq
  have hup : ctOf (ar ++ bytesI word) (sl.set p ⟨(ar.length : Int), ((ar.length + word.size : Nat) : Int), (c : Int)⟩) = TI.upd (ctOf ar sl) p (Utf.nats word, c) := by
    funext q
    unfold ctOf TI.upd
    rw [getD_set sl p q _ hp]
    by_cases hq : q = p
    · rw [if_pos hq, if_pos hq, if_neg (show (c : Int) ≠ 0 by omega)]
      have e : slotW (ar ++ bytesI word) ⟨(ar.length : Int), ((ar.length + word.size : Nat) : Int), (c : Int)⟩ = word := by
        unfold slotW
        show strOfNums (cutA (ar ++ bytesI word) ((ar.length : Int)).toNat (((ar.length + word.size : Nat) : Int)).toNat) = word
        rw [Int.toNat_natCast, Int.toNat_natCast, ← bytesI_len word, cut_new, bytesI_str]
      rw [e]; rfl
    · rw [if_neg hq, if_neg hq]
      show _ = if (sl.getD q zSl).f2 = 0 then none else some (Utf.nats (slotW ar (sl.getD q zSl)), (sl.getD q zSl).f2.toNat)
      by_cases hq2 : (sl.getD q zSl).f2 = 0
      · rw [if_pos hq2, if_pos hq2]
      · rw [if_neg hq2, if_neg hq2, slotW_old (hslq q hq2) hq2]
  have hpa := past_ct h.len word d hpast
  have hab := h.ti.absent (Utf.nats word) d hpa (by show ctOf ar sl ((hashW word + d) % (2 * room)) = none; rw [← h.len, hpd]; exact hct)
  have ht := h.ti.put hp2 (Utf.nats word) c d hpa (by rw [← h.len]; exact hpd) (Or.inr ⟨hct, by have := h.lo; omega⟩)
  have hlp : (putL L (Utf.nats word) c).length = L.length + 1 := by
    rw [len_put L _ _ h.ti.sorted, if_neg]
    rintro ⟨e, he, h3⟩
    exact hab e he h3
  refine ⟨⟨h.lo, h.hi, by rw [List.length_set]; exact h.len, by rw [hlp]; omega, fun x hx => ?_, by rw [List.length_append, bytesI_len, hlp]; have := h.small; omega, fun s hs => ?_, by rw [hup]; exact ht⟩, hlp⟩
  · rcases List.mem_append.1 hx with hx | hx
    · exact h.byt x hx
    · unfold bytesI at hx
      obtain ⟨n, hn, rfl⟩ := List.mem_map.1 hx
      have := Utf.nats_lt word n hn
      show 0 ≤ (n : Int) ∧ (n : Int) < 256
      omega
  · rcases List.mem_or_eq_of_mem_set hs with h3 | h3
    · obtain ⟨q1, q2, q3⟩ := h.ok s h3
      refine ⟨?_, q2, q3⟩
      rcases q1 with h4 | ⟨a, b, e0, e1, h5, h6⟩
      · exact Or.inl h4
      · exact Or.inr ⟨a, b, e0, e1, h5, by rw [List.length_append]; omega⟩
    · subst h3
      exact ⟨Or.inr ⟨ar.length, ar.length + word.size, rfl, rfl, Nat.le_add_right _ _, by rw [List.length_append, bytesI_len]; exact Nat.le_refl _⟩, by show (0 : Int) ≤ (c : Int); omega, by show (c : Int) ≤ 4611686018427387904; omega⟩
end Go.Proofs.Ytjjkibjpbfkpcaa.K

namespace Go.Proofs.Ytjjkibjpbfkpcaa.K
open Go.RowKit Go.Proofs.YtjjkibjpbfkpcaaW.PrintWords Go.Proofs.YtjjkibjpbfkpcaaW.PrintLast Go.Proofs.YtjjkibjpbfkpcaaW.PrintMore Go.Proofs.Ytjjkibjpbfkpcaa
attribute [local go_sem] max2_int min2_int max_two min_two max_three min_three max_four min_four
set_option linter.unusedVariables false
set_option linter.unusedSimpArgs false
open Go.Proofs.Ytjjkibjpbfkpcaa.PTb Go.Proofs.Ytjjkibjpbfkpcaa.Tab
/-- What Add does to the list. -/
def addL (L : List En) (room : Nat) (w : Wd) (n : Nat) : List En × Int :=
  if w = [] ∨ n = 0 then (L, 1) else if 4611686018427387904 < getL L w + n then (L, 5) else if 0 < getL L w then (putL L w (getL L w + n), 0) else if L.length = room then (L, 6) else (putL L w n, 0)
set_option maxHeartbeats 4000000 in
set_option maxRecDepth 100000 in
theorem add_none (base g room : Nat) (L : List En) (word : ByteArray) (n : Nat) (w : World) (h0 : Utf.nats word = [] ∨ n = 0) :
    Calls Try.prog 11 #[.pointer (some ⟨g, 0, none⟩), .string word, .int .u64 (n : Int)] w fun e w' => e = .returned (.int .i64 1) ∧ w' = w := by
  have hemp : Utf.nats word = [] → word.toList.isEmpty = true := fun h => by
    rw [ByteArray.toList_eq]
    unfold Utf.nats at h
    simpa using h
  by_cases he : word.toList.isEmpty = true
  · go_enter Try.func11, Try.ntmps11
    go_wp2
    go_ret
    exact ⟨rfl, rfl⟩
  · have hn : n = 0 := by
      rcases h0 with h | h
      · exact absurd (hemp h) he
      · exact h
    subst hn
    have he2 : word.toList.isEmpty = false := by simpa using he
    clear hemp h0 he
    go_enter Try.func11, Try.ntmps11
    go_wp2
    go_ret
    exact ⟨rfl, rfl⟩

theorem num_over {a n : Nat} (ha : a ≤ 4611686018427387904) (h : 4611686018427387904 < a + n) : num_Add.f (a : Int) (n : Int) = some (0, false) := by
  unfold num_Add.f
  have hw : IntKind.u64.wrap (4611686018427387904 - (a : Int)) = 4611686018427387904 - (a : Int) := by
    simp [IntKind.wrap, IntKind.signed, IntKind.bits]; omega
  rw [if_neg (by omega), hw, if_pos (by omega)]
set_option maxHeartbeats 4000000 in
set_option maxRecDepth 100000 in
theorem add_over (base g room : Nat) (F : Nat → Prop) (L : List En) (word : ByteArray) (n : Nat) (w : World) (h : TabF base g room F L w) (hwz : word.size ≤ 140737488355328) (hne : Utf.nats word ≠ []) (hn : n ≠ 0) (hov : 4611686018427387904 < getL L (Utf.nats word) + n) :
    Calls Try.prog 11 #[.pointer (some ⟨g, 0, none⟩), .string word, .int .u64 (n : Int)] w fun e w' => e = .returned (.int .i64 5) ∧ Below w.heap.size w w' := by
  obtain ⟨va, vs, ar, sl, h1, h2, h3, h4, h5⟩ := h
  have hsl : 0 < sl.length := by rw [h5.len]; have := h5.lo; omega
  have hslm : sl.length ≤ 1000000 := by rw [h5.len]; have := h5.hi; omega
  obtain ⟨Aa, ca, ea⟩ := Kd.R_slice h3
  subst ea
  obtain ⟨ad, cs, es⟩ := Kd.R_slice1 h4 hsl
  subst es
  obtain ⟨_, hca, hCa⟩ := Kd.R_reads' h3
  obtain ⟨_, hcs, hCs⟩ := Kd.R_reads' h4
  have hfind := find_k g _ _ Aa ca ar ad cs sl word w h1 hCa hca hCs (fun s hs => (h5.ok s hs).1) hsl hslm hwz (tab_free h5 word)
  have HF := Aside0.mk hfind; have HC := Aside0.mk hCs; have H5 := Aside0.mk h5
  have hemp : word.toList.isEmpty = false := by
    cases hh : word.toList with
    | nil => exact absurd (by rw [ByteArray.toList_eq] at hh; unfold Utf.nats; rw [hh]; rfl) hne
    | cons a l => rfl
  have hnb : ((n : Int) == 0) = false := beq_eq_false_iff_ne.2 (by omega)
  have HOV := Aside0.mk hov
  clear h1 h2 h3 h4 h5 hfind hCa hCs hca hcs hne hov hn
  go_enter Try.func11, Try.ntmps11
  go_wp2_with (first | (go_at_call 18; (with_reducible refine (HF.out).mono ?_)))
  rintro e w2 ⟨p, d, rfl, hp, hpd, he, hpast, hb⟩
  obtain ⟨ad2, cc, e0, _, hK, hcc⟩ := Kd.C_get (Kd.C_below HC.out hb) zSl (p : Int) (by omega) (by omega)
  cases e0
  rw [Int.toNat_natCast] at hK hcc
  have hg := find_get H5.out word p d hp hpd he hpast
  have hle := (H5.out.ok (sl.getD p zSl) (by rw [List.getD_eq_getElem?_getD, List.getElem?_eq_getElem hp]; exact List.getElem_mem hp)).2.2
  clear he hpast hpd
  generalize sl.getD p zSl = s at hK hg hle
  rw [hg] at hle
  have hadd := num_over (a := getL L (Utf.nats word)) (n := n) (by omega) HOV.out
  rw [← hg] at hadd
  have HADD := Aside0.mk hadd
  obtain rfl := kSl_open hK
  have q2 : w2.cell? ⟨(ad.add (p * 3)).block, (ad.add (p * 3)).off + 2, none⟩ = some (.int .u64 s.f2) := by rw [← add_field _ _ 2 (by omega)]; exact hcc 2 _ rfl
  have HB := Aside0.mk hb
  clear hK hcc hg hb hle hadd
  go_wp2_with (first | (go_at_call 19; (with_reducible refine (num_Add.calls s.f2 (n : Int) 0 false w2 HADD.out).mono ?_)))
  rintro e w3 ⟨rfl, hdr⟩
  have HB3 := Aside0.mk (HB.out.trans (hdr.below.mono HB.out.size))
  clear hdr
  go_wp2
  go_ret
  exact ⟨rfl, HB3.out⟩

theorem num_fits {a n : Nat} (h : a + n ≤ 4611686018427387904) : num_Add.f (a : Int) (n : Int) = some (((a + n : Nat) : Int), true) := by
  unfold num_Add.f
  have hw : IntKind.u64.wrap (4611686018427387904 - (a : Int)) = 4611686018427387904 - (a : Int) := by
    simp [IntKind.wrap, IntKind.signed, IntKind.bits]; omega
  have hw2 : IntKind.u64.wrap ((a : Int) + (n : Int)) = ((a + n : Nat) : Int) := by
    simp [IntKind.wrap, IntKind.signed, IntKind.bits]; omega
  rw [if_neg (by omega), hw, if_neg (by omega), hw2]
end Go.Proofs.Ytjjkibjpbfkpcaa.K

namespace Go.Proofs.Ytjjkibjpbfkpcaa.K
open Go.RowKit Go.Proofs.YtjjkibjpbfkpcaaW.PrintWords Go.Proofs.YtjjkibjpbfkpcaaW.PrintLast Go.Proofs.YtjjkibjpbfkpcaaW.PrintMore Go.Proofs.Ytjjkibjpbfkpcaa
attribute [local go_sem] max2_int min2_int max_two min_two max_three min_three max_four min_four
set_option linter.unusedVariables false
set_option linter.unusedSimpArgs false
open Go.Proofs.Ytjjkibjpbfkpcaa.PTb Go.Proofs.Ytjjkibjpbfkpcaa.Tab
theorem tab_open {base g room : Nat} {F : Nat → Prop} {L : List En} {w : World} (h : TabF base g room F L w) : ∃ (Aa : Option Addr) (ca : Nat) (ar : List Int) (gs cs : Nat) (sl : List Sl),
    w.heap[g]? = some (.cells #[.int .i64 (room : Int), .int .i64 (L.length : Int), .slice Aa ar.length ca, .slice (some ⟨gs, 0, none⟩) sl.length cs] 51 (0, 0)) ∧ base ≤ g ∧ base ≤ gs ∧ gs ≠ g ∧
    Kd.R (Kd.int .u8) 5 w base (fun k => k ≠ g ∧ F k) (.slice Aa ar.length ca) ar ∧ Kd.R kSl 57 w base (fun k => k ≠ g ∧ F k) (.slice (some ⟨gs, 0, none⟩) sl.length cs) sl ∧ TabR room ar sl L ∧ 0 < sl.length ∧ sl.length ≤ 1000000 ∧ F g ∧ F gs := by
  obtain ⟨va, vs, ar, sl, h1, h2, h3, h4, h5⟩ := h
  have hsl : 0 < sl.length := by rw [h5.len]; have := h5.lo; omega
  have hslm : sl.length ≤ 1000000 := by rw [h5.len]; have := h5.hi; omega
  obtain ⟨Aa, ca, ea⟩ := Kd.R_slice h3
  subst ea
  obtain ⟨gs, cs, es, hgs, _, _⟩ := Kd.R_form h4 hsl
  subst es
  exact ⟨Aa, ca, ar, gs, cs, sl, h1, h2.1, hgs, (h4.1 gs rfl).1, h3, h4, h5, hsl, hslm, h2.2, (h4.1 gs rfl).2⟩
theorem u8_ne : ∀ q, q ∈ 5 :: (Kd.int .u8).E → q ≠ 57 := fun q hq => by
  rcases List.mem_cons.1 hq with rfl | hq
  · decide
  · have : q ∈ ([] : List Nat) := hq
    cases this
theorem ne_emp {word : ByteArray} (hne : Utf.nats word ≠ []) : word.toList.isEmpty = false := by
  cases hh : word.toList with
  | nil => exact absurd (by rw [ByteArray.toList_eq] at hh; unfold Utf.nats; rw [hh]; rfl) hne
  | cons a l => rfl
/-- The slot p stored anew: its count alone. -/
theorem slots_cnt {w : World} {base gs cs : Nat} {ok : Nat → Prop} {sl : List Sl} (h : Kd.R kSl 57 w base ok (.slice (some ⟨gs, 0, none⟩) sl.length cs) sl) {p : Nat} (hp : p < sl.length) {s : Sl} (hs : sl.getD p zSl = s)
    (hcc : ∀ j u, ([.int .i64 s.f0, .int .i64 s.f1, .int .u64 s.f2] : List Value)[j]? = some u → w.cell? ((⟨gs, 0, none⟩ : Addr).add (p * 3 + j)) = some u) (c : Int) :
    Kd.R kSl 57 (w.setCell ⟨gs, p * 3 + 2, none⟩ (.int .u64 c)) base ok (.slice (some ⟨gs, 0, none⟩) sl.length cs) (sl.set p ⟨s.f0, s.f1, c⟩) := by
  have hq := (Kd.R_seg h (p : Int) (by omega) (by omega) (c := [.int .i64 s.f0, .int .i64 s.f1, .int .u64 s.f2]) (seg := [.int .u64 c]) (j := 2) rfl (fun j u hj => by have := hcc j u hj; rw [add_plain] at this; rw [Int.toNat_natCast]; exact this) (by exact Nat.le_refl 3) (x' := ⟨s.f0, s.f1, c⟩) (okp := fun _ => False) (kSl_mkM _ _ _ _) (fun _ hk => hk.elim)).1
  rw [Int.toNat_natCast] at hq
  exact hq
/-- The slot p stored anew, all of it. -/
theorem slots_all {w : World} {base gs cs : Nat} {ok : Nat → Prop} {sl : List Sl} (h : Kd.R kSl 57 w base ok (.slice (some ⟨gs, 0, none⟩) sl.length cs) sl) {p : Nat} (hp : p < sl.length) {s : Sl} (hs : sl.getD p zSl = s)
    (hcc : ∀ j u, ([.int .i64 s.f0, .int .i64 s.f1, .int .u64 s.f2] : List Value)[j]? = some u → w.cell? ((⟨gs, 0, none⟩ : Addr).add (p * 3 + j)) = some u) (a b c : Int) :
    Kd.R kSl 57 (w.setCells gs (p * 3) [.int .i64 a, .int .i64 b, .int .u64 c]) base ok (.slice (some ⟨gs, 0, none⟩) sl.length cs) (sl.set p ⟨a, b, c⟩) := by
  have hq := (Kd.R_seg h (p : Int) (by omega) (by omega) (c := [.int .i64 s.f0, .int .i64 s.f1, .int .u64 s.f2]) (seg := [.int .i64 a, .int .i64 b, .int .u64 c]) (j := 0) rfl (fun j u hj => by have := hcc j u hj; rw [add_plain] at this; rw [Int.toNat_natCast]; exact this) (by exact Nat.le_refl 3) (x' := ⟨a, b, c⟩) (okp := fun _ => False) (kSl_mkM _ _ _ _) (fun _ hk => hk.elim)).1
  rw [Int.toNat_natCast] at hq
  exact hq
theorem cells_below {w w1 : World} (hb : Below w.heap.size w w1) {f : Nat → Addr} (cs : List Value) (h : ∀ (j : Nat) (u : Value), cs[j]? = some u → w.cell? (f j) = some u) : ∀ (j : Nat) (u : Value), cs[j]? = some u → w1.cell? (f j) = some u := fun j u hj => pw_cell_below hb (h j u hj)
set_option maxHeartbeats 4000000 in
set_option maxRecDepth 100000 in
theorem add_set (base g room : Nat) (F : Nat → Prop) (L : List En) (word : ByteArray) (n : Nat) (w : World) (h : TabF base g room F L w) (hwz : word.size ≤ 1048576) (hne : Utf.nats word ≠ []) (hn : n ≠ 0) (hov : getL L (Utf.nats word) + n ≤ 4611686018427387904) (hpos : 0 < getL L (Utf.nats word)) :
    Calls Try.prog 11 #[.pointer (some ⟨g, 0, none⟩), .string word, .int .u64 (n : Int)] w fun e w' => e = .returned (.int .i64 0) ∧ TabF base g room F (putL L (Utf.nats word) (getL L (Utf.nats word) + n)) w' ∧ Below base w w' ∧ Kept w w' F := by
  obtain ⟨Aa, ca, ar, gs, cs, sl, h1, hbg, hbs, hgs, h3, h4, h5, hsl, hslm, hfg, hfs⟩ := tab_open h
  obtain ⟨_, hca, hCa⟩ := Kd.R_reads' h3
  obtain ⟨_, hcs, hCs⟩ := Kd.R_reads' h4
  have hfind := find_k g _ _ Aa ca ar ⟨gs, 0, none⟩ cs sl word w h1 hCa hca hCs (fun s hs => (h5.ok s hs).1) hsl hslm (by omega) (tab_free h5 word)
  have HF := Aside0.mk hfind; have HC := Aside0.mk hCs; have H5 := Aside0.mk h5; have H1 := Aside0.mk h1; have H3 := Aside0.mk h3; have H4 := Aside0.mk h4
  have HBG := Aside0.mk (And.intro hbg (And.intro hbs hgs)); have HFF := Aside0.mk (And.intro hfg hfs)
  have hsz : base ≤ w.heap.size := by have := Kd.R_lt h4 gs rfl; omega
  have HSZ := Aside0.mk hsz
  have hemp := ne_emp hne
  have hnb : ((n : Int) == 0) = false := beq_eq_false_iff_ne.2 (by omega)
  have HOV := Aside0.mk (And.intro hov hpos)
  clear h h1 h3 h4 h5 hfind hCa hCs hca hcs hne hov hn hpos hbg hbs hgs hsl hslm hwz hsz hfg hfs
  go_enter Try.func11, Try.ntmps11
  go_wp2_with (first | (go_at_call 18; (with_reducible refine (HF.out).mono ?_)))
  rintro e w2 ⟨p, d, rfl, hp, hpd, he, hpast, hb⟩
  obtain ⟨ad2, cc, e0, _, hK, hcc⟩ := Kd.C_get (Kd.C_below HC.out hb) zSl (p : Int) (by omega) (by omega)
  cases e0
  rw [Int.toNat_natCast] at hK hcc
  have hg := find_get H5.out word p d hp hpd he hpast
  obtain ⟨s, hs⟩ : ∃ s, sl.getD p zSl = s := ⟨_, rfl⟩
  have hz : s.f2 ≠ 0 := by rw [← hs, hg]; have := HOV.out.2; omega
  have hw : slotW ar (sl.getD p zSl) = word := by
    rcases he with h | h
    · rw [hs] at h; exact absurd h hz
    · exact h
  have hset := tabR_set H5.out word p d hp hpd (by rw [hs]; exact hz) hw hpast (getL L (Utf.nats word) + n) (by have := HOV.out.2; omega) HOV.out.1
  have HSET := Aside0.mk hset
  have hadd := num_fits (a := getL L (Utf.nats word)) (n := n) HOV.out.1
  rw [← hg, hs] at hadd
  rw [hs] at hK
  obtain rfl := kSl_open hK
  have HCC := Aside0.mk hcc
  have HG := Aside0.mk hg; have HP := Aside0.mk hp; have HS := Aside0.mk hs
  have q2 : w2.cell? ⟨gs, p * 3 + 2, none⟩ = some (.int .u64 s.f2) := by have := hcc 2 _ rfl; rwa [add_plain] at this
  obtain ⟨m, hm⟩ : ∃ m, m = getL L (Utf.nats word) + n := ⟨_, rfl⟩
  rw [← hm] at hadd
  have HM := Aside0.mk hm
  have HADD := Aside0.mk hadd
  have HB := Aside0.mk hb
  clear hm
  have hzb : decide (s.f2 > 0) = true := decide_eq_true (by have := HOV.out.2; rw [hs] at hg; omega)
  rw [add_plain]
  clear hK hcc hg hb hadd hset hpast hpd he hw hz hs hp
  go_wp2_with (first | (go_at_call 19; (with_reducible refine (num_Add.calls s.f2 (n : Int) _ _ w2 HADD.out).mono ?_)))
  rintro e w3 ⟨rfl, hdr⟩
  have HB3 := Aside0.mk (HB.out.trans (hdr.below.mono HB.out.size))
  have q3 : w3.cell? ⟨gs, p * 3 + 2, none⟩ = some (.int .u64 s.f2) := by
    have := cells_below hdr.below _ HCC.out 2 _ rfl
    rwa [add_plain] at this
  have hR4 := Kd.R_below H4.out HB3.out
  obtain ⟨cells4, hc4⟩ := own_typed (Kd.R_own hR4).choose_spec gs rfl
  have hfz : w3.frozen? ⟨gs, p * 3 + 2, none⟩ = false := blk_frozen hc4 _
  have HR4 := Aside0.mk hR4; have HC4 := Aside0.mk hc4
  have HC3 := Aside0.mk (cells_below hdr.below _ HCC.out)
  clear q2 hdr hR4 hc4
  go_wp2
  go_ret
  have hbut : ∀ k, k ≠ gs → (w3.setCell ⟨gs, p * 3 + 2, none⟩ (.int .u64 (m : Int))).heap[k]? = w3.heap[k]? := fun k hk => Below.heap_setCell _ _ _ _ hk
  have hl := HSET.out.2
  rw [← HM.out] at hl
  refine ⟨rfl, ⟨_, _, ar, sl.set p ⟨s.f0, s.f1, (m : Int)⟩, ?_, ⟨HBG.out.1, HFF.out.1⟩, R_butg (Kd.R_below H3.out HB3.out) HC4.out u8_ne hbut, slots_cnt HR4.out HP.out HS.out HC3.out _, ?_⟩, ?_, (Kept.of_below HB3.out F).setCell (p := ⟨gs, p * 3 + 2, none⟩) (Or.inl HFF.out.2) _⟩
  · rw [hbut g (fun e => HBG.out.2.2 e.symm), ← HM.out, hl]
    exact blk_below H1.out HB3.out
  · have h6 := HSET.out.1
    rw [← HM.out, HS.out] at h6
    rw [← HM.out]
    exact h6
  · exact (HB3.out.mono HSZ.out).setCell (p := ⟨gs, p * 3 + 2, none⟩) HBG.out.2.1 _
end Go.Proofs.Ytjjkibjpbfkpcaa.K

namespace Go.Proofs.Ytjjkibjpbfkpcaa.K
open Go.RowKit Go.Proofs.YtjjkibjpbfkpcaaW.PrintWords Go.Proofs.YtjjkibjpbfkpcaaW.PrintLast Go.Proofs.YtjjkibjpbfkpcaaW.PrintMore Go.Proofs.Ytjjkibjpbfkpcaa
attribute [local go_sem] max2_int min2_int max_two min_two max_three min_three max_four min_four
set_option linter.unusedVariables false
set_option linter.unusedSimpArgs false
open Go.Lib
section
variable {P : Program}
theorem app_where {w : World} (base : Nat) (t u ty e : TypeId) (i : TypeInfo) (ht : P.underlying t = some (.slice e)) (hu : P.underlying u = some .string) (hi : P.info? e = some i) (hz : i.zero = some (.int .u8 0))
    (hsize : i.size = 1) (hby : i.bytes = 1) (v : Value) (n : Nat) (xs : List Value) (hown : w.ownsRow base e 1 v n xs) (s : ByteArray) (hbytes : n + s.size ≤ 140737488355328) {v' : Value} {w' : World}
    (hrun : (Builtin.append_ #[t, u] ty #[v, .string s]).run P w = .ok v' w') : ∀ k, v'.ownBlock = some k → v.ownBlock = some k ∨ w.heap.size ≤ k := by
  have hxl : xs.length = n := by simpa using hown.1
  rcases hown.2 with ⟨rfl, rfl⟩ | ⟨g, cap, cur, rfl, hbg, hg, hnc, hcm, hcs, htake⟩
  · by_cases hm : s.size = 0
    · have hf := run_firstCells_string (P := P) w 1 s
      rw [hm] at hf
      have hr : (Builtin.append_ #[t, u] ty #[.slice none 0 0, .string s]).run P w = .ok (.slice none 0 0) w := by
        simp [Builtin.append_, run_underlying ht, run_underlying hu, sizeOf, typeInfo, hi, hsize, Builtin.lenOf, hm, hf]
      rw [hr] at hrun
      injection hrun with h1 h2
      subst h1
      intro k hk
      simp [Value.ownBlock] at hk
    · have hr := run_append_nil_string (P := P) w t u ty e i (.int .u8 0) ht hu hi hz s (by omega) (by omega) (by rw [hby]; omega)
      rw [hr] at hrun
      injection hrun with h1 h2
      subst h1
      intro k hk
      have : w.heap.size = k := by simpa [Value.ownBlock] using hk
      exact Or.inr (by omega)
  · by_cases hroom : n + s.size ≤ cap
    · have hcs' : cur.size = cap := by simpa using hcs
      have hr := run_append_room_string (P := P) w t u ty e i ht hu hi hsize g n cap cur hg s hroom (by omega)
      rw [hr] at hrun
      injection hrun with h1 h2
      subst h1
      intro k hk
      exact Or.inl hk
    · have holds : ∀ j u, xs[j]? = some u → w.cell? ((⟨g, 0, none⟩ : Addr).add j) = some u := hown.cells (g := g) rfl
      have hr := run_append_grow_string (P := P) w t u ty e i (.int .u8 0) ht hu hi hz ⟨g, 0, none⟩ n cap xs (by rw [hsize]; simpa using hxl) holds s (by omega) (by omega) (by rw [hby]; exact growslice_fits (by omega) (by omega))
      rw [hr] at hrun
      injection hrun with h1 h2
      subst h1
      intro k hk
      have : w.heap.size = k := by simpa [Value.ownBlock] using hk
      exact Or.inr (by omega)
variable {ops : Array Oper} {rest : List Oper} {o : Oper} {a : Act} {Q : Exit → Act → World → Prop}
theorem append_str_at {w0 W : World} (base : Nat) (hgd : o.guard = none) (s x : Operand) (t u e : TypeId)
    (ho : o.op = .call { callee := .builtin .append, args := #[s, x], argTypes := #[t, u] })
    (ht : P.underlying t = some (.slice e)) (hu : P.underlying u = some .string) (hinfo : (P.info? e).map (fun i => (i.zero, i.size, i.bytes)) = some (some (.int .u8 0), 1, 1))
    (v : Value) (xs : List Int) (y : ByteArray) (hs : a.eval s = v) (hx : a.eval x = .string y)
    (HO : W.ownsRow base e 1 v xs.length (nums .u8 xs)) (HB : Below base w0 W) (hbase : base ≤ W.heap.size) (hl : xs.length + y.size ≤ 140737488355328)
    (h : ∀ v1 w1, w1.ownsRow base e 1 v1 (xs ++ bytesOf y).length (nums .u8 (xs ++ bytesOf y)) → Below base w0 w1 → W.grownBy w1 v.ownBlock → (∀ k, v1.ownBlock = some k → v.ownBlock = some k ∨ W.heap.size ≤ k) → wpList P ops Q rest (a.put o.dst v1) w1) :
    wpList P ops Q (o :: rest) a W := by
  obtain ⟨i0, hi, hzz⟩ := Option.map_eq_some_iff.1 hinfo
  simp only [Prod.mk.injEq] at hzz
  obtain ⟨hz0, hz1, hz2⟩ := hzz
  refine wpList_plain hgd fun K hK => ?_
  obtain ⟨v', w', hr, h2, h3, h4⟩ := run_append_own_string (P := P) W base t u o.type e i0 ht hu hi hz0 hz1 hz2 v xs.length (nums .u8 xs) HO y (by simp only [maxLen]; omega) hl hbase
  have hwh := app_where (P := P) base t u o.type e i0 ht hu hi hz0 hz1 hz2 v xs.length (nums .u8 xs) HO y hl hr
  unfold Oper.wp execOp
  simp only [ho, resolve, invoke, builtin, Sem.run_bind, Sem.run_pure, Result.andThen_ok, List.map_toArray, List.map_cons, List.map_nil, hs, hx, hr]
  have hl2 : (xs ++ bytesOf y).length = xs.length + y.size := by rw [List.length_append, bytesOf_length]
  have hc : nums .u8 (xs ++ bytesOf y) = nums .u8 xs ++ Lib.strCells y := by
    rw [nums_append]
    congr 1
    simp [nums, bytesOf, Lib.strCells]
  exact hK _ _ (h v' w' (by rw [hl2, hc]; exact h2) (HB.grown h3 hbase (own_base HO)) h3 hwh)
end
end Go.Proofs.Ytjjkibjpbfkpcaa.K

