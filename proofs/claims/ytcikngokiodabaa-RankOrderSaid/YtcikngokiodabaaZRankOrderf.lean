/- RankOrder. (The texts that the proof is made of, one behind the other: part 6 of 6.) -/
import Derived.Test.YtcikngokiodabaaProg
import Derived.Below
import Derived.Deep.Draws
import Derived.Deep.AppendLies
import Derived.Maps.AppendAt
import Derived.OwnWalk
import Derived.Laws.BytesArg
import Derived.Laws.MakeOwn
import Derived.Laws.OwnMore
import Derived.Deep.OwnRows
import Derived.Tactics
import Derived.Lib.ConvBytes
import Derived.Laws.Slices
import Derived.WalkKit
import Derived.KernelRfl
import Derived.RowKit3
import Derived.Deep.LoopGhost
import Derived.Deep.QuietTactic
import Derived.BigQuiet
import Derived.WideLaws
import Derived.Deep.DeepCutAuto
import Derived.Deep.CutBlock
import Derived.Deep.RegionHeld3
import Derived.Laws.Rows
import Derived.Lib.AppendStr
import Derived.ArgAppend
import Derived.Laws.IdiomCopy
import Derived.OrdersHeld
import Derived.Laws.BitsLemmas
import Derived.RowKit
import Derived.Lib.OthersKept
import Derived.WalkSmall
import Derived.Deep.RegionLaw
import Derived.BigRegion
import Derived.Test.YtcikngokiodabaaRows
import Derived.ProofKit
import Derived.OpenShut
import Derived.ShutString
import Derived.ChangeOld
import Derived.SizedLaws
import Derived.Test.YtcikngokiodabaaZRankOrdera
import Derived.Test.YtcikngokiodabaaZRankOrderb
import Derived.Test.YtcikngokiodabaaZRankOrderc
import Derived.Test.YtcikngokiodabaaZRankOrderd
import Derived.Test.YtcikngokiodabaaZRankOrdere
namespace Go.Proofs.Ytcikngokiodabaa.K
open Go.RowKit Go.Proofs.YtcikngokiodabaaW.PrintWords Go.Proofs.YtcikngokiodabaaW.PrintLast Go.Proofs.YtcikngokiodabaaW.PrintMore Go.Proofs.Ytcikngokiodabaa
attribute [local go_sem] max2_int min2_int max_two min_two max_three min_three max_four min_four
set_option linter.unusedVariables false
set_option linter.unusedSimpArgs false
open Go Go.Proofs.Ytcikngokiodabaa.PR13 Go.Proofs.Ytcikngokiodabaa.PSh13
theorem u64_id {x : Int} (h0 : 0 ≤ x) (h1 : x < 18446744073709551616) : IntKind.u64.wrap x = x := by
  simp only [IntKind.wrap, IntKind.bits, IntKind.signed]
  simp
  omega
theorem w64_id {x : Int} (h0 : -9223372036854775808 ≤ x) (h1 : x < 9223372036854775808) : wrap64 x = x := by unfold wrap64; omega
def half (n : Nat) : Nat := if h : n = 0 then 0 else half (n / 2) + 1
termination_by n
decreasing_by omega
theorem half_zero : half 0 = 0 := by unfold half; simp
theorem half_pos {n : Nat} (h : n ≠ 0) : half n = half (n / 2) + 1 := by rw [half]; simp [h]
theorem half_le : ∀ (k n : Nat), n < 2 ^ k → half n ≤ k
  | 0, n, h => by have : n = 0 := by omega
                  subst this; rw [half_zero]; omega
  | k + 1, n, h => by
    by_cases h0 : n = 0
    · subst h0; rw [half_zero]; omega
    · rw [half_pos h0]
      have := half_le k (n / 2) (by rw [Nat.pow_succ] at h; omega)
      omega
theorem tdiv2 (n : Nat) : Int.tdiv (n : Int) 2 = ((n / 2 : Nat) : Int) := by
  rw [Int.tdiv_eq_ediv_of_nonneg (by omega)]; omega
theorem half_l0 : ∀ (n : Nat), n < 18446744073709551616 → ∀ m : Nat, m + half n ≤ 1000000 → Ev (fun k => rank_Half.l0 k (n : Int) (m : Int)) (((m + half n : Nat)) : Int) := fun n => by
  induction n using Nat.strongRecOn with
  | _ n ih =>
    intro hn m hm
    by_cases h0 : n = 0
    · subst h0
      rw [half_zero]
      refine Ev.step (fun k => ?_) (Ev.now _)
      simp only [rank_Half.l0]
      rw [if_neg (by omega)]
      rfl
    · rw [half_pos h0] at hm ⊢
      have h1 := ih (n / 2) (by omega) (by omega) (m + 1) (by omega)
      rw [show m + (half (n / 2) + 1) = m + 1 + half (n / 2) by omega]
      refine Ev.step (fun k => ?_) h1
      simp only [rank_Half.l0]
      rw [if_pos (by omega), tdiv2, u64_id (by omega) (by omega), w64_id (by omega) (by omega)]
      rfl
theorem half_f (n : Nat) (hn : n < 18446744073709551616) : Ev (fun k => rank_Half.f k (n : Int)) ((half n : Nat) : Int) := by
  have hb := half_le 64 n (by omega)
  have h := half_l0 n hn 0 (by omega)
  rw [Nat.zero_add] at h
  exact h
def ent (c : Int) : S35 := ⟨⟨#[97]⟩, c⟩
def cntE (l : List Int) : List S35 := (l.take 400).map ent
theorem rd_at (l : List Int) (i : Nat) (h : i < l.length) : rd l (i : Int) = l[i] := by
  unfold rd
  rw [Int.toNat_natCast, List.getD_eq_getElem?_getD, List.getElem?_eq_getElem h]; rfl
theorem counts_l0 (l : List Int) (hl : l.length ≤ 4611686018427387904) : ∀ (d i : Nat), i + d = min l.length 400 → Ev (fun k => manteletlaw13_counts.l0 k l ((l.take i).map ent) (i : Int)) (cntE l)
  | 0, i, hd => by
    have e : (l.take i).map ent = cntE l := by
      unfold cntE
      by_cases h : l.length ≤ 400
      · rw [List.take_of_length_le (by omega), List.take_of_length_le (by omega)]
      · rw [show i = 400 by omega]
    rw [e]
    refine Ev.step (fun k => ?_) (Ev.now _)
    simp only [manteletlaw13_counts.l0]
    by_cases h : (i : Int) < (l.length : Int)
    · rw [if_pos h, if_neg (by omega)]
    · rw [if_neg h]
  | d + 1, i, hd => by
    have hi : i < l.length := by omega
    have ih := counts_l0 l hl d (i + 1) (by omega)
    refine Ev.step (fun k => ?_) ih
    simp only [manteletlaw13_counts.l0]
    rw [if_pos (by omega), if_pos (by omega), if_pos (by omega), if_pos (by rw [List.length_map, List.length_take]; omega), w64_id (by omega) (by omega), rd_at l i hi, List.take_add_one, List.getElem?_eq_getElem hi, List.map_append]
    rw [show ((i : Int) + 1) = ((i + 1 : Nat) : Int) by omega]
    rfl
theorem counts_f (l : List Int) (hl : l.length ≤ 4611686018427387904) : Ev (fun k => manteletlaw13_counts.f k l) (cntE l) := counts_l0 l hl (min l.length 400) 0 (by omega)
theorem cntE_f1 (l : List Int) : (cntE l).map S35.f1 = l.take 400 := by
  unfold cntE; rw [List.map_map]; exact List.map_id _
theorem cntE_len (l : List Int) : (cntE l).length = min l.length 400 := by unfold cntE; rw [List.length_map, List.length_take]; omega
theorem ok_cntE (l : List Int) (h : ∀ x ∈ l, (Lit.int .u64 x).wf = true) : okE (cntE l) = true := by
  unfold okE
  rw [Bool.and_eq_true, List.all_eq_true]
  refine ⟨decide_eq_true (by rw [cntE_len]; omega), fun x hx => ?_⟩
  unfold cntE at hx
  obtain ⟨c, hc, rfl⟩ := List.mem_map.1 hx
  exact h c (List.mem_of_mem_take hc)
theorem classes_cntE (l : List Int) (h : ∀ x ∈ l, (Lit.int .u64 x).wf = true) : rank_Classes.f (cntE l) = some ((l.take 400).map (cls (l.take 400))) := by
  unfold rank_Classes.f
  rw [if_pos (ok_cntE l h)]
  unfold classesL
  rw [cntE_f1]
  congr 1
  unfold cntE
  rw [List.map_map]; rfl
theorem ints_l0 (a b : List Int) (hl : a.length = b.length) (hb : a.length ≤ 4611686018427387904) : ∀ (d i : Nat), i + d = a.length → a.take i = b.take i → Ev (fun k => manteletref13_Ints.l0 k a b (i : Int)) (decide (a = b))
  | 0, i, hd, he => by
    have e : a = b := by rwa [List.take_of_length_le (by omega), List.take_of_length_le (by omega)] at he
    rw [decide_eq_true e]
    refine Ev.step (fun k => ?_) (Ev.now _)
    simp only [manteletref13_Ints.l0]
    rw [if_neg (by omega)]
  | d + 1, i, hd, he => by
    have hi : i < a.length := by omega
    have hi2 : i < b.length := by omega
    by_cases hq : a[i] = b[i]
    · have ih := ints_l0 a b hl hb d (i + 1) (by omega) (by rw [List.take_add_one, List.take_add_one, he, List.getElem?_eq_getElem hi, List.getElem?_eq_getElem hi2, hq])
      refine Ev.step (fun k => ?_) ih
      simp only [manteletref13_Ints.l0]
      rw [if_pos (by omega), if_pos (by omega), if_pos (by omega), rd_at a i hi, rd_at b i hi2, if_pos hq, w64_id (by omega) (by omega)]
      rfl
    · have e : a ≠ b := fun e => hq (by subst e; rfl)
      rw [decide_eq_false e]
      refine Ev.step (fun k => ?_) (Ev.now _)
      simp only [manteletref13_Ints.l0]
      rw [if_pos (by omega), if_pos (by omega), if_pos (by omega), rd_at a i hi, rd_at b i hi2, if_neg hq]
theorem ints_f (a b : List Int) (hb : a.length ≤ 4611686018427387904) : Ev (fun k => manteletref13_Ints.f k a b) (decide (a = b)) := by
  unfold manteletref13_Ints.f
  by_cases hl : a.length = b.length
  · refine Ev.congr (fun k => ?_) (ints_l0 a b hl hb a.length 0 (by omega) rfl)
    rw [if_pos (by omega)]; rfl
  · have e : a ≠ b := fun e => hl (by rw [e])
    rw [decide_eq_false e]
    refine Ev.congr (fun k => ?_) (Ev.now _)
    rw [if_neg (by omega)]
theorem shown13 : Ev manteletlaw13_shown.f true := by
  unfold manteletlaw13_shown.f
  refine Ev.bind (counts_f [5, 9, 5, 1] (by decide)) ?_
  rw [classes_cntE [5, 9, 5, 1] (by decide)]
  have hc : ((([5, 9, 5, 1] : List Int).take 400).map (cls (([5, 9, 5, 1] : List Int).take 400))) = [1, 0, 1, 2] := by decide
  rw [hc]
  refine Ev.congr (fun k => Option.bind_some _ _) ?_
  refine Ev.bind (ints_f [1, 0, 1, 2] [1, 0, 1, 2] (by decide)) ?_
  have h2 : rank_Prune.f (cntE [5, 9, 5, 1]) 5 = some [ent 5, ent 9, ent 5] := by
    unfold rank_Prune.f
    rw [if_pos (by decide)]
    rfl
  refine Ev.congr (fun k => if_pos (by decide)) ?_
  rw [h2]
  refine Ev.congr (fun k => Option.bind_some _ _) ?_
  refine Ev.congr (fun k => if_pos (by decide)) ?_
  refine Ev.bind (half_f 9 (by decide)) ?_
  have h3 : half 9 = 4 := by
    rw [half_pos (by decide), half_pos (by decide), half_pos (by decide), half_pos (by decide), half_zero]
  rw [h3]
  exact Ev.now _
end Go.Proofs.Ytcikngokiodabaa.K

namespace Go.Proofs.Ytcikngokiodabaa.K
open Go.RowKit Go.Proofs.YtcikngokiodabaaW.PrintWords Go.Proofs.YtcikngokiodabaaW.PrintLast Go.Proofs.YtcikngokiodabaaW.PrintMore Go.Proofs.Ytcikngokiodabaa
attribute [local go_sem] max2_int min2_int max_two min_two max_three min_three max_four min_four
set_option linter.unusedVariables false
set_option linter.unusedSimpArgs false
open Go
theorem countP_lt {α : Type} (p q : α → Bool) : ∀ (l : List α), (∀ x ∈ l, p x = true → q x = true) → (∃ x ∈ l, q x = true ∧ p x = false) → l.countP p < l.countP q
  | [], _, h => by obtain ⟨x, hx, _⟩ := h; cases hx
  | y :: l, hi, h => by
    have hmono : l.countP p ≤ l.countP q := List.countP_mono_left (fun x hx hp => hi x (List.mem_cons_of_mem _ hx) hp)
    obtain ⟨x, hx, hq, hp⟩ := h
    rcases List.mem_cons.1 hx with rfl | hx
    · rw [List.countP_cons_of_pos hq, List.countP_cons_of_neg (by rw [hp]; decide)]; omega
    · have ih := countP_lt p q l (fun x hx hp => hi x (List.mem_cons_of_mem _ hx) hp) ⟨x, hx, hq, hp⟩
      have hy := hi y List.mem_cons_self
      by_cases h1 : p y = true
      · rw [List.countP_cons_of_pos h1, List.countP_cons_of_pos (hy h1)]; omega
      · rw [List.countP_cons_of_neg h1]
        have : l.countP q ≤ (y :: l).countP q := by
          rw [List.countP_cons]; omega
        omega
theorem abv_anti (cs : List Int) {x y : Int} (h : x ≤ y) : abv cs y ≤ abv cs x := by
  unfold abv
  refine List.countP_mono_left (fun z _ hz => ?_)
  have := of_decide_eq_true hz
  exact decide_eq_true (by omega)
theorem abv_lt (cs : List Int) {x y : Int} (h : x < y) (hy : y ∈ cs) : abv cs y < abv cs x := by
  unfold abv
  refine countP_lt _ _ _ (fun z _ hz => ?_) ⟨y, (mem_dist y cs).2 hy, decide_eq_true h, decide_eq_false (by omega)⟩
  have := of_decide_eq_true hz
  exact decide_eq_true (by omega)
theorem dist_len (cs : List Int) : (dist cs).length ≤ cs.length := by
  induction cs using snoc_ind with
  | h0 => simp [dist]
  | hs l y ih =>
    rw [dist_snoc]
    by_cases h : y ∈ dist l
    · rw [if_pos h, List.length_append]; omega
    · rw [if_neg h, List.length_append, List.length_append]; simp; omega
theorem abv_len (cs : List Int) {x : Int} (h : x ∈ cs) : abv cs x < cs.length := by
  have h1 : abv cs x < (dist cs).countP (fun _ => true) := by
    unfold abv
    exact countP_lt _ _ _ (fun _ _ _ => rfl) ⟨x, (mem_dist x cs).2 h, rfl, decide_eq_false (by omega)⟩
  have h2 : (dist cs).countP (fun _ => true) ≤ (dist cs).length := List.countP_le_length
  have := dist_len cs
  omega
theorem has_max : ∀ (l : List Int), l ≠ [] → ∃ m ∈ l, ∀ y ∈ l, y ≤ m
  | [], h => absurd rfl h
  | [x], _ => ⟨x, List.mem_cons_self, fun y hy => by rw [List.mem_singleton.1 hy]; exact Int.le_refl _⟩
  | x :: z :: l, _ => by
    obtain ⟨m, hm, hy⟩ := has_max (z :: l) (by simp)
    by_cases h : x ≤ m
    · refine ⟨m, List.mem_cons_of_mem _ hm, fun y hh => ?_⟩
      rcases List.mem_cons.1 hh with rfl | hh
      · exact h
      · exact hy y hh
    · refine ⟨x, List.mem_cons_self, fun y hh => ?_⟩
      rcases List.mem_cons.1 hh with rfl | hh
      · exact Int.le_refl _
      · have := hy y hh; omega
theorem abv_max (cs : List Int) (m : Int) (h : ∀ y ∈ cs, y ≤ m) : abv cs m = 0 := by
  unfold abv
  rw [List.countP_eq_zero]
  intro y hy
  have := h y ((mem_dist y cs).1 hy)
  simp; omega
theorem cls_le (cs : List Int) {x y : Int} (h : x ≤ y) : cls cs y ≤ cls cs x := by
  have := abv_anti cs h
  unfold cls
  split <;> split <;> omega
theorem cls_ne (cs : List Int) {x y : Int} (h : x < y) (hy : y ∈ cs) (hx : x ∈ cs) (hl : cs.length ≤ 256) : cls cs y ≠ cls cs x := by
  have h1 := abv_lt cs h hy
  have h2 := abv_len cs hx
  unfold cls
  rw [if_neg (by omega), if_neg (by omega)]
  omega
theorem cls_nonneg (cs : List Int) (x : Int) : 0 ≤ cls cs x := by unfold cls; split <;> omega
theorem cls_le255 (cs : List Int) (x : Int) : cls cs x ≤ 255 := by unfold cls; split <;> omega
theorem cls_zero (cs : List Int) (h : cs ≠ []) : ∃ m ∈ cs, cls cs m = 0 := by
  obtain ⟨m, hm, hy⟩ := has_max cs h
  refine ⟨m, hm, ?_⟩
  unfold cls
  rw [abv_max cs m hy]; rfl
end Go.Proofs.Ytcikngokiodabaa.K

namespace Go.Proofs.Ytcikngokiodabaa.Pure
open Go.RowKit Go.Proofs.Ytcikngokiodabaa.PRankOrder Go.Proofs.YtcikngokiodabaaW.PrintWords Go.Proofs.YtcikngokiodabaaW.PrintLast Go.Proofs.Ytcikngokiodabaa.K Go.Proofs.Ytcikngokiodabaa.PR13 Go.Proofs.Ytcikngokiodabaa.PSh13
set_option linter.unusedSimpArgs false
set_option linter.unusedVariables false
/-- Rows of counts and of classes, of which the law holds. -/
structure Ord (x4 : List S35) (x5 : List Int) (n : Nat) (A C : Nat → Int) : Prop where
  l4 : x4.length = n
  l5 : x5.length = n
  n400 : n ≤ 400
  hA : ∀ i, i < n → (rd_T35 x4 (i : Int)).f1 = A i
  hC : ∀ i, i < n → rd x5 (i : Int) = C i
  le : ∀ i j, i < n → j < n → A i > A j → ¬ C i > C j
  ne : ∀ i j, i < n → j < n → A i > A j → n ≤ 256 → C i ≠ C j
  eq : ∀ i j, i < n → j < n → A i = A j → C i = C j
  lo : ∀ i, i < n → 0 ≤ C i
  hi : ∀ i, i < n → C i ≤ 255
theorem ord_l1 {x4 : List S35} {x5 : List Int} {n : Nat} {A C : Nat → Int} (h : Ord x4 x5 n A C) (b : Bool) (i : Nat) (hin : i < n) {r : Bool} (hn : Ev (fun k => manteletlaw13_RankOrder.l0 k true x4 x5 b ((i + 1 : Nat) : Int)) r) :
    ∀ (d j : Nat), j + d = n → Ev (fun k => manteletlaw13_RankOrder.l1 k true x4 x5 b (i : Int) (j : Int)) r
  | 0, j, hd => by
    have h4 := h.l4; have h5 := h.l5; have h6 := h.n400
    have h7 := h.lo i hin; have h8 := h.hi i hin
    refine Ev.step (fun k => ?_) hn
    simp only [manteletlaw13_RankOrder.l1]
    rw [if_neg (by omega), if_pos (by omega), if_pos (by omega), h.hC i hin, if_neg (by omega), if_neg (by omega), w64_id (by omega) (by omega)]
    rfl
  | d + 1, j, hd => by
    have hj : j < n := by omega
    have ih := ord_l1 h b i hin hn d (j + 1) (by omega)
    have h4 := h.l4; have h5 := h.l5; have h6 := h.n400
    have hle := h.le i j hin hj; have hne := h.ne i j hin hj; have heq := h.eq i j hin hj
    refine Ev.step (fun k => ?_) ih
    simp only [manteletlaw13_RankOrder.l1]
    rw [if_pos (by omega), if_pos (by omega), if_pos (by omega), if_pos (by omega), h.hA i hin, h.hA j hj, h.hC i hin, h.hC j hj, w64_id (by omega) (by omega)]
    have e : ((j : Int) + 1) = ((j + 1 : Nat) : Int) := by omega
    rw [e]
    by_cases h1 : A i > A j
    · rw [if_pos h1, if_pos (by omega), if_pos (by omega), if_neg (hle h1)]
      by_cases h2 : (x4.length : Int) ≤ 256
      · rw [if_pos h2, if_neg (hne h1 (by omega)), if_neg (by omega)]
      · rw [if_neg h2, if_neg (by omega)]
    · rw [if_neg h1]
      by_cases h2 : A i = A j
      · rw [if_pos h2, if_pos (by omega), if_pos (by omega), if_pos (heq h2)]
      · rw [if_neg h2]
theorem ord_l0 {x4 : List S35} {x5 : List Int} {n : Nat} {A C : Nat → Int} (h : Ord x4 x5 n A C) :
    ∀ (d i : Nat) (b : Bool), i + d = n → (b = true ∨ ∃ j, i ≤ j ∧ j < n ∧ C j = 0) → Ev (fun k => manteletlaw13_RankOrder.l0 k true x4 x5 b (i : Int)) true
  | 0, i, b, hd, hz => by
    have h4 := h.l4
    have hb : b = true := by
      rcases hz with hz | ⟨j, h1, h2, _⟩
      · exact hz
      · omega
    subst hb
    refine Ev.step (fun k => ?_) (Ev.now _)
    simp only [manteletlaw13_RankOrder.l0]
    rw [if_neg (by omega), if_pos trivial]
  | d + 1, i, b, hd, hz => by
    have hi : i < n := by omega
    have h4 := h.l4; have h5 := h.l5
    have go : ∀ b' : Bool, (b' = true ∨ ∃ j, i + 1 ≤ j ∧ j < n ∧ C j = 0) → Ev (fun k => manteletlaw13_RankOrder.j1 k true x4 x5 b' (i : Int)) true := fun b' hb' => by
      have ih := ord_l0 h d (i + 1) b' (by omega) hb'
      have h1 := ord_l1 h b' i hi ih n 0 (by omega)
      exact Ev.step (fun k => by simp only [manteletlaw13_RankOrder.j1]; rfl) h1
    by_cases hb : b = true
    · subst hb
      refine Ev.step (fun k => ?_) (go true (Or.inl rfl))
      simp only [manteletlaw13_RankOrder.l0]
      rw [if_pos (by omega), if_pos trivial]
    · refine Ev.step (f := fun k => manteletlaw13_RankOrder.j1 k true x4 x5 (C i == 0) (i : Int)) (fun k => ?_) (go (C i == 0) ?_)
      · simp only [manteletlaw13_RankOrder.l0]
        rw [if_pos (by omega), if_neg hb, if_pos (by omega), if_pos (by omega), h.hC i hi]
      · rcases hz with hz | ⟨j, h1, h2, h3⟩
        · exact absurd hz hb
        · by_cases hj : j = i
          · subst hj; left; rw [h3]; rfl
          · exact Or.inr ⟨j, by omega, h2, h3⟩
theorem RankOrder : manteletlaw13_RankOrder.Pure := by
  intro l0 hl hb hw
  refine Ev.rounds (g := fun k => manteletlaw13_RankOrder.f k l0) (r := true) ?_
  unfold manteletlaw13_RankOrder.f
  refine Ev.bind shown13 ?_
  refine Ev.bind (counts_f l0 (by have := hb; omega)) ?_
  rw [classes_cntE l0 hw]
  refine Ev.congr (fun k => Option.bind_some _ _) ?_
  have hcl := cntE_len l0
  have htl : (l0.take 400).length = min l0.length 400 := by rw [List.length_take]; omega
  refine Ev.congr (fun k => if_pos (by rw [List.length_map]; omega)) ?_
  have hO : Ord (cntE l0) ((l0.take 400).map (cls (l0.take 400))) (min l0.length 400) (fun i => (l0.take 400).getD i 0) (fun i => cls (l0.take 400) ((l0.take 400).getD i 0)) := by
    have hmem : ∀ i, i < min l0.length 400 → (l0.take 400).getD i 0 ∈ l0.take 400 := fun i hi => by
      rw [List.getD_eq_getElem?_getD, List.getElem?_eq_getElem (by omega)]
      exact List.getElem_mem _
    refine ⟨hcl, by rw [List.length_map]; omega, by omega, fun i hi => ?_, fun i hi => ?_, fun i j hi hj hA => ?_, fun i j hi hj hA hn => ?_, fun i j hi hj hA => ?_, fun i hi => cls_nonneg _ _, fun i hi => cls_le255 _ _⟩
    · rw [rdE _ i (by omega)]
      unfold cntE
      rw [List.getElem_map, List.getD_eq_getElem?_getD, List.getElem?_eq_getElem (by omega)]
      rfl
    · rw [rd_at _ i (by rw [List.length_map]; omega), List.getElem_map, List.getD_eq_getElem?_getD, List.getElem?_eq_getElem (by omega)]
      rfl
    · have := cls_le (l0.take 400) (Int.le_of_lt hA)
      omega
    · exact cls_ne _ hA (hmem i hi) (hmem j hj) (by omega)
    · rw [hA]
  refine ord_l0 hO (min l0.length 400) 0 _ (by omega) ?_
  by_cases h0 : l0.length = 0
  · left
    rw [hcl, show min l0.length 400 = 0 by omega]; rfl
  · right
    obtain ⟨m, hm, hz⟩ := cls_zero (l0.take 400) (fun e => by rw [e] at htl; simp at htl; omega)
    obtain ⟨j, hj, rfl⟩ := List.mem_iff_getElem.1 hm
    refine ⟨j, Nat.zero_le _, by omega, ?_⟩
    rw [List.getD_eq_getElem?_getD, List.getElem?_eq_getElem hj]
    exact hz
end Go.Proofs.Ytcikngokiodabaa.Pure

namespace Go.Proofs.Ytcikngokiodabaa.rankOrder
open Go.ChangeShapes Go.WideShapes Go.ChangeAt Go.RowKit
open Go.ChangeMaps (open_string shut_string)
set_option linter.unusedVariables false
theorem own : ownKnob Try.prog.godebug = none := by kernel_rfl
theorem laidOut : laidOutB Try.prog = true := by kernel_rfl
def IsRow (k : IntKind) (w : World) (a : Option Addr) (len cap : Nat) (zs : List Int) : Prop :=
  (a = none ∧ len = 0 ∧ cap = 0 ∧ zs = []) ∨
  ∃ x, a = some x ∧ len ≤ cap ∧ cap ≤ maxLen ∧ zs.length = cap ∧ (∀ i, i < zs.length → w.cell? (x.add i) = some (.int k (zs.getD i 0))) ∧ ∀ n ∈ zs, (Lit.int k n).wf = true
set_option maxRecDepth 100000 in
theorem lifted (os : Os) (started : os.Started) (H : Type) (enc : TypeId × Value → H) :
    ReturnsInHanded {} Try.checked os 4 .any (Rows.rankOrderSpec.pre6 enc Try.prog Try.f4 Rows.rankOrderRow.domain false) (Rows.rankOrderSpec.post enc Try.prog Try.f4 false true false false) := by
  refine returnsInHanded_of_change_sized (C := Try.checked) own started (by kernel_rfl) Try.func4
    (ChangeSpec.witness6 (enc := enc) (C := Try.checked) false ⟨#[], #[.slice none 0 0], []⟩ 8 (by kernel_rfl) (by kernel_rfl) (by kernel_rfl) (by kernel_rfl)) ?_
  intro W base args ds gs before hval0 hW hcnd hsz0 _
  have hsz : (DataW.weightsEach Try.prog (Try.f4.params.toList ++ Rows.rankOrderSpec.plain.varTypes Try.prog) (ds ++ gs)).all (· ≤ reachBytes) = true := hsz0
  have hval : ∀ (j : Nat) t v, Try.f4.params[j]? = some t → args[j]? = some v → Value.okWide Try.prog W .any base t v := hval0
  have hW' := hW
  obtain ⟨p, q, hA0, hV, rfl, hfz, hnd⟩ := hW
  have hA : DataW.TrodAll enc Try.prog W 0 (fun _ => true) true Try.f4.params.toList args.toList ds p := hA0
  rw [Try.params4] at hA hval hsz
  obtain ⟨v0, vs0, d0, ds0, p0, q0, hargs, rfl, rfl, h0, r0⟩ := trodAll_cons hA
  obtain ⟨rfl, rfl, rfl⟩ := trodAll_nil r0
  obtain rfl : args = #[v0] := by cases args; simp_all
  obtain ⟨rfl, rfl⟩ := trodVars_none hV
  obtain ⟨a0, len0, cap0, rfl⟩ := okWide_slice Try.underlying32 (hval 0 32 v0 rfl rfl)
  have k0 := h0
  have lt0 : ∀ x ∈ p0, x.block < W.heap.size := by obtain ⟨m, hm⟩ := k0; exact DataW.trod_lt m _ _ _ hm
  obtain ⟨z0, w0⟩ : ∃ zs, IsRow .u64 W a0 len0 cap0 zs := by
    obtain ⟨fuel, hf⟩ := h0
    rcases open_ints Try.underlying32 Try.underlying23 (by kernel_rfl) hf with ⟨hcs, _⟩ | ⟨x, l, c, zs, hcs, _, hl, hm, hz, _, hcell, hwz⟩
    · simp [Value.cells] at hcs
      obtain ⟨rfl, rfl, rfl⟩ := hcs
      exact ⟨[], .inl ⟨rfl, rfl, rfl, rfl⟩⟩
    · simp [Value.cells] at hcs
      obtain ⟨rfl, rfl, rfl⟩ := hcs
      exact ⟨zs, .inr ⟨_, rfl, hl, hm, by simpa using hz, hcell, hwz⟩⟩
  have y0 : len0 * 8 ≤ 140737488351232 := Go.Proofs.YtcikngokiodabaaW.PrintWords.sized_ints hsz (j := 0) (t := 32) rfl rfl Try.underlying32 Try.underlying23 (by kernel_rfl) (by kernel_rfl) h0
  clear hA0 hval0 hsz0 hsz
  refine (PRankOrder.manteletlaw13_RankOrder.walk Pure.RankOrder a0 len0 cap0 z0 W w0 y0).mono fun e W' ⟨he, bel⟩ => ?_
  subst he
  exact ⟨_, rfl, _, _, _, [], _, [], hW', trodAll_mk1 (shut_bool Try.underlying4 _), (trodAll_cons_mk (Below.trod laidOut (by kernel_rfl) (of_decide_eq_true (by kernel_rfl)) k0 bel lt0) trodAll_mk0), rfl, bel.frame _, fun h => by cases h⟩
theorem over : Rows.rankOrderRow.holds Try.pinned (OpenSpec.ofChange Rows.rankOrderSpec) :=
  OpenClaim.holds_of_wide 4 Try.f4 rfl rfl rfl rfl rfl rfl rfl ⟨rfl, rfl, rfl, rfl, rfl⟩ rfl rfl rfl rfl rfl (by kernel_rfl) Try.func4 (by kernel_rfl)
    (of_decide_eq_true (by kernel_rfl)) (by unfold Func.isWrapper; first | (rw [if_pos (by decide +kernel)]; kernel_rfl) | (rw [if_neg (by decide +kernel)]; exact ⟨rfl, rfl⟩))
    (fun os started H enc _ => lifted os started H enc)
theorem proved : Rows.RankOrderSaid := over
#print axioms proved
end Go.Proofs.Ytcikngokiodabaa.rankOrder
namespace Go.Proofs.Ytcikngokiodabaa
/-- The row, under a short name, for the claim. -/
theorem rankOrder_holds : Rows.RankOrderSaid := rankOrder.proved
end Go.Proofs.Ytcikngokiodabaa

