/- RankMoves. (The texts that the proof is made of, one behind the other: part 6 of 6.) -/
import Derived.Test.YtcikngokiodabaaProg
import Derived.Below
import Derived.Deep.Draws
import Derived.Deep.AppendLies
import Derived.Maps.AppendAt
import Derived.OwnWalk
import Derived.Laws.BytesArg
import Derived.Laws.MakeOwn
import Derived.Laws.OwnMore
import Derived.Deep.OwnRows
import Derived.Tactics
import Derived.Lib.ConvBytes
import Derived.Laws.Slices
import Derived.WalkKit
import Derived.KernelRfl
import Derived.RowKit3
import Derived.Deep.LoopGhost
import Derived.Deep.QuietTactic
import Derived.BigQuiet
import Derived.WideLaws
import Derived.Deep.DeepCutAuto
import Derived.Deep.CutBlock
import Derived.Deep.RegionHeld3
import Derived.Laws.Rows
import Derived.Lib.AppendStr
import Derived.ArgAppend
import Derived.Laws.IdiomCopy
import Derived.OrdersHeld
import Derived.Laws.BitsLemmas
import Derived.RowKit
import Derived.Lib.OthersKept
import Derived.WalkSmall
import Derived.Deep.RegionLaw
import Derived.BigRegion
import Derived.Test.YtcikngokiodabaaRows
import Derived.ProofKit
import Derived.OpenShut
import Derived.ShutString
import Derived.ChangeOld
import Derived.SizedLaws
import Derived.Test.YtcikngokiodabaaZRankMovesa
import Derived.Test.YtcikngokiodabaaZRankMovesb
import Derived.Test.YtcikngokiodabaaZRankMovesc
import Derived.Test.YtcikngokiodabaaZRankMovesd
import Derived.Test.YtcikngokiodabaaZRankMovese
namespace Go.Proofs.Ytcikngokiodabaa.K
open Go.RowKit Go.Proofs.YtcikngokiodabaaW.PrintWords Go.Proofs.YtcikngokiodabaaW.PrintLast Go.Proofs.YtcikngokiodabaaW.PrintMore Go.Proofs.Ytcikngokiodabaa
attribute [local go_sem] max2_int min2_int max_two min_two max_three min_three max_four min_four
set_option linter.unusedVariables false
set_option linter.unusedSimpArgs false
open Go Go.Proofs.Ytcikngokiodabaa.PR13 Go.Proofs.Ytcikngokiodabaa.PSh13
theorem u64_id {x : Int} (h0 : 0 ≤ x) (h1 : x < 18446744073709551616) : IntKind.u64.wrap x = x := by
  simp only [IntKind.wrap, IntKind.bits, IntKind.signed]
  simp
  omega
theorem w64_id {x : Int} (h0 : -9223372036854775808 ≤ x) (h1 : x < 9223372036854775808) : wrap64 x = x := by unfold wrap64; omega
def half (n : Nat) : Nat := if h : n = 0 then 0 else half (n / 2) + 1
termination_by n
decreasing_by omega
theorem half_zero : half 0 = 0 := by unfold half; simp
theorem half_pos {n : Nat} (h : n ≠ 0) : half n = half (n / 2) + 1 := by rw [half]; simp [h]
theorem half_le : ∀ (k n : Nat), n < 2 ^ k → half n ≤ k
  | 0, n, h => by have : n = 0 := by omega
                  subst this; rw [half_zero]; omega
  | k + 1, n, h => by
    by_cases h0 : n = 0
    · subst h0; rw [half_zero]; omega
    · rw [half_pos h0]
      have := half_le k (n / 2) (by rw [Nat.pow_succ] at h; omega)
      omega
theorem tdiv2 (n : Nat) : Int.tdiv (n : Int) 2 = ((n / 2 : Nat) : Int) := by
  rw [Int.tdiv_eq_ediv_of_nonneg (by omega)]; omega
theorem half_l0 : ∀ (n : Nat), n < 18446744073709551616 → ∀ m : Nat, m + half n ≤ 1000000 → Ev (fun k => rank_Half.l0 k (n : Int) (m : Int)) (((m + half n : Nat)) : Int) := fun n => by
  induction n using Nat.strongRecOn with
  | _ n ih =>
    intro hn m hm
    by_cases h0 : n = 0
    · subst h0
      rw [half_zero]
      refine Ev.step (fun k => ?_) (Ev.now _)
      simp only [rank_Half.l0]
      rw [if_neg (by omega)]
      rfl
    · rw [half_pos h0] at hm ⊢
      have h1 := ih (n / 2) (by omega) (by omega) (m + 1) (by omega)
      rw [show m + (half (n / 2) + 1) = m + 1 + half (n / 2) by omega]
      refine Ev.step (fun k => ?_) h1
      simp only [rank_Half.l0]
      rw [if_pos (by omega), tdiv2, u64_id (by omega) (by omega), w64_id (by omega) (by omega)]
      rfl
theorem half_f (n : Nat) (hn : n < 18446744073709551616) : Ev (fun k => rank_Half.f k (n : Int)) ((half n : Nat) : Int) := by
  have hb := half_le 64 n (by omega)
  have h := half_l0 n hn 0 (by omega)
  rw [Nat.zero_add] at h
  exact h
def ent (c : Int) : S35 := ⟨⟨#[97]⟩, c⟩
def cntE (l : List Int) : List S35 := (l.take 400).map ent
theorem rd_at (l : List Int) (i : Nat) (h : i < l.length) : rd l (i : Int) = l[i] := by
  unfold rd
  rw [Int.toNat_natCast, List.getD_eq_getElem?_getD, List.getElem?_eq_getElem h]; rfl
theorem counts_l0 (l : List Int) (hl : l.length ≤ 4611686018427387904) : ∀ (d i : Nat), i + d = min l.length 400 → Ev (fun k => manteletlaw13_counts.l0 k l ((l.take i).map ent) (i : Int)) (cntE l)
  | 0, i, hd => by
    have e : (l.take i).map ent = cntE l := by
      unfold cntE
      by_cases h : l.length ≤ 400
      · rw [List.take_of_length_le (by omega), List.take_of_length_le (by omega)]
      · rw [show i = 400 by omega]
    rw [e]
    refine Ev.step (fun k => ?_) (Ev.now _)
    simp only [manteletlaw13_counts.l0]
    by_cases h : (i : Int) < (l.length : Int)
    · rw [if_pos h, if_neg (by omega)]
    · rw [if_neg h]
  | d + 1, i, hd => by
    have hi : i < l.length := by omega
    have ih := counts_l0 l hl d (i + 1) (by omega)
    refine Ev.step (fun k => ?_) ih
    simp only [manteletlaw13_counts.l0]
    rw [if_pos (by omega), if_pos (by omega), if_pos (by omega), if_pos (by rw [List.length_map, List.length_take]; omega), w64_id (by omega) (by omega), rd_at l i hi, List.take_add_one, List.getElem?_eq_getElem hi, List.map_append]
    rw [show ((i : Int) + 1) = ((i + 1 : Nat) : Int) by omega]
    rfl
theorem counts_f (l : List Int) (hl : l.length ≤ 4611686018427387904) : Ev (fun k => manteletlaw13_counts.f k l) (cntE l) := counts_l0 l hl (min l.length 400) 0 (by omega)
theorem cntE_f1 (l : List Int) : (cntE l).map S35.f1 = l.take 400 := by
  unfold cntE; rw [List.map_map]; exact List.map_id _
theorem cntE_len (l : List Int) : (cntE l).length = min l.length 400 := by unfold cntE; rw [List.length_map, List.length_take]; omega
theorem ok_cntE (l : List Int) (h : ∀ x ∈ l, (Lit.int .u64 x).wf = true) : okE (cntE l) = true := by
  unfold okE
  rw [Bool.and_eq_true, List.all_eq_true]
  refine ⟨decide_eq_true (by rw [cntE_len]; omega), fun x hx => ?_⟩
  unfold cntE at hx
  obtain ⟨c, hc, rfl⟩ := List.mem_map.1 hx
  exact h c (List.mem_of_mem_take hc)
theorem classes_cntE (l : List Int) (h : ∀ x ∈ l, (Lit.int .u64 x).wf = true) : rank_Classes.f (cntE l) = some ((l.take 400).map (cls (l.take 400))) := by
  unfold rank_Classes.f
  rw [if_pos (ok_cntE l h)]
  unfold classesL
  rw [cntE_f1]
  congr 1
  unfold cntE
  rw [List.map_map]; rfl
theorem ints_l0 (a b : List Int) (hl : a.length = b.length) (hb : a.length ≤ 4611686018427387904) : ∀ (d i : Nat), i + d = a.length → a.take i = b.take i → Ev (fun k => manteletref13_Ints.l0 k a b (i : Int)) (decide (a = b))
  | 0, i, hd, he => by
    have e : a = b := by rwa [List.take_of_length_le (by omega), List.take_of_length_le (by omega)] at he
    rw [decide_eq_true e]
    refine Ev.step (fun k => ?_) (Ev.now _)
    simp only [manteletref13_Ints.l0]
    rw [if_neg (by omega)]
  | d + 1, i, hd, he => by
    have hi : i < a.length := by omega
    have hi2 : i < b.length := by omega
    by_cases hq : a[i] = b[i]
    · have ih := ints_l0 a b hl hb d (i + 1) (by omega) (by rw [List.take_add_one, List.take_add_one, he, List.getElem?_eq_getElem hi, List.getElem?_eq_getElem hi2, hq])
      refine Ev.step (fun k => ?_) ih
      simp only [manteletref13_Ints.l0]
      rw [if_pos (by omega), if_pos (by omega), if_pos (by omega), rd_at a i hi, rd_at b i hi2, if_pos hq, w64_id (by omega) (by omega)]
      rfl
    · have e : a ≠ b := fun e => hq (by subst e; rfl)
      rw [decide_eq_false e]
      refine Ev.step (fun k => ?_) (Ev.now _)
      simp only [manteletref13_Ints.l0]
      rw [if_pos (by omega), if_pos (by omega), if_pos (by omega), rd_at a i hi, rd_at b i hi2, if_neg hq]
theorem ints_f (a b : List Int) (hb : a.length ≤ 4611686018427387904) : Ev (fun k => manteletref13_Ints.f k a b) (decide (a = b)) := by
  unfold manteletref13_Ints.f
  by_cases hl : a.length = b.length
  · refine Ev.congr (fun k => ?_) (ints_l0 a b hl hb a.length 0 (by omega) rfl)
    rw [if_pos (by omega)]; rfl
  · have e : a ≠ b := fun e => hl (by rw [e])
    rw [decide_eq_false e]
    refine Ev.congr (fun k => ?_) (Ev.now _)
    rw [if_neg (by omega)]
theorem shown13 : Ev manteletlaw13_shown.f true := by
  unfold manteletlaw13_shown.f
  refine Ev.bind (counts_f [5, 9, 5, 1] (by decide)) ?_
  rw [classes_cntE [5, 9, 5, 1] (by decide)]
  have hc : ((([5, 9, 5, 1] : List Int).take 400).map (cls (([5, 9, 5, 1] : List Int).take 400))) = [1, 0, 1, 2] := by decide
  rw [hc]
  refine Ev.congr (fun k => Option.bind_some _ _) ?_
  refine Ev.bind (ints_f [1, 0, 1, 2] [1, 0, 1, 2] (by decide)) ?_
  have h2 : rank_Prune.f (cntE [5, 9, 5, 1]) 5 = some [ent 5, ent 9, ent 5] := by
    unfold rank_Prune.f
    rw [if_pos (by decide)]
    rfl
  refine Ev.congr (fun k => if_pos (by decide)) ?_
  rw [h2]
  refine Ev.congr (fun k => Option.bind_some _ _) ?_
  refine Ev.congr (fun k => if_pos (by decide)) ?_
  refine Ev.bind (half_f 9 (by decide)) ?_
  have h3 : half 9 = 4 := by
    rw [half_pos (by decide), half_pos (by decide), half_pos (by decide), half_pos (by decide), half_zero]
  rw [h3]
  exact Ev.now _
end Go.Proofs.Ytcikngokiodabaa.K

namespace Go.Proofs.Ytcikngokiodabaa.K
open Go.RowKit Go.Proofs.YtcikngokiodabaaW.PrintWords Go.Proofs.YtcikngokiodabaaW.PrintLast Go.Proofs.YtcikngokiodabaaW.PrintMore Go.Proofs.Ytcikngokiodabaa
attribute [local go_sem] max2_int min2_int max_two min_two max_three min_three max_four min_four
set_option linter.unusedVariables false
set_option linter.unusedSimpArgs false
open Go
/-- It hangs on which counts there are, alone. -/
theorem abv_same (cs ds : List Int) (h : ∀ x, x ∈ cs ↔ x ∈ ds) (x : Int) : abv cs x = abv ds x :=
  abv_of cs (dist ds) (nodup_dist ds) (fun y => by rw [mem_dist, h]) x
theorem cls_same (cs ds : List Int) (h : ∀ x, x ∈ cs ↔ x ∈ ds) (x : Int) : cls cs x = cls ds x := by
  unfold cls; rw [abv_same cs ds h]
/-- Counts as many times as great. -/
theorem abv_times (cs : List Int) (q : Int) (hq : 0 < q) (x : Int) : abv (cs.map (· * q)) (x * q) = abv cs x := by
  have hn : ((dist cs).map (· * q)).Nodup := by
    unfold List.Nodup
    rw [List.pairwise_map]
    refine (nodup_dist cs).imp (fun {a b} h e => h ?_)
    exact Int.eq_of_mul_eq_mul_right (by omega) e
  rw [abv_of (cs.map (· * q)) ((dist cs).map (· * q)) hn (fun y => by
    rw [List.mem_map, List.mem_map]
    constructor
    · rintro ⟨a, ha, rfl⟩; exact ⟨a, (mem_dist a cs).1 ha, rfl⟩
    · rintro ⟨a, ha, rfl⟩; exact ⟨a, (mem_dist a cs).2 ha, rfl⟩), List.countP_map]
  unfold abv
  congr 1
  funext y
  simp only [Function.comp]
  refine decide_eq_decide.2 ⟨fun h => Int.lt_of_mul_lt_mul_right h (by omega), fun h => Int.mul_lt_mul_of_pos_right h hq⟩
theorem cls_times (cs : List Int) (q : Int) (hq : 0 < q) (x : Int) : cls (cs.map (· * q)) (x * q) = cls cs x := by
  unfold cls; rw [abv_times cs q hq]
end Go.Proofs.Ytcikngokiodabaa.K

namespace Go.Proofs.Ytcikngokiodabaa.Pure
open Go.RowKit Go.Proofs.Ytcikngokiodabaa.PRankMoves Go.Proofs.YtcikngokiodabaaW.PrintWords Go.Proofs.YtcikngokiodabaaW.PrintLast Go.Proofs.Ytcikngokiodabaa.K Go.Proofs.Ytcikngokiodabaa.PR13 Go.Proofs.Ytcikngokiodabaa.PSh13
set_option linter.unusedSimpArgs false
set_option linter.unusedVariables false
theorem tmod_nat (a b : Nat) : Int.tmod (a : Int) (b : Int) = ((a % b : Nat) : Int) := rfl
def at0 (l : List Int) (i : Nat) : Int := l.getD i 0
theorem at0_get (l : List Int) (i : Nat) (h : i < l.length) : at0 l i = l[i] := by
  unfold at0; rw [List.getD_eq_getElem?_getD, List.getElem?_eq_getElem h]; rfl
theorem rd_at0 (l : List Int) (i : Nat) : rd l (i : Int) = at0 l i := by unfold rd at0; rw [Int.toNat_natCast]
/-- The list turned by q. -/
def rot (l : List Int) (q i : Nat) : List Int := (List.range i).map (fun t => at0 l ((t + q) % l.length))
theorem rot_succ (l : List Int) (q i : Nat) : rot l q (i + 1) = rot l q i ++ [at0 l ((i + q) % l.length)] := by unfold rot; rw [List.range_succ, List.map_append]; rfl
theorem rot_len (l : List Int) (q i : Nat) : (rot l q i).length = i := by simp [rot]
theorem rot_at (l : List Int) (q n i : Nat) (h : i < n) : at0 (rot l q n) i = at0 l ((i + q) % l.length) := by
  rw [at0_get _ i (by rw [rot_len]; exact h)]
  unfold rot
  rw [List.getElem_map, List.getElem_range]
theorem rot_mem (l : List Int) (q : Nat) (hq : q < l.length) (x : Int) : x ∈ rot l q l.length ↔ x ∈ l := by
  unfold rot
  rw [List.mem_map]
  constructor
  · rintro ⟨t, ht, rfl⟩
    have : (t + q) % l.length < l.length := Nat.mod_lt _ (by omega)
    rw [at0_get l _ this]
    exact List.getElem_mem _
  · intro hx
    obtain ⟨j, hj, rfl⟩ := List.mem_iff_getElem.1 hx
    refine ⟨(j + (l.length - q)) % l.length, List.mem_range.2 (Nat.mod_lt _ (by omega)), ?_⟩
    have e : ((j + (l.length - q)) % l.length + q) % l.length = j := by
      rw [Nat.mod_add_mod, show j + (l.length - q) + q = j + l.length by omega, Nat.add_mod_right, Nat.mod_eq_of_lt hj]
    rw [e, at0_get l j hj]
theorem map_at0 (l : List Int) (f : Int → Int) (i : Nat) (h : i < l.length) : at0 (l.map f) i = f (at0 l i) := by
  rw [at0_get _ i (by rw [List.length_map]; exact h), List.getElem_map, at0_get l i h]
theorem take_at0 (l : List Int) (f : Int → Int) (i : Nat) (h : i < l.length) : (l.take (i + 1)).map f = (l.take i).map f ++ [f (at0 l i)] := by
  rw [List.take_add_one, List.getElem?_eq_getElem h, List.map_append, at0_get l i h]; rfl
theorem mv_l1 (l x y z : List Int) (q : Nat) (h0 : 0 < l.length) (hl : l.length ≤ 300) (hq : q < l.length) (hx : x.length = l.length) (hy : y.length = l.length) (hz : z.length = l.length)
    (h1 : ∀ i, i < l.length → at0 y i = at0 x ((i + q) % l.length)) (h2 : ∀ i, i < l.length → at0 z i = at0 x i) :
    ∀ (d i : Nat), i + d = l.length → Ev (fun k => manteletlaw13_RankMoves.l1 k l true (q : Int) x y z (i : Int)) true
  | 0, i, hd => by
    refine Ev.step (fun k => ?_) (Ev.now _)
    simp only [manteletlaw13_RankMoves.l1]
    rw [if_neg (by omega)]
  | d + 1, i, hd => by
    have hi : i < l.length := by omega
    have ih := mv_l1 l x y z q h0 hl hq hx hy hz h1 h2 d (i + 1) (by omega)
    have hm : (i + q) % l.length < l.length := Nat.mod_lt _ h0
    have e1 : wrap64 ((i : Int) + (q : Int)) = ((i + q : Nat) : Int) := by rw [w64_id (by omega) (by omega)]; omega
    refine Ev.step (fun k => ?_) ih
    simp only [manteletlaw13_RankMoves.l1]
    rw [if_pos (by omega), if_pos (by omega), if_pos (by omega), if_neg (by omega), e1, tmod_nat, if_pos (by omega), if_pos (by omega), rd_at0, rd_at0, if_pos (h1 i hi), if_pos (by omega), if_pos (by omega), rd_at0, rd_at0, if_pos (h2 i hi), w64_id (by omega) (by omega)]
    rfl
theorem mv_l0 (l : List Int) (t : Int) (q : Nat) (h0 : 0 < l.length) (hl : l.length ≤ 300) (hq : q < l.length) (ht0 : 0 ≤ t) (ht : t ≤ 255) (hw : ∀ x ∈ l, 0 ≤ x ∧ x ≤ 65535) :
    ∀ (d i : Nat), i + d = l.length → Ev (fun k => manteletlaw13_RankMoves.l0 k l t true (q : Int) ((l.take i).map id) (rot l q i) ((l.take i).map (· * (1 + t))) (i : Int)) true
  | 0, i, hd => by
    have hi : i = l.length := by omega
    subst hi
    rw [List.take_length, List.map_id]
    have hrw : ∀ x ∈ rot l q l.length, 0 ≤ x ∧ x ≤ 65535 := fun x hx => hw x ((rot_mem l q hq x).1 hx)
    have hcw : ∀ x ∈ l.map (· * (1 + t)), 0 ≤ x ∧ x ≤ 16776960 := fun x hx => by
      obtain ⟨y, hy, rfl⟩ := List.mem_map.1 hx
      have := hw y hy
      have h1 : 0 ≤ y * (1 + t) := Int.mul_nonneg this.1 (by omega)
      have h2 : y * (1 + t) ≤ 65535 * 256 := Int.mul_le_mul this.2 (by omega) (by omega) (by omega)
      exact ⟨h1, by simpa using h2⟩
    have wf : ∀ (r : List Int), (∀ x ∈ r, 0 ≤ x ∧ x ≤ 16776960) → ∀ x ∈ r, (Lit.int .u64 x).wf = true := fun r hr x hx => by
      have := hr x hx
      simp [Lit.wf, IntKind.min, IntKind.max, IntKind.bits, IntKind.signed]; omega
    have wa := wf l (fun x hx => by have := hw x hx; omega)
    have wb := wf (rot l q l.length) (fun x hx => by have := hrw x hx; omega)
    have wc := wf (l.map (· * (1 + t))) hcw
    have ra := rot_len l q l.length
    refine Ev.step (f := fun k => (manteletlaw13_counts.f k l).bind fun t114 => ((rank_Classes.f t114).bind fun t117 => ((manteletlaw13_counts.f k (rot l q l.length)).bind fun t120 => ((rank_Classes.f t120).bind fun t123 => ((manteletlaw13_counts.f k (l.map (· * (1 + t)))).bind fun t126 => ((rank_Classes.f t126).bind fun t129 => (if (t117.length : Int) = (l.length : Int) then (if (t123.length : Int) = (l.length : Int) then (manteletlaw13_RankMoves.j2 k l true (q : Int) t117 t123 t129 ((t129.length : Int) != (l.length : Int))) else (manteletlaw13_RankMoves.j2 k l true (q : Int) t117 t123 t129 true)) else (manteletlaw13_RankMoves.j2 k l true (q : Int) t117 t123 t129 true)))))))) (fun k => ?_) ?_
    · simp only [manteletlaw13_RankMoves.l0]
      rw [if_neg (by omega)]
    refine Ev.bind (counts_f l (by omega)) ?_
    rw [classes_cntE l wa, List.take_of_length_le (show l.length ≤ 400 by omega)]
    refine Ev.congr (fun k => Option.bind_some _ _) ?_
    refine Ev.bind (counts_f (rot l q l.length) (by omega)) ?_
    rw [classes_cntE _ wb, List.take_of_length_le (show (rot l q l.length).length ≤ 400 by omega)]
    refine Ev.congr (fun k => Option.bind_some _ _) ?_
    refine Ev.bind (counts_f (l.map (· * (1 + t))) (by rw [List.length_map]; omega)) ?_
    rw [classes_cntE _ wc, List.take_of_length_le (show (l.map (· * (1 + t))).length ≤ 400 by rw [List.length_map]; omega)]
    refine Ev.congr (fun k => Option.bind_some _ _) ?_
    refine Ev.congr (fun k => if_pos (by rw [List.length_map])) ?_
    refine Ev.congr (fun k => if_pos (by rw [List.length_map, ra])) ?_
    have hne : ((((l.map (· * (1 + t))).map (cls (l.map (· * (1 + t))))).length : Int) != (l.length : Int)) = false := by
      rw [List.length_map, List.length_map]; simp
    rw [hne]
    have h1 := mv_l1 l (l.map (cls l)) ((rot l q l.length).map (cls (rot l q l.length))) ((l.map (· * (1 + t))).map (cls (l.map (· * (1 + t))))) q h0 hl hq (by rw [List.length_map]) (by rw [List.length_map, ra]) (by rw [List.length_map, List.length_map])
      (fun i hi => by
        have hm : (i + q) % l.length < l.length := Nat.mod_lt _ h0
        rw [map_at0 _ _ i (by rw [ra]; exact hi), map_at0 _ _ _ hm, rot_at l q l.length i hi, cls_same (rot l q l.length) l (rot_mem l q hq)])
      (fun i hi => by
        rw [map_at0 _ _ i (by rw [List.length_map]; exact hi), map_at0 l _ i hi, map_at0 l _ i hi, cls_times l (1 + t) (by omega)]) l.length 0 (by omega)
    refine Ev.step (fun k => ?_) h1
    simp only [manteletlaw13_RankMoves.j2]
    rw [if_neg (by decide)]
    rfl
  | d + 1, i, hd => by
    have hi : i < l.length := by omega
    have ih := mv_l0 l t q h0 hl hq ht0 ht hw d (i + 1) (by omega)
    have hm : (i + q) % l.length < l.length := Nat.mod_lt _ h0
    have e1 : wrap64 ((i : Int) + (q : Int)) = ((i + q : Nat) : Int) := by rw [w64_id (by omega) (by omega)]; omega
    have b1 := hw (at0 l i) (by rw [at0_get l i hi]; exact List.getElem_mem _)
    have b2 := hw (at0 l ((i + q) % l.length)) (by rw [at0_get l _ hm]; exact List.getElem_mem _)
    have p1 : 0 ≤ at0 l i * (1 + t) := Int.mul_nonneg b1.1 (by omega)
    have p2 : at0 l i * (1 + t) ≤ 65535 * 256 := Int.mul_le_mul b1.2 (by omega) (by omega) (by omega)
    rw [take_at0 l id i hi, take_at0 l (· * (1 + t)) i hi, rot_succ] at ih
    refine Ev.step (fun k => ?_) ih
    simp only [manteletlaw13_RankMoves.l0]
    have l1 : ((l.take i).map id).length < 17592186044416 := by rw [List.length_map, List.length_take]; omega
    have l2 : (rot l q i).length < 17592186044416 := by rw [rot_len]; omega
    have l3 : ((l.take i).map (· * (1 + t))).length < 17592186044416 := by rw [List.length_map, List.length_take]; omega
    rw [if_pos (by omega), if_pos (by omega), if_pos l1, if_neg (by omega), e1, tmod_nat, if_pos (by omega), if_pos (by omega), if_pos l2, if_pos l3, rd_at0, rd_at0, u64_id (x := at0 l i) b1.1 (by omega), u64_id (x := at0 l ((i + q) % l.length)) b2.1 (by omega), u64_id (x := t) ht0 (by omega), u64_id (x := 1 + t) (by omega) (by omega), u64_id (x := at0 l i * (1 + t)) p1 (by omega), w64_id (by omega) (by omega)]
    rfl
theorem RankMoves : manteletlaw13_RankMoves.Pure := by
  intro l0 a1 a2 hl hb hw h1 h2
  refine Ev.rounds (g := fun k => manteletlaw13_RankMoves.f k l0 a1 a2) (r := true) ?_
  have h1' : 0 ≤ a1 ∧ a1 ≤ 255 := by simpa [Lit.wf, IntKind.min, IntKind.max, IntKind.bits, IntKind.signed] using h1
  have h2' : 0 ≤ a2 ∧ a2 ≤ 255 := by simpa [Lit.wf, IntKind.min, IntKind.max, IntKind.bits, IntKind.signed] using h2
  have hw' : ∀ x ∈ l0, 0 ≤ x ∧ x ≤ 65535 := fun x hx => by simpa [Lit.wf, IntKind.min, IntKind.max, IntKind.bits, IntKind.signed] using hw x hx
  unfold manteletlaw13_RankMoves.f
  refine Ev.bind shown13 ?_
  by_cases hlen : (l0.length : Int) > 300
  · refine Ev.congr (fun k => if_pos hlen) ?_
    refine Ev.step (fun k => ?_) (Ev.now _)
    simp only [manteletlaw13_RankMoves.j0]
    rw [if_pos trivial]
  · refine Ev.congr (fun k => if_neg hlen) ?_
    by_cases h0 : l0.length = 0
    · have e0 : ((l0.length : Int) == 0) = true := by rw [h0]; rfl
      rw [e0]
      refine Ev.step (fun k => ?_) (Ev.now _)
      simp only [manteletlaw13_RankMoves.j0]
      rw [if_pos trivial]
    · have e0 : ((l0.length : Int) == 0) = false := beq_eq_false_iff_ne.2 (by omega)
      rw [e0]
      obtain ⟨n, rfl⟩ : ∃ n : Nat, a1 = (n : Int) := ⟨a1.toNat, by omega⟩
      have hq : n % l0.length < l0.length := Nat.mod_lt _ (by omega)
      have hmain := mv_l0 l0 a2 (n % l0.length) (by omega) (by omega) hq h2'.1 h2'.2 hw' l0.length 0 (by omega)
      refine Ev.step (fun k => ?_) hmain
      simp only [manteletlaw13_RankMoves.j0]
      rw [if_neg (by decide), if_neg (by omega), w64_id (by omega) (by omega), tmod_nat]
      rfl
end Go.Proofs.Ytcikngokiodabaa.Pure

namespace Go.Proofs.Ytcikngokiodabaa.rankMoves
open Go.ChangeShapes Go.WideShapes Go.ChangeAt Go.RowKit
open Go.ChangeMaps (open_string shut_string)
set_option linter.unusedVariables false
theorem own : ownKnob Try.prog.godebug = none := by kernel_rfl
theorem laidOut : laidOutB Try.prog = true := by kernel_rfl
def IsRow (k : IntKind) (w : World) (a : Option Addr) (len cap : Nat) (zs : List Int) : Prop :=
  (a = none ∧ len = 0 ∧ cap = 0 ∧ zs = []) ∨
  ∃ x, a = some x ∧ len ≤ cap ∧ cap ≤ maxLen ∧ zs.length = cap ∧ (∀ i, i < zs.length → w.cell? (x.add i) = some (.int k (zs.getD i 0))) ∧ ∀ n ∈ zs, (Lit.int k n).wf = true
set_option maxRecDepth 100000 in
theorem lifted (os : Os) (started : os.Started) (H : Type) (enc : TypeId × Value → H) :
    ReturnsInHanded {} Try.checked os 7 .any (Rows.rankMovesSpec.pre6 enc Try.prog Try.f7 Rows.rankMovesRow.domain false) (Rows.rankMovesSpec.post enc Try.prog Try.f7 false true false false) := by
  refine returnsInHanded_of_change_sized (C := Try.checked) own started (by kernel_rfl) Try.func7
    (ChangeSpec.witness6 (enc := enc) (C := Try.checked) false ⟨#[], #[.slice none 0 0, .int .u8 0, .int .u8 0], []⟩ 8 (by kernel_rfl) (by kernel_rfl) (by kernel_rfl) (by kernel_rfl)) ?_
  intro W base args ds gs before hval0 hW hcnd hsz0 _
  have hsz : (DataW.weightsEach Try.prog (Try.f7.params.toList ++ Rows.rankMovesSpec.plain.varTypes Try.prog) (ds ++ gs)).all (· ≤ reachBytes) = true := hsz0
  have hval : ∀ (j : Nat) t v, Try.f7.params[j]? = some t → args[j]? = some v → Value.okWide Try.prog W .any base t v := hval0
  have hW' := hW
  obtain ⟨p, q, hA0, hV, rfl, hfz, hnd⟩ := hW
  have hA : DataW.TrodAll enc Try.prog W 0 (fun _ => true) true Try.f7.params.toList args.toList ds p := hA0
  rw [Try.params7] at hA hval hsz
  obtain ⟨v0, vs0, d0, ds0, p0, q0, hargs, rfl, rfl, h0, r0⟩ := trodAll_cons hA
  obtain ⟨v1, vs1, d1, ds1, p1, q1, rfl, rfl, rfl, h1, r1⟩ := trodAll_cons r0
  obtain ⟨v2, vs2, d2, ds2, p2, q2, rfl, rfl, rfl, h2, r2⟩ := trodAll_cons r1
  obtain ⟨rfl, rfl, rfl⟩ := trodAll_nil r2
  obtain rfl : args = #[v0, v1, v2] := by cases args; simp_all
  obtain ⟨rfl, rfl⟩ := trodVars_none hV
  obtain ⟨a0, len0, cap0, rfl⟩ := okWide_slice Try.underlying39 (hval 0 39 v0 rfl rfl)
  have k0 := h0
  have lt0 : ∀ x ∈ p0, x.block < W.heap.size := by obtain ⟨m, hm⟩ := k0; exact DataW.trod_lt m _ _ _ hm
  obtain ⟨z0, w0⟩ : ∃ zs, IsRow .u16 W a0 len0 cap0 zs := by
    obtain ⟨fuel, hf⟩ := h0
    rcases open_ints Try.underlying39 Try.underlying40 (by kernel_rfl) hf with ⟨hcs, _⟩ | ⟨x, l, c, zs, hcs, _, hl, hm, hz, _, hcell, hwz⟩
    · simp [Value.cells] at hcs
      obtain ⟨rfl, rfl, rfl⟩ := hcs
      exact ⟨[], .inl ⟨rfl, rfl, rfl, rfl⟩⟩
    · simp [Value.cells] at hcs
      obtain ⟨rfl, rfl, rfl⟩ := hcs
      exact ⟨zs, .inr ⟨_, rfl, hl, hm, by simpa using hz, hcell, hwz⟩⟩
  have y0 : len0 * 2 ≤ 140737488351232 := Go.Proofs.YtcikngokiodabaaW.PrintWords.sized_ints hsz (j := 0) (t := 39) rfl rfl Try.underlying39 Try.underlying40 (by kernel_rfl) (by kernel_rfl) h0
  obtain ⟨a1, rfl, rfl, rfl, w1⟩ := open_int Try.underlying5 (hval 1 5 v1 rfl rfl) h1
  obtain ⟨a2, rfl, rfl, rfl, w2⟩ := open_int Try.underlying5 (hval 2 5 v2 rfl rfl) h2
  clear hA0 hval0 hsz0 hsz
  refine (PRankMoves.manteletlaw13_RankMoves.walk Pure.RankMoves a0 len0 cap0 z0 a1 a2 W w0 y0 w1 w2).mono fun e W' ⟨he, bel⟩ => ?_
  subst he
  exact ⟨_, rfl, _, _, _, [], _, [], hW', trodAll_mk1 (shut_bool Try.underlying4 _), (trodAll_cons_mk (Below.trod laidOut (by kernel_rfl) (of_decide_eq_true (by kernel_rfl)) k0 bel lt0) (trodAll_cons_mk (shut_int Try.underlying5 w1) (trodAll_cons_mk (shut_int Try.underlying5 w2) trodAll_mk0))), rfl, bel.frame _, fun h => by cases h⟩
theorem over : Rows.rankMovesRow.holds Try.pinned (OpenSpec.ofChange Rows.rankMovesSpec) :=
  OpenClaim.holds_of_wide 7 Try.f7 rfl rfl rfl rfl rfl rfl rfl ⟨rfl, rfl, rfl, rfl, rfl⟩ rfl rfl rfl rfl rfl (by kernel_rfl) Try.func7 (by kernel_rfl)
    (of_decide_eq_true (by kernel_rfl)) (by unfold Func.isWrapper; first | (rw [if_pos (by decide +kernel)]; kernel_rfl) | (rw [if_neg (by decide +kernel)]; exact ⟨rfl, rfl⟩))
    (fun os started H enc _ => lifted os started H enc)
theorem proved : Rows.RankMovesSaid := over
#print axioms proved
end Go.Proofs.Ytcikngokiodabaa.rankMoves
namespace Go.Proofs.Ytcikngokiodabaa
/-- The row, under a short name, for the claim. -/
theorem rankMoves_holds : Rows.RankMovesSaid := rankMoves.proved
end Go.Proofs.Ytcikngokiodabaa

