/- TablePlaysUpto. (The texts that the proof is made of, one behind the other: part 7 of 7.) -/
import Derived.Test.YtjjkibjpbfkpcaaProg
import Derived.Below
import Derived.Deep.Draws
import Derived.Deep.AppendLies
import Derived.Maps.AppendAt
import Derived.OwnWalk
import Derived.Laws.BytesArg
import Derived.Laws.MakeOwn
import Derived.Laws.OwnMore
import Derived.Deep.OwnRows
import Derived.Tactics
import Derived.Lib.ConvBytes
import Derived.Laws.Slices
import Derived.WalkKit
import Derived.KernelRfl
import Derived.RowKit3
import Derived.Deep.LoopGhost
import Derived.Deep.QuietTactic
import Derived.BigQuiet
import Derived.WideLaws
import Derived.Deep.DeepCutAuto
import Derived.Deep.CutBlock
import Derived.Deep.RegionHeld3
import Derived.Laws.Rows
import Derived.Lib.AppendStr
import Derived.ArgAppend
import Derived.Laws.IdiomCopy
import Derived.OrdersHeld
import Derived.Laws.BitsLemmas
import Derived.RowKit
import Derived.Lib.OthersKept
import Derived.WalkSmall
import Derived.Deep.RegionLaw
import Derived.BigRegion
import Derived.Deep.Matrix
import Derived.SliceStrings
import Derived.Test.YtjjkibjpbfkpcaaRows
import Derived.Deep.SlicePairs
import Derived.ProofKit
import Derived.OpenShut
import Derived.ShutString
import Derived.ChangeOld
import Derived.SizedLaws
import Derived.JoinedCond
import Derived.Deep.CondSized
import Derived.Test.YtjjkibjpbfkpcaaZTablePlaysUptoa
import Derived.Test.YtjjkibjpbfkpcaaZTablePlaysUptob
import Derived.Test.YtjjkibjpbfkpcaaZTablePlaysUptoc
import Derived.Test.YtjjkibjpbfkpcaaZTablePlaysUptod
import Derived.Test.YtjjkibjpbfkpcaaZTablePlaysUptoe
import Derived.Test.YtjjkibjpbfkpcaaZTablePlaysUptof
namespace Go.Proofs.Ytjjkibjpbfkpcaa.K
open Go.RowKit Go.Proofs.YtjjkibjpbfkpcaaW.PrintWords Go.Proofs.YtjjkibjpbfkpcaaW.PrintLast Go.Proofs.YtjjkibjpbfkpcaaW.PrintMore Go.Proofs.Ytjjkibjpbfkpcaa
attribute [local go_sem] max2_int min2_int max_two min_two max_three min_three max_four min_four
set_option linter.unusedVariables false
set_option linter.unusedSimpArgs false
open Go.Proofs.Ytjjkibjpbfkpcaa.PTb Go.Proofs.Ytjjkibjpbfkpcaa.Tab
abbrev SE := S35
/-- A list of entries that stands for a table's list. -/
def Tells (x : List SE) (L : List En) : Prop := x.map toEn = L ∧ (∀ e ∈ x, 1 ≤ e.f1 ∧ e.f1 ≤ 4611686018427387904 ∧ Utf.nats e.f0 ≠ []) ∧ L.Pairwise (fun a b => a.1 < b.1) ∧ x.length ≤ 100000
/-- How many words lie below. -/
def posL (x : List SE) (w : Wd) : Nat := (x.takeWhile (fun e => decide (Utf.nats e.f0 < w))).length
theorem posL_le (x : List SE) (w : Wd) : posL x w ≤ x.length := by
  unfold posL
  have h := congrArg List.length (List.takeWhile_append_dropWhile (p := fun e : SE => decide (Utf.nats e.f0 < w)) (l := x))
  rw [List.length_append] at h
  omega
theorem posL_lt (x : List SE) (w : Wd) : ∀ (i : Nat) (h : i < posL x w), Utf.nats (x[i]'(Nat.lt_of_lt_of_le h (posL_le x w))).f0 < w := by
  induction x with
  | nil => intro i h; simp [posL] at h
  | cons y r ih =>
    intro i h
    by_cases hy : Utf.nats y.f0 < w
    · have e : posL (y :: r) w = posL r w + 1 := by unfold posL; rw [List.takeWhile_cons, if_pos (by simpa using hy)]; rfl
      cases i with
      | zero => exact hy
      | succ i => exact ih i (by omega)
    · have e : posL (y :: r) w = 0 := by unfold posL; rw [List.takeWhile_cons, if_neg (by simpa using hy)]; rfl
      omega
theorem posL_at (x : List SE) (w : Wd) (h : posL x w < x.length) : ¬ Utf.nats x[posL x w].f0 < w := by
  induction x with
  | nil => simp at h
  | cons y r ih =>
    by_cases hy : Utf.nats y.f0 < w
    · have e : posL (y :: r) w = posL r w + 1 := by unfold posL; rw [List.takeWhile_cons, if_pos (by simpa using hy)]; rfl
      have h2 : posL r w < r.length := by rw [e] at h; simpa using h
      have := ih h2
      simp only [e, List.getElem_cons_succ]
      exact this
    · have e : posL (y :: r) w = 0 := by unfold posL; rw [List.takeWhile_cons, if_neg (by simpa using hy)]; rfl
      simp only [e, List.getElem_cons_zero]
      exact hy
theorem at_l0 (x : List SE) (w : ByteArray) (hb : x.length ≤ 100000) : ∀ (m i K : Nat), posL x (Utf.nats w) = i + m → m < K → manteletref08_At.l0 K x w (i : Int) = some ((posL x (Utf.nats w) : Nat) : Int) := by
  intro m
  induction m with
  | zero =>
    intro i K h hK
    obtain ⟨K, rfl⟩ : ∃ q, K = q + 1 := ⟨K - 1, by omega⟩
    have hi : i = posL x (Utf.nats w) := by omega
    unfold manteletref08_At.l0
    by_cases hl : i < x.length
    · rw [if_pos (by omega), if_pos (by omega), rdE_at x i hl, less_str]
      have h2 : ¬ Utf.nats x[i].f0 < Utf.nats w := by
        have := posL_at x (Utf.nats w) (by omega)
        simp only [← hi] at this
        exact this
      rw [if_neg (by simpa using h2), hi]
    · rw [if_neg (by omega), hi]
  | succ m ih =>
    intro i K h hK
    obtain ⟨K, rfl⟩ : ∃ q, K = q + 1 := ⟨K - 1, by omega⟩
    have hpl := posL_le x (Utf.nats w)
    have hl : i < x.length := by omega
    unfold manteletref08_At.l0
    rw [if_pos (by omega), if_pos (by omega), rdE_at x i hl, less_str]
    have h2 : Utf.nats x[i].f0 < Utf.nats w := posL_lt x (Utf.nats w) i (by omega)
    rw [if_pos (by simpa using h2)]
    have hw : wrap64 ((i : Int) + 1) = ((i + 1 : Nat) : Int) := w64_3 (by omega)
    rw [hw]
    exact ih (i + 1) K (by omega) (by omega)
theorem at_f (x : List SE) (w : ByteArray) (hb : x.length ≤ 100000) (K : Nat) (hK : x.length < K) : manteletref08_At.f K x w = some ((posL x (Utf.nats w) : Nat) : Int) := by
  unfold manteletref08_At.f
  have := posL_le x (Utf.nats w)
  exact at_l0 x w hb (posL x (Utf.nats w)) 0 K (by omega) (by omega)
/-- The list parted at a word's place. -/
theorem tells_split {x : List SE} {L : List En} (h : Tells x L) (w : Wd) : (∀ e ∈ (x.take (posL x w)).map toEn, e.1 < w) ∧ L = (x.take (posL x w)).map toEn ++ (x.drop (posL x w)).map toEn := by
  constructor
  · intro e he
    obtain ⟨s, hs, rfl⟩ := List.mem_map.1 he
    obtain ⟨i, hi, rfl⟩ := List.getElem_of_mem hs
    rw [List.length_take] at hi
    rw [List.getElem_take]
    exact posL_lt x w i (by omega)
  · rw [← List.map_append, List.take_append_drop]
    exact h.1.symm
/-- What stands at the word's place and behind it. -/
theorem tells_rest {x : List SE} {L : List En} (h : Tells x L) (w : Wd) : (∀ (hp : posL x w < x.length), Utf.nats x[posL x w].f0 = w ∨ w < Utf.nats x[posL x w].f0) ∧ ((∀ (hp : posL x w < x.length), Utf.nats x[posL x w].f0 ≠ w) → ∀ e ∈ (x.drop (posL x w)).map toEn, w < e.1) := by
  have h1 : ∀ (hp : posL x w < x.length), Utf.nats x[posL x w].f0 = w ∨ w < Utf.nats x[posL x w].f0 := fun hp => by
    rcases lt_tri (Utf.nats x[posL x w].f0) w with h2 | h2 | h2
    · exact absurd h2 (posL_at x w hp)
    · exact Or.inl h2
    · exact Or.inr h2
  refine ⟨h1, fun hne e he => ?_⟩
  obtain ⟨s, hs, rfl⟩ := List.mem_map.1 he
  obtain ⟨i, hi, rfl⟩ := List.getElem_of_mem hs
  rw [List.length_drop] at hi
  rw [List.getElem_drop]
  have hp : posL x w < x.length := by omega
  have hlt : w < Utf.nats x[posL x w].f0 := (h1 hp).resolve_left (hne hp)
  cases i with
  | zero => exact hlt
  | succ i =>
    have hs2 : (x.map toEn).Pairwise (fun a b => a.1 < b.1) := by rw [h.1]; exact h.2.2.1
    have := List.pairwise_iff_getElem.1 hs2 (posL x w) (posL x w + (i + 1)) (by rw [List.length_map]; exact hp) (by rw [List.length_map]; omega) (by omega)
    rw [List.getElem_map, List.getElem_map] at this
    exact List.lt_trans hlt this
theorem get_rest (w : Wd) (B : List En) (hB : ∀ e ∈ B, w < e.1) : ∀ (A : List En), (∀ a ∈ A, a.1 < w) → getL (A ++ B) w = 0 := fun A hA => get_none (fun e he h => by
  rcases List.mem_append.1 he with h1 | h1
  · have := hA e h1; rw [h] at this; exact List.lt_irrefl _ this
  · have := hB e h1; rw [h] at this; exact List.lt_irrefl _ this)
theorem put_rest (w : Wd) (c : Nat) (B : List En) (hB : ∀ e ∈ B, w < e.1) : ∀ (A : List En), (∀ a ∈ A, a.1 < w) → putL (A ++ B) w c = A ++ (w, c) :: B
  | [], _ => by
    show putL B w c = (w, c) :: B
    cases B with
    | nil => rfl
    | cons e r => unfold putL; rw [if_pos (hB e (by simp))]
  | a :: A, h => by
    have h1 := h a (by simp)
    rw [List.cons_append]
    unfold putL
    rw [if_neg (lt_no h1), if_neg (fun e => List.lt_irrefl w (by rw [e] at h1; exact h1)), put_rest w c B hB A (fun x hx => h x (by simp [hx]))]
    rfl
theorem toList_iff (a b : ByteArray) : a.toList = b.toList ↔ Utf.nats a = Utf.nats b := by
  constructor
  · intro h
    rw [toList_inj3 h]
  · intro h
    rw [nats_inj3 h]
/-- Get. -/
theorem get_f {x : List SE} {L : List En} (h : Tells x L) (w : ByteArray) (K : Nat) (hK : x.length < K) : manteletref08_Get.f K x w = some ((getL L (Utf.nats w) : Nat) : Int) := by
  unfold manteletref08_Get.f
  rw [at_f x w h.2.2.2 K hK, Option.bind_some]
  obtain ⟨hA, hL⟩ := tells_split h (Utf.nats w)
  have hR2 := (tells_rest h (Utf.nats w)).2
  by_cases hp : posL x (Utf.nats w) < x.length
  · rw [if_pos (by omega), if_pos (by omega), rdE_at x _ hp]
    by_cases he : Utf.nats x[posL x (Utf.nats w)].f0 = Utf.nats w
    · rw [if_pos ((toList_iff _ _).2 he)]
      have hx0 := (h.2.1 x[posL x (Utf.nats w)] (List.getElem_mem hp)).1
      have hg : getL L (Utf.nats w) = x[posL x (Utf.nats w)].f1.toNat := by
        rw [hL, List.drop_eq_getElem_cons hp, List.map_cons]
        have e2 : toEn x[posL x (Utf.nats w)] = (Utf.nats w, x[posL x (Utf.nats w)].f1.toNat) := by unfold toEn; rw [he]
        rw [e2]
        exact get_mid _ _ _ _ hA
      rw [hg]
      congr 1
      omega
    · rw [if_neg (fun e => he ((toList_iff _ _).1 e))]
      have hg : getL L (Utf.nats w) = 0 := by
        rw [hL]
        exact get_rest _ _ (hR2 (fun _ => he)) _ hA
      rw [hg]; rfl
  · rw [if_neg (by omega)]
    have hg : getL L (Utf.nats w) = 0 := by
      rw [hL]
      exact get_rest _ _ (hR2 (fun hp2 => absurd hp2 hp)) _ hA
    rw [hg]; rfl
theorem getL_le {x : List SE} {L : List En} (h : Tells x L) (w : Wd) : getL L w ≤ 4611686018427387904 := by
  unfold getL
  cases hf : L.find? (fun e => e.1 == w) with
  | none => exact Nat.zero_le _
  | some e =>
    have h1 := List.mem_of_find?_eq_some hf
    rw [← h.1] at h1
    obtain ⟨s, hs, rfl⟩ := List.mem_map.1 h1
    have := (h.2.1 s hs).2.1
    show s.f1.toNat ≤ _
    omega
theorem ref01_over {a n : Nat} (ha : a ≤ 4611686018427387904) (hn : n < 18446744073709551616) (h : 4611686018427387904 < a + n) : manteletref01_Add.f (a : Int) (n : Int) = some (0, false) := by
  unfold manteletref01_Add.f
  rw [if_neg (by omega)]
  by_cases h1 : 4611686018427387904 < n
  · rw [if_pos (by omega)]
  · rw [if_neg (by omega), wrap_u (by omega) (by omega), if_pos (by omega)]
theorem ref01_fits {a n : Nat} (h : a + n ≤ 4611686018427387904) : manteletref01_Add.f (a : Int) (n : Int) = some (((a + n : Nat) : Int), true) := by
  unfold manteletref01_Add.f
  rw [if_neg (by omega), if_neg (by omega), wrap_u (by omega) (by omega), if_neg (by omega)]
  congr 1
theorem tells_ne {x : List SE} {L : List En} (h : Tells x L) (w : ByteArray) (hg0 : getL L (Utf.nats w) = 0) (hp : posL x (Utf.nats w) < x.length) : Utf.nats x[posL x (Utf.nats w)].f0 ≠ Utf.nats w := fun he => by
  obtain ⟨hA, hL⟩ := tells_split h (Utf.nats w)
  have hg : getL L (Utf.nats w) = x[posL x (Utf.nats w)].f1.toNat := by
    rw [hL, List.drop_eq_getElem_cons hp, List.map_cons]
    have e2 : toEn x[posL x (Utf.nats w)] = (Utf.nats w, x[posL x (Utf.nats w)].f1.toNat) := by unfold toEn; rw [he]
    rw [e2]
    exact get_mid _ _ _ _ hA
  have := (h.2.1 x[posL x (Utf.nats w)] (List.getElem_mem hp)).1
  omega
/-- Add. -/
theorem addref {x : List SE} {L : List En} (h : Tells x L) (room : Nat) (hr : L.length ≤ room) (hr2 : room ≤ 65536) (w : ByteArray) (n : Nat) (hn : n < 18446744073709551616) (K : Nat) (hK : x.length < K) :
    ∃ x', manteletref08_Add.f (K + 1) x (room : Int) w (n : Int) = some (x', (addL L room (Utf.nats w) n).2) ∧ Tells x' (addL L room (Utf.nats w) n).1 ∧ (addL L room (Utf.nats w) n).1.length ≤ room := by
  have hxl : x.length = L.length := by rw [← h.1, List.length_map]
  have hws : (w.size : Int) = 0 ↔ Utf.nats w = [] := by
    rw [← List.length_eq_zero_iff, Utf.nats_length]; omega
  by_cases h0 : Utf.nats w = [] ∨ n = 0
  · have e : addL L room (Utf.nats w) n = (L, 1) := by unfold addL; rw [if_pos h0]
    rw [e]
    refine ⟨x, ?_, h, hr⟩
    unfold manteletref08_Add.f
    by_cases hw : (w.size : Int) = 0
    · rw [if_pos hw]
      rw [manteletref08_Add.j0]
      rw [if_pos rfl]
    · rw [if_neg hw]
      have hn0 : n = 0 := h0.resolve_left (fun e => hw (hws.2 e))
      subst hn0
      rw [manteletref08_Add.j0]
      rw [if_pos (by decide)]
  · have hw : ¬ (w.size : Int) = 0 := fun e => h0 (Or.inl (hws.1 e))
    have hn0 : n ≠ 0 := fun e => h0 (Or.inr e)
    have hgl := getL_le h (Utf.nats w)
    have hst : manteletref08_Add.f (K + 1) x (room : Int) w (n : Int) = manteletref08_Add.j0 (K + 1) x (room : Int) w (n : Int) false := by
      unfold manteletref08_Add.f
      rw [if_neg hw]
      have : (((n : Nat) : Int) == 0) = false := beq_eq_false_iff_ne.2 (by omega)
      rw [this]
    rw [hst]
    rw [manteletref08_Add.j0]
    rw [if_neg (by decide), get_f h w K hK, Option.bind_some]
    by_cases hov : 4611686018427387904 < getL L (Utf.nats w) + n
    · have e : addL L room (Utf.nats w) n = (L, 5) := by unfold addL; rw [if_neg h0, if_pos hov]
      rw [e, ref01_over hgl hn hov, Option.bind_some]
      exact ⟨x, by rw [if_neg (by decide)], h, hr⟩
    · rw [ref01_fits (by omega), Option.bind_some, if_pos rfl, at_f x w h.2.2.2 K hK, Option.bind_some]
      obtain ⟨hA, hL⟩ := tells_split h (Utf.nats w)
      have hR2 := (tells_rest h (Utf.nats w)).2
      have hpl := posL_le x (Utf.nats w)
      by_cases hp0 : 0 < getL L (Utf.nats w)
      · have e : addL L room (Utf.nats w) n = (putL L (Utf.nats w) (getL L (Utf.nats w) + n), 0) := by unfold addL; rw [if_neg h0, if_neg hov, if_pos hp0]
        rw [e]
        have hp : posL x (Utf.nats w) < x.length := by
          rcases Nat.lt_or_ge (posL x (Utf.nats w)) x.length with h1 | h1
          · exact h1
          · exfalso
            have : getL L (Utf.nats w) = 0 := by
              rw [hL]
              exact get_rest _ _ (hR2 (fun hp2 => absurd hp2 (by omega))) _ hA
            omega
        have he : Utf.nats x[posL x (Utf.nats w)].f0 = Utf.nats w := by
          rcases Classical.em (Utf.nats x[posL x (Utf.nats w)].f0 = Utf.nats w) with h1 | h1
          · exact h1
          · exfalso
            have : getL L (Utf.nats w) = 0 := by
              rw [hL]
              exact get_rest _ _ (hR2 (fun _ => h1)) _ hA
            omega
        rw [if_pos (by omega), Option.bind_some, if_pos (by have := h.2.2.2; simp; omega), Option.bind_some]
        rw [List.nil_append, if_pos (by omega), if_pos (by omega), rdE_at x _ hp, Int.toNat_natCast]
        refine ⟨_, rfl, ⟨?_, ?_, sorted_put _ _ _ h.2.2.1, by rw [List.length_set]; exact h.2.2.2⟩, ?_⟩
        · have hput : putL L (Utf.nats w) (getL L (Utf.nats w) + n) = (x.take (posL x (Utf.nats w))).map toEn ++ (Utf.nats w, getL L (Utf.nats w) + n) :: (x.drop (posL x (Utf.nats w) + 1)).map toEn := by
            conv => lhs; rw [hL, List.drop_eq_getElem_cons hp, List.map_cons]
            have e2 : toEn x[posL x (Utf.nats w)] = (Utf.nats w, x[posL x (Utf.nats w)].f1.toNat) := by unfold toEn; rw [he]
            rw [e2]
            have := put_mid (Utf.nats w) x[posL x (Utf.nats w)].f1.toNat (getL L (Utf.nats w) + n) ((x.drop (posL x (Utf.nats w) + 1)).map toEn) _ hA
            rw [get_mid _ _ _ _ hA]
            have hg : getL L (Utf.nats w) = x[posL x (Utf.nats w)].f1.toNat := by
              rw [hL, List.drop_eq_getElem_cons hp, List.map_cons, e2]
              exact get_mid _ _ _ _ hA
            rw [← hg]
            rw [← hg] at this
            exact this
          rw [hput, List.set_eq_take_append_cons_drop, if_pos hp, List.map_append, List.map_cons]
          congr 2
          unfold toEn
          rw [he]
          rfl
        · intro s hs
          rcases List.mem_or_eq_of_mem_set hs with h1 | h1
          · exact h.2.1 s h1
          · subst h1
            refine ⟨?_, ?_, ?_⟩
            · show (1 : Int) ≤ ((getL L (Utf.nats w) + n : Nat) : Int); omega
            · show ((getL L (Utf.nats w) + n : Nat) : Int) ≤ 4611686018427387904; omega
            · show Utf.nats x[posL x (Utf.nats w)].f0 ≠ []; rw [he]; exact fun e => h0 (Or.inl e)
        · rw [len_put _ _ _ h.2.2.1]
          rw [if_pos]
          · exact hr
          · refine ⟨toEn x[posL x (Utf.nats w)], ?_, he⟩
            rw [← h.1]
            exact List.mem_map.2 ⟨_, List.getElem_mem hp, rfl⟩
      · have hg0 : getL L (Utf.nats w) = 0 := by omega
        rw [if_neg (by omega)]
        by_cases hfull : L.length = room
        · have e : addL L room (Utf.nats w) n = (L, 6) := by unfold addL; rw [if_neg h0, if_neg hov, if_neg hp0, if_pos hfull]
          rw [e, if_pos (by omega)]
          exact ⟨x, rfl, h, hr⟩
        · have e : addL L room (Utf.nats w) n = (putL L (Utf.nats w) n, 0) := by unfold addL; rw [if_neg h0, if_neg hov, if_neg hp0, if_neg hfull]
          rw [e]
          have hB := hR2 (tells_ne h w hg0)
          rw [if_neg (by omega), Option.bind_some, if_pos (by omega), if_pos (by omega), Option.bind_some, Int.toNat_natCast, List.nil_append]
          rw [if_pos (by have := h.2.2.2; rw [List.length_take]; simp; omega), Option.bind_some, if_pos (by have := h.2.2.2; rw [List.length_take]; omega), Option.bind_some, Option.bind_some, if_pos (by have := h.2.2.2; rw [List.length_append, List.length_take, List.length_drop]; simp; omega)]
          have hput := put_rest (Utf.nats w) n ((x.drop (posL x (Utf.nats w))).map toEn) hB _ hA
          rw [← hL] at hput
          refine ⟨_, rfl, ⟨?_, ?_, sorted_put _ _ _ h.2.2.1, ?_⟩, ?_⟩
          · rw [hput, List.map_append, List.map_append, hg0, Nat.zero_add, List.append_assoc]; rfl
          · intro s hs
            rcases List.mem_append.1 hs with h1 | h1
            · rcases List.mem_append.1 h1 with h1 | h1
              · exact h.2.1 s (List.mem_of_mem_take h1)
              · rw [List.mem_singleton.1 h1, hg0]
                refine ⟨?_, ?_, fun e => h0 (Or.inl e)⟩
                · show (1 : Int) ≤ ((0 + n : Nat) : Int); omega
                · show ((0 + n : Nat) : Int) ≤ 4611686018427387904; omega
            · exact h.2.1 s (List.mem_of_mem_drop h1)
          · rw [List.length_append, List.length_append, List.length_take, List.length_drop]; simp; omega
          · rw [hput, List.length_append, List.length_cons, List.length_map, List.length_map, List.length_take, List.length_drop]; omega
theorem tells_nil : Tells [] [] := ⟨rfl, by simp, List.Pairwise.nil, Nat.zero_le _⟩
theorem tells_empty {x : List SE} {L : List En} (h : Tells x L) : getL L [] = 0 := get_none (fun e he h2 => by
  rw [← h.1] at he
  obtain ⟨s, hs, rfl⟩ := List.mem_map.1 he
  exact (h.2.1 s hs).2.2 h2)
set_option maxHeartbeats 4000000 in
set_option maxRecDepth 100000 in
theorem get_emp (g : Nat) (word : ByteArray) (hw : Utf.nats word = []) (w : World) : Calls Try.prog 15 #[.pointer (some ⟨g, 0, none⟩), .string word] w fun e w' => e = .returned (.int .u64 0) ∧ w' = w := by
  have hemp := emp_of hw
  clear hw
  go_enter Try.func15, Try.ntmps15
  go_wp2
  go_ret
  exact ⟨rfl, rfl⟩
theorem getAll (base g room : Nat) (F : Nat → Prop) (L : List En) (x : List SE) (word : ByteArray) (w : World) (h : TabF base g room F L w) (hx : Tells x L) (hwz : word.size ≤ 140737488355328) :
    Calls Try.prog 15 #[.pointer (some ⟨g, 0, none⟩), .string word] w fun e w' => e = .returned (.int .u64 (getL L (Utf.nats word) : Int)) ∧ Below w.heap.size w w' := by
  by_cases he : Utf.nats word = []
  · refine (get_emp g word he w).mono ?_
    rintro e w' ⟨rfl, rfl⟩
    rw [he, tells_empty hx]
    exact ⟨rfl, Below.refl _ _⟩
  · exact getF base g room F L word w h hwz he
set_option maxHeartbeats 4000000 in
set_option maxRecDepth 100000 in
theorem new_bad (room : Int) (h : room < 1 ∨ 65536 < room) (w : World) : Calls Try.prog 10 #[.int .i64 room] w fun e w' => e = .returned (.tuple #[.pointer none, .int .i64 1]) ∧ w' = w := by
  by_cases h1 : room < 1
  · have z1 : decide (room < 1) = true := decide_eq_true h1
    clear h h1
    go_enter Try.func10, Try.ntmps10
    go_wp2
    go_ret2
    exact ⟨rfl, rfl⟩
  · have z1 : decide (room < 1) = false := decide_eq_false h1
    have z2 : decide (65536 < room) = true := decide_eq_true (by omega)
    have z3 : decide (room > 65536) = true := decide_eq_true (by omega)
    clear h h1
    go_enter Try.func10, Try.ntmps10
    go_wp2
    go_ret2
    exact ⟨rfl, rfl⟩
end Go.Proofs.Ytjjkibjpbfkpcaa.K

namespace Go.Proofs.Ytjjkibjpbfkpcaa.K
open Go.RowKit Go.Proofs.YtjjkibjpbfkpcaaW.PrintWords Go.Proofs.YtjjkibjpbfkpcaaW.PrintLast Go.Proofs.YtjjkibjpbfkpcaaW.PrintMore Go.Proofs.Ytjjkibjpbfkpcaa
attribute [local go_sem] max2_int min2_int max_two min_two max_three min_three max_four min_four
set_option linter.unusedVariables false
set_option linter.unusedSimpArgs false
end Go.Proofs.Ytjjkibjpbfkpcaa.K

namespace Go.Proofs.Ytjjkibjpbfkpcaa.K
open Go.RowKit Go.Proofs.YtjjkibjpbfkpcaaW.PrintWords Go.Proofs.YtjjkibjpbfkpcaaW.PrintLast Go.Proofs.YtjjkibjpbfkpcaaW.PrintMore Go.Proofs.Ytjjkibjpbfkpcaa
attribute [local go_sem] max2_int min2_int max_two min_two max_three min_three max_four min_four
set_option linter.unusedVariables false
set_option linter.unusedSimpArgs false
open Go.Proofs.Ytjjkibjpbfkpcaa
/-- A part's bulk under the bound. -/
theorem bulk_part {H : Type} {d : DataW H} {l : List (DataW H)} (hk : Rows.uptoSmall H l = true) (h : d ∈ l) : Rows.uptoBulk d ≤ 1048576 := by
  have hb : Rows.uptoBulkAll l ≤ 1048576 := of_decide_eq_true hk
  have : ∀ l : List (DataW H), d ∈ l → Rows.uptoBulk d ≤ Rows.uptoBulkAll l := by
    intro l
    induction l with
    | nil => exact fun h => by cases h
    | cons x r ih =>
      intro h
      simp only [Rows.uptoBulkAll]
      rcases List.mem_cons.1 h with rfl | h
      · omega
      · have := ih h
        omega
  exact Nat.le_trans (this l h) hb
end Go.Proofs.Ytjjkibjpbfkpcaa.K

namespace Go.Proofs.Ytjjkibjpbfkpcaa.K
open Go.RowKit Go.Proofs.YtjjkibjpbfkpcaaW.PrintWords Go.Proofs.YtjjkibjpbfkpcaaW.PrintLast Go.Proofs.YtjjkibjpbfkpcaaW.PrintMore Go.Proofs.Ytjjkibjpbfkpcaa
attribute [local go_sem] max2_int min2_int max_two min_two max_three min_three max_four min_four
set_option linter.unusedVariables false
set_option linter.unusedSimpArgs false
open Go.Proofs.Ytjjkibjpbfkpcaa
structure Dd where
  f0 : Int
  f1 : ByteArray
  f2 : Int
def kDd : Kd Dd := Kd.iso (Kd.pair (Kd.int .i64) (Kd.pair Kd.string (Kd.int .u64))) (fun x : Dd => (x.f0, x.f1, x.f2))
theorem kDd_mk (w : World) (x : Dd) : kDd.K w x [.int .i64 x.f0, .string x.f1, .int .u64 x.f2] := ⟨[.int .i64 x.f0], [.string x.f1, .int .u64 x.f2], rfl, rfl, ⟨[.string x.f1], [.int .u64 x.f2], rfl, rfl, rfl⟩⟩
theorem kDd_open {w : World} {x : Dd} {cs : List Value} (h : kDd.K w x cs) : cs = [.int .i64 x.f0, .string x.f1, .int .u64 x.f2] := by
  obtain ⟨_, _, rfl, rfl, ⟨_, _, rfl, rfl, rfl⟩⟩ := h
  rfl
theorem pick_rowD {α : Type} {n : Nat} {p : Nat → α → Prop} (h : ∀ i, i < n → ∃ x, p i x) : ∃ l : List α, l.length = n ∧ ∀ i (hi : i < l.length), p i l[i] := by
  induction n with
  | zero => exact ⟨[], rfl, fun i hi => by simp at hi⟩
  | succ n ih =>
    obtain ⟨l, h1, h2⟩ := ih (fun i hi => h i (by omega))
    obtain ⟨x, hx⟩ := h n (by omega)
    refine ⟨l ++ [x], by simp [h1], fun i hi => ?_⟩
    rw [List.length_append, List.length_singleton] at hi
    by_cases hin : i < l.length
    · rw [List.getElem_append_left hin]; exact h2 i hin
    · have : i = n := by omega
      subst this
      rw [List.getElem_append_right (by omega)]
      simpa [h1] using hx
theorem bulk_mem {H : Type} {d : DataW H} : ∀ {l : List (DataW H)}, d ∈ l → Rows.uptoBulk d ≤ Rows.uptoBulkAll l := by
  intro l
  induction l with
  | nil => exact fun h => by cases h
  | cons x r ih =>
    intro h
    simp only [Rows.uptoBulkAll]
    rcases List.mem_cons.1 h with rfl | h
    · omega
    · have := ih h
      omega
def DdOk (b : Nat) (x : Dd) : Prop := x.f1.size + 1 ≤ b ∧ (Lit.int .i64 x.f0).wf = true ∧ (Lit.int .u64 x.f2).wf = true
theorem DdOk.up {b : Nat} {x : Dd} (h : DdOk b x) (hb : b ≤ 1048576) : DdOk 1048577 x := ⟨Nat.le_trans h.1 (Nat.le_trans hb (by decide)), h.2⟩
theorem open_deedsU {H : Type} {enc : TypeId × Value → H} {P : Program} {w : World} {base : Nat} {held : Bool} {t e : TypeId} {f0 f1 f2 : Field} {a : Option Addr} {len cap : Nat} {d : DataW H} {ps : List MemPlace}
    (ht : P.underlying t = some (.slice e)) (he : P.underlying e = some (.struct #[f0, f1, f2])) (ce : P.cellsOf e = 3) (o0 : f0.offset = 0) (o1 : f1.offset = 1) (o2 : f2.offset = 2)
    (c0 : P.cellsOf f0.type = 1) (c1 : P.cellsOf f1.type = 1) (c2 : P.cellsOf f2.type = 1) (u0 : P.underlying f0.type = some (.int .i64)) (u1 : P.underlying f1.type = some .string) (u2 : P.underlying f2.type = some (.int .u64))
    (h : DataW.Trod enc P w base (fun _ => true) held t (.slice a len cap) d ps) :
    ∃ l : List Dd, len = l.length ∧ l.length ≤ cap ∧ l.length ≤ maxLen ∧ Kd.C kDd w a l.length l ∧ ∀ x ∈ l, DdOk (Rows.uptoBulk d) x := by
  obtain ⟨fuel, hf⟩ := h
  rcases Go.Deep.open_slice ht hf with ⟨hcs, _⟩ | ⟨a', len', cap', m, n, D, Pl, hcs, hb, hl, hm, hmm, hx, hel⟩
  · simp [Value.cells] at hcs
    obtain ⟨rfl, rfl, rfl⟩ := hcs
    exact ⟨[], rfl, Nat.le_refl _, Nat.zero_le _, Kd.C_nil _ _, by simp⟩
  · simp [Value.cells] at hcs
    obtain ⟨rfl, rfl, rfl⟩ := hcs
    simp only [if_true] at hmm
    have hmq := hmm.symm
    subst hmq
    have hd : d = .slice ((List.range len).map D) ((List.range (cap - len)).map fun j => D (len + j)) := (Prod.mk.inj hx).1
    obtain ⟨l, h1, h2⟩ := pick_rowD (n := len) (p := fun i (s : Dd) => w.cell? (a'.add (i * 3)) = some (.int .i64 s.f0) ∧ w.cell? (a'.add (i * 3 + 1)) = some (.string s.f1) ∧ w.cell? (a'.add (i * 3 + 2)) = some (.int .u64 s.f2) ∧ s.f1.size + 1 ≤ Rows.uptoBulk (D i) ∧ (Lit.int .i64 s.f0).wf = true ∧ (Lit.int .u64 s.f2).wf = true) (fun i hi => by
      obtain ⟨cs', g1, g2⟩ := hel i (by omega)
      rw [ce] at g1
      obtain ⟨_, hlen, hcell⟩ := World.cells?_some g1
      obtain ⟨xs, k, hk, hxy, _, hxl, hff⟩ := DataW.trod_struct he g2
      match xs, hxl, cs', hlen with
      | [y0, y1, y2], _, [v0, v1, v2], _ =>
        have q0 := hff 0 f0 rfl
        have q1 := hff 1 f1 rfl
        have q2 := hff 2 f2 rfl
        simp [o0, o1, o2, c0, c1, c2] at q0 q1 q2
        have e0 := hcell 0 (by omega)
        have e1 := hcell 1 (by omega)
        have e2 := hcell 2 (by omega)
        rw [add_add] at e0 e1 e2
        obtain ⟨n0, r0, z0, s0⟩ := DataW.trod_int u0 q0
        obtain ⟨n1, r1, z1, s1⟩ := DataW.trod_string u1 q1
        obtain ⟨n2, r2, z2, s2⟩ := DataW.trod_int u2 q2
        injection r0 with r0 _
        injection r1 with r1 _
        injection r2 with r2 _
        simp only [Prod.mk.injEq] at hxy
        refine ⟨⟨n0, n1, n2⟩, by rw [← r0]; simpa using e0, by rw [← r1]; simpa using e1, by rw [← r2]; simpa using e2, ?_, s0, s2⟩
        have hD : D i = .agg [y0.1, y1.1, y2.1] := by simpa using hxy.1
        rw [hD, z1]
        simp only [Rows.uptoBulk, Rows.uptoBulkAll]
        have : n1.data.toList.length = n1.size := by rw [Array.length_toList]; rfl
        omega)
    refine ⟨l, h1.symm, by omega, by omega, ⟨rfl, by unfold maxLen at hm; omega, fun _ => ⟨a', rfl, fun j p hj => ?_⟩⟩, fun s hs2 => ?_⟩
    · obtain ⟨hjl, rfl⟩ := List.getElem?_eq_some_iff.1 hj
      obtain ⟨g0, g1, g2, _⟩ := h2 j hjl
      refine ⟨_, rfl, kDd_mk w _, fun i u hu => ?_⟩
      match i with
      | 0 => simp at hu; rw [← hu]; exact g0
      | 1 => simp at hu; rw [← hu]; exact g1
      | 2 => simp at hu; rw [← hu]; exact g2
      | i + 3 => simp at hu
    · obtain ⟨i, hi, rfl⟩ := List.getElem_of_mem hs2
      obtain ⟨_, _, _, g3, g4, g5⟩ := h2 i hi
      refine ⟨?_, g4, g5⟩
      have hb2 : Rows.uptoBulk (D i) ≤ Rows.uptoBulkAll ((List.range len).map D) := bulk_mem (List.mem_map.2 ⟨i, List.mem_range.2 (by omega), rfl⟩)
      rw [hd]
      simp only [Rows.uptoBulk]
      omega
end Go.Proofs.Ytjjkibjpbfkpcaa.K

namespace Go.Proofs.Ytjjkibjpbfkpcaa.K
open Go.RowKit Go.Proofs.YtjjkibjpbfkpcaaW.PrintWords Go.Proofs.YtjjkibjpbfkpcaaW.PrintLast Go.Proofs.YtjjkibjpbfkpcaaW.PrintMore Go.Proofs.Ytjjkibjpbfkpcaa
attribute [local go_sem] max2_int min2_int max_two min_two max_three min_three max_four min_four
set_option linter.unusedVariables false
set_option linter.unusedSimpArgs false
open Go.Proofs.Ytjjkibjpbfkpcaa.PTb Go.Proofs.Ytjjkibjpbfkpcaa.Tab
theorem i64_pos {x : Int} (h : ¬ (x < 1 ∨ 65536 < x)) : ∃ n : Nat, x = (n : Int) ∧ 1 ≤ n ∧ n ≤ 65536 := ⟨x.toNat, by omega, by omega, by omega⟩
theorem rdD (l : List Dd) (i : Nat) (h : i < l.length) : l.getD i ⟨0, ByteArray.empty, 0⟩ = l[i] := by
  rw [List.getD_eq_getElem?_getD, List.getElem?_eq_getElem h]; rfl
set_option maxHeartbeats 4000000 in
set_option maxRecDepth 100000 in
theorem TablePlays_walk (a0 : Int) (a1 : Option Addr) (cap1 : Nat) (l1 : List Dd) (w : World) (w0 : (Lit.int .i64 a0).wf = true) (hC1 : Kd.C kDd w a1 l1.length l1) (hc1 : l1.length ≤ cap1) (hw1 : ∀ x ∈ l1, DdOk 1048577 x) :
    Calls Try.prog 5 #[.int .i64 a0, .slice a1 l1.length cap1] w fun e w' => e = .returned (.bool true) ∧ Below w.heap.size w w' := by
  clear w0
  have HSH := Aside0.mk (shown_k w)
  have hll : (l1.length : Int) ≤ 9223372036854775807 := by have := hC1.2.1; omega
  have HC := Aside0.mk hC1; have HCAP := Aside0.mk hc1; have HW := Aside0.mk hw1
  clear hC1 hc1 hw1
  go_enter Try.func5, Try.ntmps5
  go_upto_region 2 with (first | (go_at_call 9; (with_reducible refine (HSH.out).mono ?_); rintro e w1 ⟨rfl, hB⟩; have HB := Aside0.mk hB; clear hB))
  by_cases hbad : a0 < 1 ∨ 65536 < a0
  · have HNEW := Aside0.mk (new_bad a0 hbad w1)
    go_upto_region 3 with (first | (go_at_call 10; (with_reducible refine (HNEW.out).mono ?_); rintro e w2 ⟨rfl, rfl⟩))
    by_cases h1 : a0 < 1
    · have z1 : decide (a0 < 1) = true := decide_eq_true h1
      clear hbad h1
      go_wp2
      go_ret
      exact ⟨rfl, HB.out⟩
    · have z1 : decide (a0 < 1) = false := decide_eq_false h1
      have z2 : decide (a0 > 65536) = true := decide_eq_true (by omega)
      clear hbad h1
      go_wp2
      go_ret
      exact ⟨rfl, HB.out⟩
  · obtain ⟨R, rfl, hR1, hR2⟩ := i64_pos hbad
    have HR := Aside0.mk (And.intro hR1 hR2)
    have HNEW := Aside0.mk (newF R hR1 hR2 w1)
    have z1 : decide ((R : Int) < 1) = false := decide_eq_false (by omega)
    have z2 : decide ((R : Int) > 65536) = false := decide_eq_false (by omega)
    clear hbad hR1 hR2
    go_upto_region 3 with (first | (go_at_call 10; (with_reducible refine (HNEW.out).mono ?_); rintro e w2 ⟨g, rfl, hT, hB⟩; have HT := Aside0.mk hT; have HB2 := Aside0.mk (HB.out.trans (hB.mono HB.out.size)); have HSZ := Aside0.mk HB.out.size; clear hT hB HB))
    go_upto_block 0 with fail
    clear z1 z2
    obtain ⟨W2, hW2⟩ : ∃ W2, W2 = w2 := ⟨_, rfl⟩
    rw [← hW2] at HT HB2 ⊢
    clear hW2
    go_wp2
    go_loopg [8, 9] l1.length (fun gg v8 v9 wr => ∃ (i : Nat) (F : Nat → Prop) (x : List SE) (L : List En), v9 = .int .i64 (i : Int) ∧ Aside0 (i ≤ l1.length ∧ i ≤ 300 ∧ l1.length ≤ gg + i) ∧ Aside0 (TabF w1.heap.size g R F L wr) ∧ Aside0 (Kd.R k35 35 wr w.heap.size (fun k => ¬ F k) v8 x) ∧ Aside0 (Tells x L ∧ L.length ≤ R) ∧ Aside0 (Below w.heap.size w wr))
    case atStart => exact ⟨0, _, [], [], rfl, ⟨by omega⟩, HT, ⟨Kd.R_nil _ _ _ _ _⟩, ⟨tells_nil, Nat.zero_le _⟩, HB2⟩
    case round =>
      obtain ⟨i, F, x, L, rfl, hi, hT, hX, hTX, hB⟩ := hrel
      by_cases hlt : i < l1.length ∧ i < 300
      · have hcb : decide ((i : Int) < (l1.length : Int)) = true := decide_eq_true (by omega)
        have hcbN : decide (i < l1.length) = true := decide_eq_true hlt.1
        have hcc : decide ((i : Int) < 300) = true := decide_eq_true (by omega)
        have q0 : (0 : Int) ≤ (i : Int) := by omega
        have q1 : (i : Int) < (l1.length : Int) := by omega
        obtain ⟨ad, cc, ead, _, hK, hcell⟩ := Kd.C_get (Kd.C_below HC.out hB.out) (⟨0, ByteArray.empty, 0⟩ : Dd) (i : Int) q0 q1
        cases ead
        rw [Int.toNat_natCast] at hK hcell
        rw [rdD l1 i hlt.1] at hK
        obtain ⟨y, hy⟩ : ∃ y, l1[i] = y := ⟨_, rfl⟩
        have hyok : DdOk 1048577 y := by rw [← hy]; exact HW.out _ (List.getElem_mem hlt.1)
        rw [hy] at hK
        obtain rfl := kDd_open hK
        have hc : ∀ j u, ([.int .i64 y.f0, .string y.f1, .int .u64 y.f2] : List Value)[j]? = some u → wr.cell? (ad.add (i * 3 + j)) = some u := hcell
        have c0 : wr.cell? (ad.add (i * 3)) = some (.int .i64 y.f0) := hc 0 _ rfl
        have c1 : wr.cell? ⟨(ad.add (i * 3)).block, (ad.add (i * 3)).off + 1, none⟩ = some (.string y.f1) := by rw [← add_field _ _ 1 (by omega)]; exact hc 1 _ rfl
        have c2 : wr.cell? ⟨(ad.add (i * 3)).block, (ad.add (i * 3)).off + 2, none⟩ = some (.int .u64 y.f2) := by rw [← add_field _ _ 2 (by omega)]; exact hc 2 _ rfl
        obtain ⟨n, hn, hn64⟩ := u64_nat hyok.2.2
        have hys : y.f1.size ≤ 1048576 := Nat.le_of_succ_le_succ hyok.1
        have HLT := Aside0.mk hlt
        have HIW := Aside0.mk (w64_3 (k := i) (by omega))
        have HY := Aside0.mk (And.intro hys (And.intro hn64 hn))
        have hX' : Kd.R k35 35 wr w.heap.size (fun k => ¬ (F k ∧ k < wr.heap.size) ∧ k < wr.heap.size) u8 x := Kd.R_mono (Kd.R_bound hX.out) (fun k hk => ⟨fun h => hk.1 h.1, hk.2.2.1⟩)
        have HX' := Aside0.mk hX'
        have hTh := hT.out.here
        clear hy hyok hcell hc hK hn hn64 hys hX' hX hT hlt
        go_upto_region 12 with fail
        have n1 := heap_alloc_new wr (.cells #[.int .i64 y.f0, .string y.f1, .int .u64 y.f2] 39)
        have b1 : Below wr.heap.size wr (wr.alloc (.cells #[.int .i64 y.f0, .string y.f1, .int .u64 y.f2] 39)) := below_alloc (Below.refl _ _) _
        have HB3 := Aside0.mk (hB.out.trans (b1.mono hB.out.size))
        have HT3 := Aside0.mk (hTh.step b1)
        have HX3 := Aside0.mk (Kd.R_below HX'.out b1)
        have HN3 := Aside0.mk n1
        obtain ⟨N, hN⟩ : ∃ N, N = wr.heap.size := ⟨_, rfl⟩
        have hsN : w.heap.size ≤ N := by rw [hN]; exact hB.out.size
        have HSN := Aside0.mk hsN
        rw [← hN] at HT3 HX3 HN3 ⊢
        have HLN : Aside0 (N < (wr.alloc (.cells #[.int .i64 y.f0, .string y.f1, .int .u64 y.f2] 39)).heap.size) := ⟨blk_lt HN3.out⟩
        clear c0 c1 c2 n1 b1 HX' hTh hB hN hsN
        generalize wr.alloc (.cells #[.int .i64 y.f0, .string y.f1, .int .u64 y.f2] 39) = w3 at HB3 HT3 HX3 HN3 HLN ⊢
        clear hcb hcbN hcc
        have z0 : w3.cell? ⟨N, 0, none⟩ = some (.int .i64 y.f0) := (blk_cell HN3.out 0).trans rfl
        have z1 : w3.cell? ⟨N, 1, none⟩ = some (.string y.f1) := (blk_cell HN3.out 1).trans rfl
        have z2 : w3.cell? ⟨N, 2, none⟩ = some (.int .u64 y.f2) := (blk_cell HN3.out 2).trans rfl
        go_upto_if 57 with fail
        go_cut [8] (fun v8 wx => ∃ (F' : Nat → Prop) (x' : List SE) (L' : List En), Aside0 (TabF w1.heap.size g R F' L' wx) ∧ Aside0 (Kd.R k35 35 wx w.heap.size (fun k => ¬ F' k) v8 x') ∧ Aside0 (Tells x' L' ∧ L'.length ≤ R) ∧ Aside0 (wx.heap[N]? = some (.cells #[.int .i64 y.f0, .string y.f1, .int .u64 y.f2] 39 (0, 0))) ∧ Aside0 (Below w.heap.size w wx))
        case first =>
          by_cases hk : y.f0 = 0
          · have hkb : (y.f0 == 0) = true := beq_iff_eq.2 hk
            have HDR := Aside0.mk (drainF _ g R _ L w3 HT3.out)
            clear hk
            go_wp2_with (fail)
            clear hkb z0 z1 z2
            refine Calls.mono HDR.out ?_
            rintro e w5 ⟨v5, e5, rfl, he5, hp5, hR5, hT5, hB5, hK5⟩
            have hex : e5 = x := map_toEn_inj _ _ (he5.trans hTX.out.1.1.symm) (fun s hs => (hp5 s hs).1) (fun s hs => by have := (hTX.out.1.2.1 s hs).1; omega)
            subst hex
            have hX5 := Kd.R_kept HX3.out hK5 (fun k hk hs => hk.1 hs)
            have hN5 := blk_kept HN3.out hK5 (fun hs => by have := hs.2; omega)
            obtain ⟨A, c, hva⟩ := Kd.R_slice hR5
            subst hva
            obtain ⟨A', c', hvb⟩ := Kd.R_slice hX5
            subst hvb
            obtain ⟨_, hca, hCa⟩ := Kd.R_reads' hR5
            obtain ⟨_, hcb, hCb⟩ := Kd.R_reads' hX5
            have HSAME := Aside0.mk (manteletref08_Same.calls _ A c e5 A' c' e5 true w5 hCa hca hCb hcb (same_refl e5 (by have := hTX.out.1.2.2.2; omega)))
            have HT5 := Aside0.mk hT5; have HB5 := Aside0.mk (HB3.out.trans (hB5.mono HSZ.out)); have HN5 := Aside0.mk hN5
            clear hR5 hX5 hCa hCb hca hcb he5 hp5 hT5 hB5 hK5 hN5 HX3
            go_wp2_with (fail)
            refine Calls.mono HSAME.out ?_
            rintro e w6 ⟨rfl, hd⟩
            have HT6 := Aside0.mk (HT5.out.step hd.below)
            have HB6 := Aside0.mk (HB5.out.trans (hd.below.mono HB5.out.size))
            have HN6 := Aside0.mk (blk_below HN5.out hd.below)
            clear hd HT5 HB5 HN5
            go_wp2
            go_meet
            case rel => exact ⟨_, [], [], HT6, ⟨Kd.R_nil _ _ _ _ _⟩, ⟨tells_nil, Nat.zero_le _⟩, HN6, HB6⟩
          · have hkb : (y.f0 == 0) = false := beq_eq_false_iff_ne.2 hk
            clear hk
            obtain ⟨La, ra, ea⟩ : ∃ La ra, addL L R (Utf.nats y.f1) n = (La, ra) := ⟨_, _, rfl⟩
            have HA := Aside0.mk (addTF _ g R _ L _ _ y.f1 y.f2 n w3 HY.out.2.2 HT3.out HY.out.1 ea)
            obtain ⟨x', hxf, hxt, hxl⟩ := addref hTX.out.1 R hTX.out.2 HR.out.2 y.f1 n HY.out.2.1 (x.length + 1) (Nat.lt_succ_self _)
            rw [ea, ← HY.out.2.2] at hxf
            rw [ea] at hxt hxl
            have HXF := Aside0.mk hxf; have HXT := Aside0.mk (And.intro hxt hxl)
            clear ea hxf hxt hxl
            go_upto_region 17 with (first | (go_at_call 11; (with_reducible refine (HA.out).mono ?_); rintro e w4 ⟨rfl, hT4, hB4, hK4⟩; have HT4 := Aside0.mk hT4.here; have HB4 := Aside0.mk (HB3.out.trans (hB4.mono HSZ.out)); have HX4 := Aside0.mk (Kd.R_kept HX3.out hK4 (fun k hk hs => hk.1 hs)); have HN4 := Aside0.mk (blk_kept HN3.out hK4 (fun hs => by have := hs.2; omega)); have HS4 := Aside0.mk hK4.1; clear hT4 hB4 hK4))
            clear z0 z1 z2 hkb
            have z1 : w4.cell? ⟨N, 1, none⟩ = some (.string y.f1) := (blk_cell HN4.out 1).trans rfl
            have z2 : w4.cell? ⟨N, 2, none⟩ = some (.int .u64 y.f2) := (blk_cell HN4.out 2).trans rfl
            have HREF := Aside0.mk (manteletref08_Add.calls _ (fun k => ¬ (F k ∧ k < N) ∧ k < N) _ x (R : Int) y.f1 y.f2 x' ra w w4 HB4.out HX4.out HXF.out)
            go_upto_region 18 with (first | (go_at_call 14; (with_reducible refine (HREF.out).mono ?_); rintro e w5 ⟨v5, rfl, hR5, hB5, hK5⟩; have HX5 := Aside0.mk hR5; have HB5 := Aside0.mk hB5; have HT5 := Aside0.mk (HT4.out.kept hK5 (fun k hk hs => hk.1.elim (fun h => hs.1 h) (fun h => by have h1 := HLN.out; have h2 := hs.2; omega))); have HN5 := Aside0.mk (blk_kept HN4.out hK5 (fun hs => Nat.lt_irrefl _ hs.2)); clear hR5 hB5 hK5))
            clear z1 z2
            go_wp2
            go_meet
            case rel =>
              refine ⟨_, x', La, HT5, ⟨Kd.R_mono HX5.out (fun k hk hf => ?_)⟩, HXT, HN5, HB5⟩
              rcases hk with hk | hk
              · rcases hf.1 with h | h
                · exact hk.1 h
                · have h1 := HLN.out; have h2 := hk.2; omega
              · have h1 := hf.2; omega
        case rest =>
          clear HT3 HX3 HN3 HB3 z0 z1 z2
          obtain ⟨F1, x1, L1, HT1, HX1, HTX1, HN1, HB1⟩ := hcut
          obtain ⟨A, c, hv⟩ := Kd.R_slice HX1.out
          subst hv
          obtain ⟨_, hcx, hCx⟩ := Kd.R_reads' HX1.out
          have hgf := get_f HTX1.out.1 y.f1 (x1.length + 1) (Nat.lt_succ_self _)
          have hlx : (L1.length : Int) = (x1.length : Int) := by have h := HTX1.out.1.1; rw [← h, List.length_map]
          have HGF := Aside0.mk hgf; have HCX := Aside0.mk hCx; have HCC := Aside0.mk hcx; have HLX := Aside0.mk hlx
          have z1 : wc.cell? ⟨N, 1, none⟩ = some (.string y.f1) := (blk_cell HN1.out 1).trans rfl
          clear hgf hCx hcx hlx
          go_upto_region 21 with fail
          refine start_ (n := 16) (S := fun w' => w'.cell? ⟨N, 1, none⟩ = some (.string y.f1)) (ds := [7, 11]) #[false, false, false, false, false, false, false, false, false, false, false, false, false, false, false, false] (by kernel_rfl) rfl rfl (by exact z1) (fun hHeld => ?_)
          have HT2 : Aside0 (TabF w1.heap.size g R F1 L1 wc.drew) := ⟨HT1.out.step (below_drew (Below.refl _ _))⟩
          have HX2 : Aside0 (Kd.R k35 35 wc.drew w.heap.size (fun j => ¬ F1 j) (.slice A x1.length c) x1) := ⟨Kd.R_drew HX1.out⟩
          have HB2' := Aside0.mk (below_drew HB1.out)
          clear z1 HT1 HX1 HN1 HB1 HCX
          generalize wc.drew = w4 at HT2 HX2 HB2' hHeld ⊢
          (refine pure_ (i := 0) (N := some 83) (v := ?_) (a' := ?_) #[true, false, false, false, false, false, false, false, false, false, false, false, false, false, false, false] rfl rfl (by kernel_rfl) (fun _ _ _ h => h) (Or.inl ⟨by rfl, ?_⟩) ?_ ?_; rotate_left; (intro w'; go_simp; with_reducible rfl); rotate_left; (simp only [Act.put, List.setIfInBounds_toArray, List.set_cons_zero, List.set_cons_succ, i64_w, i32_w]; rfl)); (refine pure_ (i := 1) (N := some 84) (v := ?_) (a' := ?_) #[true, true, false, false, false, false, false, false, false, false, false, false, false, false, false, false] rfl rfl (by kernel_rfl) (fun _ _ _ h => h) (Or.inl ⟨by rfl, ?_⟩) ?_ ?_; rotate_left; (intro w'; go_simp; with_reducible rfl); rotate_left; (simp only [Act.put, List.setIfInBounds_toArray, List.set_cons_zero, List.set_cons_succ, i64_w, i32_w]; rfl)); (refine pure_ (i := 4) (N := some 87) (v := ?_) (a' := ?_) #[true, true, false, false, true, false, false, false, false, false, false, false, false, false, false, false] rfl rfl (by kernel_rfl) (fun _ _ _ h => h) (Or.inl ⟨by rfl, ?_⟩) ?_ ?_; rotate_left; (intro w'; go_simp; with_reducible rfl); rotate_left; (simp only [Act.put, List.setIfInBounds_toArray, List.set_cons_zero, List.set_cons_succ, i64_w, i32_w]; rfl)); (refine pure_ (i := 5) (N := some 88) (v := ?_) (a' := ?_) #[true, true, false, false, true, true, false, false, false, false, false, false, false, false, false, false] rfl rfl (by kernel_rfl) (fun _ _ _ h => h) (Or.inl ⟨by rfl, ?_⟩) ?_ ?_; rotate_left; (intro w'; go_simp; with_reducible rfl); rotate_left; (simp only [Act.put, List.setIfInBounds_toArray, List.set_cons_zero, List.set_cons_succ, i64_w, i32_w]; rfl))
          (refine take_ (i := 2) (N := some 85) (v := ?_) (a' := ?_) #[true, true, true, false, true, true, false, false, false, false, false, false, false, false, false, false] rfl rfl (by kernel_rfl) (fun _ _ _ h => h) (Or.inl ⟨by rfl, ?_⟩) hHeld ?_ ?_; rotate_left; (rintro w' s0; go_simp; with_reducible rfl); rotate_left; (simp only [Act.put, List.setIfInBounds_toArray, List.set_cons_zero, List.set_cons_succ, i64_w, i32_w]; rfl)); (refine take_ (i := 6) (N := some 89) (v := ?_) (a' := ?_) #[true, true, true, false, true, true, true, false, false, false, false, false, false, false, false, false] rfl rfl (by kernel_rfl) (fun _ _ _ h => h) (Or.inl ⟨by rfl, ?_⟩) hHeld ?_ ?_; rotate_left; (rintro w' s0; go_simp; with_reducible rfl); rotate_left; (simp only [Act.put, List.setIfInBounds_toArray, List.set_cons_zero, List.set_cons_succ, i64_w, i32_w]; rfl))
          refine one_ (i := 3) (N := some 86) #[true, true, true, true, true, true, true, false, false, false, false, false, false, false, false, false] rfl rfl (by kernel_rfl) (by decide) (fun K hK => ?_)
          refine goes_ Try.func15 (by kernel_rfl) rfl #[.pointer (some ⟨g, 0, none⟩), .string y.f1] (by rfl) rfl rfl (by simp only [List.map_toArray, List.map_cons, List.map_nil]; rfl) ?_
          refine (getAll _ g R F1 L1 x1 y.f1 w4 HT2.out HTX1.out.1 (Nat.le_trans HY.out.1 (by decide))).mono fun e w5 hh => ?_
          obtain ⟨rfl, hB5⟩ := hh
          have HT5 := Aside0.mk (HT2.out.step hB5)
          have HX5 := Aside0.mk (Kd.R_below HX2.out hB5)
          have HB5 := Aside0.mk (HB2'.out.trans (hB5.mono HB2'.out.size))
          refine ⟨_, rfl, hK.out _ _ (pw_cell_below hB5 hHeld) (fun hHeld => ?_)⟩
          clear HT2 HX2 HB2' hB5
          (clear hK K; refine norm_ (a' := ?_) ?_ ?_; rotate_left; (show Act.put _ (some 86) _ = _; simp only [Act.put, List.setIfInBounds_toArray, List.set_cons_zero, List.set_cons_succ, i64_w, i32_w]; rfl))
          refine last_ (i := 7) (N := some 90) #[true, true, true, true, true, true, true, true, false, false, false, false, false, false, false, false] rfl rfl (by kernel_rfl) (by decide) (fun K hK => ?_)
          refine goes_ Try.func16 (by kernel_rfl) rfl #[.slice A x1.length c, .string y.f1] (by rfl) rfl rfl (by simp only [List.map_toArray, List.map_cons, List.map_nil]; rfl) ?_
          refine (manteletref08_Get.calls _ A c x1 y.f1 _ w5 (Kd.R_reads' HX5.out).2.2 HCC.out HGF.out).mono fun e w6 hh => ?_
          obtain ⟨rfl, hd⟩ := hh
          have HT6 := Aside0.mk (HT5.out.step hd.below)
          have HX6 := Aside0.mk (Kd.R_below HX5.out hd.below)
          have HB6 := Aside0.mk (HB5.out.trans (hd.below.mono HB5.out.size))
          refine ⟨_, rfl, hK.out _ _ ?_⟩
          clear HT5 HX5 HB5 hd hHeld
          (clear hK K; refine norm_ (a' := ?_) ?_ ?_; rotate_left; (show Act.put _ (some 90) _ = _; simp only [Act.put, List.setIfInBounds_toArray, List.set_cons_zero, List.set_cons_succ, i64_w, i32_w]; rfl))
          (refine pure_ (i := 8) (N := some 91) (v := ?_) (a' := ?_) #[true, true, true, true, true, true, true, true, true, false, false, false, false, false, false, false] rfl rfl (by kernel_rfl) (fun _ _ _ h => h) (Or.inl ⟨by rfl, ?_⟩) ?_ ?_; rotate_left; (intro w'; go_simp; with_reducible rfl); rotate_left; (simp only [Act.put, List.setIfInBounds_toArray, List.set_cons_zero, List.set_cons_succ, i64_w, i32_w]; rfl)); (refine pure_ (i := 9) (N := some 92) (v := ?_) (a' := ?_) #[true, true, true, true, true, true, true, true, true, true, false, false, false, false, false, false] rfl rfl (by kernel_rfl) (fun _ _ _ h => h) (Or.inl ⟨by rfl, ?_⟩) ?_ ?_; rotate_left; (intro w'; go_simp; with_reducible rfl); rotate_left; (simp only [Act.put, List.setIfInBounds_toArray, List.set_cons_zero, List.set_cons_succ, i64_w, i32_w]; rfl)); (refine pure_ (i := 10) (N := some 93) (v := ?_) (a' := ?_) #[true, true, true, true, true, true, true, true, true, true, true, false, false, false, false, false] rfl rfl (by kernel_rfl) (fun _ _ _ h => h) (Or.inl ⟨by rfl, ?_⟩) ?_ ?_; rotate_left; (intro w'; go_simp; with_reducible rfl); rotate_left; (simp only [Act.put, List.setIfInBounds_toArray, List.set_cons_zero, List.set_cons_succ, i64_w, i32_w]; rfl)); (refine pure_ (i := 12) (N := some 95) (v := ?_) (a' := ?_) #[true, true, true, true, true, true, true, true, true, true, true, false, true, false, false, false] rfl rfl (by kernel_rfl) (fun _ _ _ h => h) (Or.inl ⟨by rfl, ?_⟩) ?_ ?_; rotate_left; (intro w'; go_simp; with_reducible rfl); rotate_left; (simp only [Act.put, List.setIfInBounds_toArray, List.set_cons_zero, List.set_cons_succ, i64_w, i32_w]; rfl)); (refine pure_ (i := 13) (N := some 96) (v := ?_) (a' := ?_) #[true, true, true, true, true, true, true, true, true, true, true, false, true, true, false, false] rfl rfl (by kernel_rfl) (fun _ _ _ h => h) (Or.inl ⟨by rfl, ?_⟩) ?_ ?_; rotate_left; (intro w'; go_simp; with_reducible rfl); rotate_left; (simp only [Act.put, List.setIfInBounds_toArray, List.set_cons_zero, List.set_cons_succ, i64_w, i32_w]; rfl))
          refine last_ (i := 11) (N := some 94) #[true, true, true, true, true, true, true, true, true, true, true, true, true, true, false, false] rfl rfl (by kernel_rfl) (by decide) (fun K hK => ?_)
          refine goes_ Try.func17 (by kernel_rfl) rfl #[.pointer (some ⟨g, 0, none⟩)] (by rfl) rfl rfl (by simp only [List.map_toArray, List.map_cons, List.map_nil]; rfl) ?_
          refine (lenF _ g R F1 L1 w6 HT6.out).mono fun e w7 hh => ?_
          obtain ⟨rfl, rfl⟩ := hh
          rw [HLX.out]
          refine ⟨_, rfl, hK.out _ _ ?_⟩
          (clear hK K; refine norm_ (a' := ?_) ?_ ?_; rotate_left; (show Act.put _ (some 94) _ = _; simp only [Act.put, List.setIfInBounds_toArray, List.set_cons_zero, List.set_cons_succ, i64_w, i32_w]; rfl))
          (refine pure_ (i := 14) (N := some 97) (v := ?_) (a' := ?_) #[true, true, true, true, true, true, true, true, true, true, true, true, true, true, true, false] rfl rfl (by kernel_rfl) (fun _ _ _ h => h) (Or.inl ⟨by rfl, ?_⟩) ?_ ?_; rotate_left; (intro w'; go_simp; with_reducible rfl); rotate_left; (simp only [Act.put, List.setIfInBounds_toArray, List.set_cons_zero, List.set_cons_succ, i64_w, i32_w]; rfl)); (refine pure_ (i := 15) (N := some 98) (v := ?_) (a' := ?_) #[true, true, true, true, true, true, true, true, true, true, true, true, true, true, true, true] rfl rfl (by kernel_rfl) (fun _ _ _ h => h) (Or.inl ⟨by rfl, ?_⟩) ?_ ?_; rotate_left; (intro w'; go_simp; with_reducible rfl); rotate_left; (simp only [Act.put, List.setIfInBounds_toArray, List.set_cons_zero, List.set_cons_succ, i64_w, i32_w]; rfl))
          refine done_ (by kernel_rfl) ?_
          have hiw := HIW.out
          try go_wp2
          go_roundg (l1.length - (i + 1))
          case measure => have h1 := hi.out; have h2 := HLT.out; omega
          case rel => exact ⟨i + 1, F1, x1, L1, by first | rfl | exact congrArg (Value.int .i64) HIW.out, ⟨by have h1 := hi.out; have h2 := HLT.out; omega⟩, HT6, HX6, HTX1, HB6⟩
      · have HDR := Aside0.mk (drainF _ g R F L wr hT.out)
        clear hT
        obtain ⟨A, c, hv⟩ := Kd.R_slice hX.out
        subst hv
        by_cases h1 : i < l1.length
        · have hcb : decide ((i : Int) < (l1.length : Int)) = true := decide_eq_true (by omega)
          have hcbN : decide (i < l1.length) = true := decide_eq_true h1
          have hcc : decide ((i : Int) < 300) = false := decide_eq_false (by omega)
          clear h1 hlt
          go_upto_region 23 with fail
          clear hcb hcbN hcc
          go_wp2_with (fail)
          refine Calls.mono HDR.out ?_
          rintro e w5 ⟨v5, e5, rfl, he5, hp5, hR5, _, hB5, hK5⟩
          have hex : e5 = x := map_toEn_inj _ _ (he5.trans hTX.out.1.1.symm) (fun s hs => (hp5 s hs).1) (fun s hs => by have := (hTX.out.1.2.1 s hs).1; omega)
          subst hex
          have hX5 := Kd.R_kept hX.out hK5 (fun k hk hs => hk hs)
          obtain ⟨A', c', hva⟩ := Kd.R_slice hR5
          subst hva
          obtain ⟨_, hca, hCa⟩ := Kd.R_reads' hR5
          obtain ⟨_, hcb, hCb⟩ := Kd.R_reads' hX5
          have HSAME := Aside0.mk (manteletref08_Same.calls _ A' c' e5 A c e5 true w5 hCa hca hCb hcb (same_refl e5 (by have := hTX.out.1.2.2.2; omega)))
          have HB5 := Aside0.mk (hB.out.trans (hB5.mono HSZ.out))
          clear hR5 hX5 hCa hCb hca hcb he5 hp5 hB5 hK5
          go_wp2_with (fail)
          refine Calls.mono HSAME.out ?_
          rintro e w6 ⟨rfl, hd⟩
          have HB6 := Aside0.mk (HB5.out.trans (hd.below.mono HB5.out.size))
          clear hd
          go_wp2
          go_ret
          exact ⟨rfl, HB6.out⟩
        · have hcb : decide ((i : Int) < (l1.length : Int)) = false := decide_eq_false (by omega)
          have hcbN : decide (i < l1.length) = false := decide_eq_false h1
          clear h1 hlt
          go_upto_region 23 with fail
          clear hcb hcbN
          go_wp2_with (fail)
          refine Calls.mono HDR.out ?_
          rintro e w5 ⟨v5, e5, rfl, he5, hp5, hR5, _, hB5, hK5⟩
          have hex : e5 = x := map_toEn_inj _ _ (he5.trans hTX.out.1.1.symm) (fun s hs => (hp5 s hs).1) (fun s hs => by have := (hTX.out.1.2.1 s hs).1; omega)
          subst hex
          have hX5 := Kd.R_kept hX.out hK5 (fun k hk hs => hk hs)
          obtain ⟨A', c', hva⟩ := Kd.R_slice hR5
          subst hva
          obtain ⟨_, hca, hCa⟩ := Kd.R_reads' hR5
          obtain ⟨_, hcb, hCb⟩ := Kd.R_reads' hX5
          have HSAME := Aside0.mk (manteletref08_Same.calls _ A' c' e5 A c e5 true w5 hCa hca hCb hcb (same_refl e5 (by have := hTX.out.1.2.2.2; omega)))
          have HB5 := Aside0.mk (hB.out.trans (hB5.mono HSZ.out))
          clear hR5 hX5 hCa hCb hca hcb he5 hp5 hB5 hK5
          go_wp2_with (fail)
          refine Calls.mono HSAME.out ?_
          rintro e w6 ⟨rfl, hd⟩
          have HB6 := Aside0.mk (HB5.out.trans (hd.below.mono HB5.out.size))
          clear hd
          go_wp2
          go_ret
          exact ⟨rfl, HB6.out⟩
end Go.Proofs.Ytjjkibjpbfkpcaa.K

namespace Go.Proofs.Ytjjkibjpbfkpcaa.tablePlaysUpto
open Go.ChangeShapes Go.WideShapes Go.ChangeAt Go.RowKit
open Go.ChangeMaps (open_string shut_string)
set_option linter.unusedVariables false
theorem own : ownKnob Try.prog.godebug = none := by kernel_rfl
theorem laidOut : laidOutB Try.prog = true := by kernel_rfl
def IsRow (k : IntKind) (w : World) (a : Option Addr) (len cap : Nat) (zs : List Int) : Prop :=
  (a = none ∧ len = 0 ∧ cap = 0 ∧ zs = []) ∨
  ∃ x, a = some x ∧ len ≤ cap ∧ cap ≤ maxLen ∧ zs.length = cap ∧ (∀ i, i < zs.length → w.cell? (x.add i) = some (.int k (zs.getD i 0))) ∧ ∀ n ∈ zs, (Lit.int k n).wf = true
set_option maxRecDepth 100000 in
theorem lifted (os : Os) (started : os.Started) (H : Type) (enc : TypeId × Value → H) (F : Stop.Interp) :
    ReturnsInHanded {} Try.checked os 5 .any ((Rows.OpenSpec.upto Rows.tablePlaysSpec).pre6 enc Try.prog Try.f5 Rows.tablePlaysUptoRow.domain false) (((Rows.OpenSpec.upto Rows.tablePlaysSpec).at F).post enc Try.prog Try.f5 false true false false) := by
  refine returnsInHanded_of_cond_sized (C := Try.checked) (s := Rows.OpenSpec.upto Rows.tablePlaysSpec) (k := Rows.uptoSmall) rfl own started (by kernel_rfl) Try.func5
    (OpenSpec.witness (enc := enc) (C := Try.checked) (s := Rows.OpenSpec.upto Rows.tablePlaysSpec) (k := Rows.uptoSmall) rfl false ⟨#[], #[.int .i64 0, .slice none 0 0], []⟩ 8 (by kernel_rfl) (by kernel_rfl) (by kernel_rfl)
      (x := ([.lit (.int .i64 0), .nil], [], [])) (by kernel_rfl) rfl (by kernel_rfl)) ?_
  intro W base args ds gs before hval0 hW hcnd hk hsz0 _
  have hsz : (DataW.weightsEach Try.prog (Try.f5.params.toList ++ Rows.tablePlaysSpec.plain.varTypes Try.prog) (ds ++ gs)).all (· ≤ reachBytes) = true := hsz0
  have hval : ∀ (j : Nat) t v, Try.f5.params[j]? = some t → args[j]? = some v → Value.okWide Try.prog W .any base t v := hval0
  have hW' := hW
  obtain ⟨p, q, hA0, hV, rfl, hfz, hnd⟩ := hW
  have hA : DataW.TrodAll enc Try.prog W 0 (fun _ => true) true Try.f5.params.toList args.toList ds p := hA0
  rw [Try.params5] at hA hval hsz
  obtain ⟨v0, vs0, d0, ds0, p0, q0, hargs, rfl, rfl, h0, r0⟩ := trodAll_cons hA
  obtain ⟨v1, vs1, d1, ds1, p1, q1, rfl, rfl, rfl, h1, r1⟩ := trodAll_cons r0
  obtain ⟨rfl, rfl, rfl⟩ := trodAll_nil r1
  obtain rfl : args = #[v0, v1] := by cases args; simp_all
  obtain ⟨rfl, rfl⟩ := trodVars_none hV
  obtain ⟨a0, rfl, rfl, rfl, w0⟩ := open_int Try.underlying3 (hval 0 3 v0 rfl rfl) h0
  obtain ⟨a1, len1, cap1, rfl⟩ := okWide_slice Try.underlying37 (hval 1 37 v1 rfl rfl)
  have k1 := h1
  have lt1 : ∀ x ∈ p1, x.block < W.heap.size := by obtain ⟨m, hm⟩ := k1; exact DataW.trod_lt m _ _ _ hm
  obtain ⟨l1, rfl, hc1, hm1, hC1, hw1⟩ := K.open_deedsU Try.underlying37 Try.underlying39 (by kernel_rfl) rfl rfl rfl (by kernel_rfl) (by kernel_rfl) (by kernel_rfl) Try.underlying3 Try.underlying9 Try.underlying29 h1
  have hw1 := fun x hx => K.DdOk.up (hw1 x hx) (K.bulk_part hk (d := d1) (by simp))
  clear hA0 hval0 hsz0 hsz
  refine (K.TablePlays_walk a0 a1 cap1 l1 W w0 hC1 hc1 hw1).mono fun e W' ⟨he, bel⟩ => ?_
  subst he
  exact ⟨_, rfl, _, _, _, [], _, [], hW', trodAll_mk1 (shut_bool Try.underlying4 _), (trodAll_cons_mk (shut_int Try.underlying3 w0) (trodAll_cons_mk (Below.trod laidOut (by kernel_rfl) (of_decide_eq_true (by kernel_rfl)) k1 bel lt1) trodAll_mk0)), rfl, bel.frame _, fun h => by cases h⟩
theorem over : Rows.tablePlaysUptoRow.holds Try.pinned (Rows.OpenSpec.upto Rows.tablePlaysSpec) :=
  OpenClaim.holds_of_cond 5 Try.f5 rfl rfl rfl rfl rfl rfl rfl ⟨rfl, rfl, rfl, rfl, rfl⟩ rfl rfl rfl rfl rfl (by kernel_rfl) Try.func5 (by kernel_rfl)
    (of_decide_eq_true (by kernel_rfl)) (by unfold Func.isWrapper; first | (rw [if_pos (by decide +kernel)]; kernel_rfl) | (rw [if_neg (by decide +kernel)]; exact ⟨rfl, rfl⟩))
    (fun os started H enc _ F => lifted os started H enc F)
theorem proved : Rows.TablePlaysUptoSaid := over
#print axioms proved
end Go.Proofs.Ytjjkibjpbfkpcaa.tablePlaysUpto
namespace Go.Proofs.Ytjjkibjpbfkpcaa
/-- The row, under a short name, for the claim. -/
theorem tablePlaysUpto_holds : Rows.TablePlaysUptoSaid := tablePlaysUpto.proved
end Go.Proofs.Ytjjkibjpbfkpcaa

