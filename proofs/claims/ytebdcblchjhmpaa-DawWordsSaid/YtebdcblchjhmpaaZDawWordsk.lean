/- DawWords. (The texts that the proof is made of, one behind the other: part 11 of 11.) -/
import Derived.Test.YtebdcblchjhmpaaProg
import Derived.Below
import Derived.Deep.Draws
import Derived.Deep.AppendLies
import Derived.Maps.AppendAt
import Derived.OwnWalk
import Derived.Laws.BytesArg
import Derived.Laws.MakeOwn
import Derived.Laws.OwnMore
import Derived.Deep.OwnRows
import Derived.Tactics
import Derived.Lib.ConvBytes
import Derived.Laws.Slices
import Derived.WalkKit
import Derived.KernelRfl
import Derived.RowKit3
import Derived.Deep.LoopGhost
import Derived.Deep.QuietTactic
import Derived.BigQuiet
import Derived.WideLaws
import Derived.Deep.DeepCutAuto
import Derived.Deep.CutBlock
import Derived.Deep.RegionHeld3
import Derived.Laws.Rows
import Derived.Lib.AppendStr
import Derived.ArgAppend
import Derived.Laws.IdiomCopy
import Derived.OrdersHeld
import Derived.Laws.BitsLemmas
import Derived.RowKit
import Derived.Lib.OthersKept
import Derived.WalkSmall
import Derived.Deep.RegionLaw
import Derived.BigRegion
import Derived.Deep.Matrix
import Derived.SliceStrings
import Derived.Test.YtebdcblchjhmpaaRows
import Derived.ProofKit
import Derived.OpenShut
import Derived.ShutString
import Derived.ChangeOld
import Derived.SizedLaws
import Derived.Test.YtebdcblchjhmpaaZDawWordsa
import Derived.Test.YtebdcblchjhmpaaZDawWordsb
import Derived.Test.YtebdcblchjhmpaaZDawWordsc
import Derived.Test.YtebdcblchjhmpaaZDawWordsd
import Derived.Test.YtebdcblchjhmpaaZDawWordse
import Derived.Test.YtebdcblchjhmpaaZDawWordsf
import Derived.Test.YtebdcblchjhmpaaZDawWordsg
import Derived.Test.YtebdcblchjhmpaaZDawWordsh
import Derived.Test.YtebdcblchjhmpaaZDawWordsi
import Derived.Test.YtebdcblchjhmpaaZDawWordsj
namespace Go.Proofs.Ytebdcblchjhmpaa.K
open Go.RowKit Go.Proofs.YtebdcblchjhmpaaW.PrintWords Go.Proofs.YtebdcblchjhmpaaW.PrintLast Go.Proofs.YtebdcblchjhmpaaW.PrintMore Go.Proofs.Ytebdcblchjhmpaa
attribute [local go_sem] max2_int min2_int max_two min_two max_three min_three max_four min_four
set_option linter.unusedVariables false
set_option linter.unusedSimpArgs false
open Go.Proofs.Ytebdcblchjhmpaa.PDk Go.Proofs.Ytebdcblchjhmpaa.PDm Go.Proofs.Ytebdcblchjhmpaa.PSh14 Go.Proofs.Ytebdcblchjhmpaa.Daw
open Classical
theorem nats_oneB (w : ByteArray) (c : Nat) (h : c < 256) : Utf.nats (w ++ oneB (c : Int)) = Utf.nats w ++ [c] := by
  have h1 : Utf.nats (oneB (c : Int)) = [c] := by
    unfold oneB
    rw [nats_str]
    show [((c : Int).toNat % 256)] = [c]
    rw [Int.toNat_natCast, Nat.mod_eq_of_lt h]
  have h2 : ∀ a b : ByteArray, Utf.nats (a ++ b) = Utf.nats a ++ Utf.nats b := fun a b => by
    unfold Utf.nats
    rw [ByteArray.data_append, Array.toList_append, List.map_append]
  rw [h2, h1]
def edI (e : DE) : Int × Nat := ((e.1 : Int), e.2)
def Tells (most : Nat) (f : ByteArray → List ByteArray → Bool × List ByteArray) (X : List (List Nat)) : Prop :=
  ∀ w a, a.length ≤ most → (a.length + X.length ≤ most → ∃ Z, f w a = (true, Z) ∧ Z.map Utf.nats = a.map Utf.nats ++ X.map (Utf.nats w ++ ·)) ∧ (most < a.length + X.length → (f w a).1 = false)
theorem tlE_lists {most : Nat} {f : Nat → ByteArray → List ByteArray → Bool × List ByteArray} {g : Nat → List (List Nat)} {word : ByteArray} : ∀ (es : List DE) (acc : List ByteArray), (∀ e ∈ es, e.1 < 256) → (∀ e ∈ es, Tells most (f e.2) (g e.2)) →
    (acc.length + (es.flatMap fun e => (g e.2).map (e.1 :: ·)).length ≤ most → ∃ Z, tlE most f word (es.map edI) acc = (true, Z) ∧ Z.map Utf.nats = acc.map Utf.nats ++ (es.flatMap fun e => (g e.2).map (e.1 :: ·)).map (Utf.nats word ++ ·)) ∧
    (most < acc.length + (es.flatMap fun e => (g e.2).map (e.1 :: ·)).length → (tlE most f word (es.map edI) acc).1 = true → most < (tlE most f word (es.map edI) acc).2.length)
  | [], acc, _, _ => ⟨fun h => ⟨acc, rfl, by simp⟩, fun h _ => by simp only [List.flatMap_nil, List.length_nil, Nat.add_zero] at h; exact h⟩
  | e :: es, acc, hb, ht => by
    have h1 := ht e (by simp) (word ++ oneB (e.1 : Int)) acc
    rw [List.flatMap_cons, List.length_append, List.length_map, List.map_cons]
    have step : tlE most f word (edI e :: es.map edI) acc = if most < acc.length then (false, acc) else if (f e.2 (word ++ oneB (e.1 : Int)) acc).1 = true then tlE most f word (es.map edI) (f e.2 (word ++ oneB (e.1 : Int)) acc).2 else (false, (f e.2 (word ++ oneB (e.1 : Int)) acc).2) := rfl
    rw [step]
    constructor
    · intro h
      rw [if_neg (by omega)]
      obtain ⟨Z, hz, hm⟩ := (h1 (by omega)).1 (by omega)
      rw [hz, if_pos rfl]
      have hl : Z.length = acc.length + (g e.2).length := by
        have := congrArg List.length hm
        simpa using this
      obtain ⟨Z2, hz2, hm2⟩ := (tlE_lists (word := word) es Z (fun x hx => hb x (by simp [hx])) (fun x hx => ht x (by simp [hx]))).1 (by omega)
      refine ⟨Z2, hz2, ?_⟩
      rw [hm2, hm, List.map_append, List.map_map, List.append_assoc]
      congr 1
      congr 1
      refine List.map_congr_left (fun v _ => ?_)
      rw [nats_oneB _ _ (hb e (by simp))]
      simp
    · intro h
      by_cases c : most < acc.length
      · rw [if_pos c]; intro h2; cases h2
      · rw [if_neg c]
        by_cases c2 : acc.length + (g e.2).length ≤ most
        · obtain ⟨Z, hz, hm⟩ := (h1 (by omega)).1 c2
          rw [hz, if_pos rfl]
          have hl : Z.length = acc.length + (g e.2).length := by
            have := congrArg List.length hm
            simpa using this
          exact (tlE_lists (word := word) es Z (fun x hx => hb x (by simp [hx])) (fun x hx => ht x (by simp [hx]))).2 (by omega)
        · have h3 := (h1 (by omega)).2 (by omega)
          rw [h3, if_neg (by decide)]
          intro h2; cases h2
theorem rdB (b : List DS) (n : Nat) (h : n < b.length) : rd_T31 (b.map toS) (n : Int) = toS b[n] := by
  rw [rd31 _ n (by rw [List.length_map]; exact h), List.getElem_map]
theorem edgesT_b (b : List DS) (n : Nat) (h : n < b.length) : edgesT (b.map toS) n = b[n].2.map edI := by
  unfold edgesT
  rw [rdB b n h]
  unfold toS
  simp only [List.map_map]
  refine List.map_congr_left (fun e _ => ?_)
  simp [toE, edI]
theorem accT_b (b : List DS) (n : Nat) (h : n < b.length) (w : ByteArray) (acc : List ByteArray) : accT (b.map toS) n w acc = if b[n].1 = true then acc ++ [w] else acc := by
  unfold accT
  rw [rdB b n h]
  rfl
theorem tl_lists (b : List DS) (hlow : ∀ (i : Nat) (s : DS), b[i]? = some s → (∀ e ∈ s.2, e.2 < i) ∧ ∀ e ∈ s.2, e.1 < 256) (most : Nat) : ∀ (k n : Nat), n < b.length → n < k → Tells most (tl (b.map toS) most k n) (listing b k n)
  | 0, n, _, h => absurd h (by omega)
  | k + 1, n, hn, hk => by
    intro w a ha
    obtain ⟨g1, g2⟩ := hlow n _ (List.getElem?_eq_getElem hn)
    have he := tlE_lists (most := most) (f := tl (b.map toS) most k) (g := listing b k) (word := w) b[n].2 (accT (b.map toS) n w a) g2 (fun e h => tl_lists b hlow most k e.2 (by have := g1 e h; omega) (by have := g1 e h; omega))
    have hli : listing b (k + 1) n = (if b[n].1 = true then [[]] else []) ++ b[n].2.flatMap fun e => (listing b k e.2).map (e.1 :: ·) := by
      rw [listing, List.getElem?_eq_getElem hn]
    rw [hli, tl, edgesT_b b n hn]
    rw [accT_b b n hn] at he ⊢
    generalize b[n].2.flatMap (fun e => (listing b k e.2).map (e.1 :: ·)) = Y at he ⊢
    generalize b[n].2.map edI = es at he ⊢
    rw [List.length_append, List.map_append]
    cases hf : b[n].1 with
    | true =>
      rw [hf, if_pos rfl] at he
      rw [if_pos rfl, if_pos rfl]
      rw [List.length_append] at he
      generalize tlE most (tl (b.map toS) most k) w es (a ++ [w]) = T at he ⊢
      constructor
      · intro h
        obtain ⟨Z, hz, hm⟩ := he.1 (by simp at h ⊢; omega)
        subst hz
        rw [if_pos rfl]
        have hl : Z.length ≤ most := by
          have := congrArg List.length hm
          simp at this h
          omega
        refine ⟨Z, by rw [decide_eq_true hl], ?_⟩
        rw [hm]; simp
      · intro h
        have h2 := he.2 (by simp at h ⊢; omega)
        by_cases c : T.1 = true
        · rw [if_pos c]; exact decide_eq_false (by have := h2 c; omega)
        · rw [if_neg c]
    | false =>
      rw [hf, if_neg Bool.false_ne_true] at he
      rw [if_neg Bool.false_ne_true, if_neg Bool.false_ne_true]
      generalize tlE most (tl (b.map toS) most k) w es a = T at he ⊢
      constructor
      · intro h
        obtain ⟨Z, hz, hm⟩ := he.1 (by simp at h ⊢; omega)
        subst hz
        rw [if_pos rfl]
        have hl : Z.length ≤ most := by
          have := congrArg List.length hm
          simp at this h
          omega
        refine ⟨Z, by rw [decide_eq_true hl], ?_⟩
        rw [hm]; simp
      · intro h
        have h2 := he.2 (by simp at h ⊢; omega)
        by_cases c : T.1 = true
        · rw [if_pos c]; exact decide_eq_false (by have := h2 c; omega)
        · rw [if_neg c]
theorem tosR_b (b : List DS) (n : Nat) (h : n < b.length) : tosR (b.map toS) n = b[n].2.map (·.2) := by
  unfold tosR
  rw [rdB b n h]
  unfold toS
  simp only [List.map_map]
  refine List.map_congr_left (fun e _ => ?_)
  simp [toE]
theorem visE_rk {v : Nat → Nat → Option Nat} {f : Nat → Nat → Bool × Nat} : ∀ (es : List DE) (m r : Nat), (∀ e ∈ es, ∀ m r, v e.2 m = some r → f e.2 m = (true, r)) → visE v es m = some r → rkE f (es.map (·.2)) m = (true, r)
  | [], m, r, _, h => by rw [visE] at h; injection h with h; subst h; rfl
  | e :: es, m, r, hf, h => by
    rw [visE] at h
    rw [List.map_cons, rkE]
    by_cases c : m ≤ e.2
    · rw [if_pos c] at h ⊢
      obtain ⟨x, hx, h⟩ := Option.bind_eq_some_iff.1 h
      rw [hf e (by simp) m x hx, if_pos rfl]
      exact visE_rk es x r (fun y hy => hf y (by simp [hy])) h
    · rw [if_neg c] at h ⊢
      exact visE_rk es m r (fun y hy => hf y (by simp [hy])) h
theorem vis_rk (b : List DS) : ∀ (k n m r : Nat), vis b k n m = some r → rk (b.map toS) k n m = (true, r)
  | 0, n, m, r, h => by simp [vis] at h
  | k + 1, n, m, r, h => by
    unfold vis at h
    cases hs : b[n]? with
    | none => rw [hs] at h; cases h
    | some s =>
      rw [hs] at h
      obtain ⟨hn, rfl⟩ := List.getElem?_eq_some_iff.1 hs
      obtain ⟨x, hx, h⟩ := Option.bind_eq_some_iff.1 h
      have h1 := visE_rk b[n].2 m x (fun e _ m r => vis_rk b k e.2 m r) hx
      by_cases c : n = x
      · rw [if_pos c] at h
        injection h with h
        subst h
        rw [rk, tosR_b b n hn, h1, if_pos rfl, decide_eq_true c]
      · rw [if_neg c] at h; cases h


theorem rising_get : ∀ (es : List DE), Rising es → ∀ j (h : j + 1 < es.length), (es[j]'(by omega)).1 < (es[j + 1]).1
  | [], _, j, h => by simp at h
  | e :: r, hr, 0, h => by
    have hl : 0 < r.length := by simpa using h
    exact hr.1 _ (List.getElem_mem hl)
  | e :: r, hr, j + 1, h => rising_get r hr.2 j (by simpa using h)
theorem ofS_toS (s : DS) : ofS (toS s) = s := by
  unfold ofS toS
  obtain ⟨a, es⟩ := s
  simp only [List.map_map]
  congr 1
  refine (List.map_congr_left (fun e _ => ?_)).trans (List.map_id _)
  simp [toE]
theorem ok_built (l : List ByteArray) (h0 : [] ∉ wordsN l) (h : (wordsN l).Pairwise (· < ·)) (hs : (l.map ByteArray.size).sum ≤ 1000000) : okB ((build (wordsN l)).map toS) = true ∧ lowB ((build (wordsN l)).map toS) = true ∧ 0 < ((build (wordsN l)).map toS).length := by
  obtain ⟨g1, g2, g3, g4⟩ := build_good l h0 h
  refine ⟨(okB_iff _).2 ⟨by rw [List.length_map]; omega, fun s hs => ?_⟩, (lowB_iff _).2 (fun n hn e he => ?_), by rw [List.length_map]; omega⟩
  · obtain ⟨t, ht, rfl⟩ := List.mem_map.1 hs
    obtain ⟨i, hi, rfl⟩ := List.getElem_of_mem ht
    obtain ⟨_, _, k3, k4⟩ := g2 i _ (List.getElem?_eq_getElem hi)
    refine ⟨by show (_ : List _).length ≤ _; unfold toS; rw [List.length_map]; omega, fun e he => ?_⟩
    unfold toS at he
    obtain ⟨f, hf, rfl⟩ := List.mem_map.1 he
    have := k4 f hf
    exact ⟨by show (0 : Int) ≤ (f.1 : Int); omega, by show (f.1 : Int) < 256; omega⟩
  · rw [List.length_map] at hn
    rw [rdB _ n hn] at he
    obtain ⟨k1, _⟩ := g2 n _ (List.getElem?_eq_getElem hn)
    unfold toS at he
    obtain ⟨f, hf, rfl⟩ := List.mem_map.1 he
    have := k1.1 f hf
    exact ⟨by show (0 : Int) ≤ (f.2 : Int); omega, by show (f.2 : Int) < (n : Int); omega⟩
theorem plain_built (l : List ByteArray) (h0 : [] ∉ wordsN l) (h : (wordsN l).Pairwise (· < ·)) : plainB ((build (wordsN l)).map toS) = true := by
  obtain ⟨g1, g2, g3, g4⟩ := build_good l h0 h
  unfold plainB
  rw [Bool.and_eq_true, decide_eq_true_eq, List.length_map]
  refine ⟨List.all_eq_true.2 (fun i hi => ?_), by omega⟩
  have hi : i < (build (wordsN l)).length := by rw [List.mem_range'_1] at hi; omega
  obtain ⟨k1, k2, k3, k4⟩ := g2 i _ (List.getElem?_eq_getElem hi)
  unfold stateB
  rw [rdB _ i hi, Bool.and_eq_true]
  constructor
  · refine List.all_eq_true.2 (fun j hj => ?_)
    have hjl : j < ((build (wordsN l))[i].2.map toE).length := by
      rw [List.mem_range'_1] at hj
      have h2 := hj.2
      have e0 : (toS (build (wordsN l))[i]).f1.length = ((build (wordsN l))[i].2.map toE).length := rfl
      rw [e0] at h2
      omega
    have hjl2 : j < (build (wordsN l))[i].2.length := by rw [List.length_map] at hjl; exact hjl
    have e1 : rd_T33 (toS (build (wordsN l))[i]).f1 (j : Int) = toE ((build (wordsN l))[i].2[j]) := by
      unfold toS
      rw [rd33 _ j hjl, List.getElem_map]
    unfold edgeB
    rw [e1]
    have hlt := k1.1 _ (List.getElem_mem hjl2)
    rw [Bool.and_eq_true, Bool.and_eq_true, decide_eq_true_eq, decide_eq_true_eq, Bool.or_eq_true, decide_eq_true_eq, decide_eq_true_eq]
    refine ⟨⟨?_, ?_⟩, ?_⟩
    · show (0 : Int) ≤ (((build (wordsN l))[i].2[j].2 : Nat) : Int); omega
    · show (((build (wordsN l))[i].2[j].2 : Nat) : Int) < (i : Int); omega
    · cases j with
      | zero => exact Or.inl rfl
      | succ j =>
        right
        have hr := rising_get _ k1.2 j hjl2
        have e2 : rd_T33 (toS (build (wordsN l))[i]).f1 ((j + 1 - 1 : Nat) : Int) = toE ((build (wordsN l))[i].2[j]) := by
          rw [Nat.add_sub_cancel]
          unfold toS
          rw [rd33 _ j (by rw [List.length_map]; omega), List.getElem_map]
        rw [e2]
        show (((build (wordsN l))[i].2[j].1 : Nat) : Int) < (((build (wordsN l))[i].2[j + 1].1 : Nat) : Int)
        omega
  · unfold useB
    rw [Bool.or_eq_true, Bool.or_eq_true, decide_eq_true_eq, List.length_map]
    by_cases hl : l = []
    · right
      subst hl
      have hw : wordsN [] = [] := rfl
      rw [hw, build_nil]; simp
    · left
      rcases k2 hl with k | k
      · exact Or.inl k
      · right
        unfold toS
        simpa using k
theorem root_built (l : List ByteArray) (h0 : [] ∉ wordsN l) (h : (wordsN l).Pairwise (· < ·)) : ∃ s, (build (wordsN l))[(build (wordsN l)).length - 1]? = some s ∧ s.1 = false := by
  by_cases hl : l = []
  · subst hl
    have hw : wordsN [] = [] := rfl
    rw [hw, build_nil]
    exact ⟨_, rfl, rfl⟩
  · have hne : wordsN l ≠ [] := by unfold wordsN; simpa using hl
    obtain ⟨a, s, hb, _, hacc⟩ := build_takes (wordsN l) (words_rise h0 h) hne
    have hg : (build (wordsN l))[a.length]? = some s := by rw [hb]; simp
    refine ⟨s, by rw [hb]; simp, ?_⟩
    have h1 := hacc []
    rw [acc_at hg, decide_eq_false h0] at h1
    exact h1
theorem ranked_built (l : List ByteArray) (h0 : [] ∉ wordsN l) (h : (wordsN l).Pairwise (· < ·)) (hs : (l.map ByteArray.size).sum ≤ 1000000) : (rk ((build (wordsN l)).map toS) (build (wordsN l)).length ((build (wordsN l)).length - 1) 0).1 = true := by
  have hk : ∃ k, vis (build (wordsN l)) k ((build (wordsN l)).length - 1) 0 = some (build (wordsN l)).length := by
    by_cases hl : l = []
    · subst hl
      have hw : wordsN [] = [] := rfl
      rw [hw, build_nil]
      exact ⟨1, rfl⟩
    · have hne : wordsN l ≠ [] := by unfold wordsN; simpa using hl
      exact build_ranked (wordsN l) (words_rise h0 h) hne
  obtain ⟨k, hk⟩ := hk
  obtain ⟨o1, o2, o3⟩ := ok_built l h0 h hs
  rw [List.length_map] at o3
  have h1 := vis_le (build (wordsN l)) [] (k' := k + (build (wordsN l)).length + 1) (by omega) hk
  rw [List.append_nil] at h1
  have h2 := vis_rk _ _ _ _ _ h1
  rw [rk_fuel ((lowB_iff _).1 o2) ((build (wordsN l)).length - 1) (build (wordsN l)).length (k + (build (wordsN l)).length + 1) 0 (by rw [List.length_map]; omega) (by omega) (by omega), h2]
theorem may_built (l : List ByteArray) (h0 : [] ∉ wordsN l) (h : (wordsN l).Pairwise (· < ·)) (hs : (l.map ByteArray.size).sum ≤ 1000000) : mayB ((build (wordsN l)).map toS) = true := by
  obtain ⟨g1, g2, g3, g4⟩ := build_good l h0 h
  obtain ⟨s, hs1, hs2⟩ := root_built l h0 h
  obtain ⟨hn, hse⟩ := List.getElem?_eq_some_iff.1 hs1
  unfold mayB
  rw [plain_built l h0 h, List.length_map, ranked_built l h0 h hs, show (((build (wordsN l)).length : Nat) : Int) - 1 = (((build (wordsN l)).length - 1 : Nat) : Int) from by omega, rdB _ _ hn, hse]
  have e : ((build (wordsN l)).map toS).map ofS = build (wordsN l) := by
    rw [List.map_map]
    exact (List.map_congr_left (fun s _ => ofS_toS s)).trans (List.map_id _)
  rw [e, decide_eq_true g1]
  show (true && true && !s.1 && true) = true
  rw [hs2]; rfl
theorem words_built (l : List ByteArray) (h0 : [] ∉ wordsN l) (h : (wordsN l).Pairwise (· < ·)) (hs : (l.map ByteArray.size).sum ≤ 1000000) (most : Nat) (hm : most ≤ 100000) :
    daw_Words.f ((build (wordsN l)).map toS) (most : Int) = some (if l.length ≤ most then (l, 0) else ([], 6)) := by
  obtain ⟨o1, o2, o3⟩ := ok_built l h0 h hs
  obtain ⟨g1, g2, g3, g4⟩ := build_good l h0 h
  unfold daw_Words.f
  rw [if_pos ⟨o1, o2, o3⟩, if_neg (by omega), if_neg (by omega), if_pos (may_built l h0 h hs), Int.toNat_natCast, List.length_map]
  have hli : listing (build (wordsN l)) (build (wordsN l)).length ((build (wordsN l)).length - 1) = wordsN l := by
    by_cases hl : l = []
    · subst hl
      have hw : wordsN [] = [] := rfl
      rw [hw, build_nil]; rfl
    · have hne : wordsN l ≠ [] := by unfold wordsN; simpa using hl
      exact build_lists (wordsN l) (words_rise h0 h) hne _ (Nat.le_refl _)
  have ht := tl_lists (build (wordsN l)) (fun i s hs => ⟨(g2 i s hs).1.1, (g2 i s hs).2.2.2⟩) most (build (wordsN l)).length ((build (wordsN l)).length - 1) (by omega) (by omega) ⟨#[]⟩ [] (Nat.zero_le _)
  rw [hli] at ht
  have hwl : (wordsN l).length = l.length := by unfold wordsN; rw [List.length_map]
  rw [hwl, List.length_nil, Nat.zero_add] at ht
  by_cases c : l.length ≤ most
  · obtain ⟨Z, hz, hmap⟩ := ht.1 c
    rw [hz, if_pos rfl, if_pos c]
    have e : Z.map Utf.nats = l.map Utf.nats := by
      rw [hmap]
      show [] ++ (wordsN l).map (fun v => [] ++ v) = _
      rw [List.nil_append]
      exact (List.map_congr_left (fun v _ => List.nil_append v)).trans (List.map_id _)
    have hZ : Z = l := (List.map_inj_right (fun x y hxy => nats_inj hxy)).1 e
    rw [hZ]
  · rw [ht.2 (by omega), if_neg Bool.false_ne_true, if_neg c]
end Go.Proofs.Ytebdcblchjhmpaa.K

namespace Go.Proofs.Ytebdcblchjhmpaa.K
open Go.RowKit Go.Proofs.YtebdcblchjhmpaaW.PrintWords Go.Proofs.YtebdcblchjhmpaaW.PrintLast Go.Proofs.Ytebdcblchjhmpaa.PDawWords Go.Proofs.Ytebdcblchjhmpaa.PDk Go.Proofs.Ytebdcblchjhmpaa.PDm Go.Proofs.Ytebdcblchjhmpaa.PSh14 Go.Proofs.Ytebdcblchjhmpaa.Daw Go.Proofs.Ytebdcblchjhmpaa
set_option linter.unusedSimpArgs false
set_option linter.unusedVariables false
open Classical
theorem same06_l0 (a : List ByteArray) (ha : a.length ≤ 1000) : ∀ (d i : Nat), i + d = a.length → Ev (fun k => manteletref06_Same.l0 k a a (i : Int)) true
  | 0, i, hd => by
    refine Ev.step (f := fun _ => some true) (fun k => ?_) (Ev.now true)
    simp only [manteletref06_Same.l0]
    rw [if_neg (by omega)]
  | d + 1, i, hd => by
    have ih := same06_l0 a ha d (i + 1) (by omega)
    have hw : Go.RowKit.wrap64 ((i : Int) + 1) = ((i + 1 : Nat) : Int) := by rw [w64 (by omega) (by omega)]; omega
    refine Ev.step (fun k => ?_) ih
    simp only [manteletref06_Same.l0]
    rw [if_pos (by omega), if_pos (by omega), if_pos (by omega), if_pos trivial, hw]
theorem same06 (a : List ByteArray) (ha : a.length ≤ 1000) : Ev (fun k => manteletref06_Same.f k a a) true := by
  refine Ev.congr (fun k => ?_) (same06_l0 a ha a.length 0 (by omega))
  unfold manteletref06_Same.f
  rw [if_pos rfl]; rfl
theorem few_bytesW (L : List ByteArray) (h1 : L.length ≤ 60) (h2 : ∀ x ∈ L, x.size ≤ 20) : (L.map ByteArray.size).sum ≤ 1200 ∧ bytesAll L ≤ 2000 := by
  have : ∀ L : List ByteArray, (∀ x ∈ L, x.size ≤ 20) → (L.map ByteArray.size).sum ≤ 20 * L.length ∧ bytesAll L ≤ 1 + 21 * L.length := by
    intro L
    induction L with
    | nil => intro _; simp [bytesAll]
    | cons a l ih =>
      intro h
      have h3 := h a (by simp)
      obtain ⟨i1, i2⟩ := ih (fun x hx => h x (by simp [hx]))
      unfold bytesAll at i2 ⊢
      simp; omega
  obtain ⟨i1, i2⟩ := this L h2
  omega
theorem words_l0 (L : List ByteArray) (hL : L.length ≤ 60) (R : List S31) (v : ByteArray) (a2 : Int) (h2 : 0 ≤ a2 ∧ a2 < 256) (hm : mayB R = true) (hok : okB R = true) (hh : ∀ u : ByteArray, u.size ≤ 140737488355328 → daw_Has.f R u = some (decide (Utf.nats u ∈ wordsN L))) (hv : v.size ≤ 140737488355328) (hx : ∀ x ∈ L, x.size ≤ 20)
    (W : List ByteArray) (e : Int) (hW : (W, e) = if (L.length : Int) ≤ a2 then (L, 0) else ([], 6)) :
    ∀ (d i : Nat), i + d = L.length → Ev (fun k => manteletlaw14_DawWords.l0 k L v a2 true R W e L 0 (decide (Utf.nats v ∈ wordsN (L.take i))) (i : Int)) true
  | 0, i, hd => by
    have hi : L.take i = L := List.take_of_length_le (by omega)
    rw [hi]
    have hw2 : Go.RowKit.wrap64 a2 = a2 := w64 (by omega) (by omega)
    have hmay : daw_May.f R = some true := by unfold daw_May.f; rw [if_pos hok, hm]
    have hs := same06 L (by omega)
    refine Ev.step (f := fun k => (manteletref06_Same.f k L L).bind fun t122 => if t122 = true then (if (L.length : Int) ≤ a2 then ((manteletref06_Same.f k L L).bind fun t123 => some t123) else some true) else some false) (fun k => ?_) (Ev.bind hs ?_)
    · simp only [manteletlaw14_DawWords.l0]
      rw [if_neg (by omega), if_pos trivial, hmay, Option.bind_some, if_pos rfl, hh v hv, Option.bind_some, if_pos (beq_self_eq_true _), if_pos trivial, hw2]
      congr 1
      funext t122
      cases t122 with
      | false => rw [if_neg Bool.false_ne_true, if_neg Bool.false_ne_true]
      | true =>
        rw [if_pos rfl, if_pos rfl]
        by_cases c : (L.length : Int) ≤ a2
        · rw [if_pos c] at hW
          obtain ⟨rfl, rfl⟩ := Prod.mk.inj hW
          simp only [if_pos c, decide_eq_true c]
          rw [if_pos (by decide)]
          congr 1
          funext t123
          cases t123 with
          | false => rfl
          | true => rfl
        · rw [if_neg c] at hW
          obtain ⟨rfl, rfl⟩ := Prod.mk.inj hW
          simp only [if_neg c, decide_eq_false c]
          simp
    · by_cases c : (L.length : Int) ≤ a2
      · exact Ev.congr (fun k => by rw [if_pos rfl, if_pos c]) (Ev.bind hs (Ev.now true))
      · exact Ev.congr (f := fun _ => some true) (fun k => by rw [if_pos rfl, if_neg c]) (Ev.now true)
  | d + 1, i, hd => by
    have hi : i < L.length := by omega
    have ih := words_l0 L hL R v a2 h2 hm hok hh hv hx W e hW d (i + 1) (by omega)
    rw [mem_take L i hi] at ih
    have hw : Go.RowKit.wrap64 ((i : Int) + 1) = ((i + 1 : Nat) : Int) := by rw [w64 (by omega) (by omega)]; omega
    have hsz := hx _ (List.getElem_mem hi)
    have hin : Utf.nats L[i] ∈ wordsN L := List.mem_map.2 ⟨_, List.getElem_mem hi, rfl⟩
    have hhi := hh L[i] (by omega)
    rw [decide_eq_true hin] at hhi
    refine Ev.step (fun k => ?_) ih
    simp only [manteletlaw14_DawWords.l0]
    rw [if_pos (show (i : Int) < (L.length : Int) by omega), hw, rdS L i hi, str_eq L[i] v, hhi]
    cases decide (Utf.nats v ∈ wordsN (L.take i)) <;> simp
theorem wf_u8w {x : Int} (h : (Lit.int .u8 x).wf = true) : 0 ≤ x ∧ x < 256 := by
  simp only [Lit.wf, IntKind.min, IntKind.max, IntKind.signed, IntKind.bits, Bool.and_eq_true, decide_eq_true_eq] at h
  simp at h; omega
theorem DawWords_walk (A0 : Option Addr) (c0 : Nat) (l0 : List ByteArray) (a1 : ByteArray) (a2 : Int) (w : World) (hC : Kd.C Kd.string w A0 l0.length l0) (hc : l0.length ≤ c0) (hwf : ∀ x ∈ l0, x.size ≤ maxLen) (w1 : a1.size ≤ 140737488351232) (w2 : (Lit.int .u8 a2).wf = true) :
    Calls Try.prog 12 #[.slice A0 l0.length c0, .string a1, .int .u8 a2] w fun e w' => e = .returned (.bool true) ∧ Below w.heap.size w w' := by
  obtain ⟨b, hb1, hb2⟩ := few14 l0
  have h2 := wf_u8w w2
  have hEv : Ev (fun k => manteletlaw14_DawWords.f k l0 a1 a2) true := by
    unfold manteletlaw14_DawWords.f
    refine Ev.bind shown14 (Ev.bind hb1 ?_)
    cases b with
    | false => exact Ev.congr (fun k => by rw [if_neg (by decide)]) (Ev.now true)
    | true =>
      obtain ⟨f1, f2⟩ := hb2 rfl
      obtain ⟨f3, f4⟩ := few_bytesW l0 f1 f2
      have hb : daw_Build.f l0 = some (buildR l0) := by unfold daw_Build.f; rw [if_pos (by omega)]
      have hwa : Go.RowKit.wrap64 a2 = a2 := w64 (by omega) (by omega)
      by_cases c1 : [] ∈ wordsN l0
      · have hr : buildR l0 = ([], 1) := by unfold buildR; rw [if_pos c1]
        refine Ev.congr (f := fun _ => some true) (fun k => ?_) (Ev.now true)
        rw [if_pos rfl, hb, hr, Option.bind_some, if_neg (by decide), if_pos rfl]; rfl
      · by_cases c2 : (wordsN l0).Pairwise (· < ·)
        · have hr : buildR l0 = ((build (wordsN l0)).map toS, 0) := by unfold buildR; rw [if_neg c1, if_pos c2]
          obtain ⟨n, rfl⟩ : ∃ n : Nat, a2 = (n : Int) := ⟨a2.toNat, by omega⟩
          have hw1 := words_built l0 c1 c2 (by omega) n (by omega)
          have hw2 := words_built l0 c1 c2 (by omega) 100 (by omega)
          rw [if_pos (by omega)] at hw2
          have e0 : (if (l0.length : Int) ≤ (n : Int) then (l0, (0 : Int)) else ([], 6)) = (if l0.length ≤ n then (l0, (0 : Int)) else ([], 6)) := by
            by_cases c : l0.length ≤ n
            · rw [if_pos c, if_pos (by omega)]
            · rw [if_neg c, if_neg (by omega)]
          have hl := words_l0 l0 f1 _ a1 (n : Int) h2 (may_built l0 c1 c2 (by omega)) (ok_built l0 c1 c2 (by omega)).1 (fun u hu => has_built l0 c1 c2 (by omega) u hu) (by omega) f2 (if l0.length ≤ n then (l0, (0 : Int)) else ([], 6)).1 (if l0.length ≤ n then (l0, (0 : Int)) else ([], 6)).2 (by rw [e0]) l0.length 0 (by omega)
          refine Ev.congr (fun k => ?_) hl
          rw [if_pos rfl, hb, hr, Option.bind_some, if_pos rfl, hwa, hw1, Option.bind_some, show (100 : Int) = ((100 : Nat) : Int) from rfl, hw2, Option.bind_some]
          simp [wordsN]
        · have hr : buildR l0 = ([], 9) := by unfold buildR; rw [if_neg c1, if_neg c2]
          refine Ev.congr (f := fun _ => some true) (fun k => ?_) (Ev.now true)
          rw [if_pos rfl, hb, hr, Option.bind_some, if_neg (by decide), if_pos rfl]; rfl
  obtain ⟨k, hk⟩ := hEv.rounds
  exact manteletlaw14_DawWords.calls k A0 c0 l0 a1 a2 true w hC hc hk
end Go.Proofs.Ytebdcblchjhmpaa.K

namespace Go.Proofs.Ytebdcblchjhmpaa.K
open Go.RowKit Go.Proofs.YtebdcblchjhmpaaW.PrintWords Go.Proofs.YtebdcblchjhmpaaW.PrintLast Go.Proofs.YtebdcblchjhmpaaW.PrintMore Go.Proofs.Ytebdcblchjhmpaa
attribute [local go_sem] max2_int min2_int max_two min_two max_three min_three max_four min_four
set_option linter.unusedVariables false
set_option linter.unusedSimpArgs false
theorem open_strsC {H : Type} {enc : TypeId × Value → H} {P : Program} {w : World} {base : Nat} {held : Bool} {t e : TypeId} {a : Option Addr} {len cap : Nat} {d : DataW H} {ps : List MemPlace}
    (ht : P.underlying t = some (.slice e)) (he : P.underlying e = some .string) (ce : P.cellsOf e = 1)
    (h : DataW.Trod enc P w base (fun _ => true) held t (.slice a len cap) d ps) :
    ∃ l : List ByteArray, len = l.length ∧ l.length ≤ cap ∧ l.length ≤ maxLen ∧ Kd.C Kd.string w a l.length l ∧ ∀ x ∈ l, x.size ≤ maxLen := by
  obtain ⟨fuel, hf⟩ := h
  rcases Go.ChangeShapes.open_strings ht he ce hf with ⟨hcs, _⟩ | ⟨a', len', cap', ss, hcs, hb, hl, hm, hsl, _, hx, hs⟩
  · simp [Value.cells] at hcs
    obtain ⟨rfl, rfl, rfl⟩ := hcs
    exact ⟨[], rfl, Nat.le_refl _, Nat.zero_le _, ⟨rfl, Nat.zero_le _, fun h => absurd h (by simp)⟩, by simp⟩
  · simp [Value.cells] at hcs
    obtain ⟨rfl, rfl, rfl⟩ := hcs
    simp only [if_true] at hsl
    have hlen : (ss.take len).length = len := by rw [List.length_take]; omega
    refine ⟨ss.take len, hlen.symm, by omega, by omega, ?_, fun x hx => hs x (List.mem_of_mem_take hx)⟩
    refine Kd.C_of_reads (d := ByteArray.empty) (h1 := fun _ => rfl) ⟨rfl, by rw [hlen]; unfold maxLen at hm; omega, fun _ => ⟨a', rfl, fun j hj => ?_⟩⟩
    rw [hlen] at hj
    rw [hx j (by omega)]
    congr 2
    rw [List.getD_eq_getElem?_getD, List.getD_eq_getElem?_getD, List.getElem?_take, if_pos hj]
end Go.Proofs.Ytebdcblchjhmpaa.K

namespace Go.Proofs.Ytebdcblchjhmpaa.dawWords
open Go.ChangeShapes Go.WideShapes Go.ChangeAt Go.RowKit
open Go.ChangeMaps (open_string shut_string)
set_option linter.unusedVariables false
theorem own : ownKnob Try.prog.godebug = none := by kernel_rfl
theorem laidOut : laidOutB Try.prog = true := by kernel_rfl
def IsRow (k : IntKind) (w : World) (a : Option Addr) (len cap : Nat) (zs : List Int) : Prop :=
  (a = none ∧ len = 0 ∧ cap = 0 ∧ zs = []) ∨
  ∃ x, a = some x ∧ len ≤ cap ∧ cap ≤ maxLen ∧ zs.length = cap ∧ (∀ i, i < zs.length → w.cell? (x.add i) = some (.int k (zs.getD i 0))) ∧ ∀ n ∈ zs, (Lit.int k n).wf = true
set_option maxRecDepth 100000 in
theorem lifted (os : Os) (started : os.Started) (H : Type) (enc : TypeId × Value → H) :
    ReturnsInHanded {} Try.checked os 12 .any (Rows.dawWordsSpec.pre6 enc Try.prog Try.f12 Rows.dawWordsRow.domain false) (Rows.dawWordsSpec.post enc Try.prog Try.f12 false true false false) := by
  refine returnsInHanded_of_change_sized (C := Try.checked) own started (by kernel_rfl) Try.func12
    (ChangeSpec.witness6 (enc := enc) (C := Try.checked) false ⟨#[], #[.slice none 0 0, .string ByteArray.empty, .int .u8 0], []⟩ 8 (by kernel_rfl) (by kernel_rfl) (by kernel_rfl) (by kernel_rfl)) ?_
  intro W base args ds gs before hval0 hW hcnd hsz0 _
  have hsz : (DataW.weightsEach Try.prog (Try.f12.params.toList ++ Rows.dawWordsSpec.plain.varTypes Try.prog) (ds ++ gs)).all (· ≤ reachBytes) = true := hsz0
  have hval : ∀ (j : Nat) t v, Try.f12.params[j]? = some t → args[j]? = some v → Value.okWide Try.prog W .any base t v := hval0
  have hW' := hW
  obtain ⟨p, q, hA0, hV, rfl, hfz, hnd⟩ := hW
  have hA : DataW.TrodAll enc Try.prog W 0 (fun _ => true) true Try.f12.params.toList args.toList ds p := hA0
  rw [Try.params12] at hA hval hsz
  obtain ⟨v0, vs0, d0, ds0, p0, q0, hargs, rfl, rfl, h0, r0⟩ := trodAll_cons hA
  obtain ⟨v1, vs1, d1, ds1, p1, q1, rfl, rfl, rfl, h1, r1⟩ := trodAll_cons r0
  obtain ⟨v2, vs2, d2, ds2, p2, q2, rfl, rfl, rfl, h2, r2⟩ := trodAll_cons r1
  obtain ⟨rfl, rfl, rfl⟩ := trodAll_nil r2
  obtain rfl : args = #[v0, v1, v2] := by cases args; simp_all
  obtain ⟨rfl, rfl⟩ := trodVars_none hV
  obtain ⟨a0, len0, cap0, rfl⟩ := okWide_slice Try.underlying22 (hval 0 22 v0 rfl rfl)
  have k0 := h0
  have lt0 : ∀ x ∈ p0, x.block < W.heap.size := by obtain ⟨m, hm⟩ := k0; exact DataW.trod_lt m _ _ _ hm
  obtain ⟨l0, rfl, hc0, hm0, hC0, hw0⟩ := K.open_strsC Try.underlying22 Try.underlying9 (by kernel_rfl) h0
  obtain ⟨a1, rfl, rfl, rfl, y1⟩ := open_string Try.underlying9 (hval 1 9 v1 rfl rfl) h1
  have w1 : a1.size ≤ 140737488351232 := by
    have z := sized_string hsz (j := 1) (t := 9) rfl rfl
    rw [Array.length_toList] at z
    exact z
  obtain ⟨a2, rfl, rfl, rfl, w2⟩ := open_int Try.underlying5 (hval 2 5 v2 rfl rfl) h2
  clear hA0 hval0 hsz0 hsz
  refine (K.DawWords_walk a0 cap0 l0 a1 a2 W hC0 hc0 hw0 w1 w2).mono fun e W' ⟨he, bel⟩ => ?_
  subst he
  exact ⟨_, rfl, _, _, _, [], _, [], hW', trodAll_mk1 (shut_bool Try.underlying4 _), (trodAll_cons_mk (Below.trod laidOut (by kernel_rfl) (of_decide_eq_true (by kernel_rfl)) k0 bel lt0) (trodAll_cons_mk (shut_string Try.underlying9 y1) (trodAll_cons_mk (shut_int Try.underlying5 w2) trodAll_mk0))), rfl, bel.frame _, fun h => by cases h⟩
theorem over : Rows.dawWordsRow.holds Try.pinned (OpenSpec.ofChange Rows.dawWordsSpec) :=
  OpenClaim.holds_of_wide 12 Try.f12 rfl rfl rfl rfl rfl rfl rfl ⟨rfl, rfl, rfl, rfl, rfl⟩ rfl rfl rfl rfl rfl (by kernel_rfl) Try.func12 (by kernel_rfl)
    (of_decide_eq_true (by kernel_rfl)) (by unfold Func.isWrapper; first | (rw [if_pos (by decide +kernel)]; kernel_rfl) | (rw [if_neg (by decide +kernel)]; exact ⟨rfl, rfl⟩))
    (fun os started H enc _ => lifted os started H enc)
theorem proved : Rows.DawWordsSaid := over
#print axioms proved
end Go.Proofs.Ytebdcblchjhmpaa.dawWords
namespace Go.Proofs.Ytebdcblchjhmpaa
/-- The row, under a short name, for the claim. -/
theorem dawWords_holds : Rows.DawWordsSaid := dawWords.proved
end Go.Proofs.Ytebdcblchjhmpaa

