/- DictNobody. (The texts that the proof is made of, one behind the other: part 12 of 18.) -/
import Derived.Test.YtgebhidpkcjpmaaProg
import Derived.Below
import Derived.Deep.Draws
import Derived.Deep.AppendLies
import Derived.Maps.AppendAt
import Derived.OwnWalk
import Derived.Laws.BytesArg
import Derived.Laws.MakeOwn
import Derived.Laws.OwnMore
import Derived.Deep.OwnRows
import Derived.Tactics
import Derived.Lib.ConvBytes
import Derived.Laws.Slices
import Derived.WalkKit
import Derived.KernelRfl
import Derived.RowKit3
import Derived.Deep.LoopGhost
import Derived.Deep.QuietTactic
import Derived.BigQuiet
import Derived.WideLaws
import Derived.Deep.DeepCutAuto
import Derived.Deep.CutBlock
import Derived.Deep.RegionHeld3
import Derived.Laws.Rows
import Derived.Lib.AppendStr
import Derived.ArgAppend
import Derived.Laws.IdiomCopy
import Derived.OrdersHeld
import Derived.Laws.BitsLemmas
import Derived.RowKit
import Derived.Lib.OthersKept
import Derived.WalkSmall
import Derived.Deep.RegionLaw
import Derived.BigRegion
import Derived.Lib.SliceRun
import Derived.Shelf.Abstract
import Derived.Test.YtgebhidpkcjpmaaZDictNobodya
import Derived.Test.YtgebhidpkcjpmaaZDictNobodyb
import Derived.Test.YtgebhidpkcjpmaaZDictNobodyc
import Derived.Test.YtgebhidpkcjpmaaZDictNobodyd
import Derived.Test.YtgebhidpkcjpmaaZDictNobodye
import Derived.Test.YtgebhidpkcjpmaaZDictNobodyf
import Derived.Test.YtgebhidpkcjpmaaZDictNobodyg
import Derived.Test.YtgebhidpkcjpmaaZDictNobodyh
import Derived.Test.YtgebhidpkcjpmaaZDictNobodyi
import Derived.Test.YtgebhidpkcjpmaaZDictNobodyj
import Derived.Test.YtgebhidpkcjpmaaZDictNobodyk
namespace Go.Proofs.Ytgebhidpkcjpmaa.K
open Go.RowKit Go.Proofs.YtgebhidpkcjpmaaW.PrintWords Go.Proofs.YtgebhidpkcjpmaaW.PrintLast Go.Proofs.YtgebhidpkcjpmaaW.PrintMore Go.Proofs.Ytgebhidpkcjpmaa
attribute [local go_sem] max2_int min2_int max_two min_two max_three min_three max_four min_four
set_option linter.unusedVariables false
set_option linter.unusedSimpArgs false
open Go.Proofs.Ytgebhidpkcjpmaa.PDk Go.Proofs.Ytgebhidpkcjpmaa.Daw
open Classical
theorem rd31 (a : List S82) (i : Nat) (h : i < a.length) : rd_T82 a (i : Int) = a[i] := by
  unfold rd_T82
  rw [Int.toNat_natCast, List.getD_eq_getElem?_getD, List.getElem?_eq_getElem h]; rfl
theorem rd33 (a : List S84) (i : Nat) (h : i < a.length) : rd_T84 a (i : Int) = a[i] := by
  unfold rd_T84
  rw [Int.toNat_natCast, List.getD_eq_getElem?_getD, List.getElem?_eq_getElem h]; rfl
def OkA (a : List S82) : Prop := a.length ≤ 4611686018427387904 ∧ ∀ s ∈ a, s.f1.length ≤ 4611686018427387904
def Byt (s : DS) : Prop := ∀ e ∈ s.2, e.1 < 256
theorem num_byt {left : List DS} {s : DS} (h : ∀ t ∈ left, Byt t) (hs : Byt s) : ∀ t ∈ (num left s).1, Byt t := by
  unfold num
  by_cases c : s ∈ left
  · rw [if_pos c]; exact h
  · rw [if_neg c]
    intro t ht
    rcases List.mem_append.1 ht with ht | ht
    · exact h t ht
    · rw [List.mem_singleton.1 ht]; exact hs
theorem leave_byt (W : List Nat) (hW : ∀ j, W.getD j 0 < 256) (n : Nat) : ∀ (k : Nat) (left path : List DS), path.length = k → (∀ t ∈ left, Byt t) → (∀ t ∈ path, Byt t) → (∀ t ∈ (leave W n left path).1, Byt t) ∧ ∀ t ∈ (leave W n left path).2, Byt t
  | 0, left, [], _, h1, h2 => by rw [leave]; exact ⟨h1, h2⟩
  | 1, left, [s], _, h1, h2 => by rw [leave]; exact ⟨h1, h2⟩
  | k + 2, left, s :: u :: r, hk, h1, h2 => by
    rw [leave]
    by_cases h : n < r.length + 1
    · rw [if_pos h]
      refine leave_byt W hW n (k + 1) _ _ (by simpa using hk) (num_byt h1 (h2 s (by simp))) (fun t ht => ?_)
      rcases List.mem_cons.1 ht with rfl | ht
      · intro e he
        rcases List.mem_append.1 he with he | he
        · exact h2 u (by simp) e he
        · rw [List.mem_singleton.1 he]; exact hW _
      · exact h2 t (by simp [ht])
    · rw [if_neg h]; exact ⟨h1, h2⟩
theorem getD_byt {w : List Nat} (h : ∀ c ∈ w, c < 256) (j : Nat) : w.getD j 0 < 256 := by
  rw [List.getD_eq_getElem?_getD]
  cases e : w[j]? with
  | none => decide
  | some c => exact h c (List.mem_of_getElem? e)
theorem ends_byt {p : List DS} (h : ∀ t ∈ p, Byt t) : ∀ t ∈ ends p, Byt t := by
  cases p with
  | nil => simp [ends]
  | cons s r =>
    intro t ht
    rcases List.mem_cons.1 ht with rfl | ht
    · exact h s (by simp)
    · exact h t (by simp [ht])
theorem add_byt {x : Daw.B} {w : List Nat} (h1 : ∀ t ∈ x.left, Byt t) (h2 : ∀ t ∈ x.path, Byt t) (hx : ∀ c ∈ x.word, c < 256) : (∀ t ∈ (add x w).left, Byt t) ∧ ∀ t ∈ (add x w).path, Byt t := by
  obtain ⟨g1, g2⟩ := leave_byt x.word (getD_byt hx) (common w x.word) _ x.left x.path rfl h1 h2
  refine ⟨g1, ends_byt (fun t ht => ?_)⟩
  rcases List.mem_append.1 ht with ht | ht
  · rw [List.eq_of_mem_replicate ht]; intro e he; simp at he
  · exact g2 t ht
theorem adds_byt : ∀ (l : List (List Nat)) (x : Daw.B), (∀ w ∈ l, ∀ c ∈ w, c < 256) → (∀ t ∈ x.left, Byt t) → (∀ t ∈ x.path, Byt t) → (∀ c ∈ x.word, c < 256) → (∀ t ∈ (l.foldl add x).left, Byt t) ∧ (∀ t ∈ (l.foldl add x).path, Byt t) ∧ ∀ c ∈ (l.foldl add x).word, c < 256
  | [], x, _, h1, h2, h3 => ⟨h1, h2, h3⟩
  | w :: l, x, hl, h1, h2, h3 => by
    obtain ⟨g1, g2⟩ := add_byt (w := w) h1 h2 h3
    exact adds_byt l (add x w) (fun v hv => hl v (by simp [hv])) g1 g2 (hl w (by simp))
theorem build_byt (l : List (List Nat)) (hl : ∀ w ∈ l, ∀ c ∈ w, c < 256) : ∀ t ∈ build l, Byt t := by
  obtain ⟨g1, g2, g3⟩ := adds_byt l Daw.start hl (by simp [Daw.start]) (by intro t ht e he; simp [Daw.start] at ht; subst ht; simp at he) (by simp [Daw.start])
  obtain ⟨k1, k2⟩ := leave_byt (l.foldl add Daw.start).word (getD_byt g3) 0 _ (l.foldl add Daw.start).left (l.foldl add Daw.start).path rfl g1 g2
  unfold build finish
  split
  · rename_i s r hp
    rw [hp] at k2
    exact num_byt k1 (k2 s (by simp))
  · exact k1
theorem rising_len : ∀ (l : List DE) (m N : Nat), Rising l → (∀ e ∈ l, m ≤ e.1 ∧ e.1 < N) → l.length ≤ N - m
  | [], _, _, _, _ => by simp
  | e :: r, m, N, h, hl => by
    have h1 := hl e (by simp)
    have := rising_len r (e.1 + 1) N h.2 (fun f hf => ⟨h.1 f hf, (hl f (by simp [hf])).2⟩)
    simp only [List.length_cons]; omega
theorem nats_byt (s : ByteArray) : ∀ c ∈ Utf.nats s, c < 256 := by
  intro c hc
  unfold Utf.nats at hc
  obtain ⟨b, _, rfl⟩ := List.mem_map.1 hc
  exact UInt8.toNat_lt b
theorem wordsN_byt (l : List ByteArray) : ∀ w ∈ wordsN l, ∀ c ∈ w, c < 256 := by
  intro w hw
  unfold wordsN at hw
  obtain ⟨s, _, rfl⟩ := List.mem_map.1 hw
  exact nats_byt s
theorem build_nil : build [] = [(false, [])] := by
  simp [build, finish, Daw.start, leave, num]
theorem words_rise {l : List (List Nat)} (h0 : [] ∉ l) (h : l.Pairwise (· < ·)) : ([] :: l).Pairwise (· < ·) := by
  rw [List.pairwise_cons]
  refine ⟨fun w hw => ?_, h⟩
  cases w with
  | nil => exact absurd hw h0
  | cons a t => exact List.nil_lt_cons a t
/-- What was built: each state's edges few, to lower ones, rising; ending or going on; no two alike. -/
theorem build_good (l : List ByteArray) (h0 : [] ∉ wordsN l) (h : (wordsN l).Pairwise (· < ·)) :
    (build (wordsN l)).Nodup ∧ (∀ i s, (build (wordsN l))[i]? = some s → Row i s ∧ (l ≠ [] → Alive s) ∧ s.2.length ≤ 256 ∧ Byt s) ∧ 1 ≤ (build (wordsN l)).length ∧ (build (wordsN l)).length ≤ 1 + (l.map ByteArray.size).sum := by
  have hby := build_byt (wordsN l) (wordsN_byt l)
  have hlen : ∀ i s, (build (wordsN l))[i]? = some s → Row i s → s.2.length ≤ 256 ∧ Byt s := fun i s hs hr => by
    have hb := hby s (List.mem_of_getElem? hs)
    exact ⟨by have := rising_len s.2 0 256 hr.2 (fun e he => ⟨Nat.zero_le _, hb e he⟩); omega, hb⟩
  by_cases hl : l = []
  · subst hl
    have hw : wordsN [] = [] := rfl
    rw [hw, build_nil]
    refine ⟨by simp, fun i s hs => ?_, by simp, by simp⟩
    cases i with
    | zero =>
      have : (false, []) = s := by simpa using hs
      subst this
      exact ⟨⟨by simp, trivial⟩, fun h => absurd rfl h, by simp, by intro e he; simp at he⟩
    | succ i => simp at hs
  · have hne : wordsN l ≠ [] := by unfold wordsN; simpa using hl
    obtain ⟨g1, g2, g3, g4⟩ := build_least (wordsN l) (words_rise h0 h) hne
    refine ⟨g1, fun i s hs => ?_, g3, ?_⟩
    · obtain ⟨k1, k2⟩ := g2 i s hs
      exact ⟨k1, fun _ => k2, hlen i s hs k1⟩
    · have e : ((wordsN l).map List.length) = l.map ByteArray.size := by
        unfold wordsN
        rw [List.map_map]
        exact List.map_congr_left (fun s _ => nats_len s)
      rw [e] at g4
      exact g4
end Go.Proofs.Ytgebhidpkcjpmaa.K

namespace Go.Proofs.Ytgebhidpkcjpmaa.K
open Go.RowKit Go.Proofs.YtgebhidpkcjpmaaW.PrintWords Go.Proofs.YtgebhidpkcjpmaaW.PrintLast Go.Proofs.YtgebhidpkcjpmaaW.PrintMore Go.Proofs.Ytgebhidpkcjpmaa
attribute [local go_sem] max2_int min2_int max_two min_two max_three min_three max_four min_four
set_option linter.unusedVariables false
set_option linter.unusedSimpArgs false
open Go.Proofs.Ytgebhidpkcjpmaa.PDk Go.Proofs.Ytgebhidpkcjpmaa.Daw
open Classical
theorem fnd_idx (es : List DE) (c : Nat) : match (es.map toE).findIdx? (fun e => e.f0 == (c : Int)) with
    | some k => ∃ h : k < es.length, es.find? (fun e => e.1 == c) = some es[k]
    | none => es.find? (fun e => e.1 == c) = none := by
  induction es with
  | nil => rfl
  | cons e r ih =>
    rw [List.map_cons, List.findIdx?_cons, List.find?_cons]
    have hb : ((toE e).f0 == (c : Int)) = (e.1 == c) := by
      rw [Bool.eq_iff_iff, beq_iff_eq, beq_iff_eq]; show (e.1 : Int) = (c : Int) ↔ _; omega
    rw [hb]
    by_cases h : (e.1 == c) = true
    · rw [if_pos h, h]; exact ⟨by simp, rfl⟩
    · rw [if_neg h]
      have h2 : (e.1 == c) = false := by simpa using h
      rw [h2]
      cases hf : (r.map toE).findIdx? (fun e => e.f0 == (c : Int)) with
      | none => rw [hf] at ih; exact ih
      | some k =>
        rw [hf] at ih
        obtain ⟨hk, hq⟩ := ih
        exact ⟨by simpa using hk, by simpa using hq⟩
theorem has_acc {b : List DS} (hg : ∀ (i : Nat) (s : DS), b[i]? = some s → ∀ e ∈ s.2, e.2 < b.length) : ∀ (v : List Nat) (i : Nat), i < b.length → hasFrom (b.map toS) (i : Int) v = acc b i v
  | [], i, h => by
    have hl : i < (b.map toS).length := by rw [List.length_map]; exact h
    rw [hasFrom, acc, rd31 _ i hl, List.getElem_map, List.getElem?_eq_getElem h, decide_eq_true (by omega), decide_eq_true (by omega)]
    rfl
  | c :: v, i, h => by
    have hl : i < (b.map toS).length := by rw [List.length_map]; exact h
    have hgi := hg i _ (List.getElem?_eq_getElem h)
    have hfi := fnd_idx b[i].2 c
    rw [hasFrom, acc, if_neg (by omega), rd31 _ i hl, List.getElem_map, List.getElem?_eq_getElem h]
    show (match ((b[i].2.map toE).findIdx? fun e => e.f0 == (c : Int)) with | some k => _ | none => false) = match fnd b[i] c with | some e => acc b e.2 v | none => false
    unfold fnd
    cases hf : (b[i].2.map toE).findIdx? (fun e => e.f0 == (c : Int)) with
    | none => rw [hf] at hfi; rw [hfi]
    | some k =>
      rw [hf] at hfi
      obtain ⟨hk, hq⟩ := hfi
      have hkl : k < (toS b[i]).f1.length := by simpa [toS] using hk
      rw [hq]
      show hasFrom (b.map toS) (rd_T84 (toS b[i]).f1 (k : Int)).f1 v = acc b (b[i].2[k]).2 v
      rw [rd33 _ k hkl]
      have e : ((toS b[i]).f1[k]).f1 = (((b[i].2[k]).2 : Nat) : Int) := by simp [toS, toE]
      rw [e]
      exact has_acc hg v _ (hgi _ (List.getElem_mem hk))
/-- What was built takes just its words. -/
theorem has_built (l : List ByteArray) (h0 : [] ∉ wordsN l) (h : (wordsN l).Pairwise (· < ·)) (hs : (l.map ByteArray.size).sum ≤ 1000000) (v : ByteArray) (hv : v.size ≤ 140737488355328) :
    daw_Has.f ((build (wordsN l)).map toS) v = some (decide (Utf.nats v ∈ wordsN l)) := by
  obtain ⟨g1, g2, g3, g4⟩ := build_good l h0 h
  unfold daw_Has.f
  rw [if_pos ⟨by rw [List.length_map]; omega, hv⟩, List.length_map]
  have hg : ∀ (i : Nat) (s : DS), (build (wordsN l))[i]? = some s → ∀ e ∈ s.2, e.2 < (build (wordsN l)).length := fun i s hs e he => by
    have := (g2 i s hs).1.1 e he
    have := (List.getElem?_eq_some_iff.1 hs).1
    omega
  have e1 : (((build (wordsN l)).length : Nat) : Int) - 1 = (((build (wordsN l)).length - 1 : Nat) : Int) := by omega
  rw [e1, has_acc hg _ _ (by omega)]
  by_cases hl : l = []
  · subst hl
    have hw : wordsN [] = [] := rfl
    rw [hw, build_nil]
    cases hv : Utf.nats v with
    | nil => rfl
    | cons c t => rfl
  · have hne : wordsN l ≠ [] := by unfold wordsN; simpa using hl
    obtain ⟨a, s, hb, _, hacc⟩ := build_takes (wordsN l) (words_rise h0 h) hne
    have e2 : (build (wordsN l)).length - 1 = a.length := by rw [hb]; simp
    rw [e2, hacc]
theorem str_eq (a b : ByteArray) : (a.toList == b.toList) = decide (Utf.nats a = Utf.nats b) := by
  rw [Utf.toList_nats]
  have e : b.toList.map (fun b => b.toNat) = Utf.nats b := by rw [ByteArray.toList_eq]; rfl
  rw [e, Bool.eq_iff_iff, beq_iff_eq, decide_eq_true_eq]
end Go.Proofs.Ytgebhidpkcjpmaa.K

namespace Go.Proofs.Ytgebhidpkcjpmaa.K
open Go.RowKit Go.Proofs.YtgebhidpkcjpmaaW.PrintWords Go.Proofs.YtgebhidpkcjpmaaW.PrintLast Go.Proofs.YtgebhidpkcjpmaaW.PrintMore Go.Proofs.Ytgebhidpkcjpmaa
attribute [local go_sem] max2_int min2_int max_two min_two max_three min_three max_four min_four
set_option linter.unusedVariables false
set_option linter.unusedSimpArgs false
open Go.Proofs.Ytgebhidpkcjpmaa.PDk Go.Proofs.Ytgebhidpkcjpmaa.PDm Go.Proofs.Ytgebhidpkcjpmaa.Daw
open Classical
theorem rdB (b : List DS) (n : Nat) (h : n < b.length) : rd_T82 (b.map toS) (n : Int) = toS b[n] := by
  rw [rd31 _ n (by rw [List.length_map]; exact h), List.getElem_map]
theorem tosR_b (b : List DS) (n : Nat) (h : n < b.length) : tosR (b.map toS) n = b[n].2.map (·.2) := by
  unfold tosR
  rw [rdB b n h]
  unfold toS
  simp only [List.map_map]
  refine List.map_congr_left (fun e _ => ?_)
  simp [toE]
theorem visE_rk {v : Nat → Nat → Option Nat} {f : Nat → Nat → Bool × Nat} : ∀ (es : List DE) (m r : Nat), (∀ e ∈ es, ∀ m r, v e.2 m = some r → f e.2 m = (true, r)) → visE v es m = some r → rkE f (es.map (·.2)) m = (true, r)
  | [], m, r, _, h => by rw [visE] at h; injection h with h; subst h; rfl
  | e :: es, m, r, hf, h => by
    rw [visE] at h
    rw [List.map_cons, rkE]
    by_cases c : m ≤ e.2
    · rw [if_pos c] at h ⊢
      obtain ⟨x, hx, h⟩ := Option.bind_eq_some_iff.1 h
      rw [hf e (by simp) m x hx, if_pos rfl]
      exact visE_rk es x r (fun y hy => hf y (by simp [hy])) h
    · rw [if_neg c] at h ⊢
      exact visE_rk es m r (fun y hy => hf y (by simp [hy])) h
theorem vis_rk (b : List DS) : ∀ (k n m r : Nat), vis b k n m = some r → rk (b.map toS) k n m = (true, r)
  | 0, n, m, r, h => by simp [vis] at h
  | k + 1, n, m, r, h => by
    unfold vis at h
    cases hs : b[n]? with
    | none => rw [hs] at h; cases h
    | some s =>
      rw [hs] at h
      obtain ⟨hn, rfl⟩ := List.getElem?_eq_some_iff.1 hs
      obtain ⟨x, hx, h⟩ := Option.bind_eq_some_iff.1 h
      have h1 := visE_rk b[n].2 m x (fun e _ m r => vis_rk b k e.2 m r) hx
      by_cases c : n = x
      · rw [if_pos c] at h
        injection h with h
        subst h
        rw [rk, tosR_b b n hn, h1, if_pos rfl, decide_eq_true c]
      · rw [if_neg c] at h; cases h


theorem rising_get : ∀ (es : List DE), Rising es → ∀ j (h : j + 1 < es.length), (es[j]'(by omega)).1 < (es[j + 1]).1
  | [], _, j, h => by simp at h
  | e :: r, hr, 0, h => by
    have hl : 0 < r.length := by simpa using h
    exact hr.1 _ (List.getElem_mem hl)
  | e :: r, hr, j + 1, h => rising_get r hr.2 j (by simpa using h)
theorem ofS_toS (s : DS) : ofS (toS s) = s := by
  unfold ofS toS
  obtain ⟨a, es⟩ := s
  simp only [List.map_map]
  congr 1
  refine (List.map_congr_left (fun e _ => ?_)).trans (List.map_id _)
  simp [toE]
theorem ok_built (l : List ByteArray) (h0 : [] ∉ wordsN l) (h : (wordsN l).Pairwise (· < ·)) (hs : (l.map ByteArray.size).sum ≤ 1000000) : okB ((build (wordsN l)).map toS) = true ∧ lowB ((build (wordsN l)).map toS) = true ∧ 0 < ((build (wordsN l)).map toS).length := by
  obtain ⟨g1, g2, g3, g4⟩ := build_good l h0 h
  refine ⟨(okB_iff _).2 ⟨by rw [List.length_map]; omega, fun s hs => ?_⟩, (lowB_iff _).2 (fun n hn e he => ?_), by rw [List.length_map]; omega⟩
  · obtain ⟨t, ht, rfl⟩ := List.mem_map.1 hs
    obtain ⟨i, hi, rfl⟩ := List.getElem_of_mem ht
    obtain ⟨_, _, k3, k4⟩ := g2 i _ (List.getElem?_eq_getElem hi)
    refine ⟨by show (_ : List _).length ≤ _; unfold toS; rw [List.length_map]; omega, fun e he => ?_⟩
    unfold toS at he
    obtain ⟨f, hf, rfl⟩ := List.mem_map.1 he
    have := k4 f hf
    exact ⟨by show (0 : Int) ≤ (f.1 : Int); omega, by show (f.1 : Int) < 256; omega⟩
  · rw [List.length_map] at hn
    rw [rdB _ n hn] at he
    obtain ⟨k1, _⟩ := g2 n _ (List.getElem?_eq_getElem hn)
    unfold toS at he
    obtain ⟨f, hf, rfl⟩ := List.mem_map.1 he
    have := k1.1 f hf
    exact ⟨by show (0 : Int) ≤ (f.2 : Int); omega, by show (f.2 : Int) < (n : Int); omega⟩
theorem plain_built (l : List ByteArray) (h0 : [] ∉ wordsN l) (h : (wordsN l).Pairwise (· < ·)) : plainB ((build (wordsN l)).map toS) = true := by
  obtain ⟨g1, g2, g3, g4⟩ := build_good l h0 h
  unfold plainB
  rw [Bool.and_eq_true, decide_eq_true_eq, List.length_map]
  refine ⟨List.all_eq_true.2 (fun i hi => ?_), by omega⟩
  have hi : i < (build (wordsN l)).length := by rw [List.mem_range'_1] at hi; omega
  obtain ⟨k1, k2, k3, k4⟩ := g2 i _ (List.getElem?_eq_getElem hi)
  unfold stateB
  rw [rdB _ i hi, Bool.and_eq_true]
  constructor
  · refine List.all_eq_true.2 (fun j hj => ?_)
    have hjl : j < ((build (wordsN l))[i].2.map toE).length := by
      rw [List.mem_range'_1] at hj
      have h2 := hj.2
      have e0 : (toS (build (wordsN l))[i]).f1.length = ((build (wordsN l))[i].2.map toE).length := rfl
      rw [e0] at h2
      omega
    have hjl2 : j < (build (wordsN l))[i].2.length := by rw [List.length_map] at hjl; exact hjl
    have e1 : rd_T84 (toS (build (wordsN l))[i]).f1 (j : Int) = toE ((build (wordsN l))[i].2[j]) := by
      unfold toS
      rw [rd33 _ j hjl, List.getElem_map]
    unfold edgeB
    rw [e1]
    have hlt := k1.1 _ (List.getElem_mem hjl2)
    rw [Bool.and_eq_true, Bool.and_eq_true, decide_eq_true_eq, decide_eq_true_eq, Bool.or_eq_true, decide_eq_true_eq, decide_eq_true_eq]
    refine ⟨⟨?_, ?_⟩, ?_⟩
    · show (0 : Int) ≤ (((build (wordsN l))[i].2[j].2 : Nat) : Int); omega
    · show (((build (wordsN l))[i].2[j].2 : Nat) : Int) < (i : Int); omega
    · cases j with
      | zero => exact Or.inl rfl
      | succ j =>
        right
        have hr := rising_get _ k1.2 j hjl2
        have e2 : rd_T84 (toS (build (wordsN l))[i]).f1 ((j + 1 - 1 : Nat) : Int) = toE ((build (wordsN l))[i].2[j]) := by
          rw [Nat.add_sub_cancel]
          unfold toS
          rw [rd33 _ j (by rw [List.length_map]; omega), List.getElem_map]
        rw [e2]
        show (((build (wordsN l))[i].2[j].1 : Nat) : Int) < (((build (wordsN l))[i].2[j + 1].1 : Nat) : Int)
        omega
  · unfold useB
    rw [Bool.or_eq_true, Bool.or_eq_true, decide_eq_true_eq, List.length_map]
    by_cases hl : l = []
    · right
      subst hl
      have hw : wordsN [] = [] := rfl
      rw [hw, build_nil]; simp
    · left
      rcases k2 hl with k | k
      · exact Or.inl k
      · right
        unfold toS
        simpa using k
theorem root_built (l : List ByteArray) (h0 : [] ∉ wordsN l) (h : (wordsN l).Pairwise (· < ·)) : ∃ s, (build (wordsN l))[(build (wordsN l)).length - 1]? = some s ∧ s.1 = false := by
  by_cases hl : l = []
  · subst hl
    have hw : wordsN [] = [] := rfl
    rw [hw, build_nil]
    exact ⟨_, rfl, rfl⟩
  · have hne : wordsN l ≠ [] := by unfold wordsN; simpa using hl
    obtain ⟨a, s, hb, _, hacc⟩ := build_takes (wordsN l) (words_rise h0 h) hne
    have hg : (build (wordsN l))[a.length]? = some s := by rw [hb]; simp
    refine ⟨s, by rw [hb]; simp, ?_⟩
    have h1 := hacc []
    rw [acc_at hg, decide_eq_false h0] at h1
    exact h1
theorem ranked_built (l : List ByteArray) (h0 : [] ∉ wordsN l) (h : (wordsN l).Pairwise (· < ·)) (hs : (l.map ByteArray.size).sum ≤ 1000000) : (rk ((build (wordsN l)).map toS) (build (wordsN l)).length ((build (wordsN l)).length - 1) 0).1 = true := by
  have hk : ∃ k, vis (build (wordsN l)) k ((build (wordsN l)).length - 1) 0 = some (build (wordsN l)).length := by
    by_cases hl : l = []
    · subst hl
      have hw : wordsN [] = [] := rfl
      rw [hw, build_nil]
      exact ⟨1, rfl⟩
    · have hne : wordsN l ≠ [] := by unfold wordsN; simpa using hl
      exact build_ranked (wordsN l) (words_rise h0 h) hne
  obtain ⟨k, hk⟩ := hk
  obtain ⟨o1, o2, o3⟩ := ok_built l h0 h hs
  rw [List.length_map] at o3
  have h1 := vis_le (build (wordsN l)) [] (k' := k + (build (wordsN l)).length + 1) (by omega) hk
  rw [List.append_nil] at h1
  have h2 := vis_rk _ _ _ _ _ h1
  rw [rk_fuel ((lowB_iff _).1 o2) ((build (wordsN l)).length - 1) (build (wordsN l)).length (k + (build (wordsN l)).length + 1) 0 (by rw [List.length_map]; omega) (by omega) (by omega), h2]
theorem may_built (l : List ByteArray) (h0 : [] ∉ wordsN l) (h : (wordsN l).Pairwise (· < ·)) (hs : (l.map ByteArray.size).sum ≤ 1000000) : mayB ((build (wordsN l)).map toS) = true := by
  obtain ⟨g1, g2, g3, g4⟩ := build_good l h0 h
  obtain ⟨s, hs1, hs2⟩ := root_built l h0 h
  obtain ⟨hn, hse⟩ := List.getElem?_eq_some_iff.1 hs1
  unfold mayB
  rw [plain_built l h0 h, List.length_map, ranked_built l h0 h hs, show (((build (wordsN l)).length : Nat) : Int) - 1 = (((build (wordsN l)).length - 1 : Nat) : Int) from by omega, rdB _ _ hn, hse]
  have e : ((build (wordsN l)).map toS).map ofS = build (wordsN l) := by
    rw [List.map_map]
    exact (List.map_congr_left (fun s _ => ofS_toS s)).trans (List.map_id _)
  rw [e, decide_eq_true g1]
  show (true && true && !s.1 && true) = true
  rw [hs2]; rfl
end Go.Proofs.Ytgebhidpkcjpmaa.K

namespace Go.Proofs.Ytgebhidpkcjpmaa.K
open Go.RowKit Go.Proofs.YtgebhidpkcjpmaaW.PrintWords Go.Proofs.YtgebhidpkcjpmaaW.PrintLast Go.Proofs.YtgebhidpkcjpmaaW.PrintMore Go.Proofs.Ytgebhidpkcjpmaa
attribute [local go_sem] max2_int min2_int max_two min_two max_three min_three max_four min_four
set_option linter.unusedVariables false
set_option linter.unusedSimpArgs false
open Go.Proofs.Ytgebhidpkcjpmaa.PDk Go.Proofs.Ytgebhidpkcjpmaa.PDm Go.Proofs.Ytgebhidpkcjpmaa.PIx Go.Proofs.Ytgebhidpkcjpmaa.Daw
structure Ws (l : List ByteArray) : Prop where
  all : bytesAll l ≤ 1000000
  ne : [] ∉ wordsN l
  rise : (wordsN l).Pairwise (· < ·)
theorem sum_all (l : List ByteArray) : (l.map ByteArray.size).sum ≤ bytesAll l := by
  induction l with
  | nil => simp [bytesAll]
  | cons a l ih => unfold bytesAll at ih ⊢; simp; omega
namespace Ws
variable {l : List ByteArray} (h : Ws l)
include h
theorem n : l.length ≤ 1000000 := by have := len_bytesAll l; have := h.all; omega
theorem sum : (l.map ByteArray.size).sum ≤ 1000000 := Nat.le_trans (sum_all l) h.all
theorem b (x : ByteArray) (hx : x ∈ l) : x.size ≤ 1000000 := by
  obtain ⟨i, hi, rfl⟩ := List.getElem_of_mem hx
  have := size_bytesAll l i hi; have := h.all; omega
theorem may : daw_May.f ((build (wordsN l)).map toS) = some true := by
  have hs : (l.map ByteArray.size).sum ≤ 1000000 := by have := h.sum; omega
  unfold daw_May.f
  rw [if_pos (ok_built l h.ne h.rise hs).1, may_built l h.ne h.rise hs]
theorem known (hl : l ≠ []) : Known (build (wordsN l)) := by
  obtain ⟨g1, g2, g3, g4⟩ := build_good l h.ne h.rise
  have hne : wordsN l ≠ [] := by unfold wordsN; simpa using hl
  have hg : Daw.Good (build (wordsN l)) := ⟨g1, fun i s hs => ⟨(g2 i s hs).1, (g2 i s hs).2.1 hl⟩⟩
  have hsum := h.sum
  refine ⟨hg, ⟨fun i hi e he => (g2 i _ (List.getElem?_eq_getElem hi)).1.1 e he, fun i hi => cnt_eq hg hi, fun i hi => ?_, fun i hi => ?_, by omega⟩⟩
  · have := cnt_le (wordsN l) (words_rise h.ne h.rise) hne hi
    have h2 := h.n
    have h3 : (wordsN l).length = l.length := by unfold wordsN; simp
    omega
  · have := (g2 i _ (List.getElem?_eq_getElem hi)).2.2.1
    omega
theorem pos : 0 < (build (wordsN l)).length := (build_good l h.ne h.rise).2.2.1
theorem small : (build (wordsN l)).length ≤ 1000001 := by have := (build_good l h.ne h.rise).2.2.2; have := h.sum; omega
theorem root (hl : l ≠ []) : wl (build (wordsN l)) ((build (wordsN l)).length - 1) = wordsN l :=
  cnt_root (wordsN l) (words_rise h.ne h.rise) (by unfold wordsN; simpa using hl)
/-- The counts. -/
theorem cnts : ∃ cs, Cnt (build (wordsN l)) cs ∧ cs ((build (wordsN l)).length - 1) = l.length ∧ Ev (fun k => index_Counts.f k ((build (wordsN l)).map toS)) (csL cs (build (wordsN l)).length, 0) := by
  by_cases hl : l = []
  · subst hl
    have hm := h.may
    rw [show wordsN [] = [] from rfl, build_nil] at hm ⊢
    have hc : Cnt [((false, []) : DS)] (fun _ => 0) := by
      refine ⟨fun i hi e he => ?_, fun i hi => ?_, fun _ _ => Nat.zero_le _, fun i hi => ?_, by decide⟩
      all_goals
        have : i = 0 := by simpa using hi
        subst this
      · simp at he
      · rfl
      · simp
    exact ⟨_, hc, rfl, counts_ev hc hm⟩
  · refine ⟨Daw.cnt _, (h.known hl).cnt, ?_, counts_ev (h.known hl).cnt h.may⟩
    unfold Daw.cnt
    rw [h.root hl]; unfold wordsN; simp
theorem of (hl : l ≠ []) (v : ByteArray) (hv : v.size ≤ 140737488355328) : Ev (fun k => index_Of.f k ((build (wordsN l)).map toS) v) (if Utf.nats v ∈ wordsN l then (((wordsN l).idxOf (Utf.nats v) : Nat) : Int) else 0, decide (Utf.nats v ∈ wordsN l)) := by
  have hh := has_built l h.ne h.rise (by have := h.sum; omega) v hv
  have := of_ev (h.known hl) h.may h.pos v hv (by rw [h.root hl]; exact hh)
  rwa [h.root hl] at this
end Ws
theorem str_ints (s : ByteArray) : strOfNums (intsL (Utf.nats s)) = s := by
  apply nats_inj
  rw [nats_str]
  unfold intsL
  rw [List.map_map]
  refine (List.map_congr_left (fun x hx => ?_)).trans (List.map_id _)
  have := Utf.nats_lt s x hx
  show (Int.ofNat x).toNat % 256 = x
  simp; omega
namespace Ws
variable {l : List ByteArray} (h : Ws l)
include h
/-- A word of the list: its place is where it stands. -/
theorem of_at (i : Nat) (hi : i < l.length) : Ev (fun k => index_Of.f k ((build (wordsN l)).map toS) l[i]) ((i : Int), true) := by
  have hl : l ≠ [] := by rintro rfl; simp at hi
  have hsz := h.b l[i] (List.getElem_mem hi)
  have := h.of hl l[i] (by omega)
  have hm : Utf.nats l[i] ∈ wordsN l := List.mem_map_of_mem (List.getElem_mem hi)
  have hwl : i < (wordsN l).length := by unfold wordsN; simpa using hi
  have e : (wordsN l)[i] = Utf.nats l[i] := by simp [wordsN]
  have hix : (wordsN l).idxOf (Utf.nats l[i]) = i := by
    have hnd : (wordsN l).Nodup := h.rise.imp (fun {a b} hab e => by subst e; exact List.lt_irrefl a hab)
    rw [← e]
    exact List.Nodup.idxOf_getElem hnd i hwl
  rw [if_pos hm, decide_eq_true hm, hix] at this
  exact this
theorem of_any (v : ByteArray) (hv : v.size ≤ 140737488355328) : Ev (fun k => index_Of.f k ((build (wordsN l)).map toS) v) (if Utf.nats v ∈ wordsN l then (((wordsN l).idxOf (Utf.nats v) : Nat) : Int) else 0, decide (Utf.nats v ∈ wordsN l)) := by
  by_cases hl : l = []
  · have hh := has_built l h.ne h.rise (by have := h.sum; omega) v hv
    obtain ⟨cs, h1, h2, h3⟩ := h.cnts
    subst hl
    have hv' : ¬ Utf.nats v ∈ wordsN [] := by simp [wordsN]
    rw [if_neg hv', decide_eq_false hv']
    unfold index_Of.f
    refine Ev.bind h3 ?_
    refine Ev.congr (f := fun k => index_Of.j0 k ((build (wordsN [])).map toS) v (csL cs (build (wordsN [])).length) true) (fun k => ?_) (Ev.step (f := fun _ => some (0, false)) (fun k => ?_) (Ev.now _))
    · rw [if_pos rfl, hh, decide_eq_false hv', Option.bind_some]; rfl
    · simp only [index_Of.j0]; rw [if_pos trivial]
  · exact h.of hl v hv
end Ws
end Go.Proofs.Ytgebhidpkcjpmaa.K

namespace Go.Proofs.Ytgebhidpkcjpmaa.Daw
set_option linter.unusedVariables false
set_option linter.unusedSimpArgs false
theorem acc_alive {a : List DS} (h : Good a) : ∀ (n i : Nat), i < n → i < a.length → ∃ v, acc a i v = true
  | 0, i, hn, _ => by omega
  | n + 1, i, hn, hi => by
    have e : a[i]? = some a[i] := List.getElem?_eq_getElem hi
    obtain ⟨hr, hal⟩ := h.2 i _ e
    rcases hal with h1 | h1
    · exact ⟨[], by simp [acc, e, h1]⟩
    · obtain ⟨d, es, hd⟩ : ∃ d es, a[i].2 = d :: es := by
        cases hh : a[i].2 with
        | nil => exact absurd hh h1
        | cons d es => exact ⟨d, es, rfl⟩
      have hlow := hr.1 d (by rw [hd]; simp)
      obtain ⟨v, hv⟩ := acc_alive h n d.2 (by omega) (by omega)
      refine ⟨d.1 :: v, ?_⟩
      have hf : fnd a[i] d.1 = some d := by unfold fnd; rw [hd]; simp
      simp only [acc, e, hf]
      exact hv
/-- Two edges' lists that lead on alike. -/
def RelE (a b : List DS) : List DE → List DE → Prop
  | [], [] => True
  | e :: es, f :: fs => (e.1 = f.1 ∧ ∀ v, acc a e.2 v = acc b f.2 v) ∧ RelE a b es fs
  | _, _ => False
def stepE (a : List DS) (es : List DE) (c : Nat) (v : List Nat) : Bool := match es.find? (fun e => e.1 == c) with | some e => acc a e.2 v | none => false
end Go.Proofs.Ytgebhidpkcjpmaa.Daw

namespace Go.Proofs.Ytgebhidpkcjpmaa.K
open Go.RowKit Go.Proofs.YtgebhidpkcjpmaaW.PrintWords Go.Proofs.YtgebhidpkcjpmaaW.PrintLast Go.Proofs.YtgebhidpkcjpmaaW.PrintMore Go.Proofs.Ytgebhidpkcjpmaa
attribute [local go_sem] max2_int min2_int max_two min_two max_three min_three max_four min_four
set_option linter.unusedVariables false
set_option linter.unusedSimpArgs false
open Go Go.Proofs.Ytgebhidpkcjpmaa.PR13 Go.Proofs.Ytgebhidpkcjpmaa.PDk Go.Proofs.Ytgebhidpkcjpmaa.PDm Go.Proofs.Ytgebhidpkcjpmaa.PFl Go.Proofs.Ytgebhidpkcjpmaa.PLg Go.Proofs.Ytgebhidpkcjpmaa.Daw Go.Proofs.Ytgebhidpkcjpmaa.Fil Go.Proofs.Ytgebhidpkcjpmaa.Crc
def mxl (l : List Nat) : Nat := l.foldl max 0
theorem mxl_snoc (l : List Nat) (a : Nat) : mxl (l ++ [a]) = max (mxl l) a := by simp [mxl, List.foldl_append]
theorem foldl_max : ∀ (l : List Nat) (m n : Nat), l.foldl max m ≤ n ↔ m ≤ n ∧ ∀ x ∈ l, x ≤ n
  | [], m, n => by simp
  | a :: l, m, n => by
    rw [List.foldl_cons, foldl_max l]
    simp only [List.mem_cons, forall_eq_or_imp]
    rw [Nat.max_le, and_assoc]
theorem mxl_le {l : List Nat} {n : Nat} : mxl l ≤ n ↔ ∀ x ∈ l, x ≤ n := by
  unfold mxl
  rw [foldl_max]
  simp
structure Lng (b : List DS) (lg : Nat → Nat) : Prop where
  low : ∀ i (h : i < b.length), ∀ e ∈ b[i].2, e.2 < i
  eq : ∀ i (h : i < b.length), lg i = mxl (b[i].2.map fun e => lg e.2 + 1)
  le : ∀ i, i < b.length → lg i ≤ 1000000000
  few : ∀ i (h : i < b.length), b[i].2.length ≤ 8796093022208
  len : b.length ≤ 4398046511104
  pos : 0 < b.length
section
variable {b : List DS} {lg : Nat → Nat}
theorem rd_mid (xs ys : List Int) (v : Int) (i : Nat) (h : xs.length = i) : rd (xs ++ v :: ys) (i : Int) = v := by
  rw [rd_nat, List.getD_eq_getElem?_getD, List.getElem?_append_right (by omega), h, Nat.sub_self]; rfl
theorem rd_left (xs ys : List Int) (j : Nat) (h : j < xs.length) : rd (xs ++ ys) (j : Int) = rd xs (j : Int) := by
  rw [rd_nat, rd_nat, List.getD_eq_getElem?_getD, List.getD_eq_getElem?_getD, List.getElem?_append_left h]
theorem set_mid (xs ys : List Int) (v u : Int) (i : Nat) (h : xs.length = i) : (xs ++ v :: ys).set i u = xs ++ u :: ys := by
  rw [List.set_append_right (h := by omega), h, Nat.sub_self]; rfl
theorem lg_l1 (h : Lng b lg) (i : Nat) (hi : i < b.length) {r : Int} (hn : Ev (fun k => file_longest.l0 k (b.map toS) (csL lg (i + 1) ++ List.replicate (b.length - (i + 1)) 0) (b.map toS) (b.length : Int) ((i + 1 : Nat) : Int)) r) :
    ∀ (d j m : Nat), j + d = b[i].2.length → m = mxl ((b[i].2.take j).map fun e => lg e.2 + 1) →
    Ev (fun k => file_longest.l1 k (b.map toS) (csL lg i ++ (m : Int) :: List.replicate (b.length - (i + 1)) 0) (i : Int) (b.map toS) (b.length : Int) (i : Int) (b[i].2.map toE) (b[i].2.length : Int) (j : Int)) r
  | 0, j, m, hj, hm => by
    have hlen := h.len
    rw [List.take_of_length_le (by omega), ← h.eq i hi] at hm
    subst hm
    refine Ev.step (fun k => ?_) hn
    simp only [file_longest.l1]
    rw [if_neg (by omega), wz (by omega) (by omega), csL_succ, List.append_assoc]
    rfl
  | d + 1, j, m, hj, hm => by
    have hlen := h.len
    have hlt : j < b[i].2.length := by omega
    have hfew := h.few i hi
    have hel := h.low i hi _ (List.getElem_mem hlt)
    have hle := h.le b[i].2[j].2 (by omega)
    have hlm : ((b[i].2.map toE).length : Int) = (b[i].2.length : Int) := by rw [List.length_map]
    have hx3 : (csL lg i ++ (m : Int) :: List.replicate (b.length - (i + 1)) 0).length = b.length := by
      rw [List.length_append, csL_len, List.length_cons, List.length_replicate]; omega
    have r1 : rd (csL lg i ++ (m : Int) :: List.replicate (b.length - (i + 1)) 0) (i : Int) = (m : Int) := rd_mid _ _ _ _ (csL_len lg i)
    have r2 : rd (csL lg i ++ (m : Int) :: List.replicate (b.length - (i + 1)) 0) (b[i].2[j].2 : Int) = (lg b[i].2[j].2 : Int) := by
      rw [rd_left _ _ _ (by rw [csL_len]; exact hel)]
      have := rd_csL lg i 0 _ hel
      simpa using this
    have ih := lg_l1 h i hi hn d (j + 1) (max m (lg b[i].2[j].2 + 1)) (by omega) (by
      rw [List.take_succ_eq_append_getElem hlt, List.map_append, List.map_cons, List.map_nil, mxl_snoc, ← hm])
    refine Ev.step (fun k => ?_) ih
    simp only [file_longest.l1]
    rw [if_pos (by omega), if_pos (by omega), if_pos (by rw [hlm]; omega), if_pos (by omega), if_pos (by rw [hx3]; omega), rded _ j hlt]
    rw [show (toE b[i].2[j]).f1 = (b[i].2[j].2 : Int) from rfl, if_pos (by omega), if_pos (by rw [hx3]; omega), r1, r2, wz (x := (lg b[i].2[j].2 : Int) + 1) (by omega) (by omega), wz (x := (j : Int) + 1) (by omega) (by omega), Int.toNat_natCast, set_mid _ _ _ _ _ (csL_len lg i)]
    have hmx : mx (m : Int) ((lg b[i].2[j].2 : Int) + 1) = ((max m (lg b[i].2[j].2 + 1) : Nat) : Int) := by unfold mx; split <;> omega
    rw [hmx]
    rfl
theorem lg_l0 (h : Lng b lg) : ∀ (d i : Nat), i + d = b.length → Ev (fun k => file_longest.l0 k (b.map toS) (csL lg i ++ List.replicate (b.length - i) 0) (b.map toS) (b.length : Int) (i : Int)) ((lg (b.length - 1) : Nat) : Int)
  | 0, i, hi => by
    have hlen := h.len
    have hpos := h.pos
    have hlm : ((b.map toS).length : Int) = (b.length : Int) := by rw [List.length_map]
    obtain rfl : i = b.length := by omega
    have hx3 : (csL lg b.length ++ List.replicate (b.length - b.length) 0).length = b.length := by rw [List.length_append, csL_len, List.length_replicate]; omega
    have hr := rd_csL lg b.length (b.length - b.length) (b.length - 1) (by omega)
    have e : Go.RowKit.wrap64 ((b.length : Int) - 1) = ((b.length - 1 : Nat) : Int) := by rw [wz (by omega) (by omega)]; omega
    refine Ev.step (f := fun _ => some ((lg (b.length - 1) : Nat) : Int)) (fun k => ?_) (Ev.now _)
    simp only [file_longest.l0]
    rw [if_neg (by omega), hlm, e, if_pos (by omega), if_pos (by rw [hx3]; omega), hr]
  | d + 1, i, hi => by
    have hlt : i < b.length := by omega
    have hlm : ((b.map toS).length : Int) = (b.length : Int) := by rw [List.length_map]
    have ih := lg_l0 h d (i + 1) (by omega)
    have h1 := lg_l1 h i hlt ih b[i].2.length 0 0 (by omega) rfl
    have e : List.replicate (b.length - i) (0 : Int) = 0 :: List.replicate (b.length - (i + 1)) 0 := by
      rw [show b.length - i = (b.length - (i + 1)) + 1 by omega, List.replicate_succ]
    refine Ev.step (fun k => ?_) h1
    simp only [file_longest.l0]
    rw [if_pos (by omega), if_pos (by omega), if_pos (by rw [hlm]; omega), rdst b i hlt, e]
    show file_longest.l1 k _ _ _ _ _ _ (b[i].2.map toE) ((b[i].2.map toE).length : Int) 0 = _
    rw [List.length_map]
    rfl
theorem longest_ev (h : Lng b lg) : Ev (fun k => file_longest.f k (b.map toS)) ((lg (b.length - 1) : Nat) : Int) := by
  have hlen := h.len
  unfold file_longest.f
  simp only [List.length_map]
  refine Ev.congr (fun k => if_pos (by omega)) (Ev.congr (fun k => if_pos (by rw [Int.toNat_natCast]; omega)) ?_)
  have := lg_l0 h b.length 0 (by omega)
  rw [Int.toNat_natCast]
  exact this
end
def mlen (L : List (List Nat)) : Nat := mxl (L.map List.length)
theorem mlen_le {L : List (List Nat)} {n : Nat} : mlen L ≤ n ↔ ∀ v ∈ L, v.length ≤ n := by
  unfold mlen
  rw [mxl_le]
  constructor
  · intro h v hv; exact h _ (List.mem_map_of_mem hv)
  · intro h x hx
    obtain ⟨v, hv, rfl⟩ := List.mem_map.1 hx
    exact h v hv
theorem eq_of_le_iff {a c : Nat} (h : ∀ n, a ≤ n ↔ c ≤ n) : a = c := Nat.le_antisymm ((h c).2 (Nat.le_refl _)) ((h a).1 (Nat.le_refl _))
theorem mlen_wl {b : List DS} (h : Daw.Good b) {i : Nat} (hi : i < b.length) (hne : ∀ e ∈ b[i].2, wl b e.2 ≠ []) : mlen (wl b i) = mxl (b[i].2.map fun e => mlen (wl b e.2) + 1) := by
  apply eq_of_le_iff
  intro n
  rw [mlen_le, mxl_le, wl_eq h hi]
  constructor
  · intro hv x hx
    obtain ⟨e, he, rfl⟩ := List.mem_map.1 hx
    have h1 : ∀ v ∈ wl b e.2, v.length + 1 ≤ n := fun v hvm => by
      have := hv (e.1 :: v) (List.mem_append_right _ (List.mem_flatMap.2 ⟨e, he, List.mem_map_of_mem hvm⟩))
      simpa using this
    obtain ⟨v0, hv0⟩ := List.exists_mem_of_ne_nil _ (hne e he)
    have h0 := h1 v0 hv0
    have : mlen (wl b e.2) ≤ n - 1 := mlen_le.2 fun v hv => by have := h1 v hv; omega
    omega
  · intro hx v hv
    rcases List.mem_append.1 hv with hv | hv
    · split at hv
      · rw [List.mem_singleton.1 hv]; exact Nat.zero_le _
      · simp at hv
    · obtain ⟨e, he, hv⟩ := List.mem_flatMap.1 hv
      obtain ⟨u, hu, rfl⟩ := List.mem_map.1 hv
      have h1 := hx _ (List.mem_map_of_mem (f := fun e => mlen (wl b e.2) + 1) he)
      have h2 := (mlen_le (n := mlen (wl b e.2))).1 (Nat.le_refl _) u hu
      simp only [List.length_cons]
      omega
theorem wl_length {b : List DS} (h : Daw.Good b) : ∀ (n i : Nat), i < n → i < b.length → ∀ v ∈ wl b i, v.length ≤ i
  | 0, i, hn, _, _, _ => by omega
  | n + 1, i, hn, hi, v, hv => by
    rw [wl_eq h hi] at hv
    rcases List.mem_append.1 hv with hv | hv
    · split at hv
      · rw [List.mem_singleton.1 hv]; exact Nat.zero_le _
      · simp at hv
    · obtain ⟨e, he, hv⟩ := List.mem_flatMap.1 hv
      obtain ⟨u, hu, rfl⟩ := List.mem_map.1 hv
      have hlow := (h.2 i _ (List.getElem?_eq_getElem hi)).1.1 e he
      have := wl_length h n e.2 (by omega) (by omega) u hu
      simp only [List.length_cons]; omega
theorem wl_ne {b : List DS} (h : Daw.Good b) {i : Nat} (hi : i < b.length) : wl b i ≠ [] := by
  obtain ⟨v, hv⟩ := acc_alive h (i + 1) i (by omega) hi
  intro he
  have := (mem_wl h hi v).2 hv
  rw [he] at this
  simp at this
theorem lng_good {b : List DS} (h : Daw.Good b) (hp : 0 < b.length) (hl : b.length ≤ 1000000000) (hf : ∀ i (hi : i < b.length), b[i].2.length ≤ 8796093022208) : Lng b fun i => mlen (wl b i) := by
  have hlow := fun i (hi : i < b.length) e (he : e ∈ b[i].2) => (h.2 i _ (List.getElem?_eq_getElem hi)).1.1 e he
  refine ⟨hlow, fun i hi => mlen_wl h hi fun e he => wl_ne h (Nat.lt_trans (hlow i hi e he) hi), fun i hi => ?_, hf, by omega, hp⟩
  refine Nat.le_trans (mlen_le.2 fun v hv => wl_length h (i + 1) i (by omega) hi v hv) (by omega)
end Go.Proofs.Ytgebhidpkcjpmaa.K

namespace Go.Proofs.Ytgebhidpkcjpmaa.K
open Go.RowKit Go.Proofs.YtgebhidpkcjpmaaW.PrintWords Go.Proofs.YtgebhidpkcjpmaaW.PrintLast Go.Proofs.YtgebhidpkcjpmaaW.PrintMore Go.Proofs.Ytgebhidpkcjpmaa
attribute [local go_sem] max2_int min2_int max_two min_two max_three min_three max_four min_four
set_option linter.unusedVariables false
set_option linter.unusedSimpArgs false
open Go Go.Shelf Go.Proofs.Ytgebhidpkcjpmaa.PR13 Go.Proofs.Ytgebhidpkcjpmaa.PDk Go.Proofs.Ytgebhidpkcjpmaa.PDm Go.Proofs.Ytgebhidpkcjpmaa.PFl Go.Proofs.Ytgebhidpkcjpmaa.PLg Go.Proofs.Ytgebhidpkcjpmaa.PIx
def ixU (p : Int → Bool) (es : List Int) : Int := match es.findIdx? p with | some j => (j : Int) | none => -1
theorem ixU_step (p : Int → Bool) (es : List Int) (i : Nat) (h : i < es.length) (hn : p es[i] = false) : (es.drop i).findIdx? p = ((es.drop (i + 1)).findIdx? p).map (· + 1) := by
  rw [List.drop_eq_getElem_cons h, List.findIdx?_cons, if_neg (by simp [hn])]
theorem ixU_hit (p : Int → Bool) (es : List Int) (i : Nat) (h : i < es.length) (hn : p es[i] = true) : (es.drop i).findIdx? p = some 0 := by
  rw [List.drop_eq_getElem_cons h, List.findIdx?_cons, if_pos hn]
theorem ixU_any (p : Int → Bool) (es : List Int) : decide (0 ≤ ixU p es) = es.any p := by
  unfold ixU
  rw [← List.findIdx?_isSome]
  cases es.findIdx? p with
  | none => rfl
  | some j => exact decide_eq_true (by show (0 : Int) ≤ (j : Int); omega)
set_option maxHeartbeats 4000000 in
set_option maxRecDepth 100000 in
theorem ixFuncU_k (g : Nat) (eg : ∀ args w, (callFunc g args).run Try.prog w = .ok (.enter g args) w) (lb : Array Value) (p : Int → Bool) (A : Option Addr) (c : Nat) (es : List Int) (w : World) (hC : Kd.C (Kd.int .u64) w A es.length es) (hc : es.length ≤ c)
    (hp : ∀ (W : World) (x : Int), Below w.heap.size w W → Calls Try.prog g (#[.int .u64 x] ++ lb) W fun e w' => e = .returned (.bool (p x)) ∧ Below w.heap.size w w') :
    Calls Try.prog 93 #[.slice A es.length c, .func (.func g) #[] lb] w fun e w' => e = .returned (.int .i64 (ixU p es)) ∧ Below w.heap.size w w' := by
  have HC := Aside0.mk hC; have HP := Aside0.mk hp
  have hlen : (es.length : Int) ≤ 9223372036854775807 := by have := hC.2.1; omega
  clear hC hp
  go_enter Try.func93, Try.ntmps93
  go_wp2
  go_loopg [8] es.length (fun gg v8 wr => ∃ i : Nat, v8 = .int .i64 i ∧ Aside0 (i ≤ es.length ∧ es.length ≤ gg + i) ∧ Aside0 (es.findIdx? p = ((es.drop i).findIdx? p).map (· + i)) ∧ Aside0 (Below w.heap.size w wr))
  case atStart => exact ⟨0, rfl, ⟨by omega⟩, ⟨by simp⟩, ⟨Below.refl _ _⟩⟩
  case round =>
    obtain ⟨i, rfl, hi, hf, hb⟩ := hrel
    by_cases hlt : i < es.length
    · have hcb : decide ((i : Int) < (es.length : Int)) = true := decide_eq_true (by omega)
      have q0 : (0 : Int) ≤ (i : Int) := by omega
      have q1 : (i : Int) < (es.length : Int) := by omega
      obtain ⟨ad, e0, a0⟩ := Kd.at_int (Kd.C_below HC.out hb.out) (i : Int) q0 q1
      cases e0
      have hcall := HP.out wr (rd es (i : Int)) hb.out
      have hrd : rd es (i : Int) = es[i] := by rw [rd_nat, List.getD_eq_getElem?_getD, List.getElem?_eq_getElem hlt]; rfl
      generalize hx : rd es (i : Int) = x at a0 hcall
      have HX : Aside0 (es[i] = x) := ⟨hrd.symm.trans hx⟩
      clear hx hrd
      rw [Int.toNat_natCast] at a0
      cases hq : p x with
      | true =>
        rw [hq] at hcall
        have HQ := Aside0.mk hq; have HCL := Aside0.mk hcall
        clear hq hcall
        go_wp2
        (with_reducible refine HCL.out.mono ?_)
        (first | rintro e w' ⟨rfl, hb'⟩ | rintro e w' rfl hb')
        go_wp2
        go_ret
        refine ⟨?_, hb'⟩
        unfold ixU
        rw [hf.out, ixU_hit p es i hlt (by rw [HX.out]; exact HQ.out)]
        simp
      | false =>
        rw [hq] at hcall
        have HQ := Aside0.mk hq; have HCL := Aside0.mk hcall
        clear hq hcall
        go_wp2
        (with_reducible refine HCL.out.mono ?_)
        (first | rintro e w' ⟨rfl, hb'⟩ | rintro e w' rfl hb')
        go_wp2
        go_roundg (es.length - (i + 1))
        case measure => have := hi.out; omega
        case rel =>
          refine ⟨i + 1, congrArg (Value.int .i64) (by omega), ⟨by have := hi.out; omega⟩, ⟨?_⟩, ⟨hb'⟩⟩
          rw [hf.out, ixU_step p es i hlt (by rw [HX.out]; exact HQ.out), Option.map_map]
          congr 1
          funext n
          simp only [Function.comp]
          omega
    · have hcb : decide ((i : Int) < (es.length : Int)) = false := decide_eq_false (by omega)
      go_wp2
      go_ret
      refine ⟨?_, hb.out⟩
      unfold ixU
      rw [hf.out, List.drop_eq_nil_of_le (by omega)]
      rfl
set_option maxHeartbeats 4000000 in
set_option maxRecDepth 100000 in
theorem containsU_k (g : Nat) (eg : ∀ args w, (callFunc g args).run Try.prog w = .ok (.enter g args) w) (lb : Array Value) (p : Int → Bool) (A : Option Addr) (c : Nat) (es : List Int) (w : World) (hC : Kd.C (Kd.int .u64) w A es.length es) (hc : es.length ≤ c)
    (hp : ∀ (W : World) (x : Int), Below w.heap.size w W → Calls Try.prog g (#[.int .u64 x] ++ lb) W fun e w' => e = .returned (.bool (p x)) ∧ Below w.heap.size w w') :
    Calls Try.prog 71 #[.slice A es.length c, .func (.func g) #[] lb] w fun e w' => e = .returned (.bool (es.any p)) ∧ Below w.heap.size w w' := by
  have hk := ixFuncU_k g eg lb p A c es w hC hc hp
  have ha := ixU_any p es
  generalize ixU p es = r at hk ha
  rw [← ha]
  clear ha hp
  go_enter Try.func71, Try.ntmps71
  go_wp2_with (first | (go_at_call 93; (with_reducible refine hk.mono ?_)))
  (first | rintro e w1 rfl hb1 | rintro e w1 ⟨rfl, hb1⟩)
  go_wp2
  go_ret
  exact ⟨rfl, hb1⟩
def oddB (n : Int) : Bool := decide (n < 1) || decide (4611686018427387904 < n)
set_option maxHeartbeats 4000000 in
set_option maxRecDepth 100000 in
theorem fmay1_k (n : Int) (w : World) : Calls Try.prog 70 (#[.int .u64 n] ++ #[]) w fun e w' => e = .returned (.bool (oddB n)) ∧ Below w.heap.size w w' := by
  show Calls Try.prog 70 #[.int .u64 n] w _
  unfold oddB
  cases d1 : decide (n < 1) with
  | true =>
    go_enter Try.func70, Try.ntmps70
    go_wp2
    go_ret
    exact ⟨rfl, Below.refl _ _⟩
  | false =>
    go_enter Try.func70, Try.ntmps70
    go_wp2
    go_ret
    exact ⟨rfl, Below.refl _ _⟩
theorem oddAny_k (A : Option Addr) (c : Nat) (es : List Int) (w : World) (hC : Kd.C (Kd.int .u64) w A es.length es) (hc : es.length ≤ c) :
    Calls Try.prog 71 #[.slice A es.length c, .func (.func 70) #[] #[]] w fun e w' => e = .returned (.bool (es.any oddB)) ∧ Below w.heap.size w w' :=
  containsU_k 70 (enters_of Try.func70 (by kernel_rfl) rfl) #[] oddB A c es w hC hc (fun W x hb => (fmay1_k x W).mono fun e w' h => ⟨h.1, hb.trans (h.2.mono hb.size)⟩)
end Go.Proofs.Ytgebhidpkcjpmaa.K

namespace Go.Proofs.Ytgebhidpkcjpmaa.K
open Go.RowKit Go.Proofs.YtgebhidpkcjpmaaW.PrintWords Go.Proofs.YtgebhidpkcjpmaaW.PrintLast Go.Proofs.YtgebhidpkcjpmaaW.PrintMore Go.Proofs.Ytgebhidpkcjpmaa
attribute [local go_sem] max2_int min2_int max_two min_two max_three min_three max_four min_four
set_option linter.unusedVariables false
set_option linter.unusedSimpArgs false
open Go Go.Shelf Go.Proofs.Ytgebhidpkcjpmaa.PR13 Go.Proofs.Ytgebhidpkcjpmaa.PDk Go.Proofs.Ytgebhidpkcjpmaa.PDm Go.Proofs.Ytgebhidpkcjpmaa.PFl Go.Proofs.Ytgebhidpkcjpmaa.PLg Go.Proofs.Ytgebhidpkcjpmaa.PIx
/-- What file.may comes to, by the answers of what it calls. -/
def MayIs (k : Nat) (l0 : List S82) (l1 l2 : List Int) (b : Bool) : Prop :=
  ∃ cs e, index_Counts.f k l0 = some (cs, e) ∧ ((e ≠ 0 ∧ b = false) ∨ (e = 0 ∧ 0 < cs.length ∧ ((rd cs ((cs.length : Int) - 1) ≠ (l1.length : Int) ∧ b = false) ∨ (rd cs ((cs.length : Int) - 1) = (l1.length : Int) ∧
    ∃ g, file_longest.f k l0 = some g ∧ ((255 < g ∧ b = false) ∨ (¬ 255 < g ∧ ((l1.any oddB = true ∧ b = false) ∨ (l1.any oddB = false ∧ ∃ en cl, file_entries.f k l1 = some en ∧ rank_Classes.f en = some cl ∧ slices_Equal_int_int.f k l2 cl = some b))))))))
set_option maxHeartbeats 8000000 in
set_option maxRecDepth 100000 in
theorem fmay_k (k : Nat) (A0 : Option Addr) (c0 : Nat) (l0 : List S82) (A1 : Option Addr) (c1 : Nat) (l1 : List Int) (A2 : Option Addr) (c2 : Nat) (l2 : List Int) (b : Bool) (w : World)
    (hr0 : Kd.C k82 w A0 l0.length l0) (hc0 : l0.length ≤ c0) (hr1 : Kd.C (Kd.int .u64) w A1 l1.length l1) (hc1 : l1.length ≤ c1) (hr2 : Kd.C (Kd.int .i64) w A2 l2.length l2) (hc2 : l2.length ≤ c2) (h : MayIs k l0 l1 l2 b) :
    Calls Try.prog 36 #[.agg #[.slice A0 l0.length c0, .slice A1 l1.length c1, .slice A2 l2.length c2]] w fun e w' => e = .returned (.bool b) ∧ Below w.heap.size w w' := by
  obtain ⟨cs, e, h1, h⟩ := h
  have huD := Try.underlying29
  have hln1 : (l1.length : Int) ≤ 9223372036854775807 := by have := hr1.2.1; omega
  have hba : Below w.heap.size w (w.alloc (.cells #[.slice A0 l0.length c0, .slice A1 l1.length c1, .slice A2 l2.length c2] 29 (0, 0))) := below_alloc (Below.refl _ _) _
  have HR0 := Aside0.mk hr0; have HC0 := Aside0.mk hc0; have HR1 := Aside0.mk hr1; have HC1 := Aside0.mk hc1; have HR2 := Aside0.mk hr2; have HC2 := Aside0.mk hc2
  have hcall := fun W (hb : Below w.heap.size w W) => index_Counts.calls k A0 c0 l0 cs e W (Kd.C_below hr0 hb) hc0 h1
  have HCL := Aside0.mk hcall
  have HBA := Aside0.mk hba
  clear hr0 hc0 hr1 hc1 hr2 hc2 h1 hcall hba
  go_enter Try.func36, Try.ntmps36
  go_wp2_with (first | (go_at_call 68; (with_reducible refine (HCL.out _ HBA.out).mono ?_)))
  (first | rintro x w2 v rfl hR hb2 | rintro x w2 ⟨v, rfl, hR, hb2⟩)
  obtain ⟨Av, cv, ev⟩ := Kd.R_slice hR
  subst ev
  have hb2' := HBA.out.trans (hb2.mono (Nat.le_succ _))
  have hg : w2.heap[w.heap.size]? = some (.cells #[.slice A0 l0.length c0, .slice A1 l1.length c1, .slice A2 l2.length c2] 29 (0, 0)) := (hb2.block w.heap.size (Nat.lt_succ_self _)).trans (blk_new w _)
  have HCS := Aside0.mk (Kd.R_reads' hR).2.2
  have HB2 := Aside0.mk hb2'
  have HG := Aside0.mk hg
  clear hR hb2 hb2' hg HCL HBA
  rcases h with ⟨he, rfl⟩ | ⟨rfl, hpos, h⟩
  · have hd : decide (e = 0) = false := decide_eq_false he
    have hd2 : (e == 0) = false := by simpa using he
    go_wp2
    (try go_quiet (fail)); (try go_wp2)
    go_ret
    exact ⟨rfl, by first | exact HB2.out | exact pw_below_drewN HB2.out _⟩
  · obtain ⟨n1, hn1⟩ : ∃ n1 : Int, n1 = (cs.length : Int) - 1 := ⟨_, rfl⟩
    rw [← hn1] at h
    have hcw : wrap64 ((cs.length : Int) - 1) = n1 := by have := HCS.out.2.1; unfold wrap64; omega
    have hui : IntKind.u64.wrap (l1.length : Int) = (l1.length : Int) := by simp [IntKind.wrap, IntKind.bits, IntKind.signed]; omega
    have q0 : (0 : Int) ≤ n1 := by omega
    have q1 : n1 < (cs.length : Int) := by omega
    obtain ⟨ad, e0, a0⟩ := Kd.at_int HCS.out n1 q0 q1
    cases e0
    generalize rd cs n1 = last at a0 h
    clear hn1
    have g0 : w2.cell? ⟨w.heap.size, 0, none⟩ = some (.slice A0 l0.length c0) := (blk_cell HG.out 0).trans rfl
    have g1 : w2.cell? ⟨w.heap.size, 1, none⟩ = some (.slice A1 l1.length c1) := (blk_cell HG.out 1).trans rfl
    have g2 : w2.cell? ⟨w.heap.size, 2, none⟩ = some (.slice A2 l2.length c2) := (blk_cell HG.out 2).trans rfl
    go_wp2
    refine start_ (n := 21) (S := fun w' => w'.cell? ⟨w.heap.size, 0, none⟩ = some (.slice A0 l0.length c0) ∧ w'.cell? ⟨w.heap.size, 1, none⟩ = some (.slice A1 l1.length c1) ∧ w'.cell? (ad.add n1.toNat) = some (.int .u64 last)) (ds := []) #[false, false, false, false, false, false, false, false, false, false, false, false, false, false, false, false, false, false, false, false, false] (by kernel_rfl) rfl rfl (by exact ⟨g0, g1, a0⟩) (fun hHeld => ?_)
    have HB3 := Aside0.mk (below_drew HB2.out)
    have HG3 := Aside0.mk (blk_drew HG.out)
    clear HB2 HG a0 g0 g1 g2 HCS
    generalize w2.drew = w3 at HB3 HG3 hHeld ⊢
    (refine pure_ (i := 0) (N := some 12) (v := ?_) (a' := ?_) #[true, false, false, false, false, false, false, false, false, false, false, false, false, false, false, false, false, false, false, false, false] rfl rfl (by kernel_rfl) (fun _ _ _ h => h) (Or.inl ⟨by rfl, ?_⟩) ?_ ?_; rotate_left; (intro w'; go_simp; with_reducible rfl); rotate_left; (simp only [Act.put, List.setIfInBounds_toArray, List.set_cons_zero, List.set_cons_succ, i64_w, i32_w]; rfl)); (refine pure_ (i := 1) (N := some 13) (v := ?_) (a' := ?_) #[true, true, false, false, false, false, false, false, false, false, false, false, false, false, false, false, false, false, false, false, false] rfl rfl (by kernel_rfl) (fun _ _ _ h => h) (Or.inl ⟨by rfl, ?_⟩) ?_ ?_; rotate_left; (intro w'; go_simp; with_reducible rfl); rotate_left; (simp only [Act.put, List.setIfInBounds_toArray, List.set_cons_zero, List.set_cons_succ, i64_w, i32_w]; rfl)); (refine pure_ (i := 2) (N := some 14) (v := ?_) (a' := ?_) #[true, true, true, false, false, false, false, false, false, false, false, false, false, false, false, false, false, false, false, false, false] rfl rfl (by kernel_rfl) (fun _ _ _ h => h) (Or.inl ⟨by rfl, ?_⟩) ?_ ?_; rotate_left; (intro w'; go_simp; with_reducible rfl); rotate_left; (simp only [Act.put, List.setIfInBounds_toArray, List.set_cons_zero, List.set_cons_succ, i64_w, i32_w]; rfl)); (refine pure_ (i := 3) (N := some 15) (v := ?_) (a' := ?_) #[true, true, true, true, false, false, false, false, false, false, false, false, false, false, false, false, false, false, false, false, false] rfl rfl (by kernel_rfl) (fun _ _ _ h => h) (Or.inl ⟨by rfl, ?_⟩) ?_ ?_; rotate_left; (intro w'; go_simp; with_reducible rfl); rotate_left; (simp only [Act.put, List.setIfInBounds_toArray, List.set_cons_zero, List.set_cons_succ, i64_w, i32_w]; rfl)); (refine pure_ (i := 4) (N := some 16) (v := ?_) (a' := ?_) #[true, true, true, true, true, false, false, false, false, false, false, false, false, false, false, false, false, false, false, false, false] rfl rfl (by kernel_rfl) (fun _ _ _ h => h) (Or.inl ⟨by rfl, ?_⟩) ?_ ?_; rotate_left; (intro w'; go_simp; with_reducible rfl); rotate_left; (simp only [Act.put, List.setIfInBounds_toArray, List.set_cons_zero, List.set_cons_succ, i64_w, i32_w]; rfl)); (refine pure_ (i := 5) (N := some 17) (v := ?_) (a' := ?_) #[true, true, true, true, true, true, false, false, false, false, false, false, false, false, false, false, false, false, false, false, false] rfl rfl (by kernel_rfl) (fun _ _ _ h => h) (Or.inl ⟨by rfl, ?_⟩) ?_ ?_; rotate_left; (intro w'; go_simp; with_reducible rfl); rotate_left; (simp only [Act.put, List.setIfInBounds_toArray, List.set_cons_zero, List.set_cons_succ, i64_w, i32_w]; rfl)); (refine pure_ (i := 6) (N := some 18) (v := ?_) (a' := ?_) #[true, true, true, true, true, true, true, false, false, false, false, false, false, false, false, false, false, false, false, false, false] rfl rfl (by kernel_rfl) (fun _ _ _ h => h) (Or.inl ⟨by rfl, ?_⟩) ?_ ?_; rotate_left; (intro w'; go_simp; with_reducible rfl); rotate_left; (simp only [Act.put, List.setIfInBounds_toArray, List.set_cons_zero, List.set_cons_succ, i64_w, i32_w]; rfl))
    (refine pure_ (i := 7) (N := some 19) (v := ?_) (a' := ?_) #[true, true, true, true, true, true, true, true, false, false, false, false, false, false, false, false, false, false, false, false, false] rfl rfl (by kernel_rfl) (fun _ _ _ h => h) (Or.inl ⟨by rfl, ?_⟩) ?_ ?_; rotate_left; (intro w'; go_simp; with_reducible rfl); rotate_left; (simp only [Act.put, List.setIfInBounds_toArray, List.set_cons_zero, List.set_cons_succ, i64_w, i32_w]; rfl))
    (refine take_ (i := 8) (N := some 20) (v := ?_) (a' := ?_) #[true, true, true, true, true, true, true, true, true, false, false, false, false, false, false, false, false, false, false, false, false] rfl rfl (by kernel_rfl) (fun _ _ _ h => h) (Or.inl ⟨by rfl, ?_⟩) hHeld ?_ ?_; rotate_left; (rintro w' ⟨s0, s1, s2⟩; go_simp; with_reducible rfl); rotate_left; (simp only [Act.put, List.setIfInBounds_toArray, List.set_cons_zero, List.set_cons_succ, i64_w, i32_w]; rfl))
    (refine pure_ (i := 9) (N := some 21) (v := ?_) (a' := ?_) #[true, true, true, true, true, true, true, true, true, true, false, false, false, false, false, false, false, false, false, false, false] rfl rfl (by kernel_rfl) (fun _ _ _ h => h) (Or.inl ⟨by rfl, ?_⟩) ?_ ?_; rotate_left; (intro w'; go_simp; with_reducible rfl); rotate_left; (simp only [Act.put, List.setIfInBounds_toArray, List.set_cons_zero, List.set_cons_succ, i64_w, i32_w]; rfl))
    (refine take_ (i := 10) (N := some 22) (v := ?_) (a' := ?_) #[true, true, true, true, true, true, true, true, true, true, true, false, false, false, false, false, false, false, false, false, false] rfl rfl (by kernel_rfl) (fun _ _ _ h => h) (Or.inl ⟨by rfl, ?_⟩) hHeld ?_ ?_; rotate_left; (rintro w' ⟨s0, s1, s2⟩; go_simp; with_reducible rfl); rotate_left; (simp only [Act.put, List.setIfInBounds_toArray, List.set_cons_zero, List.set_cons_succ, i64_w, i32_w]; rfl))
    (refine pure_ (i := 11) (N := some 23) (v := ?_) (a' := ?_) #[true, true, true, true, true, true, true, true, true, true, true, true, false, false, false, false, false, false, false, false, false] rfl rfl (by kernel_rfl) (fun _ _ _ h => h) (Or.inl ⟨by rfl, ?_⟩) ?_ ?_; rotate_left; (intro w'; go_simp; with_reducible rfl); rotate_left; (simp only [Act.put, List.setIfInBounds_toArray, List.set_cons_zero, List.set_cons_succ, i64_w, i32_w]; rfl)); (refine pure_ (i := 12) (N := some 24) (v := ?_) (a' := ?_) #[true, true, true, true, true, true, true, true, true, true, true, true, true, false, false, false, false, false, false, false, false] rfl rfl (by kernel_rfl) (fun _ _ _ h => h) (Or.inl ⟨by rfl, ?_⟩) ?_ ?_; rotate_left; (intro w'; go_simp; with_reducible rfl); rotate_left; (simp only [Act.put, List.setIfInBounds_toArray, List.set_cons_zero, List.set_cons_succ, i64_w, i32_w]; rfl))
    rcases h with ⟨hne, rfl⟩ | ⟨rfl, g, hl, h⟩
    · have hd2 : decide (last = (l1.length : Int)) = false := by simpa using hne
      have hd3 : (last != (l1.length : Int)) = true := by simpa using hne
      (refine pure_ (i := 13) (N := some 25) (v := ?_) (a' := ?_) #[true, true, true, true, true, true, true, true, true, true, true, true, true, true, false, false, false, false, false, false, false] rfl rfl (by kernel_rfl) (fun _ _ _ h => h) (Or.inl ⟨by rfl, ?_⟩) ?_ ?_; rotate_left; (intro w'; go_simp; with_reducible rfl); rotate_left; (simp only [Act.put, List.setIfInBounds_toArray, List.set_cons_zero, List.set_cons_succ, i64_w, i32_w]; rfl)); (refine pure_ (i := 14) (N := some 26) (v := ?_) (a' := ?_) #[true, true, true, true, true, true, true, true, true, true, true, true, true, true, true, false, false, false, false, false, false] rfl rfl (by kernel_rfl) (fun _ _ _ h => h) (Or.inl ⟨by rfl, ?_⟩) ?_ ?_; rotate_left; (intro w'; go_simp; with_reducible rfl); rotate_left; (simp only [Act.put, List.setIfInBounds_toArray, List.set_cons_zero, List.set_cons_succ, i64_w, i32_w]; rfl)); (refine pure_ (i := 15) (N := some 27) (v := ?_) (a' := ?_) #[true, true, true, true, true, true, true, true, true, true, true, true, true, true, true, true, false, false, false, false, false] rfl rfl (by kernel_rfl) (fun _ _ _ h => h) (Or.inl ⟨by rfl, ?_⟩) ?_ ?_; rotate_left; (intro w'; go_simp; with_reducible rfl); rotate_left; (simp only [Act.put, List.setIfInBounds_toArray, List.set_cons_zero, List.set_cons_succ, i64_w, i32_w]; rfl))
      (refine pure_ (i := 16) (N := some 28) (v := undef) (a' := ?_) #[true, true, true, true, true, true, true, true, true, true, true, true, true, true, true, true, true, false, false, false, false] rfl rfl (by kernel_rfl) (fun _ _ _ h => h) (Or.inr ⟨by rfl, rfl⟩) ?_ ?_; rotate_left; (simp only [Act.put, List.setIfInBounds_toArray, List.set_cons_zero, List.set_cons_succ, i64_w, i32_w]; rfl)); (refine pure_ (i := 17) (N := some 29) (v := undef) (a' := ?_) #[true, true, true, true, true, true, true, true, true, true, true, true, true, true, true, true, true, true, false, false, false] rfl rfl (by kernel_rfl) (fun _ _ _ h => h) (Or.inr ⟨by rfl, rfl⟩) ?_ ?_; rotate_left; (simp only [Act.put, List.setIfInBounds_toArray, List.set_cons_zero, List.set_cons_succ, i64_w, i32_w]; rfl)); (refine pure_ (i := 18) (N := some 30) (v := undef) (a' := ?_) #[true, true, true, true, true, true, true, true, true, true, true, true, true, true, true, true, true, true, true, false, false] rfl rfl (by kernel_rfl) (fun _ _ _ h => h) (Or.inr ⟨by rfl, rfl⟩) ?_ ?_; rotate_left; (simp only [Act.put, List.setIfInBounds_toArray, List.set_cons_zero, List.set_cons_succ, i64_w, i32_w]; rfl)); (refine pure_ (i := 19) (N := some 31) (v := undef) (a' := ?_) #[true, true, true, true, true, true, true, true, true, true, true, true, true, true, true, true, true, true, true, true, false] rfl rfl (by kernel_rfl) (fun _ _ _ h => h) (Or.inr ⟨by rfl, rfl⟩) ?_ ?_; rotate_left; (simp only [Act.put, List.setIfInBounds_toArray, List.set_cons_zero, List.set_cons_succ, i64_w, i32_w]; rfl))
      (refine pure_ (i := 20) (N := some 32) (v := ?_) (a' := ?_) #[true, true, true, true, true, true, true, true, true, true, true, true, true, true, true, true, true, true, true, true, true] rfl rfl (by kernel_rfl) (fun _ _ _ h => h) (Or.inl ⟨by rfl, ?_⟩) ?_ ?_; rotate_left; (intro w'; go_simp; with_reducible rfl); rotate_left; (simp only [Act.put, List.setIfInBounds_toArray, List.set_cons_zero, List.set_cons_succ, i64_w, i32_w]; rfl))
      refine done_ (by kernel_rfl) ?_
      go_wp2
      go_ret
      exact ⟨rfl, HB3.out⟩
    · skip
      (refine pure_ (i := 13) (N := some 25) (v := ?_) (a' := ?_) #[true, true, true, true, true, true, true, true, true, true, true, true, true, true, false, false, false, false, false, false, false] rfl rfl (by kernel_rfl) (fun _ _ _ h => h) (Or.inl ⟨by rfl, ?_⟩) ?_ ?_; rotate_left; (intro w'; go_simp; with_reducible rfl); rotate_left; (simp only [Act.put, List.setIfInBounds_toArray, List.set_cons_zero, List.set_cons_succ, i64_w, i32_w]; rfl)); (refine pure_ (i := 14) (N := some 26) (v := ?_) (a' := ?_) #[true, true, true, true, true, true, true, true, true, true, true, true, true, true, true, false, false, false, false, false, false] rfl rfl (by kernel_rfl) (fun _ _ _ h => h) (Or.inl ⟨by rfl, ?_⟩) ?_ ?_; rotate_left; (intro w'; go_simp; with_reducible rfl); rotate_left; (simp only [Act.put, List.setIfInBounds_toArray, List.set_cons_zero, List.set_cons_succ, i64_w, i32_w]; rfl)); (refine pure_ (i := 15) (N := some 27) (v := ?_) (a' := ?_) #[true, true, true, true, true, true, true, true, true, true, true, true, true, true, true, true, false, false, false, false, false] rfl rfl (by kernel_rfl) (fun _ _ _ h => h) (Or.inl ⟨by rfl, ?_⟩) ?_ ?_; rotate_left; (intro w'; go_simp; with_reducible rfl); rotate_left; (simp only [Act.put, List.setIfInBounds_toArray, List.set_cons_zero, List.set_cons_succ, i64_w, i32_w]; rfl)); (refine pure_ (i := 16) (N := some 28) (v := ?_) (a' := ?_) #[true, true, true, true, true, true, true, true, true, true, true, true, true, true, true, true, true, false, false, false, false] rfl rfl (by kernel_rfl) (fun _ _ _ h => h) (Or.inl ⟨by rfl, ?_⟩) ?_ ?_; rotate_left; (intro w'; go_simp; with_reducible rfl); rotate_left; (simp only [Act.put, List.setIfInBounds_toArray, List.set_cons_zero, List.set_cons_succ, i64_w, i32_w]; rfl))
      (refine take_ (i := 17) (N := some 29) (v := ?_) (a' := ?_) #[true, true, true, true, true, true, true, true, true, true, true, true, true, true, true, true, true, true, false, false, false] rfl rfl (by kernel_rfl) (fun _ _ _ h => h) (Or.inl ⟨by rfl, ?_⟩) hHeld ?_ ?_; rotate_left; (rintro w' ⟨s0, s1, s2⟩; go_simp; with_reducible rfl); rotate_left; (simp only [Act.put, List.setIfInBounds_toArray, List.set_cons_zero, List.set_cons_succ, i64_w, i32_w]; rfl))
      refine one_ (i := 18) (N := some 30) #[true, true, true, true, true, true, true, true, true, true, true, true, true, true, true, true, true, true, true, false, false] rfl rfl (by kernel_rfl) (by decide) (fun K hK => ?_)
      (refine goes_ Try.func69 (by kernel_rfl) rfl #[.slice A0 l0.length c0] (by rfl) rfl rfl (by first | rfl | (simp only [List.map_toArray, List.map_cons, List.map_nil]; rfl)) ?_; with_reducible refine (file_longest.calls k A0 c0 l0 g _ (Kd.C_below HR0.out HB3.out) HC0.out hl).mono ?_)
      rintro x w4 ⟨rfl, hb⟩
      refine ⟨_, rfl, ?_⟩
      have HB4 := Aside0.mk (HB3.out.trans (hb.mono HB3.out.size))
      have HG4 := Aside0.mk ((hb.block w.heap.size (Array.getElem?_eq_some_iff.1 HG3.out).1).trans HG3.out)
      refine hK.out _ _ ⟨(blk_cell HG4.out 0).trans rfl, (blk_cell HG4.out 1).trans rfl, (hb.cell (World.block_lt_of_cell? _ _ hHeld.2.2)).trans hHeld.2.2⟩ (fun hHeld => ?_)
      clear hb HB3 HG3 hl
      (clear hK K; refine norm_ (a' := ?_) ?_ ?_; rotate_left; (show Act.put _ (some 30) _ = _; simp only [Act.put, List.setIfInBounds_toArray, List.set_cons_zero, List.set_cons_succ, i64_w, i32_w]; rfl))
      rcases h with ⟨hg, rfl⟩ | ⟨hg, h⟩
      · have hdg : decide (255 < g) = true := decide_eq_true hg
        (refine pure_ (i := 19) (N := some 31) (v := ?_) (a' := ?_) #[true, true, true, true, true, true, true, true, true, true, true, true, true, true, true, true, true, true, true, true, false] rfl rfl (by kernel_rfl) (fun _ _ _ h => h) (Or.inl ⟨by rfl, ?_⟩) ?_ ?_; rotate_left; (intro w'; go_simp; with_reducible rfl); rotate_left; (simp only [Act.put, List.setIfInBounds_toArray, List.set_cons_zero, List.set_cons_succ, i64_w, i32_w]; rfl)); (refine pure_ (i := 20) (N := some 32) (v := ?_) (a' := ?_) #[true, true, true, true, true, true, true, true, true, true, true, true, true, true, true, true, true, true, true, true, true] rfl rfl (by kernel_rfl) (fun _ _ _ h => h) (Or.inl ⟨by rfl, ?_⟩) ?_ ?_; rotate_left; (intro w'; go_simp; with_reducible rfl); rotate_left; (simp only [Act.put, List.setIfInBounds_toArray, List.set_cons_zero, List.set_cons_succ, i64_w, i32_w]; rfl))
        refine done_ (by kernel_rfl) ?_
        go_wp2
        go_ret
        exact ⟨rfl, HB4.out⟩
      · skip
        have hdg : decide (255 < g) = false := decide_eq_false (by omega)
        (refine pure_ (i := 19) (N := some 31) (v := ?_) (a' := ?_) #[true, true, true, true, true, true, true, true, true, true, true, true, true, true, true, true, true, true, true, true, false] rfl rfl (by kernel_rfl) (fun _ _ _ h => h) (Or.inl ⟨by rfl, ?_⟩) ?_ ?_; rotate_left; (intro w'; go_simp; with_reducible rfl); rotate_left; (simp only [Act.put, List.setIfInBounds_toArray, List.set_cons_zero, List.set_cons_succ, i64_w, i32_w]; rfl)); (refine pure_ (i := 20) (N := some 32) (v := ?_) (a' := ?_) #[true, true, true, true, true, true, true, true, true, true, true, true, true, true, true, true, true, true, true, true, true] rfl rfl (by kernel_rfl) (fun _ _ _ h => h) (Or.inl ⟨by rfl, ?_⟩) ?_ ?_; rotate_left; (intro w'; go_simp; with_reducible rfl); rotate_left; (simp only [Act.put, List.setIfInBounds_toArray, List.set_cons_zero, List.set_cons_succ, i64_w, i32_w]; rfl))
        refine done_ (by kernel_rfl) ?_
        go_wp2
        refine start_ (n := 15) (S := fun w' => w'.cell? ⟨w.heap.size, 1, none⟩ = some (.slice A1 l1.length c1) ∧ w'.cell? ⟨w.heap.size, 2, none⟩ = some (.slice A2 l2.length c2)) (ds := []) #[false, false, false, false, false, false, false, false, false, false, false, false, false, false, false] (by kernel_rfl) rfl rfl (by exact ⟨(blk_cell HG4.out 1).trans rfl, (blk_cell HG4.out 2).trans rfl⟩) (fun hHeld => ?_)
        have HB5 := Aside0.mk (below_drew HB4.out)
        have HG5 := Aside0.mk (blk_drew HG4.out)
        clear HB4 HG4
        generalize w4.drew = w5 at HB5 HG5 hHeld ⊢
        (refine pure_ (i := 0) (N := some 33) (v := ?_) (a' := ?_) #[true, false, false, false, false, false, false, false, false, false, false, false, false, false, false] rfl rfl (by kernel_rfl) (fun _ _ _ h => h) (Or.inl ⟨by rfl, ?_⟩) ?_ ?_; rotate_left; (intro w'; go_simp; with_reducible rfl); rotate_left; (simp only [Act.put, List.setIfInBounds_toArray, List.set_cons_zero, List.set_cons_succ, i64_w, i32_w]; rfl))
        (refine take_ (i := 1) (N := some 34) (v := ?_) (a' := ?_) #[true, true, false, false, false, false, false, false, false, false, false, false, false, false, false] rfl rfl (by kernel_rfl) (fun _ _ _ h => h) (Or.inl ⟨by rfl, ?_⟩) hHeld ?_ ?_; rotate_left; (rintro w' ⟨s0, s1⟩; go_simp; with_reducible rfl); rotate_left; (simp only [Act.put, List.setIfInBounds_toArray, List.set_cons_zero, List.set_cons_succ, i64_w, i32_w]; rfl))
        (refine pure_ (i := 2) (N := some 35) (v := ?_) (a' := ?_) #[true, true, true, false, false, false, false, false, false, false, false, false, false, false, false] rfl rfl (by kernel_rfl) (fun _ _ _ h => h) (Or.inl ⟨by rfl, ?_⟩) ?_ ?_; rotate_left; (intro w'; go_simp; with_reducible rfl); rotate_left; (simp only [Act.put, List.setIfInBounds_toArray, List.set_cons_zero, List.set_cons_succ, i64_w, i32_w]; rfl))
        refine one_ (i := 3) (N := some 36) #[true, true, true, true, false, false, false, false, false, false, false, false, false, false, false] rfl rfl (by kernel_rfl) (by decide) (fun K hK => ?_)
        (refine goes_ Try.func71 (by kernel_rfl) rfl #[.slice A1 l1.length c1, .func (.func 70) #[] #[]] (by rfl) rfl rfl (by first | rfl | (simp only [List.map_toArray, List.map_cons, List.map_nil]; rfl)) ?_; with_reducible refine (oddAny_k A1 c1 l1 w5 (Kd.C_below HR1.out HB5.out) HC1.out).mono ?_)
        rintro x w6 ⟨rfl, hb⟩
        refine ⟨_, rfl, ?_⟩
        have HB6 := Aside0.mk (HB5.out.trans (hb.mono HB5.out.size))
        have HG6 := Aside0.mk ((hb.block w.heap.size (Array.getElem?_eq_some_iff.1 HG5.out).1).trans HG5.out)
        refine hK.out _ _ ⟨(blk_cell HG6.out 1).trans rfl, (blk_cell HG6.out 2).trans rfl⟩ (fun hHeld => ?_)
        clear hb HB5 HG5
        (clear hK K; refine norm_ (a' := ?_) ?_ ?_; rotate_left; (show Act.put _ (some 36) _ = _; simp only [Act.put, List.setIfInBounds_toArray, List.set_cons_zero, List.set_cons_succ, i64_w, i32_w]; rfl))
        rcases h with ⟨ho, rfl⟩ | ⟨ho, en, cl, h1, h2, h3⟩
        · rw [ho]
          (refine pure_ (i := 4) (N := some 37) (v := ?_) (a' := ?_) #[true, true, true, true, true, false, false, false, false, false, false, false, false, false, false] rfl rfl (by kernel_rfl) (fun _ _ _ h => h) (Or.inl ⟨by rfl, ?_⟩) ?_ ?_; rotate_left; (intro w'; go_simp; with_reducible rfl); rotate_left; (simp only [Act.put, List.setIfInBounds_toArray, List.set_cons_zero, List.set_cons_succ, i64_w, i32_w]; rfl)); (refine pure_ (i := 5) (N := some 38) (v := ?_) (a' := ?_) #[true, true, true, true, true, true, false, false, false, false, false, false, false, false, false] rfl rfl (by kernel_rfl) (fun _ _ _ h => h) (Or.inl ⟨by rfl, ?_⟩) ?_ ?_; rotate_left; (intro w'; go_simp; with_reducible rfl); rotate_left; (simp only [Act.put, List.setIfInBounds_toArray, List.set_cons_zero, List.set_cons_succ, i64_w, i32_w]; rfl))
          (refine pure_ (i := 6) (N := some 39) (v := undef) (a' := ?_) #[true, true, true, true, true, true, true, false, false, false, false, false, false, false, false] rfl rfl (by kernel_rfl) (fun _ _ _ h => h) (Or.inr ⟨by rfl, rfl⟩) ?_ ?_; rotate_left; (simp only [Act.put, List.setIfInBounds_toArray, List.set_cons_zero, List.set_cons_succ, i64_w, i32_w]; rfl)); (refine pure_ (i := 7) (N := some 40) (v := undef) (a' := ?_) #[true, true, true, true, true, true, true, true, false, false, false, false, false, false, false] rfl rfl (by kernel_rfl) (fun _ _ _ h => h) (Or.inr ⟨by rfl, rfl⟩) ?_ ?_; rotate_left; (simp only [Act.put, List.setIfInBounds_toArray, List.set_cons_zero, List.set_cons_succ, i64_w, i32_w]; rfl)); (refine pure_ (i := 8) (N := some 41) (v := undef) (a' := ?_) #[true, true, true, true, true, true, true, true, true, false, false, false, false, false, false] rfl rfl (by kernel_rfl) (fun _ _ _ h => h) (Or.inr ⟨by rfl, rfl⟩) ?_ ?_; rotate_left; (simp only [Act.put, List.setIfInBounds_toArray, List.set_cons_zero, List.set_cons_succ, i64_w, i32_w]; rfl)); (refine pure_ (i := 9) (N := some 42) (v := undef) (a' := ?_) #[true, true, true, true, true, true, true, true, true, true, false, false, false, false, false] rfl rfl (by kernel_rfl) (fun _ _ _ h => h) (Or.inr ⟨by rfl, rfl⟩) ?_ ?_; rotate_left; (simp only [Act.put, List.setIfInBounds_toArray, List.set_cons_zero, List.set_cons_succ, i64_w, i32_w]; rfl)); (refine pure_ (i := 10) (N := some 43) (v := undef) (a' := ?_) #[true, true, true, true, true, true, true, true, true, true, true, false, false, false, false] rfl rfl (by kernel_rfl) (fun _ _ _ h => h) (Or.inr ⟨by rfl, rfl⟩) ?_ ?_; rotate_left; (simp only [Act.put, List.setIfInBounds_toArray, List.set_cons_zero, List.set_cons_succ, i64_w, i32_w]; rfl)); (refine pure_ (i := 11) (N := some 44) (v := undef) (a' := ?_) #[true, true, true, true, true, true, true, true, true, true, true, true, false, false, false] rfl rfl (by kernel_rfl) (fun _ _ _ h => h) (Or.inr ⟨by rfl, rfl⟩) ?_ ?_; rotate_left; (simp only [Act.put, List.setIfInBounds_toArray, List.set_cons_zero, List.set_cons_succ, i64_w, i32_w]; rfl)); (refine pure_ (i := 12) (N := some 45) (v := undef) (a' := ?_) #[true, true, true, true, true, true, true, true, true, true, true, true, true, false, false] rfl rfl (by kernel_rfl) (fun _ _ _ h => h) (Or.inr ⟨by rfl, rfl⟩) ?_ ?_; rotate_left; (simp only [Act.put, List.setIfInBounds_toArray, List.set_cons_zero, List.set_cons_succ, i64_w, i32_w]; rfl))
          (refine pure_ (i := 13) (N := some 46) (v := ?_) (a' := ?_) #[true, true, true, true, true, true, true, true, true, true, true, true, true, true, false] rfl rfl (by kernel_rfl) (fun _ _ _ h => h) (Or.inl ⟨by rfl, ?_⟩) ?_ ?_; rotate_left; (intro w'; go_simp; with_reducible rfl); rotate_left; (simp only [Act.put, List.setIfInBounds_toArray, List.set_cons_zero, List.set_cons_succ, i64_w, i32_w]; rfl)); (refine pure_ (i := 14) (N := some 2) (v := ?_) (a' := ?_) #[true, true, true, true, true, true, true, true, true, true, true, true, true, true, true] rfl rfl (by kernel_rfl) (fun _ _ _ h => h) (Or.inl ⟨by rfl, ?_⟩) ?_ ?_; rotate_left; (intro w'; go_simp; with_reducible rfl); rotate_left; (simp only [Act.put, List.setIfInBounds_toArray, List.set_cons_zero, List.set_cons_succ, i64_w, i32_w]; rfl))
          refine done_ (by kernel_rfl) ?_
          go_wp2
          go_ret
          exact ⟨rfl, HB6.out⟩
        · skip
          rw [ho]
          (refine pure_ (i := 4) (N := some 37) (v := ?_) (a' := ?_) #[true, true, true, true, true, false, false, false, false, false, false, false, false, false, false] rfl rfl (by kernel_rfl) (fun _ _ _ h => h) (Or.inl ⟨by rfl, ?_⟩) ?_ ?_; rotate_left; (intro w'; go_simp; with_reducible rfl); rotate_left; (simp only [Act.put, List.setIfInBounds_toArray, List.set_cons_zero, List.set_cons_succ, i64_w, i32_w]; rfl)); (refine pure_ (i := 5) (N := some 38) (v := ?_) (a' := ?_) #[true, true, true, true, true, true, false, false, false, false, false, false, false, false, false] rfl rfl (by kernel_rfl) (fun _ _ _ h => h) (Or.inl ⟨by rfl, ?_⟩) ?_ ?_; rotate_left; (intro w'; go_simp; with_reducible rfl); rotate_left; (simp only [Act.put, List.setIfInBounds_toArray, List.set_cons_zero, List.set_cons_succ, i64_w, i32_w]; rfl)); (refine pure_ (i := 6) (N := some 39) (v := ?_) (a' := ?_) #[true, true, true, true, true, true, true, false, false, false, false, false, false, false, false] rfl rfl (by kernel_rfl) (fun _ _ _ h => h) (Or.inl ⟨by rfl, ?_⟩) ?_ ?_; rotate_left; (intro w'; go_simp; with_reducible rfl); rotate_left; (simp only [Act.put, List.setIfInBounds_toArray, List.set_cons_zero, List.set_cons_succ, i64_w, i32_w]; rfl))
          (refine take_ (i := 7) (N := some 40) (v := ?_) (a' := ?_) #[true, true, true, true, true, true, true, true, false, false, false, false, false, false, false] rfl rfl (by kernel_rfl) (fun _ _ _ h => h) (Or.inl ⟨by rfl, ?_⟩) hHeld ?_ ?_; rotate_left; (rintro w' ⟨s0, s1⟩; go_simp; with_reducible rfl); rotate_left; (simp only [Act.put, List.setIfInBounds_toArray, List.set_cons_zero, List.set_cons_succ, i64_w, i32_w]; rfl))
          (refine pure_ (i := 8) (N := some 41) (v := ?_) (a' := ?_) #[true, true, true, true, true, true, true, true, true, false, false, false, false, false, false] rfl rfl (by kernel_rfl) (fun _ _ _ h => h) (Or.inl ⟨by rfl, ?_⟩) ?_ ?_; rotate_left; (intro w'; go_simp; with_reducible rfl); rotate_left; (simp only [Act.put, List.setIfInBounds_toArray, List.set_cons_zero, List.set_cons_succ, i64_w, i32_w]; rfl))
          (refine take_ (i := 9) (N := some 42) (v := ?_) (a' := ?_) #[true, true, true, true, true, true, true, true, true, true, false, false, false, false, false] rfl rfl (by kernel_rfl) (fun _ _ _ h => h) (Or.inl ⟨by rfl, ?_⟩) hHeld ?_ ?_; rotate_left; (rintro w' ⟨s0, s1⟩; go_simp; with_reducible rfl); rotate_left; (simp only [Act.put, List.setIfInBounds_toArray, List.set_cons_zero, List.set_cons_succ, i64_w, i32_w]; rfl))
          refine one_ (i := 10) (N := some 43) #[true, true, true, true, true, true, true, true, true, true, true, false, false, false, false] rfl rfl (by kernel_rfl) (by decide) (fun K hK => ?_)
          (refine goes_ Try.func73 (by kernel_rfl) rfl #[.slice A1 l1.length c1] (by rfl) rfl rfl (by first | rfl | (simp only [List.map_toArray, List.map_cons, List.map_nil]; rfl)) ?_; with_reducible refine (file_entries.calls k A1 c1 l1 en w6 (Kd.C_below HR1.out HB6.out) HC1.out h1).mono ?_)
          rintro x w7 ⟨v7, rfl, hR7, hb⟩
          refine ⟨_, rfl, ?_⟩
          have HB7 := Aside0.mk (HB6.out.trans (hb.mono HB6.out.size))
          have HG7 := Aside0.mk ((hb.block w.heap.size (Array.getElem?_eq_some_iff.1 HG6.out).1).trans HG6.out)
          have HR7 := Aside0.mk hR7
          refine hK.out _ _ ⟨(blk_cell HG7.out 1).trans rfl, (blk_cell HG7.out 2).trans rfl⟩ (fun hHeld => ?_)
          clear hb HB6 HG6 hR7 h1
          obtain ⟨A7, c7, e7⟩ := Kd.R_slice HR7.out
          subst e7
          (clear hK K; refine norm_ (a' := ?_) ?_ ?_; rotate_left; (show Act.put _ (some 43) _ = _; simp only [Act.put, List.setIfInBounds_toArray, List.set_cons_zero, List.set_cons_succ, i64_w, i32_w]; rfl))
          refine one_ (i := 11) (N := some 44) #[true, true, true, true, true, true, true, true, true, true, true, true, false, false, false] rfl rfl (by kernel_rfl) (by decide) (fun K hK => ?_)
          (refine goes_ Try.func33 (by kernel_rfl) rfl #[.slice A7 en.length c7] (by rfl) rfl rfl (by first | rfl | (simp only [List.map_toArray, List.map_cons, List.map_nil]; rfl)) ?_; with_reducible refine (rank_Classes.calls A7 c7 en cl w7 (Kd.R_reads' HR7.out).2.2 (Kd.R_reads' HR7.out).2.1 h2).mono ?_)
          rintro x w8 ⟨v8, rfl, hR8, hb⟩
          refine ⟨_, rfl, ?_⟩
          have HB8 := Aside0.mk (HB7.out.trans (hb.mono HB7.out.size))
          have HG8 := Aside0.mk ((hb.block w.heap.size (Array.getElem?_eq_some_iff.1 HG7.out).1).trans HG7.out)
          have HR8 := Aside0.mk hR8
          refine hK.out _ _ ⟨(blk_cell HG8.out 1).trans rfl, (blk_cell HG8.out 2).trans rfl⟩ (fun hHeld => ?_)
          clear hb HB7 HG7 hR8 h2 HR7
          obtain ⟨A8, c8, e8⟩ := Kd.R_slice HR8.out
          subst e8
          (clear hK K; refine norm_ (a' := ?_) ?_ ?_; rotate_left; (show Act.put _ (some 44) _ = _; simp only [Act.put, List.setIfInBounds_toArray, List.set_cons_zero, List.set_cons_succ, i64_w, i32_w]; rfl))
          refine one_ (i := 12) (N := some 45) #[true, true, true, true, true, true, true, true, true, true, true, true, true, false, false] rfl rfl (by kernel_rfl) (by decide) (fun K hK => ?_)
          (refine goes_ Try.func72 (by kernel_rfl) rfl #[.slice A2 l2.length c2, .slice A8 cl.length c8] (by rfl) rfl rfl (by first | rfl | (simp only [List.map_toArray, List.map_cons, List.map_nil]; rfl)) ?_; with_reducible refine (slices_Equal_int_int.calls k A2 c2 l2 A8 c8 cl b w8 (Kd.C_below HR2.out HB8.out) HC2.out (Kd.R_reads' HR8.out).2.2 (Kd.R_reads' HR8.out).2.1 h3).mono ?_)
          rintro x w9 ⟨rfl, nd, rfl⟩
          refine ⟨_, rfl, ?_⟩
          have HB9 := Aside0.mk (pw_below_drewN HB8.out nd)
          refine hK.out _ _ hHeld (fun hHeld => ?_)
          clear HB8 HG8
          (clear hK K; refine norm_ (a' := ?_) ?_ ?_; rotate_left; (show Act.put _ (some 45) _ = _; simp only [Act.put, List.setIfInBounds_toArray, List.set_cons_zero, List.set_cons_succ, i64_w, i32_w]; rfl))
          (refine pure_ (i := 13) (N := some 46) (v := ?_) (a' := ?_) #[true, true, true, true, true, true, true, true, true, true, true, true, true, true, false] rfl rfl (by kernel_rfl) (fun _ _ _ h => h) (Or.inl ⟨by rfl, ?_⟩) ?_ ?_; rotate_left; (intro w'; go_simp; with_reducible rfl); rotate_left; (simp only [Act.put, List.setIfInBounds_toArray, List.set_cons_zero, List.set_cons_succ, i64_w, i32_w]; rfl)); (refine pure_ (i := 14) (N := some 2) (v := ?_) (a' := ?_) #[true, true, true, true, true, true, true, true, true, true, true, true, true, true, true] rfl rfl (by kernel_rfl) (fun _ _ _ h => h) (Or.inl ⟨by rfl, ?_⟩) ?_ ?_; rotate_left; (intro w'; go_simp; with_reducible rfl); rotate_left; (simp only [Act.put, List.setIfInBounds_toArray, List.set_cons_zero, List.set_cons_succ, i64_w, i32_w]; rfl))
          refine done_ (by kernel_rfl) ?_
          go_wp2
          go_ret
          exact ⟨by simp, HB9.out⟩
/-- As the printer calls it. -/
def file_may.f (k : Nat) (l0 : List S82) (l1 l2 : List Int) : Option Bool := (index_Counts.f k l0).bind fun t => (if t.2 = 0 then (if 0 < t.1.length then (if rd t.1 ((t.1.length : Int) - 1) = (l1.length : Int) then ((file_longest.f k l0).bind fun g => (if 255 < g then (some false) else (if l1.any oddB = true then (some false) else ((file_entries.f k l1).bind fun en => ((rank_Classes.f en).bind fun cl => (slices_Equal_int_int.f k l2 cl)))))) else (some false)) else none) else (some false))
theorem mayIs_of {k : Nat} {l0 : List S82} {l1 l2 : List Int} {b : Bool} (h : file_may.f k l0 l1 l2 = some b) : MayIs k l0 l1 l2 b := by
  unfold file_may.f at h
  cases h1 : index_Counts.f k l0 with
  | none => rw [h1] at h; cases h
  | some t =>
    obtain ⟨cs, e⟩ := t
    rw [h1, Option.bind_some] at h
    refine ⟨cs, e, h1, ?_⟩
    by_cases he : e = 0
    · rw [if_pos he] at h
      by_cases hp : 0 < cs.length
      · rw [if_pos hp] at h
        refine .inr ⟨he, hp, ?_⟩
        by_cases hl : rd cs ((cs.length : Int) - 1) = (l1.length : Int)
        · rw [if_pos hl] at h
          refine .inr ⟨hl, ?_⟩
          cases h2 : file_longest.f k l0 with
          | none => rw [h2] at h; cases h
          | some g =>
            rw [h2, Option.bind_some] at h
            refine ⟨g, rfl, ?_⟩
            by_cases hg : 255 < g
            · rw [if_pos hg] at h
              exact .inl ⟨hg, (Option.some.inj h).symm⟩
            · rw [if_neg hg] at h
              refine .inr ⟨hg, ?_⟩
              by_cases ho : l1.any oddB = true
              · rw [if_pos ho] at h
                exact .inl ⟨ho, (Option.some.inj h).symm⟩
              · rw [if_neg ho] at h
                refine .inr ⟨Bool.eq_false_iff.2 ho, ?_⟩
                cases h3 : file_entries.f k l1 with
                | none => rw [h3] at h; cases h
                | some en =>
                  rw [h3, Option.bind_some] at h
                  cases h4 : rank_Classes.f en with
                  | none => rw [h4] at h; cases h
                  | some cl => rw [h4, Option.bind_some] at h; exact ⟨en, cl, rfl, h4, h⟩
        · rw [if_neg hl] at h
          exact .inl ⟨hl, (Option.some.inj h).symm⟩
      · rw [if_neg hp] at h; cases h
    · rw [if_neg he] at h
      exact .inl ⟨he, (Option.some.inj h).symm⟩
theorem file_may.calls (k : Nat) (A0 : Option Addr) (c0 : Nat) (l0 : List S82) (A1 : Option Addr) (c1 : Nat) (l1 : List Int) (A2 : Option Addr) (c2 : Nat) (l2 : List Int) (r : Bool) (w : World)
    (hr0 : Kd.C k82 w A0 l0.length l0) (hc0 : l0.length ≤ c0) (hr1 : Kd.C (Kd.int .u64) w A1 l1.length l1) (hc1 : l1.length ≤ c1) (hr2 : Kd.C (Kd.int .i64) w A2 l2.length l2) (hc2 : l2.length ≤ c2) (h : file_may.f k l0 l1 l2 = some r) :
    Calls Try.prog 36 #[.agg #[.slice A0 l0.length c0, .slice A1 l1.length c1, .slice A2 l2.length c2]] w fun e w' => e = .returned (.bool r) ∧ Below w.heap.size w w' :=
  fmay_k k A0 c0 l0 A1 c1 l1 A2 c2 l2 r w hr0 hc0 hr1 hc1 hr2 hc2 (mayIs_of h)
end Go.Proofs.Ytgebhidpkcjpmaa.K

