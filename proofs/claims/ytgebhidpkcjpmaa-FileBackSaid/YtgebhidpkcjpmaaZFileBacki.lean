/- FileBack. (The texts that the proof is made of, one behind the other: part 9 of 18.) -/
import Derived.Test.YtgebhidpkcjpmaaProg
import Derived.Below
import Derived.Deep.Draws
import Derived.Deep.AppendLies
import Derived.Maps.AppendAt
import Derived.OwnWalk
import Derived.Laws.BytesArg
import Derived.Laws.MakeOwn
import Derived.Laws.OwnMore
import Derived.Deep.OwnRows
import Derived.Tactics
import Derived.Lib.ConvBytes
import Derived.Laws.Slices
import Derived.WalkKit
import Derived.KernelRfl
import Derived.RowKit3
import Derived.Deep.LoopGhost
import Derived.Deep.QuietTactic
import Derived.BigQuiet
import Derived.WideLaws
import Derived.Deep.DeepCutAuto
import Derived.Deep.CutBlock
import Derived.Deep.RegionHeld3
import Derived.Laws.Rows
import Derived.Lib.AppendStr
import Derived.ArgAppend
import Derived.Laws.IdiomCopy
import Derived.OrdersHeld
import Derived.Laws.BitsLemmas
import Derived.RowKit
import Derived.Lib.OthersKept
import Derived.WalkSmall
import Derived.Deep.RegionLaw
import Derived.BigRegion
import Derived.Deep.WholeRow
import Derived.Laws.CopyOwn
import Derived.Laws.BitsAllLaws
import Derived.Laws.ResultCell
import Derived.Test.YtgebhidpkcjpmaaZFileBacka
import Derived.Test.YtgebhidpkcjpmaaZFileBackb
import Derived.Test.YtgebhidpkcjpmaaZFileBackc
import Derived.Test.YtgebhidpkcjpmaaZFileBackd
import Derived.Test.YtgebhidpkcjpmaaZFileBacke
import Derived.Test.YtgebhidpkcjpmaaZFileBackf
import Derived.Test.YtgebhidpkcjpmaaZFileBackg
import Derived.Test.YtgebhidpkcjpmaaZFileBackh
namespace Go.Proofs.Ytgebhidpkcjpmaa.K
open Go.RowKit Go.Proofs.YtgebhidpkcjpmaaW.PrintWords Go.Proofs.YtgebhidpkcjpmaaW.PrintLast Go.Proofs.YtgebhidpkcjpmaaW.PrintMore Go.Proofs.Ytgebhidpkcjpmaa
attribute [local go_sem] max2_int min2_int max_two min_two max_three min_three max_four min_four
set_option linter.unusedVariables false
set_option linter.unusedSimpArgs false
open Go.Proofs.Ytgebhidpkcjpmaa.PDk Go.Proofs.Ytgebhidpkcjpmaa.Daw
open Classical
theorem w64 {x : Int} (h0 : -9223372036854775808 ≤ x) (h1 : x < 9223372036854775808) : Go.RowKit.wrap64 x = x := by unfold Go.RowKit.wrap64; omega
theorem rd31 (a : List S82) (i : Nat) (h : i < a.length) : rd_T82 a (i : Int) = a[i] := by
  unfold rd_T82
  rw [Int.toNat_natCast, List.getD_eq_getElem?_getD, List.getElem?_eq_getElem h]; rfl
theorem rd33 (a : List S84) (i : Nat) (h : i < a.length) : rd_T84 a (i : Int) = a[i] := by
  unfold rd_T84
  rw [Int.toNat_natCast, List.getD_eq_getElem?_getD, List.getElem?_eq_getElem h]; rfl
/-- Same, the edges of state i from j on. -/
theorem same_l1 (a b : List S82) (i : Nat) (ha : i < a.length) (hb : i < b.length) (r : Bool) (hl : a[i].f1.length = b[i].f1.length) (hm : a[i].f1.length ≤ 4611686018427387904) (hi : i ≤ 4611686018427387904)
    (hn : Ev (fun k => manteletref14_Same.l0 k a b ((i + 1 : Nat) : Int)) r) : ∀ (d j : Nat), j + d = a[i].f1.length → Ev (fun k => manteletref14_Same.l1 k a b (i : Int) (j : Int)) (decide (a[i].f1.drop j = b[i].f1.drop j) && r)
  | 0, j, hd => by
    have e : a[i].f1.drop j = b[i].f1.drop j := by rw [List.drop_eq_nil_of_le (by omega), List.drop_eq_nil_of_le (by omega)]
    rw [decide_eq_true e, Bool.true_and]
    refine Ev.step (fun k => ?_) hn
    simp only [manteletref14_Same.l1]
    rw [if_pos (by omega), if_pos (by omega), rd31 a i ha, if_neg (by omega), w64 (by omega) (by omega)]
    rfl
  | d + 1, j, hd => by
    have hja : j < a[i].f1.length := by omega
    have hjb : j < b[i].f1.length := by omega
    have ih := same_l1 a b i ha hb r hl hm hi hn d (j + 1) (by omega)
    by_cases he : a[i].f1[j] = b[i].f1[j]
    · have e : (a[i].f1.drop j = b[i].f1.drop j) = (a[i].f1.drop (j + 1) = b[i].f1.drop (j + 1)) := by
        rw [List.drop_eq_getElem_cons hja, List.drop_eq_getElem_cons hjb, List.cons.injEq]; simp only [he, true_and]
      rw [show decide (a[i].f1.drop j = b[i].f1.drop j) = decide (a[i].f1.drop (j + 1) = b[i].f1.drop (j + 1)) from decide_eq_decide.2 (by rw [e])]
      refine Ev.step (fun k => ?_) ih
      simp only [manteletref14_Same.l1]
      rw [if_pos (by omega), if_pos (by omega), rd31 a i ha, rd31 b i hb, if_pos (by omega), if_pos (by omega), if_pos (by omega), if_pos (by omega), rd33 _ j hja, rd33 _ j hjb, he, if_neg (by simp), w64 (by omega) (by omega)]
      rfl
    · have e : ¬ (a[i].f1.drop j = b[i].f1.drop j) := by
        rw [List.drop_eq_getElem_cons hja, List.drop_eq_getElem_cons hjb, List.cons.injEq]; exact fun h => he h.1
      rw [decide_eq_false e, Bool.false_and]
      refine Ev.step (f := fun _ => some false) (fun k => ?_) (Ev.now false)
      simp only [manteletref14_Same.l1]
      have hne : ((!((a[i].f1[j]).f0 == (b[i].f1[j]).f0)) || (!((a[i].f1[j]).f1 == (b[i].f1[j]).f1))) = true := by
        generalize a[i].f1[j] = x at he
        generalize b[i].f1[j] = y at he
        cases x; cases y
        simp only [S84.mk.injEq, not_and] at he
        simp only [Bool.or_eq_true, Bool.not_eq_true', beq_eq_false_iff_ne]
        exact (em _).elim (fun h => Or.inr (he h)) Or.inl
      rw [if_pos (by omega), if_pos (by omega), rd31 a i ha, rd31 b i hb, if_pos (by omega), if_pos (by omega), if_pos (by omega), if_pos (by omega), rd33 _ j hja, rd33 _ j hjb, if_pos hne]
def OkA (a : List S82) : Prop := a.length ≤ 4611686018427387904 ∧ ∀ s ∈ a, s.f1.length ≤ 4611686018427387904
theorem same_l0 (a b : List S82) (hl : a.length = b.length) (ha : OkA a) : ∀ (d i : Nat), i + d = a.length → Ev (fun k => manteletref14_Same.l0 k a b (i : Int)) (decide (a.drop i = b.drop i))
  | 0, i, hd => by
    have e : a.drop i = b.drop i := by rw [List.drop_eq_nil_of_le (by omega), List.drop_eq_nil_of_le (by omega)]
    rw [decide_eq_true e]
    refine Ev.step (f := fun _ => some true) (fun k => ?_) (Ev.now true)
    simp only [manteletref14_Same.l0]
    rw [if_neg (by omega)]
  | d + 1, i, hd => by
    have hia : i < a.length := by omega
    have hib : i < b.length := by omega
    have ih := same_l0 a b hl ha d (i + 1) (by omega)
    have hm := ha.2 _ (List.getElem_mem hia)
    have h1 := ha.1
    have e : (a.drop i = b.drop i) = (a[i] = b[i] ∧ a.drop (i + 1) = b.drop (i + 1)) := by
      rw [List.drop_eq_getElem_cons hia, List.drop_eq_getElem_cons hib, List.cons.injEq]
    have e2 : (a[i] = b[i]) = (a[i].f0 = b[i].f0 ∧ a[i].f1 = b[i].f1) := by
      generalize a[i] = x
      generalize b[i] = y
      cases x; cases y; simp
    refine Ev.step (f := fun k => if (a[i].f0 != b[i].f0) = true then manteletref14_Same.j1 k a b (i : Int) true else manteletref14_Same.j1 k a b (i : Int) ((a[i].f1.length : Int) != (b[i].f1.length : Int))) (fun k => ?_) ?_
    · simp only [manteletref14_Same.l0]
      rw [if_pos (by omega), if_pos (by omega), if_pos (by omega), rd31 a i hia, rd31 b i hib]
    · by_cases c0 : a[i].f0 = b[i].f0
      · by_cases c1 : a[i].f1.length = b[i].f1.length
        · have h2 := same_l1 a b i hia hib _ c1 hm (by omega) ih a[i].f1.length 0 (by omega)
          rw [List.drop_zero, List.drop_zero] at h2
          have e3 : decide (a.drop i = b.drop i) = (decide (a[i].f1 = b[i].f1) && decide (a.drop (i + 1) = b.drop (i + 1))) := by
            rw [Bool.eq_iff_iff, decide_eq_true_eq, e, e2, Bool.and_eq_true, decide_eq_true_eq, decide_eq_true_eq]
            exact ⟨fun h => ⟨h.1.2, h.2⟩, fun h => ⟨⟨c0, h.1⟩, h.2⟩⟩
          rw [e3]
          refine Ev.congr (f := fun k => manteletref14_Same.j1 k a b (i : Int) false) (fun k => ?_) (Ev.step (fun k => ?_) h2)
          · rw [if_neg (by simp [c0])]
            simp [c1]
          · simp only [manteletref14_Same.j1]; rw [if_neg (by decide)]; rfl
        · have e3 : decide (a.drop i = b.drop i) = false := by
            rw [decide_eq_false_iff_not, e, e2]
            intro h; exact c1 (by rw [h.1.2])
          rw [e3]
          refine Ev.congr (f := fun k => manteletref14_Same.j1 k a b (i : Int) true) (fun k => ?_) (Ev.step (f := fun _ => some false) (fun k => ?_) (Ev.now false))
          · rw [if_neg (by simp [c0])]
            have : ((a[i].f1.length : Int) != (b[i].f1.length : Int)) = true := by rw [bne_iff_ne]; omega
            rw [this]
          · simp only [manteletref14_Same.j1]; rw [if_pos trivial]
      · have e3 : decide (a.drop i = b.drop i) = false := by
          rw [decide_eq_false_iff_not, e, e2]
          intro h; exact c0 h.1.1
        rw [e3]
        refine Ev.congr (f := fun k => manteletref14_Same.j1 k a b (i : Int) true) (fun k => ?_) (Ev.step (f := fun _ => some false) (fun k => ?_) (Ev.now false))
        · rw [if_pos (by simp [c0])]
        · simp only [manteletref14_Same.j1]; rw [if_pos trivial]
theorem Same14 (a b : List S82) (ha : OkA a) : Ev (fun k => manteletref14_Same.f k a b) (decide (a = b)) := by
  unfold manteletref14_Same.f
  by_cases h : a.length = b.length
  · refine Ev.congr (fun k => ?_) (same_l0 a b h ha a.length 0 (by omega))
    rw [if_pos (by omega)]; rfl
  · rw [decide_eq_false (fun e => h (by rw [e]))]
    refine Ev.congr (fun k => ?_) (Ev.now false)
    rw [if_neg (by omega)]
def Byt (s : DS) : Prop := ∀ e ∈ s.2, e.1 < 256
theorem num_byt {left : List DS} {s : DS} (h : ∀ t ∈ left, Byt t) (hs : Byt s) : ∀ t ∈ (num left s).1, Byt t := by
  unfold num
  by_cases c : s ∈ left
  · rw [if_pos c]; exact h
  · rw [if_neg c]
    intro t ht
    rcases List.mem_append.1 ht with ht | ht
    · exact h t ht
    · rw [List.mem_singleton.1 ht]; exact hs
theorem leave_byt (W : List Nat) (hW : ∀ j, W.getD j 0 < 256) (n : Nat) : ∀ (k : Nat) (left path : List DS), path.length = k → (∀ t ∈ left, Byt t) → (∀ t ∈ path, Byt t) → (∀ t ∈ (leave W n left path).1, Byt t) ∧ ∀ t ∈ (leave W n left path).2, Byt t
  | 0, left, [], _, h1, h2 => by rw [leave]; exact ⟨h1, h2⟩
  | 1, left, [s], _, h1, h2 => by rw [leave]; exact ⟨h1, h2⟩
  | k + 2, left, s :: u :: r, hk, h1, h2 => by
    rw [leave]
    by_cases h : n < r.length + 1
    · rw [if_pos h]
      refine leave_byt W hW n (k + 1) _ _ (by simpa using hk) (num_byt h1 (h2 s (by simp))) (fun t ht => ?_)
      rcases List.mem_cons.1 ht with rfl | ht
      · intro e he
        rcases List.mem_append.1 he with he | he
        · exact h2 u (by simp) e he
        · rw [List.mem_singleton.1 he]; exact hW _
      · exact h2 t (by simp [ht])
    · rw [if_neg h]; exact ⟨h1, h2⟩
theorem getD_byt {w : List Nat} (h : ∀ c ∈ w, c < 256) (j : Nat) : w.getD j 0 < 256 := by
  rw [List.getD_eq_getElem?_getD]
  cases e : w[j]? with
  | none => decide
  | some c => exact h c (List.mem_of_getElem? e)
theorem ends_byt {p : List DS} (h : ∀ t ∈ p, Byt t) : ∀ t ∈ ends p, Byt t := by
  cases p with
  | nil => simp [ends]
  | cons s r =>
    intro t ht
    rcases List.mem_cons.1 ht with rfl | ht
    · exact h s (by simp)
    · exact h t (by simp [ht])
theorem add_byt {x : Daw.B} {w : List Nat} (h1 : ∀ t ∈ x.left, Byt t) (h2 : ∀ t ∈ x.path, Byt t) (hx : ∀ c ∈ x.word, c < 256) : (∀ t ∈ (add x w).left, Byt t) ∧ ∀ t ∈ (add x w).path, Byt t := by
  obtain ⟨g1, g2⟩ := leave_byt x.word (getD_byt hx) (common w x.word) _ x.left x.path rfl h1 h2
  refine ⟨g1, ends_byt (fun t ht => ?_)⟩
  rcases List.mem_append.1 ht with ht | ht
  · rw [List.eq_of_mem_replicate ht]; intro e he; simp at he
  · exact g2 t ht
theorem adds_byt : ∀ (l : List (List Nat)) (x : Daw.B), (∀ w ∈ l, ∀ c ∈ w, c < 256) → (∀ t ∈ x.left, Byt t) → (∀ t ∈ x.path, Byt t) → (∀ c ∈ x.word, c < 256) → (∀ t ∈ (l.foldl add x).left, Byt t) ∧ (∀ t ∈ (l.foldl add x).path, Byt t) ∧ ∀ c ∈ (l.foldl add x).word, c < 256
  | [], x, _, h1, h2, h3 => ⟨h1, h2, h3⟩
  | w :: l, x, hl, h1, h2, h3 => by
    obtain ⟨g1, g2⟩ := add_byt (w := w) h1 h2 h3
    exact adds_byt l (add x w) (fun v hv => hl v (by simp [hv])) g1 g2 (hl w (by simp))
theorem build_byt (l : List (List Nat)) (hl : ∀ w ∈ l, ∀ c ∈ w, c < 256) : ∀ t ∈ build l, Byt t := by
  obtain ⟨g1, g2, g3⟩ := adds_byt l Daw.start hl (by simp [Daw.start]) (by intro t ht e he; simp [Daw.start] at ht; subst ht; simp at he) (by simp [Daw.start])
  obtain ⟨k1, k2⟩ := leave_byt (l.foldl add Daw.start).word (getD_byt g3) 0 _ (l.foldl add Daw.start).left (l.foldl add Daw.start).path rfl g1 g2
  unfold build finish
  split
  · rename_i s r hp
    rw [hp] at k2
    exact num_byt k1 (k2 s (by simp))
  · exact k1
theorem rising_len : ∀ (l : List DE) (m N : Nat), Rising l → (∀ e ∈ l, m ≤ e.1 ∧ e.1 < N) → l.length ≤ N - m
  | [], _, _, _, _ => by simp
  | e :: r, m, N, h, hl => by
    have h1 := hl e (by simp)
    have := rising_len r (e.1 + 1) N h.2 (fun f hf => ⟨h.1 f hf, (hl f (by simp [hf])).2⟩)
    simp only [List.length_cons]; omega
theorem nats_byt (s : ByteArray) : ∀ c ∈ Utf.nats s, c < 256 := by
  intro c hc
  unfold Utf.nats at hc
  obtain ⟨b, _, rfl⟩ := List.mem_map.1 hc
  exact UInt8.toNat_lt b
theorem wordsN_byt (l : List ByteArray) : ∀ w ∈ wordsN l, ∀ c ∈ w, c < 256 := by
  intro w hw
  unfold wordsN at hw
  obtain ⟨s, _, rfl⟩ := List.mem_map.1 hw
  exact nats_byt s
theorem build_nil : build [] = [(false, [])] := by
  simp [build, finish, Daw.start, leave, num]
theorem words_rise {l : List (List Nat)} (h0 : [] ∉ l) (h : l.Pairwise (· < ·)) : ([] :: l).Pairwise (· < ·) := by
  rw [List.pairwise_cons]
  refine ⟨fun w hw => ?_, h⟩
  cases w with
  | nil => exact absurd hw h0
  | cons a t => exact List.nil_lt_cons a t
/-- What was built: each state's edges few, to lower ones, rising; ending or going on; no two alike. -/
theorem build_good (l : List ByteArray) (h0 : [] ∉ wordsN l) (h : (wordsN l).Pairwise (· < ·)) :
    (build (wordsN l)).Nodup ∧ (∀ i s, (build (wordsN l))[i]? = some s → Row i s ∧ (l ≠ [] → Alive s) ∧ s.2.length ≤ 256 ∧ Byt s) ∧ 1 ≤ (build (wordsN l)).length ∧ (build (wordsN l)).length ≤ 1 + (l.map ByteArray.size).sum := by
  have hby := build_byt (wordsN l) (wordsN_byt l)
  have hlen : ∀ i s, (build (wordsN l))[i]? = some s → Row i s → s.2.length ≤ 256 ∧ Byt s := fun i s hs hr => by
    have hb := hby s (List.mem_of_getElem? hs)
    exact ⟨by have := rising_len s.2 0 256 hr.2 (fun e he => ⟨Nat.zero_le _, hb e he⟩); omega, hb⟩
  by_cases hl : l = []
  · subst hl
    have hw : wordsN [] = [] := rfl
    rw [hw, build_nil]
    refine ⟨by simp, fun i s hs => ?_, by simp, by simp⟩
    cases i with
    | zero =>
      have : (false, []) = s := by simpa using hs
      subst this
      exact ⟨⟨by simp, trivial⟩, fun h => absurd rfl h, by simp, by intro e he; simp at he⟩
    | succ i => simp at hs
  · have hne : wordsN l ≠ [] := by unfold wordsN; simpa using hl
    obtain ⟨g1, g2, g3, g4⟩ := build_least (wordsN l) (words_rise h0 h) hne
    refine ⟨g1, fun i s hs => ?_, g3, ?_⟩
    · obtain ⟨k1, k2⟩ := g2 i s hs
      exact ⟨k1, fun _ => k2, hlen i s hs k1⟩
    · have e : ((wordsN l).map List.length) = l.map ByteArray.size := by
        unfold wordsN
        rw [List.map_map]
        exact List.map_congr_left (fun s _ => nats_len s)
      rw [e] at g4
      exact g4
end Go.Proofs.Ytgebhidpkcjpmaa.K

namespace Go.Proofs.Ytgebhidpkcjpmaa.K
open Go.RowKit Go.Proofs.YtgebhidpkcjpmaaW.PrintWords Go.Proofs.YtgebhidpkcjpmaaW.PrintLast Go.Proofs.YtgebhidpkcjpmaaW.PrintMore Go.Proofs.Ytgebhidpkcjpmaa
attribute [local go_sem] max2_int min2_int max_two min_two max_three min_three max_four min_four
set_option linter.unusedVariables false
set_option linter.unusedSimpArgs false
open Go.Proofs.Ytgebhidpkcjpmaa.PDk Go.Proofs.Ytgebhidpkcjpmaa.Daw
open Classical
theorem str_eq (a b : ByteArray) : (a.toList == b.toList) = decide (Utf.nats a = Utf.nats b) := by
  rw [Utf.toList_nats]
  have e : b.toList.map (fun b => b.toNat) = Utf.nats b := by rw [ByteArray.toList_eq]; rfl
  rw [e, Bool.eq_iff_iff, beq_iff_eq, decide_eq_true_eq]
end Go.Proofs.Ytgebhidpkcjpmaa.K

namespace Go.Proofs.Ytgebhidpkcjpmaa.K
open Go.RowKit Go.Proofs.YtgebhidpkcjpmaaW.PrintWords Go.Proofs.YtgebhidpkcjpmaaW.PrintLast Go.Proofs.YtgebhidpkcjpmaaW.PrintMore Go.Proofs.Ytgebhidpkcjpmaa
attribute [local go_sem] max2_int min2_int max_two min_two max_three min_three max_four min_four
set_option linter.unusedVariables false
set_option linter.unusedSimpArgs false
open Go.Proofs.Ytgebhidpkcjpmaa.PDk Go.Proofs.Ytgebhidpkcjpmaa.PDm Go.Proofs.Ytgebhidpkcjpmaa.Daw
open Classical
theorem rdB (b : List DS) (n : Nat) (h : n < b.length) : rd_T82 (b.map toS) (n : Int) = toS b[n] := by
  rw [rd31 _ n (by rw [List.length_map]; exact h), List.getElem_map]
theorem tosR_b (b : List DS) (n : Nat) (h : n < b.length) : tosR (b.map toS) n = b[n].2.map (·.2) := by
  unfold tosR
  rw [rdB b n h]
  unfold toS
  simp only [List.map_map]
  refine List.map_congr_left (fun e _ => ?_)
  simp [toE]
theorem visE_rk {v : Nat → Nat → Option Nat} {f : Nat → Nat → Bool × Nat} : ∀ (es : List DE) (m r : Nat), (∀ e ∈ es, ∀ m r, v e.2 m = some r → f e.2 m = (true, r)) → visE v es m = some r → rkE f (es.map (·.2)) m = (true, r)
  | [], m, r, _, h => by rw [visE] at h; injection h with h; subst h; rfl
  | e :: es, m, r, hf, h => by
    rw [visE] at h
    rw [List.map_cons, rkE]
    by_cases c : m ≤ e.2
    · rw [if_pos c] at h ⊢
      obtain ⟨x, hx, h⟩ := Option.bind_eq_some_iff.1 h
      rw [hf e (by simp) m x hx, if_pos rfl]
      exact visE_rk es x r (fun y hy => hf y (by simp [hy])) h
    · rw [if_neg c] at h ⊢
      exact visE_rk es m r (fun y hy => hf y (by simp [hy])) h
theorem vis_rk (b : List DS) : ∀ (k n m r : Nat), vis b k n m = some r → rk (b.map toS) k n m = (true, r)
  | 0, n, m, r, h => by simp [vis] at h
  | k + 1, n, m, r, h => by
    unfold vis at h
    cases hs : b[n]? with
    | none => rw [hs] at h; cases h
    | some s =>
      rw [hs] at h
      obtain ⟨hn, rfl⟩ := List.getElem?_eq_some_iff.1 hs
      obtain ⟨x, hx, h⟩ := Option.bind_eq_some_iff.1 h
      have h1 := visE_rk b[n].2 m x (fun e _ m r => vis_rk b k e.2 m r) hx
      by_cases c : n = x
      · rw [if_pos c] at h
        injection h with h
        subst h
        rw [rk, tosR_b b n hn, h1, if_pos rfl, decide_eq_true c]
      · rw [if_neg c] at h; cases h


theorem rising_get : ∀ (es : List DE), Rising es → ∀ j (h : j + 1 < es.length), (es[j]'(by omega)).1 < (es[j + 1]).1
  | [], _, j, h => by simp at h
  | e :: r, hr, 0, h => by
    have hl : 0 < r.length := by simpa using h
    exact hr.1 _ (List.getElem_mem hl)
  | e :: r, hr, j + 1, h => rising_get r hr.2 j (by simpa using h)
theorem ofS_toS (s : DS) : ofS (toS s) = s := by
  unfold ofS toS
  obtain ⟨a, es⟩ := s
  simp only [List.map_map]
  congr 1
  refine (List.map_congr_left (fun e _ => ?_)).trans (List.map_id _)
  simp [toE]
theorem ok_built (l : List ByteArray) (h0 : [] ∉ wordsN l) (h : (wordsN l).Pairwise (· < ·)) (hs : (l.map ByteArray.size).sum ≤ 1000000) : okB ((build (wordsN l)).map toS) = true ∧ lowB ((build (wordsN l)).map toS) = true ∧ 0 < ((build (wordsN l)).map toS).length := by
  obtain ⟨g1, g2, g3, g4⟩ := build_good l h0 h
  refine ⟨(okB_iff _).2 ⟨by rw [List.length_map]; omega, fun s hs => ?_⟩, (lowB_iff _).2 (fun n hn e he => ?_), by rw [List.length_map]; omega⟩
  · obtain ⟨t, ht, rfl⟩ := List.mem_map.1 hs
    obtain ⟨i, hi, rfl⟩ := List.getElem_of_mem ht
    obtain ⟨_, _, k3, k4⟩ := g2 i _ (List.getElem?_eq_getElem hi)
    refine ⟨by show (_ : List _).length ≤ _; unfold toS; rw [List.length_map]; omega, fun e he => ?_⟩
    unfold toS at he
    obtain ⟨f, hf, rfl⟩ := List.mem_map.1 he
    have := k4 f hf
    exact ⟨by show (0 : Int) ≤ (f.1 : Int); omega, by show (f.1 : Int) < 256; omega⟩
  · rw [List.length_map] at hn
    rw [rdB _ n hn] at he
    obtain ⟨k1, _⟩ := g2 n _ (List.getElem?_eq_getElem hn)
    unfold toS at he
    obtain ⟨f, hf, rfl⟩ := List.mem_map.1 he
    have := k1.1 f hf
    exact ⟨by show (0 : Int) ≤ (f.2 : Int); omega, by show (f.2 : Int) < (n : Int); omega⟩
theorem plain_built (l : List ByteArray) (h0 : [] ∉ wordsN l) (h : (wordsN l).Pairwise (· < ·)) : plainB ((build (wordsN l)).map toS) = true := by
  obtain ⟨g1, g2, g3, g4⟩ := build_good l h0 h
  unfold plainB
  rw [Bool.and_eq_true, decide_eq_true_eq, List.length_map]
  refine ⟨List.all_eq_true.2 (fun i hi => ?_), by omega⟩
  have hi : i < (build (wordsN l)).length := by rw [List.mem_range'_1] at hi; omega
  obtain ⟨k1, k2, k3, k4⟩ := g2 i _ (List.getElem?_eq_getElem hi)
  unfold stateB
  rw [rdB _ i hi, Bool.and_eq_true]
  constructor
  · refine List.all_eq_true.2 (fun j hj => ?_)
    have hjl : j < ((build (wordsN l))[i].2.map toE).length := by
      rw [List.mem_range'_1] at hj
      have h2 := hj.2
      have e0 : (toS (build (wordsN l))[i]).f1.length = ((build (wordsN l))[i].2.map toE).length := rfl
      rw [e0] at h2
      omega
    have hjl2 : j < (build (wordsN l))[i].2.length := by rw [List.length_map] at hjl; exact hjl
    have e1 : rd_T84 (toS (build (wordsN l))[i]).f1 (j : Int) = toE ((build (wordsN l))[i].2[j]) := by
      unfold toS
      rw [rd33 _ j hjl, List.getElem_map]
    unfold edgeB
    rw [e1]
    have hlt := k1.1 _ (List.getElem_mem hjl2)
    rw [Bool.and_eq_true, Bool.and_eq_true, decide_eq_true_eq, decide_eq_true_eq, Bool.or_eq_true, decide_eq_true_eq, decide_eq_true_eq]
    refine ⟨⟨?_, ?_⟩, ?_⟩
    · show (0 : Int) ≤ (((build (wordsN l))[i].2[j].2 : Nat) : Int); omega
    · show (((build (wordsN l))[i].2[j].2 : Nat) : Int) < (i : Int); omega
    · cases j with
      | zero => exact Or.inl rfl
      | succ j =>
        right
        have hr := rising_get _ k1.2 j hjl2
        have e2 : rd_T84 (toS (build (wordsN l))[i]).f1 ((j + 1 - 1 : Nat) : Int) = toE ((build (wordsN l))[i].2[j]) := by
          rw [Nat.add_sub_cancel]
          unfold toS
          rw [rd33 _ j (by rw [List.length_map]; omega), List.getElem_map]
        rw [e2]
        show (((build (wordsN l))[i].2[j].1 : Nat) : Int) < (((build (wordsN l))[i].2[j + 1].1 : Nat) : Int)
        omega
  · unfold useB
    rw [Bool.or_eq_true, Bool.or_eq_true, decide_eq_true_eq, List.length_map]
    by_cases hl : l = []
    · right
      subst hl
      have hw : wordsN [] = [] := rfl
      rw [hw, build_nil]; simp
    · left
      rcases k2 hl with k | k
      · exact Or.inl k
      · right
        unfold toS
        simpa using k
theorem root_built (l : List ByteArray) (h0 : [] ∉ wordsN l) (h : (wordsN l).Pairwise (· < ·)) : ∃ s, (build (wordsN l))[(build (wordsN l)).length - 1]? = some s ∧ s.1 = false := by
  by_cases hl : l = []
  · subst hl
    have hw : wordsN [] = [] := rfl
    rw [hw, build_nil]
    exact ⟨_, rfl, rfl⟩
  · have hne : wordsN l ≠ [] := by unfold wordsN; simpa using hl
    obtain ⟨a, s, hb, _, hacc⟩ := build_takes (wordsN l) (words_rise h0 h) hne
    have hg : (build (wordsN l))[a.length]? = some s := by rw [hb]; simp
    refine ⟨s, by rw [hb]; simp, ?_⟩
    have h1 := hacc []
    rw [acc_at hg, decide_eq_false h0] at h1
    exact h1
theorem ranked_built (l : List ByteArray) (h0 : [] ∉ wordsN l) (h : (wordsN l).Pairwise (· < ·)) (hs : (l.map ByteArray.size).sum ≤ 1000000) : (rk ((build (wordsN l)).map toS) (build (wordsN l)).length ((build (wordsN l)).length - 1) 0).1 = true := by
  have hk : ∃ k, vis (build (wordsN l)) k ((build (wordsN l)).length - 1) 0 = some (build (wordsN l)).length := by
    by_cases hl : l = []
    · subst hl
      have hw : wordsN [] = [] := rfl
      rw [hw, build_nil]
      exact ⟨1, rfl⟩
    · have hne : wordsN l ≠ [] := by unfold wordsN; simpa using hl
      exact build_ranked (wordsN l) (words_rise h0 h) hne
  obtain ⟨k, hk⟩ := hk
  obtain ⟨o1, o2, o3⟩ := ok_built l h0 h hs
  rw [List.length_map] at o3
  have h1 := vis_le (build (wordsN l)) [] (k' := k + (build (wordsN l)).length + 1) (by omega) hk
  rw [List.append_nil] at h1
  have h2 := vis_rk _ _ _ _ _ h1
  rw [rk_fuel ((lowB_iff _).1 o2) ((build (wordsN l)).length - 1) (build (wordsN l)).length (k + (build (wordsN l)).length + 1) 0 (by rw [List.length_map]; omega) (by omega) (by omega), h2]
theorem may_built (l : List ByteArray) (h0 : [] ∉ wordsN l) (h : (wordsN l).Pairwise (· < ·)) (hs : (l.map ByteArray.size).sum ≤ 1000000) : mayB ((build (wordsN l)).map toS) = true := by
  obtain ⟨g1, g2, g3, g4⟩ := build_good l h0 h
  obtain ⟨s, hs1, hs2⟩ := root_built l h0 h
  obtain ⟨hn, hse⟩ := List.getElem?_eq_some_iff.1 hs1
  unfold mayB
  rw [plain_built l h0 h, List.length_map, ranked_built l h0 h hs, show (((build (wordsN l)).length : Nat) : Int) - 1 = (((build (wordsN l)).length - 1 : Nat) : Int) from by omega, rdB _ _ hn, hse]
  have e : ((build (wordsN l)).map toS).map ofS = build (wordsN l) := by
    rw [List.map_map]
    exact (List.map_congr_left (fun s _ => ofS_toS s)).trans (List.map_id _)
  rw [e, decide_eq_true g1]
  show (true && true && !s.1 && true) = true
  rw [hs2]; rfl
end Go.Proofs.Ytgebhidpkcjpmaa.K

namespace Go.Proofs.Ytgebhidpkcjpmaa.K
open Go.RowKit Go.Proofs.YtgebhidpkcjpmaaW.PrintWords Go.Proofs.YtgebhidpkcjpmaaW.PrintLast Go.Proofs.YtgebhidpkcjpmaaW.PrintMore Go.Proofs.Ytgebhidpkcjpmaa
attribute [local go_sem] max2_int min2_int max_two min_two max_three min_three max_four min_four
set_option linter.unusedVariables false
set_option linter.unusedSimpArgs false
open Go.Proofs.Ytgebhidpkcjpmaa.PDk Go.Proofs.Ytgebhidpkcjpmaa.PDm Go.Proofs.Ytgebhidpkcjpmaa.PIx Go.Proofs.Ytgebhidpkcjpmaa.Daw
structure Ws (l : List ByteArray) : Prop where
  all : bytesAll l ≤ 1000000
  ne : [] ∉ wordsN l
  rise : (wordsN l).Pairwise (· < ·)
theorem sum_all (l : List ByteArray) : (l.map ByteArray.size).sum ≤ bytesAll l := by
  induction l with
  | nil => simp [bytesAll]
  | cons a l ih => unfold bytesAll at ih ⊢; simp; omega
namespace Ws
variable {l : List ByteArray} (h : Ws l)
include h
theorem n : l.length ≤ 1000000 := by have := len_bytesAll l; have := h.all; omega
theorem sum : (l.map ByteArray.size).sum ≤ 1000000 := Nat.le_trans (sum_all l) h.all
theorem may : daw_May.f ((build (wordsN l)).map toS) = some true := by
  have hs : (l.map ByteArray.size).sum ≤ 1000000 := by have := h.sum; omega
  unfold daw_May.f
  rw [if_pos (ok_built l h.ne h.rise hs).1, may_built l h.ne h.rise hs]
theorem known (hl : l ≠ []) : Known (build (wordsN l)) := by
  obtain ⟨g1, g2, g3, g4⟩ := build_good l h.ne h.rise
  have hne : wordsN l ≠ [] := by unfold wordsN; simpa using hl
  have hg : Daw.Good (build (wordsN l)) := ⟨g1, fun i s hs => ⟨(g2 i s hs).1, (g2 i s hs).2.1 hl⟩⟩
  have hsum := h.sum
  refine ⟨hg, ⟨fun i hi e he => (g2 i _ (List.getElem?_eq_getElem hi)).1.1 e he, fun i hi => cnt_eq hg hi, fun i hi => ?_, fun i hi => ?_, by omega⟩⟩
  · have := cnt_le (wordsN l) (words_rise h.ne h.rise) hne hi
    have h2 := h.n
    have h3 : (wordsN l).length = l.length := by unfold wordsN; simp
    omega
  · have := (g2 i _ (List.getElem?_eq_getElem hi)).2.2.1
    omega
theorem pos : 0 < (build (wordsN l)).length := (build_good l h.ne h.rise).2.2.1
theorem small : (build (wordsN l)).length ≤ 1000001 := by have := (build_good l h.ne h.rise).2.2.2; have := h.sum; omega
theorem root (hl : l ≠ []) : wl (build (wordsN l)) ((build (wordsN l)).length - 1) = wordsN l :=
  cnt_root (wordsN l) (words_rise h.ne h.rise) (by unfold wordsN; simpa using hl)
/-- The counts. -/
theorem cnts : ∃ cs, Cnt (build (wordsN l)) cs ∧ cs ((build (wordsN l)).length - 1) = l.length ∧ Ev (fun k => index_Counts.f k ((build (wordsN l)).map toS)) (csL cs (build (wordsN l)).length, 0) := by
  by_cases hl : l = []
  · subst hl
    have hm := h.may
    rw [show wordsN [] = [] from rfl, build_nil] at hm ⊢
    have hc : Cnt [((false, []) : DS)] (fun _ => 0) := by
      refine ⟨fun i hi e he => ?_, fun i hi => ?_, fun _ _ => Nat.zero_le _, fun i hi => ?_, by decide⟩
      all_goals
        have : i = 0 := by simpa using hi
        subst this
      · simp at he
      · rfl
      · simp
    exact ⟨_, hc, rfl, counts_ev hc hm⟩
  · refine ⟨Daw.cnt _, (h.known hl).cnt, ?_, counts_ev (h.known hl).cnt h.may⟩
    unfold Daw.cnt
    rw [h.root hl]; unfold wordsN; simp
end Ws
theorem str_ints (s : ByteArray) : strOfNums (intsL (Utf.nats s)) = s := by
  apply nats_inj
  rw [nats_str]
  unfold intsL
  rw [List.map_map]
  refine (List.map_congr_left (fun x hx => ?_)).trans (List.map_id _)
  have := Utf.nats_lt s x hx
  show (Int.ofNat x).toNat % 256 = x
  simp; omega
namespace Ws
variable {l : List ByteArray} (h : Ws l)
include h
end Ws
end Go.Proofs.Ytgebhidpkcjpmaa.K

namespace Go.Proofs.Ytgebhidpkcjpmaa.Daw
set_option linter.unusedVariables false
set_option linter.unusedSimpArgs false
theorem acc_alive {a : List DS} (h : Good a) : ∀ (n i : Nat), i < n → i < a.length → ∃ v, acc a i v = true
  | 0, i, hn, _ => by omega
  | n + 1, i, hn, hi => by
    have e : a[i]? = some a[i] := List.getElem?_eq_getElem hi
    obtain ⟨hr, hal⟩ := h.2 i _ e
    rcases hal with h1 | h1
    · exact ⟨[], by simp [acc, e, h1]⟩
    · obtain ⟨d, es, hd⟩ : ∃ d es, a[i].2 = d :: es := by
        cases hh : a[i].2 with
        | nil => exact absurd hh h1
        | cons d es => exact ⟨d, es, rfl⟩
      have hlow := hr.1 d (by rw [hd]; simp)
      obtain ⟨v, hv⟩ := acc_alive h n d.2 (by omega) (by omega)
      refine ⟨d.1 :: v, ?_⟩
      have hf : fnd a[i] d.1 = some d := by unfold fnd; rw [hd]; simp
      simp only [acc, e, hf]
      exact hv
/-- Two edges' lists that lead on alike. -/
def RelE (a b : List DS) : List DE → List DE → Prop
  | [], [] => True
  | e :: es, f :: fs => (e.1 = f.1 ∧ ∀ v, acc a e.2 v = acc b f.2 v) ∧ RelE a b es fs
  | _, _ => False
def stepE (a : List DS) (es : List DE) (c : Nat) (v : List Nat) : Bool := match es.find? (fun e => e.1 == c) with | some e => acc a e.2 v | none => false
end Go.Proofs.Ytgebhidpkcjpmaa.Daw

namespace Go.Proofs.Ytgebhidpkcjpmaa.PR13
open Go.RowKit Go.Proofs.YtgebhidpkcjpmaaW.PrintWords Go.Proofs.YtgebhidpkcjpmaaW.PrintLast Go.Proofs.YtgebhidpkcjpmaaW.PrintMore Go.Proofs.Ytgebhidpkcjpmaa.K Go.Proofs.Ytgebhidpkcjpmaa.PDk
attribute [local go_sem] max2_int min2_int max_two min_two max_three min_three max_four min_four   -- for this text's walks alone
set_option linter.unusedVariables false
set_option linter.unusedSimpArgs false



def errW : Option Int → Value
  | none => .nilIface
  | some c => .iface 0 (.int .i64 c)
theorem errW_none : errW none = .nilIface := rfl
theorem errW_some (c : Int) : errW (some c) = .iface 0 (.int .i64 c) := rfl

structure S49 where
  f0 : ByteArray
  f1 : Int
def z49 : S49 := ⟨(⟨#[]⟩ : ByteArray), (0 : Int)⟩
def k49 : Kd S49 := Kd.iso (Kd.pair Kd.string (Kd.int .u64)) (fun x : S49 => (x.f0, x.f1))
theorem k49_open {w : World} {x : S49} {cs : List Value} (h : k49.K w x cs) : cs = [.string x.f0, .int .u64 x.f1] := by
  obtain ⟨_, _, rfl, rfl, rfl⟩ := h
  exact rfl
theorem k49_mk (w : World) (x : S49)  : k49.K w x [.string x.f0, .int .u64 x.f1] := ⟨[.string x.f0], [.int .u64 x.f1], rfl, rfl, rfl⟩
theorem k49_mkM (w : World) (base : Nat) (ok : Nat → Prop) (x : S49)  : k49.M w base ok x [.string x.f0, .int .u64 x.f1] := ⟨[.string x.f0], [.int .u64 x.f1], rfl, rfl, rfl⟩
def rd_T49 (xs : List S49) (i : Int) : S49 := xs.getD i.toNat z49
theorem at_T49 {w : World} {A : Option Addr} {n : Nat} {xs : List S49} (h : Kd.C k49 w A n xs) (i : Int) (h0 : 0 ≤ i) (h1 : i < n) : ∃ ad , A = some ad ∧ w.cell? (ad.add (i.toNat * 2)) = some (.string (rd_T49 xs i).f0) ∧ w.cell? ⟨(ad.add (i.toNat * 2)).block, (ad.add (i.toNat * 2)).off + 1, none⟩ = some (.int .u64 (rd_T49 xs i).f1) := by
  obtain ⟨ad, c, e, _, hK, hc0⟩ := Kd.C_get h z49 i h0 h1
  have hc : ∀ j u, c[j]? = some u → w.cell? (ad.add (i.toNat * 2 + j)) = some u := hc0
  obtain rfl := k49_open hK
  exact ⟨ad, e, hc 0 _ rfl, by rw [← add_field _ _ 1 (by omega)]; exact hc 1 _ rfl⟩

end Go.Proofs.Ytgebhidpkcjpmaa.PR13

namespace Go.Proofs.Ytgebhidpkcjpmaa.PR13
open Go.RowKit Go.Proofs.YtgebhidpkcjpmaaW.PrintWords Go.Proofs.YtgebhidpkcjpmaaW.PrintLast Go.Proofs.YtgebhidpkcjpmaaW.PrintMore Go.Proofs.Ytgebhidpkcjpmaa.K Go.Proofs.Ytgebhidpkcjpmaa.PDk
attribute [local go_sem] max2_int min2_int max_two min_two max_three min_three max_four min_four   -- for this text's walks alone
set_option linter.unusedVariables false
set_option linter.unusedSimpArgs false

def manteletref13_first.l0 : Nat → List (S49) → Int → Int → Option (Bool)
  | 0, _, _, _ => none
  | k + 1, x0, x1, x5 => if x5 < x1 then (if 0 ≤ x5 then (if x5 < (x0.length : Int) then (if 0 ≤ x1 then (if x1 < (x0.length : Int) then (if ((rd_T49 x0 x5).f1) = ((rd_T49 x0 x1).f1) then (some false) else (manteletref13_first.l0 k x0 x1 (wrap64 (x5 + 1)))) else (none)) else (none)) else (none)) else (none)) else (some true)
def manteletref13_first.f (k : Nat) (l0 : List (S49)) (a1 : Int) : Option (Bool) := manteletref13_first.l0 k l0 a1 0
mutual
def manteletref13_Classes.l0 : Nat → List (S49) → List Int → Int → Option (List Int)
  | 0, _, _, _ => none
  | k + 1, x0, x3, x4 => if x4 < (x0.length : Int) then (manteletref13_Classes.l1 k x0 x3 x4 0 0) else (some x3)
def manteletref13_Classes.l1 : Nat → List (S49) → List Int → Int → Int → Int → Option (List Int)
  | 0, _, _, _, _, _ => none
  | k + 1, x0, x3, x4, x5, x6 => if x6 < (x0.length : Int) then (if 0 ≤ x6 then (if 0 ≤ x4 then (if x4 < (x0.length : Int) then (if ((rd_T49 x0 x6).f1) > ((rd_T49 x0 x4).f1) then ((manteletref13_first.f k x0 x6).bind fun t105 => (if t105 = true then (manteletref13_Classes.l1 k x0 x3 x4 (wrap64 (x5 + 1)) (wrap64 (x6 + 1))) else (manteletref13_Classes.l1 k x0 x3 x4 x5 (wrap64 (x6 + 1))))) else (manteletref13_Classes.l1 k x0 x3 x4 x5 (wrap64 (x6 + 1)))) else (none)) else (none)) else (none)) else (if x3.length < 17592186044416 then (manteletref13_Classes.l0 k x0 (x3 ++ [mn x5 255]) (wrap64 (x4 + 1))) else (none))
end
def manteletref13_Classes.f (k : Nat) (l0 : List (S49)) : Option (List Int) := manteletref13_Classes.l0 k l0 ([] : List Int) 0
def manteletref13_Ints.l0 : Nat → List Int → List Int → Int → Option (Bool)
  | 0, _, _, _ => none
  | k + 1, x0, x1, x5 => if x5 < (x0.length : Int) then (if 0 ≤ x5 then (if x5 < (x1.length : Int) then (if (rd x0 x5) = (rd x1 x5) then (manteletref13_Ints.l0 k x0 x1 (wrap64 (x5 + 1))) else (some false)) else (none)) else (none)) else (some true)
def manteletref13_Ints.f (k : Nat) (l0 : List Int) (l1 : List Int) : Option (Bool) := if (l0.length : Int) = (l1.length : Int) then (manteletref13_Ints.l0 k l0 l1 0) else (some false)
set_option maxHeartbeats 8000000 in
set_option maxRecDepth 100000 in
theorem manteletref13_Ints.calls (k : Nat) (A0 : Option Addr) (c0 : Nat) (l0 : List Int) (A1 : Option Addr) (c1 : Nat) (l1 : List Int) (r : Bool) (w : World) (hr0 : Kd.C (Kd.int .i64) w A0 l0.length l0) (hc0 : l0.length ≤ c0) (hr1 : Kd.C (Kd.int .i64) w A1 l1.length l1) (hc1 : l1.length ≤ c1) (h : manteletref13_Ints.f k l0 l1 = some r) :
    Calls Try.prog 42 #[.slice A0 l0.length c0, .slice A1 l1.length c1] w fun e w' => e = .returned (.bool r) ∧ Drawn0 w w' := by
  have HR0 := Aside0.mk hr0
  have HC0 := Aside0.mk hc0
  clear hr0 hc0
  have HR1 := Aside0.mk hr1
  have HC1 := Aside0.mk hc1
  clear hr1 hc1
  have H : (if (l0.length : Int) = (l1.length : Int) then (manteletref13_Ints.l0 k l0 l1 0) else (some false)) = some r := h
  clear h
  by_cases c3 : (l0.length : Int) = (l1.length : Int)
  · rw [if_pos c3] at H
    have c3b0 : ((l0.length : Int) == (l1.length : Int)) = true := beq_iff_eq.mpr c3
    have c3b1 : ((l0.length : Int) != (l1.length : Int)) = false := bne_eq_false_iff_eq.mpr c3
    have c3b2 : (l0.length == l1.length) = true := by first | simpa using c3 | (simp at c3 ⊢; omega)
    clear c3
    have H' := Aside0.mk H
    clear H
    go_enter Try.func42, Try.ntmps42
    go_wp2
    repeat (go_quiet (fail); try go_wp2)
    go_loopg [5] k (fun kq v5 w' => ∃ (x5_1 : Int), v5 = .int .i64 x5_1 ∧ Aside0 (manteletref13_Ints.l0 kq l0 l1 x5_1 = some r) ∧ Aside0 (kq ≤ k) ∧ Drawn0 w w')
    case atStart => exact ⟨(0), (by first | rfl | (simp; done) | (simp [*]; done)), H', ⟨Nat.le_refl _⟩, by repeat (first | exact Drawn0.refl _ | apply Drawn0.step)⟩
    case round =>
      clear H'
      try clear c1
      try clear p2
      try clear c3
      try clear c3b0
      try clear c3b1
      try clear c3b2
      obtain ⟨x5_1, rfl, HA, HK1, ⟨m1, rfl⟩⟩ := hrel
      cases gk with
      | zero => exact absurd HA.out (by simp [manteletref13_Ints.l0])
      | succ k1 =>
        have H := HA.out
        clear HA
        simp only [manteletref13_Ints.l0] at H
        by_cases c4 : x5_1 < (l0.length : Int)
        · rw [if_pos c4] at H
          have c4b0 : decide (x5_1 < (l0.length : Int)) = true := decide_eq_true c4
          clear c4
          by_cases c5 : 0 ≤ x5_1
          · rw [if_pos c5] at H
            have c5b0 : decide (0 ≤ x5_1) = true := decide_eq_true c5
            clear c5
            by_cases c6 : x5_1 < (l1.length : Int)
            · rw [if_pos c6] at H
              have c6b0 : decide (x5_1 < (l1.length : Int)) = true := decide_eq_true c6
              clear c6
              by_cases c7 : (rd l0 x5_1) = (rd l1 x5_1)
              · rw [if_pos c7] at H
                have c7b0 : ((rd l0 x5_1) == (rd l1 x5_1)) = true := beq_iff_eq.mpr c7
                have c7b1 : ((rd l0 x5_1) != (rd l1 x5_1)) = false := bne_eq_false_iff_eq.mpr c7
                clear c7
                have H' := Aside0.mk H
                clear H
                have p109 : 0 ≤ (x5_1 : Int) := of_decide_eq_true (by first | (with_reducible assumption) | assumption)
                have q109 : x5_1 < (l0.length : Int) := of_decide_eq_true (by first | (with_reducible assumption) | assumption)
                obtain ⟨ad109, e109, hx109_0⟩ := Kd.at_int HR0.out x5_1 p109 q109
                cases e109
                replace p109 := eq_true p109
                replace q109 := eq_true q109
                have p110 : 0 ≤ (x5_1 : Int) := of_decide_eq_true (by first | (with_reducible assumption) | assumption)
                have q110 : x5_1 < (l1.length : Int) := of_decide_eq_true (by first | (with_reducible assumption) | assumption)
                obtain ⟨ad110, e110, hx110_0⟩ := Kd.at_int HR1.out x5_1 p110 q110
                cases e110
                replace p110 := eq_true p110
                replace q110 := eq_true q110
                go_wp2
                repeat (go_quiet (fail); try go_wp2)
                go_roundg k1
                case measure => have := HK1.out; omega
                case rel => exact ⟨(wrap64 (x5_1 + 1)), (by first | rfl | (simp; done) | (simp [*]; done)), H', ⟨by have := HK1.out; omega⟩, by repeat (first | exact Drawn0.refl _ | apply Drawn0.step)⟩
              · rw [if_neg c7] at H
                have c7b0 : ((rd l0 x5_1) == (rd l1 x5_1)) = false := beq_eq_false_iff_ne.mpr c7
                have c7b1 : ((rd l0 x5_1) != (rd l1 x5_1)) = true := bne_iff_ne.mpr c7
                obtain rfl := Option.some.inj H
                have p109 : 0 ≤ (x5_1 : Int) := of_decide_eq_true (by first | (with_reducible assumption) | assumption)
                have q109 : x5_1 < (l0.length : Int) := of_decide_eq_true (by first | (with_reducible assumption) | assumption)
                obtain ⟨ad109, e109, hx109_0⟩ := Kd.at_int HR0.out x5_1 p109 q109
                cases e109
                replace p109 := eq_true p109
                replace q109 := eq_true q109
                have p110 : 0 ≤ (x5_1 : Int) := of_decide_eq_true (by first | (with_reducible assumption) | assumption)
                have q110 : x5_1 < (l1.length : Int) := of_decide_eq_true (by first | (with_reducible assumption) | assumption)
                obtain ⟨ad110, e110, hx110_0⟩ := Kd.at_int HR1.out x5_1 p110 q110
                cases e110
                replace p110 := eq_true p110
                replace q110 := eq_true q110
                go_wp2
                repeat (go_quiet (fail); try go_wp2)
                go_ret
                exact ⟨by first | rfl | (simp; done) | (simp [*]; done), by repeat (first | exact Drawn0.refl _ | apply Drawn0.step)⟩
            · rw [if_neg c6] at H
              exact absurd H (by simp)
          · rw [if_neg c5] at H
            exact absurd H (by simp)
        · rw [if_neg c4] at H
          have c4b0 : decide (x5_1 < (l0.length : Int)) = false := decide_eq_false c4
          clear c4
          obtain rfl := Option.some.inj H
          go_wp2
          repeat (go_quiet (fail); try go_wp2)
          go_ret
          exact ⟨by first | rfl | (simp; done) | (simp [*]; done), by repeat (first | exact Drawn0.refl _ | apply Drawn0.step)⟩
  · rw [if_neg c3] at H
    have c3b0 : ((l0.length : Int) == (l1.length : Int)) = false := beq_eq_false_iff_ne.mpr c3
    have c3b1 : ((l0.length : Int) != (l1.length : Int)) = true := bne_iff_ne.mpr c3
    have c3b2 : (l0.length == l1.length) = false := by first | simpa using c3 | (simp at c3 ⊢; omega)
    obtain rfl := Option.some.inj H
    go_enter Try.func42, Try.ntmps42
    go_wp2
    repeat (go_quiet (fail); try go_wp2)
    go_ret
    exact ⟨by first | rfl | (simp; done) | (simp [*]; done), by repeat (first | exact Drawn0.refl _ | apply Drawn0.step)⟩

end Go.Proofs.Ytgebhidpkcjpmaa.PR13

namespace Go.Proofs.Ytgebhidpkcjpmaa.PR13
open Go.RowKit Go.Proofs.YtgebhidpkcjpmaaW.PrintWords Go.Proofs.YtgebhidpkcjpmaaW.PrintLast Go.Proofs.YtgebhidpkcjpmaaW.PrintMore Go.Proofs.Ytgebhidpkcjpmaa.K Go.Proofs.Ytgebhidpkcjpmaa.PDk
attribute [local go_sem] max2_int min2_int max_two min_two max_three min_three max_four min_four   -- for this text's walks alone
set_option linter.unusedVariables false
set_option linter.unusedSimpArgs false

end Go.Proofs.Ytgebhidpkcjpmaa.PR13

namespace Go.Proofs.Ytgebhidpkcjpmaa.Crc
set_option linter.unusedVariables false
set_option linter.unusedSimpArgs false
def poly : Nat := 3988292384
/-- One bit's bstep. -/
def bstep (c : Nat) : Nat := if c % 2 = 1 then (c / 2) ^^^ poly else c / 2
def steps : Nat → Nat → Nat
  | 0, c => c
  | k + 1, c => steps k (bstep c)
def T (i : Nat) : Nat := steps 8 i
def byteT (c x : Nat) : Nat := T ((c % 256) ^^^ x) ^^^ (c / 256)
def moreT (c : Nat) (l : List Nat) : Nat := 4294967295 - l.foldl byteT (4294967295 - c)
def moreR (c : Nat) (l : List Nat) : Nat := 4294967295 - l.foldl (fun c x => steps 8 (c ^^^ x)) (4294967295 - c)
theorem step_lt {c : Nat} (h : c < 4294967296) : bstep c < 4294967296 := by
  unfold bstep
  split
  · exact Nat.xor_lt_two_pow (n := 32) (by omega) (by decide)
  · omega
theorem steps_lt : ∀ (k : Nat) {c : Nat}, c < 4294967296 → steps k c < 4294967296
  | 0, _, h => h
  | k + 1, _, h => steps_lt k (step_lt h)
theorem T_lt {i : Nat} (h : i < 256) : T i < 4294967296 := steps_lt 8 (by omega)
theorem byteT_lt {c x : Nat} (hc : c < 4294967296) (hx : x < 256) : byteT c x < 4294967296 := by
  unfold byteT
  exact Nat.xor_lt_two_pow (n := 32) (T_lt (Nat.xor_lt_two_pow (n := 8) (Nat.mod_lt _ (by decide)) hx)) (by omega)
def ofL (l : List Nat) : Nat := moreT 0 l
/-- The sum's four bytes. -/
def sumB (l : List Nat) : List Nat := [ofL l % 256, ofL l / 256 % 256, ofL l / 65536 % 256, ofL l / 16777216 % 256]
theorem sumB_len (l : List Nat) : (sumB l).length = 4 := rfl
end Go.Proofs.Ytgebhidpkcjpmaa.Crc

namespace Go.Proofs.Ytgebhidpkcjpmaa.K
open Go.RowKit Go.Proofs.YtgebhidpkcjpmaaW.PrintWords Go.Proofs.YtgebhidpkcjpmaaW.PrintLast Go.Proofs.YtgebhidpkcjpmaaW.PrintMore Go.Proofs.Ytgebhidpkcjpmaa
attribute [local go_sem] max2_int min2_int max_two min_two max_three min_three max_four min_four
set_option linter.unusedVariables false
set_option linter.unusedSimpArgs false
open Go Go.Proofs.Ytgebhidpkcjpmaa.Crc
/-- The table's cells, the first n of them laid. -/
def tabV (n : Nat) : Array Value := Array.ofFn (n := 256) fun j => .int .u32 (if j.val < n then (T j.val : Int) else 0)
theorem tabV_size (n : Nat) : (tabV n).size = 256 := by simp [tabV]
theorem tabV_zero : tabV 0 = Array.replicate 256 (.int .u32 0) := by
  unfold tabV
  apply Array.ext
  · simp
  · intro i h1 h2; simp
theorem tabV_get (n i : Nat) (h : i < 256) : (tabV n)[i]? = some (.int .u32 (if i < n then (T i : Int) else 0)) := by
  rw [Array.getElem?_eq_getElem (by rw [tabV_size]; exact h)]
  simp [tabV]
theorem tabV_succ (n : Nat) (h : n < 256) : (tabV n).setIfInBounds n (.int .u32 (T n : Int)) = tabV (n + 1) := by
  apply Array.ext
  · simp [tabV]
  · intro i h1 h2
    rw [Array.getElem_setIfInBounds (by rw [tabV_size]; simpa [tabV] using h2)]
    simp only [tabV, Array.getElem_ofFn]
    by_cases hi : n = i
    · subst hi; rw [if_pos rfl, if_pos (by omega)]
    · rw [if_neg hi]
      by_cases h3 : i < n
      · rw [if_pos h3, if_pos (by omega)]
      · rw [if_neg h3, if_neg (by omega)]
theorem tabV_one (n : Nat) : (tabV n).all (·.oneCell') = true := by
  rw [Array.all_eq_true]
  intro i h
  simp [tabV]
  rfl
theorem bit1 (c : Nat) (h : c < 4294967296) : Go.bits .and .u32 (c : Int) 1 = ((c % 2 : Nat) : Int) := by
  have := u32_and_nat c 1 h (by decide)
  rw [show (((1 : Nat) : Int)) = 1 from rfl] at this
  rw [this, Nat.and_one_is_mod]
theorem xorP (c : Nat) (h : c < 4294967296) : Go.bits .xor .u32 (c : Int) 3988292384 = ((c ^^^ poly : Nat) : Int) := u32_xor_nat c poly h (by decide)
theorem run_storeCells_row {P : Program} (w : World) (g : Nat) (t ty : TypeId) (old cells : Array Value) (hg : w.heap[g]? = some (.cells old t (0, 0))) (hi : (P.info? ty).map (·.size) = some cells.size) (hold : old.size = cells.size) (h1 : cells.all (·.oneCell') = true) :
    (storeCells ⟨g, 0, none⟩ cells.toList 0).run P w = .ok () (w.setRow g cells) := by
  have := run_storeVar_row (P := P) w g t ty old cells hg hi hold h1
  cases hq : P.info? ty with
  | none => simp [hq] at hi
  | some i =>
    have hs : cells.size = i.size := by simp [hq] at hi; omega
    simpa [storeVar, sizeOf, typeInfo, hq, Value.cells, hs] using this
set_option maxHeartbeats 4000000 in
set_option maxRecDepth 1000000 in
theorem table_k (w : World) : Calls Try.prog 116 #[] w fun e w' => e = .returned (.agg (tabV 256)) ∧ Below w.heap.size w w' := by
  have hinfo : (Try.prog.info? 175).map (fun i => (i.zero, i.size)) = some (some (.agg (Array.replicate 256 (.int .u32 0))), 256) := by kernel_rfl
  obtain ⟨hz, hs⟩ := zero_of_info hinfo
  have ht := Try.underlying175
  go_enter Try.func116, Try.ntmps116
  go_wp2
  rw [← tabV_zero]
  obtain ⟨w1, hw1⟩ : ∃ w1, w1 = w.alloc (.cells (tabV 0) 175) := ⟨_, rfl⟩
  have hn1 : w.heap.size + 1 = w1.heap.size := by rw [hw1]; exact (Array.size_push ..).symm
  rw [← hw1, hn1]
  have HW1 := Aside0.mk hw1; have HN1 := Aside0.mk hn1; have HS := Aside0.mk hs
  clear hw1 hn1 hs hinfo hz
  go_loopg [5] 256 (fun gg v5 wr => ∃ i : Nat, v5 = .int .i64 i ∧ Aside0 (i + gg = 256) ∧ wr = w1.alloc (.cells (tabV i) 175))
  case atStart => exact ⟨0, rfl, ⟨rfl⟩, rfl⟩
  case round =>
    obtain ⟨i, rfl, hi, rfl⟩ := hrel
    by_cases hlt : i < 256
    · have hcb : decide ((i : Int) < 256) = true := decide_eq_true (by omega)
      have hcv : IntKind.u32.wrap (i : Int) = (i : Int) := by rw [IntKind.wrap_u32]; omega
      go_wp2
      clear hcb hcv
      go_loopg [3, 10] 8 (fun gg v3 v10 wr => ∃ k c : Nat, v10 = .int .i64 k ∧ v3 = .int .u32 c ∧ Aside0 (k + gg = 8) ∧ Aside0 (c < 4294967296) ∧ Aside0 (steps gg c = T i) ∧ wr = w1.alloc (.cells (tabV i) 175))
      case atStart => exact ⟨0, i, rfl, rfl, ⟨rfl⟩, ⟨by omega⟩, ⟨rfl⟩, rfl⟩
      case round =>
        obtain ⟨k, c, rfl, rfl, hk, hc, hT, rfl⟩ := hrel
        by_cases hk8 : k < 8
        · have hcb2 : decide ((k : Int) < 8) = true := decide_eq_true (by omega)
          have hb1 := bit1 c hc.out
          obtain ⟨g, rfl⟩ : ∃ g, gk = g + 1 := ⟨gk - 1, by have := hk.out; omega⟩
          by_cases hm : c % 2 = 1
          · have hb2 : decide ((((c % 2 : Nat) : Int)) = 1) = true := decide_eq_true (by omega)
            have HST := Aside0.mk (show bstep c = (c / 2) ^^^ poly by unfold bstep; rw [if_pos hm])
            have hx := xorP (c / 2) (by have := hc.out; omega)
            go_wp2
            go_roundg g
            case measure => omega
            case rel =>
              refine ⟨k + 1, bstep c, congrArg (Value.int .i64) (by omega), ?_, ⟨by have := hk.out; omega⟩, ⟨step_lt hc.out⟩, ⟨hT.out⟩, rfl⟩
              rw [HST.out, ← hx]; rfl
          · have hb2 : decide ((((c % 2 : Nat) : Int)) = 1) = false := decide_eq_false (by omega)
            have HST := Aside0.mk (show bstep c = c / 2 by unfold bstep; rw [if_neg hm])
            go_wp2
            go_roundg g
            case measure => omega
            case rel =>
              refine ⟨k + 1, bstep c, congrArg (Value.int .i64) (by omega), ?_, ⟨by have := hk.out; omega⟩, ⟨step_lt hc.out⟩, ⟨hT.out⟩, rfl⟩
              rw [HST.out]; rfl
        · have hcb2 : decide ((k : Int) < 8) = false := decide_eq_false (by omega)
          obtain rfl : gk = 0 := by have := hk.out; omega
          have HCT := Aside0.mk (show c = T i from hT.out)
          have HSET := Aside0.mk (tabV_succ i hlt)
          have hcell := tabV_get i i hlt
          rw [if_neg (Nat.lt_irrefl i)] at hcell
          have q0 : (0 : Int) ≤ (i : Int) := by omega
          have q1 : (i : Int) < 256 := by omega
          have hcb2' := hcb2
          generalize tabV i = C at hcell HSET ⊢
          go_wp2
          go_roundg (255 - i)
          case measure => have := hi.out; omega
          case rel =>
            refine ⟨i + 1, congrArg (Value.int .i64) (by omega), ⟨by omega⟩, ?_⟩
            rw [HCT.out, HSET.out]
    · have hcb : decide ((i : Int) < 256) = false := decide_eq_false (by omega)
      obtain rfl : i = 256 := by have := hi.out; omega
      have hl := tabV_one 256
      have hsz := tabV_size 256
      obtain ⟨C, hC⟩ : ∃ C, C = tabV 256 := ⟨_, rfl⟩
      rw [← hC] at hl hsz ⊢
      have HC := Aside0.mk hC; have HL := Aside0.mk hl; have HSZ := Aside0.mk hsz
      clear hC hl hsz hi
      go_wp2
      refine wp_load_row _ _ rfl w1.heap.size rfl _ C (0, 0) _ (heap_alloc_new w1 _) ht rfl (by rw [HSZ.out]; exact HS.out) ?_
      have hg0 : (w1.alloc (.cells C 175 (0, 0))).heap[w.heap.size]? = some (.cells (tabV 0) 175 (0, 0)) := by
        rw [heap_alloc_old w1 _ (by have := HN1.out; omega), HW1.out]; exact heap_alloc_new w _
      have hsc := run_storeCells_row (P := Try.prog) _ w.heap.size _ 175 (tabV 0) C hg0 (by rw [HSZ.out]; exact HS.out) (by rw [HSZ.out, tabV_size]) HL.out
      have HSE := Aside0.mk (setRow_heap _ w.heap.size _ C _ _ hg0)
      have hBe : Below w.heap.size w ((w1.alloc (.cells C 175 (0, 0))).setRow w.heap.size C) := by
        rw [HW1.out]
        exact below_setRow (((Below.refl w.heap.size w).alloc (Nat.le_refl _) _).alloc (by rw [← HW1.out, ← HN1.out]; omega) _) (Nat.le_refl _) C
      have HBE := Aside0.mk hBe
      have hsz := HSZ.out
      clear hg0 hBe
      generalize (w1.alloc (.cells C 175 (0, 0))).setRow w.heap.size C = w3 at HSE HBE hsc
      go_wp2
      refine bodyPost_ret (v := .agg C) ?_ rfl ⟨by rw [HC.out], HBE.out⟩
      exact results_cell_row rfl _ _ w.heap.size _ C _ _ (by rfl) HSE.out ht rfl (by rw [HSZ.out]; exact HS.out)
end Go.Proofs.Ytgebhidpkcjpmaa.K

namespace Go.Proofs.Ytgebhidpkcjpmaa.K
open Go.RowKit Go.Proofs.YtgebhidpkcjpmaaW.PrintWords Go.Proofs.YtgebhidpkcjpmaaW.PrintLast Go.Proofs.YtgebhidpkcjpmaaW.PrintMore Go.Proofs.Ytgebhidpkcjpmaa
attribute [local go_sem] max2_int min2_int max_two min_two max_three min_three max_four min_four
set_option linter.unusedVariables false
set_option linter.unusedSimpArgs false
open Go Go.Proofs.Ytgebhidpkcjpmaa.Crc
/-- All numbers are bytes. -/
def byt (l : List Int) : Bool := l.all fun n => decide (0 ≤ n) && decide (n < 256)
theorem byt_get {l : List Int} (h : byt l = true) (i : Nat) (hi : i < l.length) : 0 ≤ l[i] ∧ l[i] < 256 := by
  have := List.all_eq_true.1 h _ (List.getElem_mem hi)
  simpa using this
def natL (l : List Int) : List Nat := l.map Int.toNat
theorem natL_take (l : List Int) (i : Nat) (hi : i < l.length) : natL (l.take (i + 1)) = natL (l.take i) ++ [(l[i]).toNat] := by
  rw [List.take_succ_eq_append_getElem hi]; unfold natL; rw [List.map_append]; rfl
theorem not32 (c : Nat) (h : c < 4294967296) : Go.bits .xor .u32 4294967295 (c : Int) = ((4294967295 - c : Nat) : Int) := by
  have h1 := u32_xor_nat 4294967295 c (by decide) h
  rw [show ((4294967295 : Nat) : Int) = 4294967295 from rfl] at h1
  rw [h1]
  congr 1
  have hs : (4294967295 - c) + c = 4294967295 := by omega
  apply Nat.eq_of_testBit_eq
  intro i
  rw [Nat.testBit_xor]
  have e1 : 4294967295 - c = 2 ^ 32 - (c + 1) := by omega
  rw [e1, Nat.testBit_two_pow_sub_succ h]
  have e2 : (4294967295 : Nat).testBit i = decide (i < 32) := by
    have : (4294967295 : Nat) = 2 ^ 32 - 1 := by decide
    rw [this, Nat.testBit_two_pow_sub_one]
  rw [e2]
  by_cases hi : i < 32
  · simp [hi]
  · have : c.testBit i = false := Nat.testBit_lt_two_pow (Nat.lt_of_lt_of_le h (Nat.pow_le_pow_right (n := 2) (by decide) (Nat.not_lt.1 hi)))
    simp [hi, this]
set_option maxHeartbeats 4000000 in
set_option maxRecDepth 1000000 in
theorem more_k (c : Nat) (hcl : c < 4294967296) (A : Option Addr) (cap : Nat) (l : List Int) (w : World) (hC : Kd.C (Kd.int .u8) w A l.length l) (hc : l.length ≤ cap) (hb : byt l = true) :
    Calls Try.prog 104 #[.int .u32 (c : Int), .slice A l.length cap] w fun e w' => e = .returned (.int .u32 (moreT c (natL l))) ∧ Below w.heap.size w w' := by
  have hinfo : (Try.prog.info? 175).map (fun i => (i.zero, i.size)) = some (some (.agg (Array.replicate 256 (.int .u32 0))), 256) := by kernel_rfl
  obtain ⟨hz, hs⟩ := zero_of_info hinfo
  have ht := Try.underlying175
  have HC := Aside0.mk hC; have HB := Aside0.mk hb; have HS := Aside0.mk hs
  have hlen : (l.length : Int) ≤ 9223372036854775807 := by have := hC.2.1; omega
  have hn := not32 c hcl
  have hm : IntKind.u32.max = 4294967295 := by decide
  clear hC hb hs hinfo
  obtain ⟨C, hC⟩ : ∃ C, C = tabV 256 := ⟨_, rfl⟩
  have hsz : C.size = 256 := by rw [hC]; exact tabV_size 256
  have hone : C.all (·.oneCell') = true := by rw [hC]; exact tabV_one 256
  have htab := fun w => table_k w
  rw [← hC] at htab
  have hsc := fun w : World => run_storeCells_new (P := Try.prog) w 175 (Array.replicate 256 (.int .u32 0)) C (by rw [hsz]; exact HS.out) (by rw [hsz, Array.size_replicate]) hone
  have HCT := Aside0.mk hC
  clear hC hone
  go_enter Try.func104, Try.ntmps104
  go_wp2_with (first | (go_at_call 116; (with_reducible refine (htab _).mono ?_)))
  rintro e w1 ⟨rfl, hb1⟩
  have HB1 := Aside0.mk hb1
  clear hb1
  go_wp2
  (try (simp only [Result.andThen, hsc]; rw [Oper.upon_skip]; go_wp2))
  have HBA := Aside0.mk (HB1.out.alloc HB1.out.size (.cells C 175 (0, 0)))
  clear hsc htab hz hsz
  go_loopg [0, 13] l.length (fun gg v0 v13 wr => ∃ i d : Nat, v13 = .int .i64 i ∧ v0 = .int .u32 d ∧ Aside0 (i + gg = l.length) ∧ Aside0 (d < 4294967296) ∧ Aside0 (d = (natL (l.take i)).foldl byteT (4294967295 - c)) ∧ wr = w1.alloc (.cells C 175 (0, 0)))
  case atStart => exact ⟨0, 4294967295 - c, rfl, rfl, ⟨by omega⟩, ⟨by omega⟩, ⟨rfl⟩, rfl⟩
  case round =>
    obtain ⟨i, d, rfl, rfl, hi, hd, hD, rfl⟩ := hrel
    by_cases hlt : i < l.length
    · have hcb : decide ((i : Int) < (l.length : Int)) = true := decide_eq_true (by omega)
      obtain ⟨b0, b1⟩ := byt_get HB.out i hlt
      obtain ⟨ad, ead, hx⟩ := Kd.at_int (Kd.C_below HC.out HBA.out) (i : Int) (by omega) (by omega)
      cases ead
      rw [Int.toNat_natCast, rd_nat, List.getD_eq_getElem?_getD, List.getElem?_eq_getElem hlt, Option.getD_some] at hx
      have HN := Aside0.mk (natL_take l i hlt)
      generalize l[i] = x at b0 b1 hx HN
      obtain ⟨x, rfl⟩ := Int.eq_ofNat_of_zero_le b0
      rw [Int.toNat_natCast] at HN
      have hj := u8_xor_nat (d % 256) x (by omega) (by omega)
      have hjl : (d % 256) ^^^ x < 256 := Nat.xor_lt_two_pow (n := 8) (by omega) (by omega)
      rw [show ((d % 256 : Nat) : Int) = (d : Int) % 256 from by omega] at hj
      have hcell := tabV_get 256 ((d % 256) ^^^ x) hjl
      rw [if_pos hjl, ← HCT.out] at hcell
      have hx2 := u32_xor_nat (T ((d % 256) ^^^ x)) (d / 256) (T_lt hjl) (by have := hd.out; omega)
      rw [show ((d / 256 : Nat) : Int) = (d : Int) / 256 from by omega] at hx2
      have HBT := Aside0.mk (show byteT d x = T ((d % 256) ^^^ x) ^^^ (d / 256) from rfl)
      have HLT := Aside0.mk (byteT_lt hd.out (show x < 256 by omega))
      have q0 : (0 : Int) ≤ (((d % 256) ^^^ x : Nat) : Int) := by omega
      have q1 : (((d % 256) ^^^ x : Nat) : Int) < 256 := by omega
      have z0 : (0 : Int) ≤ (i : Int) := by omega
      have z1 : (i : Int) < (l.length : Int) := by omega
      generalize (d % 256) ^^^ x = j at hj hjl hcell hx2 HBT q0 q1
      generalize hTJ : T j = tj at hcell hx2 HBT
      clear hTJ
      go_wp2
      go_roundg (l.length - (i + 1))
      case measure => have := hi.out; omega
      case rel =>
        refine ⟨i + 1, byteT d x, congrArg (Value.int .i64) (by omega), by rw [HBT.out], ⟨by have := hi.out; omega⟩, HLT, ⟨?_⟩, rfl⟩
        rw [HN.out, List.foldl_append, ← hD.out]; rfl
    · have hcb : decide ((i : Int) < (l.length : Int)) = false := decide_eq_false (by omega)
      obtain rfl : i = l.length := by have := hi.out; omega
      have hn2 := not32 d hd.out
      have HR := Aside0.mk (show moreT c (natL l) = 4294967295 - d by unfold moreT; rw [hD.out, List.take_length])
      go_wp2
      go_ret
      exact ⟨by rw [HR.out]; rfl, HBA.out⟩
set_option maxHeartbeats 4000000 in
set_option maxRecDepth 1000000 in
theorem crcOf_k (A : Option Addr) (cap : Nat) (l : List Int) (w : World) (hC : Kd.C (Kd.int .u8) w A l.length l) (hc : l.length ≤ cap) (hb : byt l = true) :
    Calls Try.prog 94 #[.slice A l.length cap] w fun e w' => e = .returned (.int .u32 (ofL (natL l))) ∧ Below w.heap.size w w' := by
  have hm := more_k 0 (by decide) A cap l w hC hc hb
  rw [show (((0 : Nat) : Int)) = 0 from rfl] at hm
  go_enter Try.func94, Try.ntmps94
  go_wp2_with (first | (go_at_call 104; (with_reducible refine hm.mono ?_)))
  rintro e w1 ⟨rfl, hb1⟩
  go_wp2
  go_ret
  exact ⟨rfl, hb1⟩
/-- As the printer calls it. -/
def crc_Of.f (l0 : List Int) : Option Int := if byt l0 = true then some (ofL (natL l0) : Int) else none
theorem crc_Of.calls (A0 : Option Addr) (c0 : Nat) (l0 : List Int) (r : Int) (w : World) (hr0 : Kd.C (Kd.int .u8) w A0 l0.length l0) (hc0 : l0.length ≤ c0) (h : crc_Of.f l0 = some r) :
    Calls Try.prog 94 #[.slice A0 l0.length c0] w fun e w' => e = .returned (.int .u32 r) ∧ Below w.heap.size w w' := by
  unfold crc_Of.f at h
  by_cases hk : byt l0 = true
  · rw [if_pos hk] at h
    obtain rfl := Option.some.inj h
    exact crcOf_k A0 c0 l0 w hr0 hc0 hk
  · rw [if_neg hk] at h; cases h
end Go.Proofs.Ytgebhidpkcjpmaa.K

namespace Go.Proofs.Ytgebhidpkcjpmaa.PFl
open Go.RowKit Go.Proofs.YtgebhidpkcjpmaaW.PrintWords Go.Proofs.YtgebhidpkcjpmaaW.PrintLast Go.Proofs.YtgebhidpkcjpmaaW.PrintMore Go.Proofs.Ytgebhidpkcjpmaa.K Go.Proofs.Ytgebhidpkcjpmaa.PDk Go.Proofs.Ytgebhidpkcjpmaa.PDm Go.Proofs.Ytgebhidpkcjpmaa.PR13
attribute [local go_sem] max2_int min2_int max_two min_two max_three min_three max_four min_four   -- for this text's walks alone
set_option linter.unusedVariables false
set_option linter.unusedSimpArgs false



def errW : Option Int → Value
  | none => .nilIface
  | some c => .iface 0 (.int .i64 c)
theorem errW_none : errW none = .nilIface := rfl
theorem errW_some (c : Int) : errW (some c) = .iface 0 (.int .i64 c) := rfl

end Go.Proofs.Ytgebhidpkcjpmaa.PFl

