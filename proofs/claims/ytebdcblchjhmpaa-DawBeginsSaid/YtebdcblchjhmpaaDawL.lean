/- What the statements of layer 14 share: the example, few, Same, told from some number of rounds on. -/
import Derived.Test.YtebdcblchjhmpaaDawP
import Derived.Test.YtebdcblchjhmpaaDawB
import Derived.Test.YtebdcblchjhmpaaProg
import Derived.Below
import Derived.Deep.Draws
import Derived.Deep.AppendLies
import Derived.Maps.AppendAt
import Derived.OwnWalk
import Derived.Laws.BytesArg
import Derived.Laws.MakeOwn
import Derived.Laws.OwnMore
import Derived.Deep.OwnRows
import Derived.Tactics
import Derived.Lib.ConvBytes
import Derived.Laws.Slices
import Derived.WalkKit
import Derived.KernelRfl
import Derived.RowKit3
import Derived.Deep.LoopGhost
import Derived.Deep.QuietTactic
import Derived.BigQuiet
import Derived.WideLaws
import Derived.Deep.DeepCutAuto
import Derived.Deep.CutBlock
import Derived.Deep.RegionHeld3
import Derived.Laws.Rows
import Derived.Lib.AppendStr
import Derived.ArgAppend
import Derived.Laws.IdiomCopy
import Derived.OrdersHeld
import Derived.Laws.BitsLemmas
import Derived.RowKit
import Derived.Lib.OthersKept
import Derived.WalkSmall
import Derived.Deep.RegionLaw
import Derived.BigRegion
import Derived.Test.YtebdcblchjhmpaaWWords
import Derived.Test.YtebdcblchjhmpaaWLast
import Derived.Test.YtebdcblchjhmpaaWTab
import Derived.Test.YtebdcblchjhmpaaWFour
import Derived.Test.YtebdcblchjhmpaaWQPut
import Derived.Test.YtebdcblchjhmpaaWApart
import Derived.Test.YtebdcblchjhmpaaWArr
import Derived.Test.YtebdcblchjhmpaaWZeros
import Derived.Test.YtebdcblchjhmpaaWFoot
import Derived.Test.YtebdcblchjhmpaaWKept
import Derived.Test.YtebdcblchjhmpaaWShare
import Derived.Test.YtebdcblchjhmpaaWN
import Derived.Test.YtebdcblchjhmpaaWFootNe
import Derived.Test.YtebdcblchjhmpaaWAt
import Derived.Test.YtebdcblchjhmpaaWEqStruct
import Derived.Test.YtebdcblchjhmpaaWRepsOne
import Derived.Test.YtebdcblchjhmpaaWInv
import Derived.Test.YtebdcblchjhmpaaWInvWords
import Derived.Test.YtebdcblchjhmpaaWGuard
import Derived.Test.YtebdcblchjhmpaaWNEv
import Derived.Test.YtebdcblchjhmpaaWMore
import Derived.Test.YtebdcblchjhmpaaInfo
import Derived.Test.YtebdcblchjhmpaaUtf
import Derived.Test.YtebdcblchjhmpaaHelp
import Derived.Test.YtebdcblchjhmpaaHelp2
import Derived.Test.YtebdcblchjhmpaaHelp5
import Derived.Test.YtebdcblchjhmpaaUtfE
import Derived.Test.YtebdcblchjhmpaaPDkx
import Derived.Test.YtebdcblchjhmpaaPSh14x
namespace Go.Proofs.Ytebdcblchjhmpaa.K
open Go.RowKit Go.Proofs.YtebdcblchjhmpaaW.PrintWords Go.Proofs.YtebdcblchjhmpaaW.PrintLast Go.Proofs.YtebdcblchjhmpaaW.PrintMore Go.Proofs.Ytebdcblchjhmpaa
attribute [local go_sem] max2_int min2_int max_two min_two max_three min_three max_four min_four
set_option linter.unusedVariables false
set_option linter.unusedSimpArgs false
open Go.Proofs.Ytebdcblchjhmpaa.PDk Go.Proofs.Ytebdcblchjhmpaa.PSh14 Go.Proofs.Ytebdcblchjhmpaa.Daw
open Classical
theorem w64 {x : Int} (h0 : -9223372036854775808 ≤ x) (h1 : x < 9223372036854775808) : Go.RowKit.wrap64 x = x := by unfold Go.RowKit.wrap64; omega
theorem rd31 (a : List S31) (i : Nat) (h : i < a.length) : rd_T31 a (i : Int) = a[i] := by
  unfold rd_T31
  rw [Int.toNat_natCast, List.getD_eq_getElem?_getD, List.getElem?_eq_getElem h]; rfl
theorem rd33 (a : List S33) (i : Nat) (h : i < a.length) : rd_T33 a (i : Int) = a[i] := by
  unfold rd_T33
  rw [Int.toNat_natCast, List.getD_eq_getElem?_getD, List.getElem?_eq_getElem h]; rfl
theorem rdS (a : List ByteArray) (i : Nat) (h : i < a.length) : rdOf ByteArray.empty a (i : Int) = a[i] := by
  unfold rdOf
  rw [Int.toNat_natCast, List.getD_eq_getElem?_getD, List.getElem?_eq_getElem h]; rfl
/-- Same, the edges of state i from j on. -/
theorem same_l1 (a b : List S31) (i : Nat) (ha : i < a.length) (hb : i < b.length) (r : Bool) (hl : a[i].f1.length = b[i].f1.length) (hm : a[i].f1.length ≤ 4611686018427387904) (hi : i ≤ 4611686018427387904)
    (hn : Ev (fun k => manteletref14_Same.l0 k a b ((i + 1 : Nat) : Int)) r) : ∀ (d j : Nat), j + d = a[i].f1.length → Ev (fun k => manteletref14_Same.l1 k a b (i : Int) (j : Int)) (decide (a[i].f1.drop j = b[i].f1.drop j) && r)
  | 0, j, hd => by
    have e : a[i].f1.drop j = b[i].f1.drop j := by rw [List.drop_eq_nil_of_le (by omega), List.drop_eq_nil_of_le (by omega)]
    rw [decide_eq_true e, Bool.true_and]
    refine Ev.step (fun k => ?_) hn
    simp only [manteletref14_Same.l1]
    rw [if_pos (by omega), if_pos (by omega), rd31 a i ha, if_neg (by omega), w64 (by omega) (by omega)]
    rfl
  | d + 1, j, hd => by
    have hja : j < a[i].f1.length := by omega
    have hjb : j < b[i].f1.length := by omega
    have ih := same_l1 a b i ha hb r hl hm hi hn d (j + 1) (by omega)
    by_cases he : a[i].f1[j] = b[i].f1[j]
    · have e : (a[i].f1.drop j = b[i].f1.drop j) = (a[i].f1.drop (j + 1) = b[i].f1.drop (j + 1)) := by
        rw [List.drop_eq_getElem_cons hja, List.drop_eq_getElem_cons hjb, List.cons.injEq]; simp only [he, true_and]
      rw [show decide (a[i].f1.drop j = b[i].f1.drop j) = decide (a[i].f1.drop (j + 1) = b[i].f1.drop (j + 1)) from decide_eq_decide.2 (by rw [e])]
      refine Ev.step (fun k => ?_) ih
      simp only [manteletref14_Same.l1]
      rw [if_pos (by omega), if_pos (by omega), rd31 a i ha, rd31 b i hb, if_pos (by omega), if_pos (by omega), if_pos (by omega), if_pos (by omega), rd33 _ j hja, rd33 _ j hjb, he, if_neg (by simp), w64 (by omega) (by omega)]
      rfl
    · have e : ¬ (a[i].f1.drop j = b[i].f1.drop j) := by
        rw [List.drop_eq_getElem_cons hja, List.drop_eq_getElem_cons hjb, List.cons.injEq]; exact fun h => he h.1
      rw [decide_eq_false e, Bool.false_and]
      refine Ev.step (f := fun _ => some false) (fun k => ?_) (Ev.now false)
      simp only [manteletref14_Same.l1]
      have hne : ((!((a[i].f1[j]).f0 == (b[i].f1[j]).f0)) || (!((a[i].f1[j]).f1 == (b[i].f1[j]).f1))) = true := by
        generalize a[i].f1[j] = x at he
        generalize b[i].f1[j] = y at he
        cases x; cases y
        simp only [S33.mk.injEq, not_and] at he
        simp only [Bool.or_eq_true, Bool.not_eq_true', beq_eq_false_iff_ne]
        exact (em _).elim (fun h => Or.inr (he h)) Or.inl
      rw [if_pos (by omega), if_pos (by omega), rd31 a i ha, rd31 b i hb, if_pos (by omega), if_pos (by omega), if_pos (by omega), if_pos (by omega), rd33 _ j hja, rd33 _ j hjb, if_pos hne]
def OkA (a : List S31) : Prop := a.length ≤ 4611686018427387904 ∧ ∀ s ∈ a, s.f1.length ≤ 4611686018427387904
theorem same_l0 (a b : List S31) (hl : a.length = b.length) (ha : OkA a) : ∀ (d i : Nat), i + d = a.length → Ev (fun k => manteletref14_Same.l0 k a b (i : Int)) (decide (a.drop i = b.drop i))
  | 0, i, hd => by
    have e : a.drop i = b.drop i := by rw [List.drop_eq_nil_of_le (by omega), List.drop_eq_nil_of_le (by omega)]
    rw [decide_eq_true e]
    refine Ev.step (f := fun _ => some true) (fun k => ?_) (Ev.now true)
    simp only [manteletref14_Same.l0]
    rw [if_neg (by omega)]
  | d + 1, i, hd => by
    have hia : i < a.length := by omega
    have hib : i < b.length := by omega
    have ih := same_l0 a b hl ha d (i + 1) (by omega)
    have hm := ha.2 _ (List.getElem_mem hia)
    have h1 := ha.1
    have e : (a.drop i = b.drop i) = (a[i] = b[i] ∧ a.drop (i + 1) = b.drop (i + 1)) := by
      rw [List.drop_eq_getElem_cons hia, List.drop_eq_getElem_cons hib, List.cons.injEq]
    have e2 : (a[i] = b[i]) = (a[i].f0 = b[i].f0 ∧ a[i].f1 = b[i].f1) := by
      generalize a[i] = x
      generalize b[i] = y
      cases x; cases y; simp
    refine Ev.step (f := fun k => if (a[i].f0 != b[i].f0) = true then manteletref14_Same.j1 k a b (i : Int) true else manteletref14_Same.j1 k a b (i : Int) ((a[i].f1.length : Int) != (b[i].f1.length : Int))) (fun k => ?_) ?_
    · simp only [manteletref14_Same.l0]
      rw [if_pos (by omega), if_pos (by omega), if_pos (by omega), rd31 a i hia, rd31 b i hib]
    · by_cases c0 : a[i].f0 = b[i].f0
      · by_cases c1 : a[i].f1.length = b[i].f1.length
        · have h2 := same_l1 a b i hia hib _ c1 hm (by omega) ih a[i].f1.length 0 (by omega)
          rw [List.drop_zero, List.drop_zero] at h2
          have e3 : decide (a.drop i = b.drop i) = (decide (a[i].f1 = b[i].f1) && decide (a.drop (i + 1) = b.drop (i + 1))) := by
            rw [Bool.eq_iff_iff, decide_eq_true_eq, e, e2, Bool.and_eq_true, decide_eq_true_eq, decide_eq_true_eq]
            exact ⟨fun h => ⟨h.1.2, h.2⟩, fun h => ⟨⟨c0, h.1⟩, h.2⟩⟩
          rw [e3]
          refine Ev.congr (f := fun k => manteletref14_Same.j1 k a b (i : Int) false) (fun k => ?_) (Ev.step (fun k => ?_) h2)
          · rw [if_neg (by simp [c0])]
            simp [c1]
          · simp only [manteletref14_Same.j1]; rw [if_neg (by decide)]; rfl
        · have e3 : decide (a.drop i = b.drop i) = false := by
            rw [decide_eq_false_iff_not, e, e2]
            intro h; exact c1 (by rw [h.1.2])
          rw [e3]
          refine Ev.congr (f := fun k => manteletref14_Same.j1 k a b (i : Int) true) (fun k => ?_) (Ev.step (f := fun _ => some false) (fun k => ?_) (Ev.now false))
          · rw [if_neg (by simp [c0])]
            have : ((a[i].f1.length : Int) != (b[i].f1.length : Int)) = true := by rw [bne_iff_ne]; omega
            rw [this]
          · simp only [manteletref14_Same.j1]; rw [if_pos trivial]
      · have e3 : decide (a.drop i = b.drop i) = false := by
          rw [decide_eq_false_iff_not, e, e2]
          intro h; exact c0 h.1.1
        rw [e3]
        refine Ev.congr (f := fun k => manteletref14_Same.j1 k a b (i : Int) true) (fun k => ?_) (Ev.step (f := fun _ => some false) (fun k => ?_) (Ev.now false))
        · rw [if_pos (by simp [c0])]
        · simp only [manteletref14_Same.j1]; rw [if_pos trivial]
theorem Same14 (a b : List S31) (ha : OkA a) : Ev (fun k => manteletref14_Same.f k a b) (decide (a = b)) := by
  unfold manteletref14_Same.f
  by_cases h : a.length = b.length
  · refine Ev.congr (fun k => ?_) (same_l0 a b h ha a.length 0 (by omega))
    rw [if_pos (by omega)]; rfl
  · rw [decide_eq_false (fun e => h (by rw [e]))]
    refine Ev.congr (fun k => ?_) (Ev.now false)
    rw [if_neg (by omega)]
theorem few_l0 (l : List ByteArray) : ∀ (d i : Nat), i + d = l.length → ∃ b, Ev (fun k => manteletlaw14_few.l0 k l (i : Int)) b ∧ (b = true → l.length ≤ 60 ∧ ∀ x ∈ l.drop i, x.size ≤ 20)
  | 0, i, hd => by
    refine ⟨decide ((l.length : Int) ≤ 60), Ev.step (f := fun k => manteletlaw14_few.j1 k l (i : Int) false) (fun k => ?_) (Ev.step (f := fun _ => some (decide ((l.length : Int) ≤ 60))) (fun k => ?_) (Ev.now _)), fun h => ?_⟩
    · simp only [manteletlaw14_few.l0]; rw [if_neg (by omega)]
    · simp only [manteletlaw14_few.j1]; rw [if_neg (by decide)]
    · have := of_decide_eq_true h
      rw [List.drop_eq_nil_of_le (by omega)]
      exact ⟨by omega, by simp⟩
  | d + 1, i, hd => by
    have hi : i < l.length := by omega
    by_cases h61 : i < 61
    · have s1 : ∀ k, manteletlaw14_few.l0 (k + 1) l (i : Int) = manteletlaw14_few.j1 k l (i : Int) true := fun k => by
        simp only [manteletlaw14_few.l0]; rw [if_pos (by omega), decide_eq_true (by omega)]
      by_cases h20 : l[i].size > 20
      · refine ⟨false, Ev.step s1 (Ev.step (f := fun _ => some false) (fun k => ?_) (Ev.now _)), fun h => by cases h⟩
        simp only [manteletlaw14_few.j1]; rw [if_pos trivial, if_pos (by omega), if_pos (by omega), rdS l i hi, if_pos (by omega)]
      · obtain ⟨b, h1, h2⟩ := few_l0 l d (i + 1) (by omega)
        refine ⟨b, Ev.step s1 (Ev.step (fun k => ?_) h1), fun h => ⟨(h2 h).1, fun x hx => ?_⟩⟩
        · simp only [manteletlaw14_few.j1]; rw [if_pos trivial, if_pos (by omega), if_pos (by omega), rdS l i hi, if_neg (by omega), w64 (by omega) (by omega)]; rfl
        · rw [List.drop_eq_getElem_cons hi] at hx
          rcases List.mem_cons.1 hx with rfl | hx
          · omega
          · exact (h2 h).2 x hx
    · refine ⟨decide ((l.length : Int) ≤ 60), Ev.step (f := fun k => manteletlaw14_few.j1 k l (i : Int) false) (fun k => ?_) (Ev.step (f := fun _ => some (decide ((l.length : Int) ≤ 60))) (fun k => ?_) (Ev.now _)), fun h => ?_⟩
      · simp only [manteletlaw14_few.l0]; rw [if_pos (by omega), decide_eq_false (by omega)]
      · simp only [manteletlaw14_few.j1]; rw [if_neg (by decide)]
      · have := of_decide_eq_true h
        omega
theorem few14 (l : List ByteArray) : ∃ b, Ev (fun k => manteletlaw14_few.f k l) b ∧ (b = true → l.length ≤ 60 ∧ ∀ x ∈ l, x.size ≤ 20) := by
  have := few_l0 l l.length 0 (by omega)
  rw [List.drop_zero] at this
  exact this
theorem build_shown : buildR [⟨#[97, 98]⟩, ⟨#[99, 98]⟩] = ([⟨true, []⟩, ⟨false, [⟨98, 0⟩]⟩, ⟨false, [⟨97, 1⟩, ⟨99, 1⟩]⟩], 0) := by
  have hw : wordsN [⟨#[97, 98]⟩, ⟨#[99, 98]⟩] = [[97, 98], [99, 98]] := by decide
  unfold buildR
  rw [hw, if_neg (by decide), if_pos (by decide)]
  have hb : build [[97, 98], [99, 98]] = [(true, []), (false, [(98, 0)]), (false, [(97, 1), (99, 1)])] := by
    simp [build, finish, add, Daw.start, leave, common, num, ends]
    decide
  rw [hb]
  rfl
theorem shown14 : Ev manteletlaw14_shown.f true := by
  unfold manteletlaw14_shown.f
  have hb : daw_Build.f [(⟨#[97, 98]⟩ : ByteArray), (⟨#[99, 98]⟩ : ByteArray)] = some ([⟨true, []⟩, ⟨false, [⟨98, 0⟩]⟩, ⟨false, [⟨97, 1⟩, ⟨99, 1⟩]⟩], 0) := by
    unfold daw_Build.f
    rw [if_pos (by decide), build_shown]
  have hs := Same14 [⟨true, []⟩, ⟨false, [⟨98, 0⟩]⟩, ⟨false, [⟨97, 1⟩, ⟨99, 1⟩]⟩] [⟨true, []⟩, ⟨false, [⟨98, 0⟩]⟩, ⟨false, [⟨97, 1⟩, ⟨99, 1⟩]⟩] ⟨by decide, by simp⟩
  rw [decide_eq_true rfl] at hs
  refine Ev.congr (f := fun k => (manteletref14_Same.f k [⟨true, []⟩, ⟨false, [⟨98, 0⟩]⟩, ⟨false, [⟨97, 1⟩, ⟨99, 1⟩]⟩] [⟨true, []⟩, ⟨false, [⟨98, 0⟩]⟩, ⟨false, [⟨97, 1⟩, ⟨99, 1⟩]⟩]).bind fun t => some t) (fun k => ?_) (Ev.bind hs (Ev.now true))
  rw [hb]
  simp only [Option.bind_some]
  rw [if_pos trivial]
/-! ### the bytes of edges -/
def Byt (s : DS) : Prop := ∀ e ∈ s.2, e.1 < 256
theorem num_byt {left : List DS} {s : DS} (h : ∀ t ∈ left, Byt t) (hs : Byt s) : ∀ t ∈ (num left s).1, Byt t := by
  unfold num
  by_cases c : s ∈ left
  · rw [if_pos c]; exact h
  · rw [if_neg c]
    intro t ht
    rcases List.mem_append.1 ht with ht | ht
    · exact h t ht
    · rw [List.mem_singleton.1 ht]; exact hs
theorem leave_byt (W : List Nat) (hW : ∀ j, W.getD j 0 < 256) (n : Nat) : ∀ (k : Nat) (left path : List DS), path.length = k → (∀ t ∈ left, Byt t) → (∀ t ∈ path, Byt t) → (∀ t ∈ (leave W n left path).1, Byt t) ∧ ∀ t ∈ (leave W n left path).2, Byt t
  | 0, left, [], _, h1, h2 => by rw [leave]; exact ⟨h1, h2⟩
  | 1, left, [s], _, h1, h2 => by rw [leave]; exact ⟨h1, h2⟩
  | k + 2, left, s :: u :: r, hk, h1, h2 => by
    rw [leave]
    by_cases h : n < r.length + 1
    · rw [if_pos h]
      refine leave_byt W hW n (k + 1) _ _ (by simpa using hk) (num_byt h1 (h2 s (by simp))) (fun t ht => ?_)
      rcases List.mem_cons.1 ht with rfl | ht
      · intro e he
        rcases List.mem_append.1 he with he | he
        · exact h2 u (by simp) e he
        · rw [List.mem_singleton.1 he]; exact hW _
      · exact h2 t (by simp [ht])
    · rw [if_neg h]; exact ⟨h1, h2⟩
theorem getD_byt {w : List Nat} (h : ∀ c ∈ w, c < 256) (j : Nat) : w.getD j 0 < 256 := by
  rw [List.getD_eq_getElem?_getD]
  cases e : w[j]? with
  | none => decide
  | some c => exact h c (List.mem_of_getElem? e)
theorem ends_byt {p : List DS} (h : ∀ t ∈ p, Byt t) : ∀ t ∈ ends p, Byt t := by
  cases p with
  | nil => simp [ends]
  | cons s r =>
    intro t ht
    rcases List.mem_cons.1 ht with rfl | ht
    · exact h s (by simp)
    · exact h t (by simp [ht])
theorem add_byt {x : Daw.B} {w : List Nat} (h1 : ∀ t ∈ x.left, Byt t) (h2 : ∀ t ∈ x.path, Byt t) (hx : ∀ c ∈ x.word, c < 256) : (∀ t ∈ (add x w).left, Byt t) ∧ ∀ t ∈ (add x w).path, Byt t := by
  obtain ⟨g1, g2⟩ := leave_byt x.word (getD_byt hx) (common w x.word) _ x.left x.path rfl h1 h2
  refine ⟨g1, ends_byt (fun t ht => ?_)⟩
  rcases List.mem_append.1 ht with ht | ht
  · rw [List.eq_of_mem_replicate ht]; intro e he; simp at he
  · exact g2 t ht
theorem adds_byt : ∀ (l : List (List Nat)) (x : Daw.B), (∀ w ∈ l, ∀ c ∈ w, c < 256) → (∀ t ∈ x.left, Byt t) → (∀ t ∈ x.path, Byt t) → (∀ c ∈ x.word, c < 256) → (∀ t ∈ (l.foldl add x).left, Byt t) ∧ (∀ t ∈ (l.foldl add x).path, Byt t) ∧ ∀ c ∈ (l.foldl add x).word, c < 256
  | [], x, _, h1, h2, h3 => ⟨h1, h2, h3⟩
  | w :: l, x, hl, h1, h2, h3 => by
    obtain ⟨g1, g2⟩ := add_byt (w := w) h1 h2 h3
    exact adds_byt l (add x w) (fun v hv => hl v (by simp [hv])) g1 g2 (hl w (by simp))
theorem build_byt (l : List (List Nat)) (hl : ∀ w ∈ l, ∀ c ∈ w, c < 256) : ∀ t ∈ build l, Byt t := by
  obtain ⟨g1, g2, g3⟩ := adds_byt l Daw.start hl (by simp [Daw.start]) (by intro t ht e he; simp [Daw.start] at ht; subst ht; simp at he) (by simp [Daw.start])
  obtain ⟨k1, k2⟩ := leave_byt (l.foldl add Daw.start).word (getD_byt g3) 0 _ (l.foldl add Daw.start).left (l.foldl add Daw.start).path rfl g1 g2
  unfold build finish
  split
  · rename_i s r hp
    rw [hp] at k2
    exact num_byt k1 (k2 s (by simp))
  · exact k1
theorem rising_len : ∀ (l : List DE) (m N : Nat), Rising l → (∀ e ∈ l, m ≤ e.1 ∧ e.1 < N) → l.length ≤ N - m
  | [], _, _, _, _ => by simp
  | e :: r, m, N, h, hl => by
    have h1 := hl e (by simp)
    have := rising_len r (e.1 + 1) N h.2 (fun f hf => ⟨h.1 f hf, (hl f (by simp [hf])).2⟩)
    simp only [List.length_cons]; omega
theorem nats_byt (s : ByteArray) : ∀ c ∈ Utf.nats s, c < 256 := by
  intro c hc
  unfold Utf.nats at hc
  obtain ⟨b, _, rfl⟩ := List.mem_map.1 hc
  exact UInt8.toNat_lt b
theorem wordsN_byt (l : List ByteArray) : ∀ w ∈ wordsN l, ∀ c ∈ w, c < 256 := by
  intro w hw
  unfold wordsN at hw
  obtain ⟨s, _, rfl⟩ := List.mem_map.1 hw
  exact nats_byt s
theorem build_nil : build [] = [(false, [])] := by
  simp [build, finish, Daw.start, leave, num]
theorem words_rise {l : List (List Nat)} (h0 : [] ∉ l) (h : l.Pairwise (· < ·)) : ([] :: l).Pairwise (· < ·) := by
  rw [List.pairwise_cons]
  refine ⟨fun w hw => ?_, h⟩
  cases w with
  | nil => exact absurd hw h0
  | cons a t => exact List.nil_lt_cons a t
/-- What was built: each state's edges few, to lower ones, rising; ending or going on; no two alike. -/
theorem build_good (l : List ByteArray) (h0 : [] ∉ wordsN l) (h : (wordsN l).Pairwise (· < ·)) :
    (build (wordsN l)).Nodup ∧ (∀ i s, (build (wordsN l))[i]? = some s → Row i s ∧ (l ≠ [] → Alive s) ∧ s.2.length ≤ 256 ∧ Byt s) ∧ 1 ≤ (build (wordsN l)).length ∧ (build (wordsN l)).length ≤ 1 + (l.map ByteArray.size).sum := by
  have hby := build_byt (wordsN l) (wordsN_byt l)
  have hlen : ∀ i s, (build (wordsN l))[i]? = some s → Row i s → s.2.length ≤ 256 ∧ Byt s := fun i s hs hr => by
    have hb := hby s (List.mem_of_getElem? hs)
    exact ⟨by have := rising_len s.2 0 256 hr.2 (fun e he => ⟨Nat.zero_le _, hb e he⟩); omega, hb⟩
  by_cases hl : l = []
  · subst hl
    have hw : wordsN [] = [] := rfl
    rw [hw, build_nil]
    refine ⟨by simp, fun i s hs => ?_, by simp, by simp⟩
    cases i with
    | zero =>
      have : (false, []) = s := by simpa using hs
      subst this
      exact ⟨⟨by simp, trivial⟩, fun h => absurd rfl h, by simp, by intro e he; simp at he⟩
    | succ i => simp at hs
  · have hne : wordsN l ≠ [] := by unfold wordsN; simpa using hl
    obtain ⟨g1, g2, g3, g4⟩ := build_least (wordsN l) (words_rise h0 h) hne
    refine ⟨g1, fun i s hs => ?_, g3, ?_⟩
    · obtain ⟨k1, k2⟩ := g2 i s hs
      exact ⟨k1, fun _ => k2, hlen i s hs k1⟩
    · have e : ((wordsN l).map List.length) = l.map ByteArray.size := by
        unfold wordsN
        rw [List.map_map]
        exact List.map_congr_left (fun s _ => nats_len s)
      rw [e] at g4
      exact g4
end Go.Proofs.Ytebdcblchjhmpaa.K
