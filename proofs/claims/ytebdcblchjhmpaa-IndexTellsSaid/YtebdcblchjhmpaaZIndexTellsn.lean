/- IndexTells. (The texts that the proof is made of, one behind the other: part 14 of 15.) -/
import Derived.Test.YtebdcblchjhmpaaProg
import Derived.Below
import Derived.Deep.Draws
import Derived.Deep.AppendLies
import Derived.Maps.AppendAt
import Derived.OwnWalk
import Derived.Laws.BytesArg
import Derived.Laws.MakeOwn
import Derived.Laws.OwnMore
import Derived.Deep.OwnRows
import Derived.Tactics
import Derived.Lib.ConvBytes
import Derived.Laws.Slices
import Derived.WalkKit
import Derived.KernelRfl
import Derived.RowKit3
import Derived.Deep.LoopGhost
import Derived.Deep.QuietTactic
import Derived.BigQuiet
import Derived.WideLaws
import Derived.Deep.DeepCutAuto
import Derived.Deep.CutBlock
import Derived.Deep.RegionHeld3
import Derived.Laws.Rows
import Derived.Lib.AppendStr
import Derived.ArgAppend
import Derived.Laws.IdiomCopy
import Derived.OrdersHeld
import Derived.Laws.BitsLemmas
import Derived.RowKit
import Derived.Lib.OthersKept
import Derived.WalkSmall
import Derived.Deep.RegionLaw
import Derived.BigRegion
import Derived.Shelf.Pu.Clone
import Derived.Laws.EntriesVeiled
import Derived.Test.YtebdcblchjhmpaaZIndexTellsa
import Derived.Test.YtebdcblchjhmpaaZIndexTellsb
import Derived.Test.YtebdcblchjhmpaaZIndexTellsc
import Derived.Test.YtebdcblchjhmpaaZIndexTellsd
import Derived.Test.YtebdcblchjhmpaaZIndexTellse
import Derived.Test.YtebdcblchjhmpaaZIndexTellsf
import Derived.Test.YtebdcblchjhmpaaZIndexTellsg
import Derived.Test.YtebdcblchjhmpaaZIndexTellsh
import Derived.Test.YtebdcblchjhmpaaZIndexTellsi
import Derived.Test.YtebdcblchjhmpaaZIndexTellsj
import Derived.Test.YtebdcblchjhmpaaZIndexTellsk
import Derived.Test.YtebdcblchjhmpaaZIndexTellsl
import Derived.Test.YtebdcblchjhmpaaZIndexTellsm
namespace Go.Proofs.Ytebdcblchjhmpaa.Daw
set_option linter.unusedVariables false
set_option linter.unusedSimpArgs false
/-- The words taken from state i on. -/
def wl (b : List DS) (i : Nat) : List (List Nat) := listing b (i + 1) i
theorem listing_fuel {b : List DS} (h : Good b) : ∀ (i k : Nat), i < k → i < b.length → listing b k i = listing b (i + 1) i := by
  intro i
  induction i using Nat.strongRecOn with
  | _ i ih =>
    intro k hk hi
    obtain ⟨k, rfl⟩ : ∃ q, k = q + 1 := ⟨k - 1, by omega⟩
    have e0 : b[i]? = some b[i] := List.getElem?_eq_getElem hi
    have hrow := (h.2 i _ e0).1
    unfold listing
    rw [e0]
    simp only
    congr 1
    have : ∀ es : List DE, (∀ e ∈ es, e.2 < i) → (es.flatMap fun e => (listing b k e.2).map (e.1 :: ·)) = es.flatMap fun e => (listing b i e.2).map (e.1 :: ·) := by
      intro es hes
      induction es with
      | nil => rfl
      | cons e r ihr =>
        have he := hes e (by simp)
        rw [List.flatMap_cons, List.flatMap_cons, ihr (fun f hf => hes f (by simp [hf])), ih e.2 he k (by omega) (by omega), ih e.2 he i (by omega) (by omega)]
    exact this _ (fun e he => hrow.1 e he)
theorem wl_eq {b : List DS} (h : Good b) {i : Nat} (hi : i < b.length) : wl b i = (if b[i].1 = true then [[]] else []) ++ b[i].2.flatMap fun e => (wl b e.2).map (e.1 :: ·) := by
  have e0 : b[i]? = some b[i] := List.getElem?_eq_getElem hi
  have hrow := (h.2 i _ e0).1
  show listing b (i + 1) i = _
  unfold listing
  rw [e0]
  simp only
  congr 1
  have : ∀ es : List DE, (∀ e ∈ es, e.2 < i) → (es.flatMap fun e => (listing b i e.2).map (e.1 :: ·)) = es.flatMap fun e => (wl b e.2).map (e.1 :: ·) := by
    intro es hes
    induction es with
    | nil => rfl
    | cons e r ihr =>
      have he := hes e (by simp)
      rw [List.flatMap_cons, List.flatMap_cons, ihr (fun f hf => hes f (by simp [hf])), listing_fuel h e.2 i he (by omega)]
      rfl
  exact this _ (fun e he => hrow.1 e he)
theorem mem_wl {b : List DS} (h : Good b) {i : Nat} (hi : i < b.length) (v : List Nat) : v ∈ wl b i ↔ acc b i v = true := mem_listing h (i + 1) i (by omega) hi v
theorem wl_sorted {b : List DS} (h : Good b) (i : Nat) : (wl b i).Pairwise (· < ·) := sorted_listing h _ i
/-- How many words are taken from a state on. -/
def cnt (b : List DS) (i : Nat) : Nat := (wl b i).length
def own (s : DS) : Nat := if s.1 = true then 1 else 0
theorem len_flat (f : DE → List (List Nat)) : ∀ es : List DE, (es.flatMap fun e => (f e).map (e.1 :: ·)).length = (es.map fun e => (f e).length).sum
  | [] => rfl
  | e :: r => by rw [List.flatMap_cons, List.length_append, List.length_map, len_flat f r]; simp
theorem cnt_eq {b : List DS} (h : Good b) {i : Nat} (hi : i < b.length) : cnt b i = own b[i] + (b[i].2.map fun e => cnt b e.2).sum := by
  unfold cnt
  rw [wl_eq h hi, List.length_append, len_flat]
  congr 1
  unfold own
  split <;> rfl
theorem cnt_root (l : List (List Nat)) (hs : ([] :: l).Pairwise (· < ·)) (hl : l ≠ []) : wl (build l) ((build l).length - 1) = l := by
  have h1 := (build_least l hs hl).2.2.1
  exact build_lists l hs hl _ (by omega)
/-- From each state on what is taken is the rest of a word. -/
theorem build_reach (l : List (List Nat)) (hs : ([] :: l).Pairwise (· < ·)) (hl : l ≠ []) : Good (build l) ∧ ∀ j, j < (build l).length → ∃ u : List Nat, ∀ v, acc (build l) j v = true → (u ++ v) ∈ l := by
  have h := adds_ok l start 0 start_ok hs
  have hlang := adds_lang l start 0 start_ok hs
  have hreach := adds_reach l start 0 start_ok hs (fun j hj => absurd hj (by simp [start]))
  obtain ⟨s, r, hp, hrl, hse, hsf, hP⟩ := h.path
  have hrow : Row (l.foldl add start).left.length s := ⟨by simp [hse], by rw [hse]; trivial⟩
  obtain ⟨s', r', q1, q2, q3, q4, q5, q6, q7, q8, q9⟩ := leave_ok (l.foldl add start).word 0 r.length _ s r rfl (Nat.zero_le _) h.good hrow (fun h0 => Or.inl (hsf h0)) hP (by omega)
  have hlr := leave_reach (l.foldl add start).word 0 (lang (l.foldl add start).left (l.foldl add start).word (l.foldl add start).path) r.length _ s r rfl h.good hrow (fun h0 => Or.inl (hsf h0)) hP hreach (fun v hv => by rw [hp]; exact hv)
  rw [← hp] at q1 q3 q4 q5 q6 q8 q9 hlr
  have hlangl : ∀ v, lang (l.foldl add start).left (l.foldl add start).word (l.foldl add start).path v = decide (v ∈ l) := by
    intro v
    have h0 : lang start.left start.word start.path v = false := by cases v <;> simp [start, lang, PL, accS, fnd]
    rw [hlang v, h0, Bool.false_or]
  obtain ⟨a, t, hb, hg, hacc⟩ := build_takes l hs hl
  have hb2 : build l = (num (leave (l.foldl add start).word 0 (l.foldl add start).left (l.foldl add start).path).1 s').1 := by
    unfold build finish
    rw [q1]
  refine ⟨by rw [hb]; exact hg, fun j hj => ?_⟩
  by_cases hja : j = a.length
  · subst hja
    exact ⟨[], fun v hv => by rw [hacc] at hv; simpa using hv⟩
  · have hjl : j < (leave (l.foldl add start).word 0 (l.foldl add start).left (l.foldl add start).path).1.length := by
      have h1 : (build l).length ≤ (leave (l.foldl add start).word 0 (l.foldl add start).left (l.foldl add start).path).1.length + 1 := by
        rw [hb2]; unfold num; split
        · exact Nat.le_succ _
        · simp
      have h2 : (build l).length = a.length + 1 := by rw [hb]; simp
      omega
    obtain ⟨u, _, hv⟩ := hlr j hjl
    refine ⟨u, fun v h1 => ?_⟩
    have e : acc (build l) j v = acc (leave (l.foldl add start).word 0 (l.foldl add start).left (l.foldl add start).path).1 j v := by
      rw [hb2]; unfold num; split
      · rfl
      · exact acc_ext q3 v j hjl
    rw [e] at h1
    have h2 := hv v h1
    rw [hlangl] at h2
    exact of_decide_eq_true h2
theorem nodup_len : ∀ (x y : List (List Nat)), x.Nodup → (∀ v ∈ x, v ∈ y) → x.length ≤ y.length
  | [], y, _, _ => Nat.zero_le _
  | a :: x, y, hn, h => by
    rw [List.nodup_cons] at hn
    have ha := h a (by simp)
    have := nodup_len x (y.erase a) hn.2 (fun v hv => (List.mem_erase_of_ne (fun e => hn.1 (by rw [← e]; exact hv))).2 (h v (by simp [hv])))
    rw [List.length_erase_of_mem ha] at this
    have := List.length_pos_of_mem ha
    simp only [List.length_cons]; omega
/-- No state takes more words than there are. -/
theorem cnt_le (l : List (List Nat)) (hs : ([] :: l).Pairwise (· < ·)) (hl : l ≠ []) {j : Nat} (hj : j < (build l).length) : cnt (build l) j ≤ l.length := by
  obtain ⟨hg, hr⟩ := build_reach l hs hl
  obtain ⟨u, hu⟩ := hr j hj
  have h1 : ((wl (build l) j).map (u ++ ·)).Nodup := by
    unfold List.Nodup
    rw [List.pairwise_map]
    refine (wl_sorted hg j).imp (fun {a b} hab e => ?_)
    have : a = b := List.append_cancel_left e
    subst this
    exact List.lt_irrefl a hab
  have := nodup_len _ l h1 (fun v hv => by
    obtain ⟨x, hx, rfl⟩ := List.mem_map.1 hv
    exact hu x ((mem_wl hg hj x).1 hx))
  rw [List.length_map] at this
  exact this
theorem fnd_split {s : DS} (hr : Rising s.2) {c : Nat} {e : DE} (h : fnd s c = some e) : ∃ pre post, s.2 = pre ++ e :: post ∧ e.1 = c ∧ (∀ f ∈ pre, f.1 < c) ∧ (∀ f ∈ post, c < f.1) := by
  unfold fnd at h
  obtain ⟨b, l⟩ := s
  simp only at hr h ⊢
  induction l with
  | nil => simp at h
  | cons a r ih =>
    rw [List.find?_cons] at h
    by_cases hc : (a.1 == c) = true
    · rw [hc] at h
      have e1 : a = e := by simpa using h
      subst e1
      have hac : a.1 = c := by simpa using hc
      exact ⟨[], r, rfl, hac, by simp, fun f hf => by rw [← hac]; exact hr.1 f hf⟩
    · have hc' : (a.1 == c) = false := by simpa using hc
      rw [hc'] at h
      obtain ⟨pre, post, h1, h2, h3, h4⟩ := ih hr.2 h
      refine ⟨a :: pre, post, by rw [h1]; rfl, h2, fun f hf => ?_, h4⟩
      rcases List.mem_cons.1 hf with rfl | hf
      · have : f.1 < e.1 := hr.1 e (by rw [h1]; simp)
        omega
      · exact h3 f hf
theorem idx_skip {α : Type} [BEq α] [LawfulBEq α] (x y : List α) (v : α) (h : v ∉ x) : (x ++ y).idxOf v = x.length + y.idxOf v := by
  rw [List.idxOf_append, if_neg h]
  omega
theorem idx_cons (c : Nat) (x : List (List Nat)) (v : List Nat) : (x.map (c :: ·)).idxOf (c :: v) = x.idxOf v := by
  induction x with
  | nil => rfl
  | cons a r ih =>
    rw [List.map_cons, List.idxOf_cons, List.idxOf_cons, ih]
    by_cases h : a = v
    · subst h; simp
    · have h1 : (a == v) = false := by simpa using h
      have h2 : ((c :: a) == (c :: v)) = false := by simpa using h
      rw [h1, h2]
/-- The place of a word behind byte c: what the state takes by itself, what lower bytes lead to, and its place there. -/
theorem place_cons {b : List DS} (h : Good b) {i : Nat} (hi : i < b.length) {c : Nat} {v : List Nat} {e : DE} {pre post : List DE} (hs : b[i].2 = pre ++ e :: post) (he : e.1 = c) (hpre : ∀ f ∈ pre, f.1 < c) (hv : v ∈ wl b e.2) :
    (wl b i).idxOf (c :: v) = own b[i] + (pre.map fun f => cnt b f.2).sum + (wl b e.2).idxOf v := by
  rw [wl_eq h hi, hs, List.flatMap_append, List.flatMap_cons]
  have h1 : (c :: v) ∉ (if b[i].1 = true then [[]] else [] : List (List Nat)) := by split <;> simp
  have h2 : (c :: v) ∉ pre.flatMap fun e => (wl b e.2).map (e.1 :: ·) := by
    intro hm
    obtain ⟨f, hf, hm⟩ := List.mem_flatMap.1 hm
    obtain ⟨u, _, hu⟩ := List.mem_map.1 hm
    have := hpre f hf
    injection hu with hu _
    omega
  have h3 : (c :: v) ∈ (wl b e.2).map (e.1 :: ·) := List.mem_map.2 ⟨v, hv, by rw [he]⟩
  rw [idx_skip _ _ _ h1, idx_skip _ _ _ h2, List.idxOf_append, if_pos h3, he, idx_cons, len_flat]
  have : (if b[i].1 = true then [[]] else [] : List (List Nat)).length = own b[i] := by unfold own; split <;> rfl
  rw [this]
  unfold cnt
  omega
theorem place_nil {b : List DS} (h : Good b) {i : Nat} (hi : i < b.length) (hv : [] ∈ wl b i) : (wl b i).idxOf [] = 0 := by
  rw [mem_wl h hi, acc_at (s := b[i]) (List.getElem?_eq_getElem hi)] at hv
  rw [wl_eq h hi, if_pos (show b[i].1 = true from hv)]
  rfl
end Go.Proofs.Ytebdcblchjhmpaa.Daw

namespace Go.Proofs.Ytebdcblchjhmpaa.K
open Go.RowKit Go.Proofs.YtebdcblchjhmpaaW.PrintWords Go.Proofs.YtebdcblchjhmpaaW.PrintLast Go.Proofs.YtebdcblchjhmpaaW.PrintMore Go.Proofs.Ytebdcblchjhmpaa
attribute [local go_sem] max2_int min2_int max_two min_two max_three min_three max_four min_four
set_option linter.unusedVariables false
set_option linter.unusedSimpArgs false
open Go.Proofs.Ytebdcblchjhmpaa.PDk Go.Proofs.Ytebdcblchjhmpaa.PDm Go.Proofs.Ytebdcblchjhmpaa.PIx Go.Proofs.Ytebdcblchjhmpaa.Daw
theorem u64_small {x : Int} (h0 : 0 ≤ x) (h1 : x < 18446744073709551616) : IntKind.u64.wrap x = x := by
  simp only [IntKind.wrap, IntKind.bits, IntKind.signed]
  simp
  omega
theorem wx {x : Int} (h0 : -9223372036854775808 ≤ x) (h1 : x < 9223372036854775808) : Go.RowKit.wrap64 x = x := by unfold Go.RowKit.wrap64; omega
theorem rdS31 (l : List S31) (i : Nat) (h : i < l.length) : rd_T31 l (i : Int) = l[i] := by
  unfold rd_T31
  rw [Int.toNat_natCast, List.getD_eq_getElem?_getD, List.getElem?_eq_getElem h]; rfl
theorem rdS33 (l : List S33) (i : Nat) (h : i < l.length) : rd_T33 l (i : Int) = l[i] := by
  unfold rd_T33
  rw [Int.toNat_natCast, List.getD_eq_getElem?_getD, List.getElem?_eq_getElem h]; rfl
theorem own_f (s : DS) : index_own.f (toS s).f0 (toS s).f1 = some ((own s : Nat) : Int) := by
  unfold index_own.f own
  show (if s.1 = true then _ else _) = _
  split <;> simp_all
theorem add_f {a b : Nat} (h : a + b ≤ 4611686018427387904) : num_Add.f (a : Int) (b : Int) = some (((a + b : Nat) : Int), true) := by
  unfold num_Add.f
  rw [if_neg (by omega), u64_small (x := 4611686018427387904 - (a : Int)) (by omega) (by omega), if_neg (by omega), u64_small (by omega) (by omega)]
  simp
/-- What is known of an automaton: edges lead lower; the counts. -/
structure Cnt (b : List DS) (cs : Nat → Nat) : Prop where
  low : ∀ i (h : i < b.length), ∀ e ∈ b[i].2, e.2 < i
  eq : ∀ i (h : i < b.length), cs i = own b[i] + (b[i].2.map fun e => cs e.2).sum
  le : ∀ i, i < b.length → cs i ≤ 4611686018427387904
  few : ∀ i (h : i < b.length), b[i].2.length ≤ 8796093022208
  len : b.length ≤ 4398046511104
def csL (cs : Nat → Nat) (n : Nat) : List Int := (List.range n).map fun i => (cs i : Int)
theorem csL_len (cs : Nat → Nat) (n : Nat) : (csL cs n).length = n := by simp [csL]
theorem csL_succ (cs : Nat → Nat) (n : Nat) : csL cs (n + 1) = csL cs n ++ [(cs n : Int)] := by unfold csL; rw [List.range_succ]; simp
theorem rd_csL (cs : Nat → Nat) (n m i : Nat) (h : i < n) : rd (csL cs n ++ List.replicate m 0) (i : Int) = (cs i : Int) := by
  rw [rd_nat, List.getD_eq_getElem?_getD, List.getElem?_append_left (by rw [csL_len]; exact h)]
  unfold csL
  rw [List.getElem?_map, List.getElem?_range h]
  rfl
theorem sum_take_le (f : DE → Nat) (es : List DE) (j : Nat) : ((es.take j).map f).sum ≤ (es.map f).sum := by
  have e : es = es.take j ++ es.drop j := (List.take_append_drop j es).symm
  conv => rhs; rw [e]
  rw [List.map_append, List.sum_append]; omega
theorem sum_take_succ (f : DE → Nat) (es : List DE) (j : Nat) (h : j < es.length) : ((es.take (j + 1)).map f).sum = ((es.take j).map f).sum + f es[j] := by
  rw [List.take_succ_eq_append_getElem h, List.map_append, List.sum_append]; simp
section
variable {b : List DS} {cs : Nat → Nat}
theorem toS_get (i : Nat) (h : i < b.length) : (b.map toS)[i]'(by rw [List.length_map]; exact h) = toS b[i] := List.getElem_map ..
theorem counts_l1 (h : Cnt b cs) (i : Nat) (hi : i < b.length) {r : List Int × Int} (hn : Ev (fun k => index_Counts.l0 k (b.map toS) (csL cs (i + 1) ++ List.replicate (b.length - (i + 1)) 0) (b.length : Int) ((i + 1 : Nat) : Int)) r) :
    ∀ (d j : Nat), j + d = b[i].2.length → Ev (fun k => index_Counts.l1 k (b.map toS) (csL cs i ++ List.replicate (b.length - i) 0) (i : Int) ((own b[i] + ((b[i].2.take j).map fun e => cs e.2).sum : Nat) : Int) (b.length : Int) (i : Int) (toS b[i]).f1 ((toS b[i]).f1.length : Int) (j : Int)) r
  | 0, j, hd => by
    have hl := h.len
    have hj : b[i].2.take j = b[i].2 := List.take_of_length_le (by omega)
    have he : (toS b[i]).f1.length = b[i].2.length := by simp [toS]
    rw [hj, ← h.eq i hi]
    refine Ev.step (fun k => ?_) hn
    simp only [index_Counts.l1]
    rw [if_neg (by omega), if_pos (by omega), if_pos (by rw [List.length_append, csL_len, List.length_replicate]; omega), wx (by omega) (by omega), Int.toNat_natCast]
    have hset : (csL cs i ++ List.replicate (b.length - i) 0).set i (cs i : Int) = csL cs (i + 1) ++ List.replicate (b.length - (i + 1)) 0 := by
      rw [csL_succ, List.set_append_right _ _ (by rw [csL_len]; exact Nat.le_refl _), csL_len, Nat.sub_self, show b.length - i = (b.length - (i + 1)) + 1 from by omega, List.replicate_succ, List.set_cons_zero, List.append_assoc]
      rfl
    rw [hset, show ((i : Int) + 1) = ((i + 1 : Nat) : Int) from by omega]
  | d + 1, j, hd => by
    have hl := h.len
    have hf := h.few i hi
    have ih := counts_l1 h i hi hn d (j + 1) (by omega)
    have hj : j < b[i].2.length := by omega
    have he : (toS b[i]).f1.length = b[i].2.length := by simp [toS]
    have hlow := h.low i hi _ (List.getElem_mem hj)
    have hle := h.le i hi
    have heq := h.eq i hi
    have s1 := sum_take_le (fun e => cs e.2) b[i].2 (j + 1)
    have s2 := sum_take_succ (fun e => cs e.2) b[i].2 j hj
    have hg : ((toS b[i]).f1[j]'(by omega)).f1 = ((b[i].2[j].2 : Nat) : Int) := by simp [toS, toE]
    refine Ev.step (fun k => ?_) ih
    simp only [index_Counts.l1]
    rw [if_pos (by omega), if_pos (by omega), if_pos (by omega), rdS33 _ j (by omega), hg, if_pos (by omega), if_pos (by rw [List.length_append, csL_len, List.length_replicate]; omega), rd_csL _ _ _ _ hlow, add_f (by omega), Option.bind_some, if_pos rfl, wx (x := (j : Int) + 1) (by omega) (by omega)]
    rw [s2, show ((j : Int) + 1) = ((j + 1 : Nat) : Int) from by omega, Nat.add_assoc]
theorem counts_l0 (h : Cnt b cs) : ∀ (d i : Nat), i + d = b.length → Ev (fun k => index_Counts.l0 k (b.map toS) (csL cs i ++ List.replicate (b.length - i) 0) (b.length : Int) (i : Int)) (csL cs b.length, 0)
  | 0, i, hd => by
    have : i = b.length := by omega
    subst this
    refine Ev.step (f := fun _ => some (csL cs b.length, 0)) (fun k => ?_) (Ev.now _)
    simp only [index_Counts.l0]
    rw [if_neg (by omega), Nat.sub_self]
    simp
  | d + 1, i, hd => by
    have hi : i < b.length := by omega
    have ih := counts_l0 h d (i + 1) (by omega)
    have h1 := counts_l1 h i hi ih b[i].2.length 0 (by omega)
    refine Ev.step (fun k => ?_) h1
    simp only [index_Counts.l0]
    rw [if_pos (by omega), if_pos (by omega), if_pos (by rw [List.length_map]; omega), rdS31 _ i (by rw [List.length_map]; exact hi), toS_get i hi, own_f, Option.bind_some]
    simp
theorem counts_ev (h : Cnt b cs) (hm : daw_May.f (b.map toS) = some true) : Ev (fun k => index_Counts.f k (b.map toS)) (csL cs b.length, 0) := by
  have hl := h.len
  refine Ev.congr (fun k => ?_) (counts_l0 h b.length 0 (by omega))
  unfold index_Counts.f
  rw [hm, Option.bind_some, if_pos rfl, List.length_map, if_pos (by omega), Int.toNat_natCast, if_pos (by omega)]
  simp [csL]
end
end Go.Proofs.Ytebdcblchjhmpaa.K

namespace Go.Proofs.Ytebdcblchjhmpaa.K
open Go.RowKit Go.Proofs.YtebdcblchjhmpaaW.PrintWords Go.Proofs.YtebdcblchjhmpaaW.PrintLast Go.Proofs.YtebdcblchjhmpaaW.PrintMore Go.Proofs.Ytebdcblchjhmpaa
attribute [local go_sem] max2_int min2_int max_two min_two max_three min_three max_four min_four
set_option linter.unusedVariables false
set_option linter.unusedSimpArgs false
open Go.Proofs.Ytebdcblchjhmpaa.PDk Go.Proofs.Ytebdcblchjhmpaa.PDm Go.Proofs.Ytebdcblchjhmpaa.PIx Go.Proofs.Ytebdcblchjhmpaa.Daw
theorem bt_nats (s : ByteArray) (i : Nat) (h : i < s.size) : bt s (i : Int) = (((Utf.nats s).getD i 0 : Nat) : Int) := by
  unfold bt
  rw [dif_pos (show ((i : Int)).toNat < s.size by omega)]
  unfold Utf.nats
  rw [List.getD_eq_getElem?_getD, List.getElem?_map, Array.getElem?_toList]
  simp only [Int.toNat_natCast]
  rw [Array.getElem?_eq_getElem (show i < s.data.size from h)]
  rfl
theorem nats_drop (s : ByteArray) (i : Nat) (h : i < s.size) : (Utf.nats s).drop i = (Utf.nats s).getD i 0 :: (Utf.nats s).drop (i + 1) := by
  have hl : i < (Utf.nats s).length := by simpa [Utf.nats] using h
  rw [List.drop_eq_getElem_cons hl, List.getD_eq_getElem?_getD, List.getElem?_eq_getElem hl]
  rfl
section
variable {b : List DS}
/-- What index knows of an automaton. -/
structure Known (b : List DS) : Prop where
  good : Daw.Good b
  cnt : Cnt b (Daw.cnt b)
theorem rd_cs (h : Known b) (i : Nat) (hi : i < b.length) : rd (csL (Daw.cnt b) b.length) (i : Int) = ((Daw.cnt b i : Nat) : Int) := by
  have := rd_csL (Daw.cnt b) b.length 0 i hi
  simpa using this
theorem toE_f0 (e : DE) : (toE e).f0 = (e.1 : Int) := rfl
theorem toE_f1 (e : DE) : (toE e).f1 = (e.2 : Int) := rfl
theorem of_l1 {R : List S31} {csl : List Int} {c : Nat → Nat} (x1 : ByteArray) (i : Nat) (hi : i < x1.size) (es pre post : List DE) (e : DE) (B : Nat) (hs : es = pre ++ e :: post) (he : e.1 = B) (hB : bt x1 (i : Int) = (B : Int)) (hpre : ∀ f ∈ pre, f.1 < B) (hpost : ∀ f ∈ post, B < f.1)
    (hlen : es.length ≤ 8796093022208) (hrd : ∀ f ∈ es, f.2 < csl.length ∧ rd csl (f.2 : Int) = ((c f.2 : Nat) : Int))
    (q : Nat → Nat) (hq : ∀ j (h : j < pre.length), q (j + 1) = q j + c pre[j].2) (hqe : ∀ j, pre.length ≤ j → q j = q pre.length) (hqm : ∀ j, q j ≤ 4611686018427387904) {r : Int × Bool}
    (hn : Ev (fun k => index_Of.l0 k R x1 csl ((q pre.length : Nat) : Int) (e.2 : Int) (x1.size : Int) (Go.RowKit.wrap64 ((i : Int) + 1))) r) :
    ∀ (d j : Nat), j + d = es.length → Ev (fun k => index_Of.l1 k R x1 csl ((q j : Nat) : Int) (i : Int) (if j ≤ pre.length then 0 else (e.2 : Int)) (x1.size : Int) (i : Int) (es.map toE) ((es.map toE).length : Int) (j : Int)) r
  | 0, j, hd => by
    have hl : es.length = pre.length + (post.length + 1) := by rw [hs]; simp
    rw [hqe j (by omega), if_neg (by omega)]
    refine Ev.step (fun k => ?_) hn
    simp only [index_Of.l1]
    rw [if_neg (by rw [List.length_map]; omega)]
  | d + 1, j, hd => by
    have ih := of_l1 x1 i hi es pre post e B hs he hB hpre hpost hlen hrd q hq hqe hqm hn d (j + 1) (by omega)
    have hl : es.length = pre.length + (post.length + 1) := by rw [hs]; simp
    have hj : j < es.length := by omega
    obtain ⟨hr1, hr2_⟩ := hrd _ (List.getElem_mem hj)
    have HB := Aside0.mk hB
    have hr2 := Aside0.mk hr2_
    clear hr2_ hB
    have hw := Aside0.mk (show Go.RowKit.wrap64 ((j : Int) + 1) = ((j + 1 : Nat) : Int) by rw [wx (by omega) (by omega)]; omega)
    have hg : (es.map toE)[j]'(by rw [List.length_map]; exact hj) = toE es[j] := List.getElem_map ..
    have q1 : (j : Int) < ((es.map toE).length : Int) := by rw [List.length_map]; omega
    have q2 : (0 : Int) ≤ (j : Int) := by omega
    have q3 : (0 : Int) ≤ (i : Int) := by omega
    have q4 : (i : Int) < (x1.size : Int) := by omega
    refine Ev.step (fun k => ?_) ih
    simp only [index_Of.l1]
    rw [if_pos q1, if_pos q2, if_pos q1, if_pos q3, if_pos q4, rdS33 _ j (by rw [List.length_map]; exact hj), hg, HB.out, hw.out]
    rw [toE_f0, toE_f1]
    by_cases c1 : j < pre.length
    · have hget : es[j] = pre[j] := by simp only [hs]; rw [List.getElem_append_left c1]
      have hlt := hpre _ (List.getElem_mem c1)
      have hq1 := hq j c1
      have hq2 := hqm (j + 1)
      rw [hget] at hr1 hr2 ⊢
      generalize pre[j] = pj at hr1 hr2 hlt hq1
      clear hq hqe hqm hrd hpre hpost hs hget
      have z1 : ((pj.1 : Nat) : Int) < (B : Int) := by omega
      have z2 : (0 : Int) ≤ ((pj.2 : Nat) : Int) := by omega
      have z3 : ((pj.2 : Nat) : Int) < (csl.length : Int) := by omega
      have z4 : j ≤ pre.length := by omega
      have z5 : j + 1 ≤ pre.length := by omega
      have z6 : IntKind.u64.wrap (((q j : Nat) : Int) + ((c pj.2 : Nat) : Int)) = ((q (j + 1) : Nat) : Int) := by rw [u64_small (by omega) (by omega)]; omega
      rw [if_pos z1, if_pos z2, if_pos z3, hr2.out, if_pos z4, if_pos z5, z6]
    · by_cases c2 : j = pre.length
      · have hget : es[j] = e := by
          simp only [hs]
          subst c2
          simp
        have hq1 := hqe (j + 1) (by omega)
        rw [hget, he, if_neg (Int.lt_irrefl _), if_pos rfl, hq1, if_neg (show ¬ j + 1 ≤ pre.length by omega)]
        rw [show q j = q pre.length from hqe j (by omega)]
      · have hget : es[j] ∈ post := by
          have h1 : es[j] = (e :: post)[j - pre.length]'(by simp; omega) := by simp only [hs]; rw [List.getElem_append_right (by omega)]
          rw [h1]
          obtain ⟨m, hm⟩ : ∃ m, j - pre.length = m + 1 := ⟨j - pre.length - 1, by omega⟩
          simp only [hm, List.getElem_cons_succ]
          exact List.getElem_mem _
        have hgt := hpost _ hget
        have z1 : ¬ ((es[j].1 : Nat) : Int) < (B : Int) := by omega
        have z2 : ¬ ((es[j].1 : Nat) : Int) = (B : Int) := by omega
        rw [if_neg z1, if_neg z2, hqe j (by omega), hqe (j + 1) (by omega), if_neg (show ¬ j + 1 ≤ pre.length by omega), if_neg (show ¬ j ≤ pre.length by omega)]
theorem of_l0 (h : Known b) (x1 : ByteArray) (hx : x1.size ≤ 140737488355328) : ∀ (d i at_ below : Nat), i + d = x1.size → at_ < b.length → below + Daw.cnt b at_ ≤ 4611686018427387904 → (Utf.nats x1).drop i ∈ wl b at_ →
    Ev (fun k => index_Of.l0 k (b.map toS) x1 (csL (Daw.cnt b) b.length) (below : Int) (at_ : Int) (x1.size : Int) (i : Int)) (((below + (wl b at_).idxOf ((Utf.nats x1).drop i) : Nat) : Int), true)
  | 0, i, at_, below, hd, hat, hb, hv => by
    have hl : (Utf.nats x1).length = x1.size := by simp [Utf.nats]
    have e : (Utf.nats x1).drop i = [] := List.drop_eq_nil_of_le (by omega)
    rw [e] at hv ⊢
    rw [place_nil h.good hat hv, Nat.add_zero]
    have z1 : ¬ (i : Int) < (x1.size : Int) := by omega
    have z2 : Go.RowKit.wrap64 (below : Int) = (below : Int) := by clear hv e hl hd; exact wx (by omega) (by omega)
    refine Ev.step (f := fun _ => some ((below : Int), true)) (fun k => ?_) (Ev.now _)
    simp only [index_Of.l0]
    rw [if_neg z1, z2]
  | d + 1, i, at_, below, hd, hat, hb, hv => by
    have hi : i < x1.size := by omega
    have hB_ := bt_nats x1 i hi
    rw [nats_drop x1 i hi] at hv ⊢
    generalize (Utf.nats x1).getD i 0 = B at hv hB_ ⊢
    have hB := Aside0.mk hB_
    clear hB_
    have hacc := (mem_wl h.good hat _).1 hv
    rw [acc_at (s := b[at_]) (List.getElem?_eq_getElem hat)] at hacc
    have hrow := (h.good.2 at_ _ (List.getElem?_eq_getElem hat)).1
    have haccs : accS b b[at_] (B :: (Utf.nats x1).drop (i + 1)) = match fnd b[at_] B with | some e => acc b e.2 ((Utf.nats x1).drop (i + 1)) | none => false := rfl
    rw [haccs] at hacc
    clear haccs
    cases hf : fnd b[at_] B with
    | none => rw [hf] at hacc; cases hacc
    | some e =>
      rw [hf] at hacc
      obtain ⟨pre, post, hs, he, hpre, hpost⟩ := fnd_split hrow.2 hf
      have hem : e ∈ b[at_].2 := by rw [hs]; simp
      have hlow := h.cnt.low at_ hat e hem
      have he2 : e.2 < b.length := by omega
      have hv2 : (Utf.nats x1).drop (i + 1) ∈ wl b e.2 := (mem_wl h.good he2 _).2 hacc
      have hpl_ := place_cons h.good hat hs he hpre hv2
      have heq_ := h.cnt.eq at_ hat
      have hsum_ : (b[at_].2.map fun f => Daw.cnt b f.2).sum = (pre.map fun f => Daw.cnt b f.2).sum + (Daw.cnt b e.2 + (post.map fun f => Daw.cnt b f.2).sum) := by rw [hs, List.map_append, List.sum_append]; simp
      have heq := Aside0.mk heq_; have hsum := Aside0.mk hsum_; have hpl := Aside0.mk hpl_
      clear heq_ hsum_ hpl_
      have hfew := h.cnt.few at_ hat
      have hrd : ∀ f ∈ b[at_].2, f.2 < (csL (Daw.cnt b) b.length).length ∧ rd (csL (Daw.cnt b) b.length) (f.2 : Int) = ((Daw.cnt b f.2 : Nat) : Int) := fun f hf => by
        have := h.cnt.low at_ hat f hf
        have hlt : f.2 < b.length := by omega
        exact ⟨by rw [csL_len]; exact hlt, rd_cs h f.2 hlt⟩
      obtain ⟨q, hq⟩ : ∃ q : Nat → Nat, q = fun j => below + (own b[at_] + ((pre.take j).map fun f => Daw.cnt b f.2).sum) := ⟨_, rfl⟩
      have q0_ : q 0 = below + own b[at_] := by rw [hq]; simp
      have qpl_ : q pre.length = below + (own b[at_] + (pre.map fun f => Daw.cnt b f.2).sum) := by rw [hq]; simp only [List.take_length]
      have q0 := Aside0.mk q0_; have qpl := Aside0.mk qpl_
      clear q0_ qpl_
      have qs : ∀ j (h : j < pre.length), q (j + 1) = q j + Daw.cnt b pre[j].2 := fun j hj => by
        rw [hq]
        show below + (own b[at_] + ((pre.take (j + 1)).map fun f => Daw.cnt b f.2).sum) = below + (own b[at_] + ((pre.take j).map fun f => Daw.cnt b f.2).sum) + Daw.cnt b pre[j].2
        rw [sum_take_succ (fun f => Daw.cnt b f.2) pre j hj]
        generalize ((pre.take j).map fun f => Daw.cnt b f.2).sum = X
        generalize Daw.cnt b pre[j].2 = Y
        omega
      have qe : ∀ j, pre.length ≤ j → q j = q pre.length := fun j hj => by
        rw [hq]
        show below + (own b[at_] + ((pre.take j).map fun f => Daw.cnt b f.2).sum) = below + (own b[at_] + ((pre.take pre.length).map fun f => Daw.cnt b f.2).sum)
        rw [List.take_of_length_le hj, List.take_length]
      have qm : ∀ j, q j ≤ q pre.length := fun j => by
        rw [qpl.out, hq]
        show below + (own b[at_] + ((pre.take j).map fun f => Daw.cnt b f.2).sum) ≤ _
        have := sum_take_le (fun f => Daw.cnt b f.2) pre j
        generalize ((pre.take j).map fun f => Daw.cnt b f.2).sum = X at this ⊢
        generalize (pre.map fun f => Daw.cnt b f.2).sum = Y at this ⊢
        omega
      clear hq
      have hb2 := hb
      rw [heq.out, hsum.out] at hb2
      have HB2 := Aside0.mk hb2
      clear hb2
      have hbq : q pre.length + Daw.cnt b e.2 ≤ 4611686018427387904 := by
        have hb := HB2.out
        rw [qpl.out]
        clear qm qe qs q0 qpl heq hsum hpl hlow hfew hB HB2
        generalize (pre.map fun f => Daw.cnt b f.2).sum = X at hb ⊢
        generalize (post.map fun f => Daw.cnt b f.2).sum = Y at hb
        generalize Daw.cnt b e.2 = Z at hb ⊢
        generalize own b[at_] = W at hb ⊢
        omega
      have ih := of_l0 h x1 hx d (i + 1) e.2 (q pre.length) (by omega) he2 hbq hv2
      have hw_ : Go.RowKit.wrap64 ((i : Int) + 1) = ((i + 1 : Nat) : Int) := by rw [wx (by omega) (by omega)]; omega
      rw [← hw_] at ih
      clear hw_
      have hqm : ∀ j, q j ≤ 4611686018427387904 := fun j => Nat.le_trans (qm j) (Nat.le_trans (Nat.le_add_right _ _) hbq)
      have h1 := of_l1 (R := b.map toS) x1 i hi b[at_].2 pre post e B hs he hB.out hpre hpost hfew hrd q qs qe hqm ih b[at_].2.length 0 (by omega)
      rw [if_pos (Nat.zero_le _)] at h1
      have hres : below + (wl b at_).idxOf (B :: (Utf.nats x1).drop (i + 1)) = q pre.length + (wl b e.2).idxOf ((Utf.nats x1).drop (i + 1)) := by
        rw [hpl.out, qpl.out]
        generalize (wl b e.2).idxOf ((Utf.nats x1).drop (i + 1)) = X
        generalize (pre.map fun f => Daw.cnt b f.2).sum = Y
        generalize own b[at_] = W
        omega
      rw [hres]
      refine Ev.step (fun k => ?_) h1
      have z0 : (i : Int) < (x1.size : Int) := by omega
      have z1 : (0 : Int) ≤ (at_ : Int) := by omega
      have z2 : (at_ : Int) < ((b.map toS).length : Int) := by rw [List.length_map]; omega
      have z3 : IntKind.u64.wrap ((below : Int) + ((own b[at_] : Nat) : Int)) = ((q 0 : Nat) : Int) := by
        have := hqm 0
        rw [q0.out] at this ⊢
        generalize own b[at_] = W at this ⊢
        rw [u64_small (by omega) (by omega)]; omega
      simp only [index_Of.l0]
      rw [if_pos z0, if_pos z1, if_pos z2, rdS31 _ at_ (by rw [List.length_map]; exact hat), toS_get at_ hat, own_f, Option.bind_some, z3]
      rfl
/-- index.Of: a word's place. -/
theorem of_ev (h : Known b) (hm : daw_May.f (b.map toS) = some true) (h0 : 0 < b.length) (x1 : ByteArray) (hx : x1.size ≤ 140737488355328) (hh : daw_Has.f (b.map toS) x1 = some (decide (Utf.nats x1 ∈ wl b (b.length - 1)))) :
    Ev (fun k => index_Of.f k (b.map toS) x1) (if Utf.nats x1 ∈ wl b (b.length - 1) then (((wl b (b.length - 1)).idxOf (Utf.nats x1) : Nat) : Int) else 0, decide (Utf.nats x1 ∈ wl b (b.length - 1))) := by
  unfold index_Of.f
  refine Ev.bind (counts_ev h.cnt hm) ?_
  have hlen := h.cnt.len
  by_cases hv : Utf.nats x1 ∈ wl b (b.length - 1)
  · rw [if_pos hv, decide_eq_true hv]
    have hle := h.cnt.le (b.length - 1) (by omega)
    have hof := of_l0 h x1 hx x1.size 0 (b.length - 1) 0 (by omega) (by omega) (by omega) hv
    rw [Nat.zero_add] at hof
    refine Ev.congr (f := fun k => index_Of.j0 k (b.map toS) x1 (csL (Daw.cnt b) b.length) false) (fun k => ?_) (Ev.step (fun k => ?_) hof)
    · rw [if_pos rfl, hh, decide_eq_true hv, Option.bind_some]; rfl
    · simp only [index_Of.j0]
      rw [if_neg (by decide), List.length_map, wx (by omega) (by omega), show ((b.length : Int) - 1) = ((b.length - 1 : Nat) : Int) from by omega]
      rfl
  · rw [if_neg hv, decide_eq_false hv]
    refine Ev.congr (f := fun k => index_Of.j0 k (b.map toS) x1 (csL (Daw.cnt b) b.length) true) (fun k => ?_) (Ev.step (f := fun _ => some (0, false)) (fun k => ?_) (Ev.now _))
    · rw [if_pos rfl, hh, decide_eq_false hv, Option.bind_some]; rfl
    · simp only [index_Of.j0]; rw [if_pos trivial]
end
end Go.Proofs.Ytebdcblchjhmpaa.K

namespace Go.Proofs.Ytebdcblchjhmpaa.K
open Go.RowKit Go.Proofs.YtebdcblchjhmpaaW.PrintWords Go.Proofs.YtebdcblchjhmpaaW.PrintLast Go.Proofs.YtebdcblchjhmpaaW.PrintMore Go.Proofs.Ytebdcblchjhmpaa
attribute [local go_sem] max2_int min2_int max_two min_two max_three min_three max_four min_four
set_option linter.unusedVariables false
set_option linter.unusedSimpArgs false
open Go.Proofs.Ytebdcblchjhmpaa.PDk Go.Proofs.Ytebdcblchjhmpaa.PDm Go.Proofs.Ytebdcblchjhmpaa.PIx Go.Proofs.Ytebdcblchjhmpaa.Daw
def intsL (w : List Nat) : List Int := w.map Int.ofNat
section
variable {b : List DS}
theorem word_l1 {R : List S31} {csl : List Int} (x9 : List Int) (at_ : Int) (es : List DE) (hlen : es.length ≤ 8796093022208) (h9 : x9.length < 140737488355327)
    (hrd : ∀ f ∈ es, f.2 < csl.length ∧ rd csl (f.2 : Int) = ((Daw.cnt b f.2 : Nat) : Int) ∧ Daw.cnt b f.2 ≤ 4611686018427387904)
    (hn : ∀ f ∈ es, ∀ (n : Nat) (v : List Nat), (wl b f.2)[n]? = some v → Ev (fun k => index_Word.l0 k R csl (n : Int) (x9 ++ [(f.1 : Int)]) (f.2 : Int)) (strOfNums ((x9 ++ [(f.1 : Int)]) ++ intsL v), true)) :
    ∀ (d j n : Nat) (w : List Nat), j + d = es.length → n ≤ 4611686018427387904 → ((es.drop j).flatMap fun e => (wl b e.2).map (e.1 :: ·))[n]? = some w →
      Ev (fun k => index_Word.l1 k R csl (n : Int) x9 at_ (es.map toE) ((es.map toE).length : Int) (j : Int)) (strOfNums (x9 ++ intsL w), true)
  | 0, j, n, w, hd, hnn, hw => by
    rw [List.drop_eq_nil_of_le (by omega)] at hw
    simp at hw
  | d + 1, j, n, w, hd, hnn, hw => by
    have hj : j < es.length := by omega
    obtain ⟨hr1, hr2_, hr3⟩ := hrd _ (List.getElem_mem hj)
    have hn' := hn _ (List.getElem_mem hj)
    have HR := Aside0.mk hr2_
    clear hr2_
    have hww := Aside0.mk (show Go.RowKit.wrap64 ((j : Int) + 1) = ((j + 1 : Nat) : Int) by rw [wx (by omega) (by omega)]; omega)
    have hg : (es.map toE)[j]'(by rw [List.length_map]; exact hj) = toE es[j] := List.getElem_map ..
    have q1 : (j : Int) < ((es.map toE).length : Int) := by rw [List.length_map]; omega
    have q2 : (0 : Int) ≤ (j : Int) := by omega
    rw [List.drop_eq_getElem_cons hj, List.flatMap_cons, List.getElem?_append, List.length_map] at hw
    have ih := fun n' w' => word_l1 x9 at_ es hlen h9 hrd hn d (j + 1) n' w' (by omega)
    generalize es[j] = e at hr1 HR hr3 hn' hg hw
    have z2 : (0 : Int) ≤ ((e.2 : Nat) : Int) := by omega
    have z3 : ((e.2 : Nat) : Int) < (csl.length : Int) := by omega
    obtain ⟨c, hc⟩ : ∃ c, c = Daw.cnt b e.2 := ⟨_, rfl⟩
    have hcl : (wl b e.2).length = c := hc.symm
    rw [hcl] at hw
    have HR2 := HR.out
    rw [← hc] at HR2 hr3
    have HR := Aside0.mk HR2
    clear HR2 hcl hc
    by_cases c1 : n < c
    · rw [if_pos c1, List.getElem?_map] at hw
      obtain ⟨v, hv, rfl⟩ := Option.map_eq_some_iff.1 hw
      have h1 := hn' n v hv
      have z4 : (n : Int) < (c : Int) := by omega
      have e9 : x9 ++ intsL (e.1 :: v) = (x9 ++ [(e.1 : Int)]) ++ intsL v := by unfold intsL; simp
      rw [e9]
      refine Ev.step (fun k => ?_) h1
      simp only [index_Word.l1]
      rw [if_pos q1, if_pos q2, if_pos q1, rdS33 _ j (by rw [List.length_map]; exact hj), hg]
      rw [toE_f0, toE_f1, if_pos z2, if_pos z3, HR.out, if_pos z4, if_pos (by omega)]
    · rw [if_neg c1] at hw
      have h1 := ih (n - c) w (by omega) hw
      have z4 : ¬ (n : Int) < (c : Int) := by omega
      have z5 := Aside0.mk (show IntKind.u64.wrap ((n : Int) - (c : Int)) = ((n - c : Nat) : Int) by rw [u64_small (by omega) (by omega)]; omega)
      refine Ev.step (fun k => ?_) h1
      simp only [index_Word.l1]
      rw [if_pos q1, if_pos q2, if_pos q1, rdS33 _ j (by rw [List.length_map]; exact hj), hg]
      rw [toE_f0, toE_f1, if_pos z2, if_pos z3, HR.out, if_neg z4, z5.out, hww.out]
theorem word_l0 (h : Known b) : ∀ (at_ n : Nat) (x9 : List Int) (w : List Nat), at_ < b.length → x9.length + at_ ≤ b.length → (wl b at_)[n]? = some w →
    Ev (fun k => index_Word.l0 k (b.map toS) (csL (Daw.cnt b) b.length) (n : Int) x9 (at_ : Int)) (strOfNums (x9 ++ intsL w), true) := by
  intro at_
  induction at_ using Nat.strongRecOn with
  | _ at_ ih =>
    intro n x9 w hat h9 hw
    have hlen := h.cnt.len
    have hnc : n < Daw.cnt b at_ := (List.getElem?_eq_some_iff.1 hw).1
    have hle := h.cnt.le at_ hat
    have hnn : n ≤ 4611686018427387904 := by omega
    rw [wl_eq h.good hat, List.getElem?_append] at hw
    have ho : (if b[at_].1 = true then [[]] else [] : List (List Nat)).length = own b[at_] := by unfold Daw.own; split <;> rfl
    have hob : own b[at_] ≤ 1 := by unfold Daw.own; split <;> decide
    rw [ho] at hw
    have hrd : ∀ f ∈ b[at_].2, f.2 < (csL (Daw.cnt b) b.length).length ∧ rd (csL (Daw.cnt b) b.length) (f.2 : Int) = ((Daw.cnt b f.2 : Nat) : Int) ∧ Daw.cnt b f.2 ≤ 4611686018427387904 := fun f hf => by
      have := h.cnt.low at_ hat f hf
      have hlt : f.2 < b.length := by omega
      exact ⟨by rw [csL_len]; exact hlt, rd_cs h f.2 hlt, h.cnt.le f.2 hlt⟩
    have hfew := h.cnt.few at_ hat
    have hlowat := h.cnt.low at_ hat
    have z1 : (0 : Int) ≤ (at_ : Int) := by omega
    have z2 : (at_ : Int) < ((b.map toS).length : Int) := by rw [List.length_map]; omega
    clear hnc
    have OW := own_f b[at_]
    by_cases c1 : n < own b[at_]
    · rw [if_pos c1] at hw
      have hwn : w = [] := by
        split at hw
        · have : n = 0 := by omega
          subst this
          simpa using hw.symm
        · simp at hw
      subst hwn
      have z3 : ¬ (n : Int) ≥ ((own b[at_] : Nat) : Int) := by omega
      refine Ev.step (f := fun _ => some (strOfNums (x9 ++ intsL []), true)) (fun k => ?_) (Ev.now _)
      simp only [index_Word.l0]
      rw [if_pos z1, if_pos z2, rdS31 _ at_ (by rw [List.length_map]; exact hat), toS_get at_ hat, OW, Option.bind_some, if_neg z3]
      simp [intsL]
    · rw [if_neg c1] at hw
      have z3 : (n : Int) ≥ ((own b[at_] : Nat) : Int) := by omega
      have z4 := Aside0.mk (show IntKind.u64.wrap ((n : Int) - ((own b[at_] : Nat) : Int)) = ((n - own b[at_] : Nat) : Int) by rw [u64_small (by omega) (by omega)]; omega)
      have h1 := word_l1 (b := b) (R := b.map toS) (csl := csL (Daw.cnt b) b.length) x9 (at_ : Int) b[at_].2 hfew (by omega) hrd (fun f hf m v hv => ih f.2 (hlowat f hf) m (x9 ++ [(f.1 : Int)]) v (by have := hlowat f hf; omega) (by rw [List.length_append, List.length_singleton]; have := hlowat f hf; omega) hv) b[at_].2.length 0 (n - own b[at_]) w (by omega) (by omega) (by rw [List.drop_zero]; exact hw)
      refine Ev.step (fun k => ?_) h1
      simp only [index_Word.l0]
      rw [if_pos z1, if_pos z2, rdS31 _ at_ (by rw [List.length_map]; exact hat), toS_get at_ hat, OW, Option.bind_some, if_pos z3, Option.bind_some, z4.out]
      rfl
/-- index.Word: a place's word. -/
theorem word_ev (h : Known b) (hm : daw_May.f (b.map toS) = some true) (h0 : 0 < b.length) (a1 : Int) (ha : -9223372036854775808 ≤ a1 ∧ a1 < 9223372036854775808) :
    Ev (fun k => index_Word.f k (b.map toS) a1) (match (if 0 ≤ a1 then (wl b (b.length - 1))[a1.toNat]? else none) with | some w => (strOfNums (intsL w), true) | none => ((⟨#[]⟩ : ByteArray), false)) := by
  unfold index_Word.f
  refine Ev.bind (counts_ev h.cnt hm) ?_
  have hlen := h.cnt.len
  have hle := h.cnt.le (b.length - 1) (by omega)
  have hw := Aside0.mk (show Go.RowKit.wrap64 (((b.map toS).length : Int) - 1) = ((b.length - 1 : Nat) : Int) by rw [List.length_map, wx (by omega) (by omega)]; omega)
  have hrd := Aside0.mk (rd_cs h (b.length - 1) (by omega))
  have hcsl := csL_len (Daw.cnt b) b.length
  have hj : ∀ x, Ev (fun k => index_Word.j0 k (b.map toS) x (csL (Daw.cnt b) b.length) true) ((⟨#[]⟩ : ByteArray), false) := fun x => Ev.step (f := fun _ => some ((⟨#[]⟩ : ByteArray), false)) (fun k => by simp only [index_Word.j0]; rw [if_pos trivial]) (Ev.now _)
  by_cases c0 : a1 < 0
  · rw [if_neg (by omega)]
    refine Ev.congr (fun k => ?_) (hj a1)
    rw [if_pos rfl, if_pos c0]
  · rw [if_pos (by omega)]
    obtain ⟨n, rfl⟩ : ∃ n : Nat, a1 = (n : Int) := ⟨a1.toNat, by omega⟩
    rw [Int.toNat_natCast]
    have z1 : (0 : Int) ≤ ((b.length - 1 : Nat) : Int) := by omega
    have z2 : ((b.length - 1 : Nat) : Int) < (((csL (Daw.cnt b) b.length).length : Nat) : Int) := by rw [hcsl]; omega
    have hu := Aside0.mk (u64_small (x := (n : Int)) (by omega) (by omega))
    by_cases c1 : n < Daw.cnt b (b.length - 1)
    · obtain ⟨w, hgw⟩ : ∃ w, (wl b (b.length - 1))[n]? = some w := ⟨_, List.getElem?_eq_getElem c1⟩
      rw [hgw]
      have h1 := word_l0 h (b.length - 1) n [] w (by omega) (by simp) hgw
      have z3 : ¬ (n : Int) ≥ ((Daw.cnt b (b.length - 1) : Nat) : Int) := by omega
      refine Ev.congr (f := fun k => index_Word.j0 k (b.map toS) (n : Int) (csL (Daw.cnt b) b.length) false) (fun k => ?_) (Ev.step (fun k => ?_) h1)
      · rw [if_pos rfl, if_neg c0, hw.out, if_pos z1, if_pos z2, hu.out, hrd.out, decide_eq_false z3]
      · simp only [index_Word.j0]
        rw [if_neg (by decide), hu.out, hw.out]
    · have hgn : (wl b (b.length - 1))[n]? = none := List.getElem?_eq_none (by unfold Daw.cnt at c1; omega)
      rw [hgn]
      have z3 : (n : Int) ≥ ((Daw.cnt b (b.length - 1) : Nat) : Int) := by omega
      refine Ev.congr (fun k => ?_) (hj (n : Int))
      rw [if_pos rfl, if_neg c0, hw.out, if_pos z1, if_pos z2, hu.out, hrd.out, decide_eq_true z3]
end
end Go.Proofs.Ytebdcblchjhmpaa.K

namespace Go.Proofs.Ytebdcblchjhmpaa.Daw
set_option linter.unusedVariables false
set_option linter.unusedSimpArgs false
theorem acc_alive {a : List DS} (h : Good a) : ∀ (n i : Nat), i < n → i < a.length → ∃ v, acc a i v = true
  | 0, i, hn, _ => by omega
  | n + 1, i, hn, hi => by
    have e : a[i]? = some a[i] := List.getElem?_eq_getElem hi
    obtain ⟨hr, hal⟩ := h.2 i _ e
    rcases hal with h1 | h1
    · exact ⟨[], by simp [acc, e, h1]⟩
    · obtain ⟨d, es, hd⟩ : ∃ d es, a[i].2 = d :: es := by
        cases hh : a[i].2 with
        | nil => exact absurd hh h1
        | cons d es => exact ⟨d, es, rfl⟩
      have hlow := hr.1 d (by rw [hd]; simp)
      obtain ⟨v, hv⟩ := acc_alive h n d.2 (by omega) (by omega)
      refine ⟨d.1 :: v, ?_⟩
      have hf : fnd a[i] d.1 = some d := by unfold fnd; rw [hd]; simp
      simp only [acc, e, hf]
      exact hv
/-- Two edges' lists that lead on alike. -/
def RelE (a b : List DS) : List DE → List DE → Prop
  | [], [] => True
  | e :: es, f :: fs => (e.1 = f.1 ∧ ∀ v, acc a e.2 v = acc b f.2 v) ∧ RelE a b es fs
  | _, _ => False
def stepE (a : List DS) (es : List DE) (c : Nat) (v : List Nat) : Bool := match es.find? (fun e => e.1 == c) with | some e => acc a e.2 v | none => false
theorem stepE_not {a : List DS} {es : List DE} {c : Nat} (h : ∀ e ∈ es, e.1 ≠ c) (v : List Nat) : stepE a es c v = false := by
  have : es.find? (fun e => e.1 == c) = none := List.find?_eq_none.2 (fun e he => by simpa using h e he)
  unfold stepE; rw [this]
theorem stepE_head {a : List DS} (e : DE) (es : List DE) (v : List Nat) : stepE a (e :: es) e.1 v = acc a e.2 v := by
  unfold stepE; simp
theorem stepE_tail {a : List DS} (e : DE) (es : List DE) {c : Nat} (h : e.1 ≠ c) (v : List Nat) : stepE a (e :: es) c v = stepE a es c v := by
  unfold stepE; rw [List.find?_cons_of_neg (by simpa using h)]
theorem rel_of {a b : List DS} : ∀ (es fs : List DE), Rising es → Rising fs → (∀ e ∈ es, ∃ v, acc a e.2 v = true) → (∀ f ∈ fs, ∃ v, acc b f.2 v = true) → (∀ c v, stepE a es c v = stepE b fs c v) → RelE a b es fs
  | [], [], _, _, _, _, _ => trivial
  | [], f :: fs, _, _, _, hf, h => by
    obtain ⟨v, hv⟩ := hf f (by simp)
    have := h f.1 v
    rw [stepE_head, hv, stepE_not (by simp)] at this
    cases this
  | e :: es, [], _, _, he, _, h => by
    obtain ⟨v, hv⟩ := he e (by simp)
    have := h e.1 v
    rw [stepE_head, hv, stepE_not (by simp)] at this
    cases this
  | e :: es, f :: fs, hre, hrf, he, hf, h => by
    have h1 : e.1 = f.1 := by
      rcases Nat.lt_trichotomy e.1 f.1 with h2 | h2 | h2
      · exfalso
        obtain ⟨v, hv⟩ := he e (by simp)
        have := h e.1 v
        rw [stepE_head, hv, stepE_not (fun g hg => by
          rcases List.mem_cons.1 hg with rfl | hg
          · omega
          · have := hrf.1 g hg; omega)] at this
        cases this
      · exact h2
      · exfalso
        obtain ⟨v, hv⟩ := hf f (by simp)
        have := h f.1 v
        rw [stepE_head, hv, stepE_not (fun g hg => by
          rcases List.mem_cons.1 hg with rfl | hg
          · omega
          · have := hre.1 g hg; omega)] at this
        cases this
    refine ⟨⟨h1, fun v => ?_⟩, rel_of es fs hre.2 hrf.2 (fun g hg => he g (by simp [hg])) (fun g hg => hf g (by simp [hg])) (fun c v => ?_)⟩
    · have := h e.1 v
      rw [stepE_head, h1, stepE_head] at this
      exact this
    · by_cases hc : e.1 = c
      · rw [stepE_not (fun g hg => by have := hre.1 g hg; omega), stepE_not (fun g hg => by have := hrf.1 g hg; omega)]
      · have := h c v
        rwa [stepE_tail e es hc, stepE_tail f fs (by omega)] at this
theorem acc_step {a : List DS} {i : Nat} {s : DS} (h : a[i]? = some s) (c : Nat) (v : List Nat) : acc a i (c :: v) = stepE a s.2 c v := by
  simp only [acc, h]; rfl
/-- Two states that take the same lead on alike. -/
theorem rel_at {a b : List DS} (ha : Good a) (hb : Good b) {i j : Nat} {s t : DS} (hs : a[i]? = some s) (ht : b[j]? = some t) (h : ∀ v, acc a i v = acc b j v) : s.1 = t.1 ∧ RelE a b s.2 t.2 := by
  have hi := (List.getElem?_eq_some_iff.1 hs).1
  have hj := (List.getElem?_eq_some_iff.1 ht).1
  refine ⟨?_, rel_of s.2 t.2 (ha.2 i s hs).1.2 (hb.2 j t ht).1.2 (fun e he => ?_) (fun e he => ?_) (fun c v => ?_)⟩
  · have := h []
    simpa [acc, hs, ht] using this
  · have := (ha.2 i s hs).1.1 e he
    exact acc_alive ha _ e.2 (Nat.lt_succ_self _) (by omega)
  · have := (hb.2 j t ht).1.1 e he
    exact acc_alive hb _ e.2 (Nat.lt_succ_self _) (by omega)
  · have := h (c :: v)
    rwa [acc_step hs, acc_step ht] at this
theorem rel_eq {a : List DS} : ∀ (es fs : List DE), RelE a a es fs → (∀ e ∈ es, ∀ f ∈ fs, (∀ v, acc a e.2 v = acc a f.2 v) → e.2 = f.2) → es = fs
  | [], [], _, _ => rfl
  | [], _ :: _, h, _ => h.elim
  | _ :: _, [], h, _ => h.elim
  | e :: es, f :: fs, h, hi => by
    have h1 := hi e (by simp) f (by simp) h.1.2
    have h2 := rel_eq es fs h.2 (fun g hg k hk => hi g (by simp [hg]) k (by simp [hk]))
    rw [h2, Prod.ext h.1.1 h1]
/-- No two states take the same. -/
theorem acc_inj {a : List DS} (ha : Good a) : ∀ (n i j : Nat), i < n → j < n → i < a.length → j < a.length → (∀ v, acc a i v = acc a j v) → i = j
  | 0, i, j, hi, _, _, _, _ => by omega
  | n + 1, i, j, hi, hj, hil, hjl, h => by
    have e1 : a[i]? = some a[i] := List.getElem?_eq_getElem hil
    have e2 : a[j]? = some a[j] := List.getElem?_eq_getElem hjl
    obtain ⟨h1, h2⟩ := rel_at ha ha e1 e2 h
    have h3 := rel_eq _ _ h2 (fun e he f hf hv => by
      have q1 := (ha.2 i _ e1).1.1 e he
      have q2 := (ha.2 j _ e2).1.1 f hf
      exact acc_inj ha n e.2 f.2 (by omega) (by omega) (by omega) (by omega) hv)
    have h4 : a[i] = a[j] := Prod.ext h1 h3
    exact (List.getElem_inj ha.1).1 h4
theorem good_take {a : List DS} (h : Good a) (m : Nat) : Good (a.take m) := by
  refine ⟨h.1.sublist (List.take_sublist _ _), fun i s hs => h.2 i s ?_⟩
  rw [List.getElem?_take] at hs
  split at hs
  · exact hs
  · cases hs
theorem acc_take {a b : List DS} (ha : Good a) (hb : Good b) {m : Nat} (h : a.take m = b.take m) (hm : m ≤ a.length) {n : Nat} (hn : n < m) (v : List Nat) : acc a n v = acc b n v := by
  have h1 := acc_ext (t := a.drop m) (good_take ha m) v n (by rw [List.length_take]; omega)
  have hl : (b.take m).length = m := by rw [← h, List.length_take]; omega
  have h2 := acc_ext (t := b.drop m) (good_take hb m) v n (by omega)
  rw [List.take_append_drop] at h1 h2
  rw [h1, h2, h]
theorem take_succ_eq {a b : List DS} {n : Nat} {s : DS} (h : a.take n = b.take n) (hs : a[n]? = some s) (ht : b[n]? = some s) : a.take (n + 1) = b.take (n + 1) := by
  obtain ⟨h1, h2⟩ := List.getElem?_eq_some_iff.1 hs
  obtain ⟨h3, h4⟩ := List.getElem?_eq_some_iff.1 ht
  rw [List.take_succ_eq_append_getElem h1, List.take_succ_eq_append_getElem h3, h, h2, h4]
mutual
theorem lock {a b : List DS} (ha : Good a) (hb : Good b) (k n m r k' n' r' : Nat) (hma : m ≤ a.length) (hmb : m ≤ b.length) (ht : a.take m = b.take m) (h : ∀ v, acc a n v = acc b n' v) (h1 : vis a k n m = some r) (h2 : vis b k' n' m = some r') :
    n = n' ∧ n + 1 ≤ a.length ∧ n + 1 ≤ b.length ∧ a.take (n + 1) = b.take (n + 1) := by
  match k, k' with
  | 0, _ => simp [vis] at h1
  | _, 0 => simp [vis] at h2
  | k + 1, k' + 1 =>
    unfold vis at h1 h2
    cases hs : a[n]? with
    | none => rw [hs] at h1; cases h1
    | some s =>
      cases hu : b[n']? with
      | none => rw [hu] at h2; cases h2
      | some t =>
        rw [hs] at h1
        rw [hu] at h2
        obtain ⟨x, hx, h1⟩ := Option.bind_eq_some_iff.1 h1
        obtain ⟨y, hy, h2⟩ := Option.bind_eq_some_iff.1 h2
        obtain ⟨g1, g2⟩ := rel_at ha hb hs hu h
        have hnl := (List.getElem?_eq_some_iff.1 hs).1
        have hnl' := (List.getElem?_eq_some_iff.1 hu).1
        obtain ⟨q1, q2, q3⟩ := lockE ha hb k k' s.2 t.2 m x y hma hmb ht (fun e he => by have := (ha.2 n s hs).1.1 e he; omega) (fun e he => by have := (hb.2 n' t hu).1.1 e he; omega) g2 hx hy
        by_cases c1 : n = x
        · by_cases c2 : n' = y
          · have hst : s = t := Prod.ext g1 q1
            subst hst
            have hnn : n = n' := by omega
            subst hnn
            refine ⟨rfl, by omega, by omega, take_succ_eq (by rw [c1]; exact q3) hs hu⟩
          · rw [if_neg c2] at h2; cases h2
        · rw [if_neg c1] at h1; cases h1
termination_by (k, 0)
theorem lockE {a b : List DS} (ha : Good a) (hb : Good b) (k k' : Nat) (es fs : List DE) (m x y : Nat) (hma : m ≤ a.length) (hmb : m ≤ b.length) (ht : a.take m = b.take m) (he : ∀ e ∈ es, e.2 < a.length) (hf : ∀ f ∈ fs, f.2 < b.length) (h : RelE a b es fs) (h1 : visE (vis a k) es m = some x) (h2 : visE (vis b k') fs m = some y) :
    es = fs ∧ x = y ∧ a.take x = b.take x := by
  match es, fs with
  | [], [] =>
    simp only [visE, Option.some.injEq] at h1 h2
    subst h1; subst h2
    exact ⟨rfl, rfl, ht⟩
  | [], _ :: _ => exact h.elim
  | _ :: _, [] => exact h.elim
  | e :: es, f :: fs =>
    unfold visE at h1 h2
    have hea := he e (by simp)
    have hfb := hf f (by simp)
    by_cases c1 : m ≤ e.2
    · by_cases c2 : m ≤ f.2
      · rw [if_pos c1] at h1
        rw [if_pos c2] at h2
        obtain ⟨z, hz, h1⟩ := Option.bind_eq_some_iff.1 h1
        obtain ⟨u, hu, h2⟩ := Option.bind_eq_some_iff.1 h2
        obtain ⟨q1, q2, q3, q4⟩ := lock ha hb k e.2 m z k' f.2 u hma hmb ht h.1.2 hz hu
        have hzv := vis_val hz
        have huv := vis_val hu
        have hzu : u = z := by omega
        rw [hzu] at h2
        rw [← hzv] at q2 q3 q4
        obtain ⟨p1, p2, p3⟩ := lockE ha hb k k' es fs z x y q2 q3 q4 (fun g hg => he g (by simp [hg])) (fun g hg => hf g (by simp [hg])) h.2 h1 h2
        exact ⟨by rw [p1, Prod.ext h.1.1 q1], p2, p3⟩
      · exfalso
        have h3 : ∀ v, acc a f.2 v = acc a e.2 v := fun v => by rw [acc_take ha hb ht hma (by omega) v, h.1.2 v]
        have := acc_inj ha a.length f.2 e.2 (by omega) hea (by omega) hea h3
        omega
    · by_cases c2 : m ≤ f.2
      · exfalso
        have h3 : ∀ v, acc b e.2 v = acc b f.2 v := fun v => by rw [← acc_take ha hb ht hma (by omega) v, h.1.2 v]
        have := acc_inj hb b.length e.2 f.2 (by omega) hfb (by omega) hfb h3
        omega
      · rw [if_neg c1] at h1
        rw [if_neg c2] at h2
        have h3 : ∀ v, acc b e.2 v = acc b f.2 v := fun v => by rw [← acc_take ha hb ht hma (by omega) v, h.1.2 v]
        have q1 := acc_inj hb b.length e.2 f.2 (by omega) hfb (by omega) hfb h3
        obtain ⟨p1, p2, p3⟩ := lockE ha hb k k' es fs m x y hma hmb ht (fun g hg => he g (by simp [hg])) (fun g hg => hf g (by simp [hg])) h.2 h1 h2
        exact ⟨by rw [p1, Prod.ext h.1.1 q1], p2, p3⟩
termination_by (k, es.length + 1)
end
/-- Two automata of the same words, each numbered as its states are left, are the same. -/
theorem daw_one {a b : List DS} (ha : Good a) (hb : Good b) (hla : 1 ≤ a.length) (hlb : 1 ≤ b.length) {k k' : Nat} (hva : vis a k (a.length - 1) 0 = some a.length) (hvb : vis b k' (b.length - 1) 0 = some b.length) (h : ∀ v, acc a (a.length - 1) v = acc b (b.length - 1) v) : a = b := by
  obtain ⟨h1, h2, h3, h4⟩ := lock ha hb k _ 0 _ k' _ _ (Nat.zero_le _) (Nat.zero_le _) (by simp) h hva hvb
  rw [List.take_of_length_le (by omega), List.take_of_length_le (by omega)] at h4
  exact h4
theorem ref_is_build (l : List (List Nat)) (hs : ([] :: l).Pairwise (· < ·)) (hl : l ≠ []) (k : Nat) (hk : ∀ w ∈ l, w.length < k) : (refLeave k ([], []) l).1.1 = build l := by
  obtain ⟨r1, r2, ⟨q, r3⟩, r4⟩ := ref_build l (List.pairwise_cons.1 hs).2 hl k hk
  obtain ⟨k2, b3⟩ := build_ranked l hs hl
  obtain ⟨b1, b2, b5, _⟩ := build_least l hs hl
  obtain ⟨a, s, hb, hg, hacc⟩ := build_takes l hs hl
  have hlen : (build l).length - 1 = a.length := by rw [hb]; simp
  refine daw_one r1 ⟨b1, b2⟩ r2 b5 r3 b3 (fun v => ?_)
  rw [r4 v, hlen, hacc v]
end Go.Proofs.Ytebdcblchjhmpaa.Daw

namespace Go.Proofs.Ytebdcblchjhmpaa.PSh14
open Go.RowKit Go.Proofs.YtebdcblchjhmpaaW.PrintWords Go.Proofs.YtebdcblchjhmpaaW.PrintLast Go.Proofs.YtebdcblchjhmpaaW.PrintMore Go.Proofs.Ytebdcblchjhmpaa.K Go.Proofs.Ytebdcblchjhmpaa.PDk
attribute [local go_sem] max2_int min2_int max_two min_two max_three min_three max_four min_four   -- for this text's walks alone
set_option linter.unusedVariables false
set_option linter.unusedSimpArgs false



def errW : Option Int → Value
  | none => .nilIface
  | some c => .iface 0 (.int .i64 c)
theorem errW_none : errW none = .nilIface := rfl
theorem errW_some (c : Int) : errW (some c) = .iface 0 (.int .i64 c) := rfl

end Go.Proofs.Ytebdcblchjhmpaa.PSh14

namespace Go.Proofs.Ytebdcblchjhmpaa.PSh14
open Go.RowKit Go.Proofs.YtebdcblchjhmpaaW.PrintWords Go.Proofs.YtebdcblchjhmpaaW.PrintLast Go.Proofs.YtebdcblchjhmpaaW.PrintMore Go.Proofs.Ytebdcblchjhmpaa.K Go.Proofs.Ytebdcblchjhmpaa.PDk
attribute [local go_sem] max2_int min2_int max_two min_two max_three min_three max_four min_four   -- for this text's walks alone
set_option linter.unusedVariables false
set_option linter.unusedSimpArgs false

def manteletlaw14_shown.f (k : Nat)  : Option (Bool) := (daw_Build.f (([(⟨#[97, 98]⟩ : ByteArray), (⟨#[99, 98]⟩ : ByteArray)] : List ByteArray))).bind fun bt104 => (if bt104.2 = 0 then ((manteletref14_Same.f k bt104.1 (([(⟨true, ([] : List (S33))⟩ : S31), (⟨false, (([(⟨98, 0⟩ : S33)] : List (S33)))⟩ : S31), (⟨false, (([(⟨97, 1⟩ : S33), (⟨99, 1⟩ : S33)] : List (S33)))⟩ : S31)] : List (S31)))).bind fun t117 => (some t117)) else (some false))
end Go.Proofs.Ytebdcblchjhmpaa.PSh14

namespace Go.Proofs.Ytebdcblchjhmpaa.PSh14
open Go.RowKit Go.Proofs.YtebdcblchjhmpaaW.PrintWords Go.Proofs.YtebdcblchjhmpaaW.PrintLast Go.Proofs.YtebdcblchjhmpaaW.PrintMore Go.Proofs.Ytebdcblchjhmpaa.K Go.Proofs.Ytebdcblchjhmpaa.PDk
attribute [local go_sem] max2_int min2_int max_two min_two max_three min_three max_four min_four   -- for this text's walks alone
set_option linter.unusedVariables false
set_option linter.unusedSimpArgs false

end Go.Proofs.Ytebdcblchjhmpaa.PSh14

namespace Go.Proofs.Ytebdcblchjhmpaa.K
open Go.RowKit Go.Proofs.YtebdcblchjhmpaaW.PrintWords Go.Proofs.YtebdcblchjhmpaaW.PrintLast Go.Proofs.YtebdcblchjhmpaaW.PrintMore Go.Proofs.Ytebdcblchjhmpaa
attribute [local go_sem] max2_int min2_int max_two min_two max_three min_three max_four min_four
set_option linter.unusedVariables false
set_option linter.unusedSimpArgs false
open Go.Proofs.Ytebdcblchjhmpaa.PDk Go.Proofs.Ytebdcblchjhmpaa.PSh14 Go.Proofs.Ytebdcblchjhmpaa.Daw
open Classical
theorem w64 {x : Int} (h0 : -9223372036854775808 ≤ x) (h1 : x < 9223372036854775808) : Go.RowKit.wrap64 x = x := by unfold Go.RowKit.wrap64; omega
theorem rd31 (a : List S31) (i : Nat) (h : i < a.length) : rd_T31 a (i : Int) = a[i] := by
  unfold rd_T31
  rw [Int.toNat_natCast, List.getD_eq_getElem?_getD, List.getElem?_eq_getElem h]; rfl
theorem rd33 (a : List S33) (i : Nat) (h : i < a.length) : rd_T33 a (i : Int) = a[i] := by
  unfold rd_T33
  rw [Int.toNat_natCast, List.getD_eq_getElem?_getD, List.getElem?_eq_getElem h]; rfl
theorem rdS (a : List ByteArray) (i : Nat) (h : i < a.length) : rdOf ByteArray.empty a (i : Int) = a[i] := by
  unfold rdOf
  rw [Int.toNat_natCast, List.getD_eq_getElem?_getD, List.getElem?_eq_getElem h]; rfl
def OkA (a : List S31) : Prop := a.length ≤ 4611686018427387904 ∧ ∀ s ∈ a, s.f1.length ≤ 4611686018427387904
def Byt (s : DS) : Prop := ∀ e ∈ s.2, e.1 < 256
theorem num_byt {left : List DS} {s : DS} (h : ∀ t ∈ left, Byt t) (hs : Byt s) : ∀ t ∈ (num left s).1, Byt t := by
  unfold num
  by_cases c : s ∈ left
  · rw [if_pos c]; exact h
  · rw [if_neg c]
    intro t ht
    rcases List.mem_append.1 ht with ht | ht
    · exact h t ht
    · rw [List.mem_singleton.1 ht]; exact hs
theorem leave_byt (W : List Nat) (hW : ∀ j, W.getD j 0 < 256) (n : Nat) : ∀ (k : Nat) (left path : List DS), path.length = k → (∀ t ∈ left, Byt t) → (∀ t ∈ path, Byt t) → (∀ t ∈ (leave W n left path).1, Byt t) ∧ ∀ t ∈ (leave W n left path).2, Byt t
  | 0, left, [], _, h1, h2 => by rw [leave]; exact ⟨h1, h2⟩
  | 1, left, [s], _, h1, h2 => by rw [leave]; exact ⟨h1, h2⟩
  | k + 2, left, s :: u :: r, hk, h1, h2 => by
    rw [leave]
    by_cases h : n < r.length + 1
    · rw [if_pos h]
      refine leave_byt W hW n (k + 1) _ _ (by simpa using hk) (num_byt h1 (h2 s (by simp))) (fun t ht => ?_)
      rcases List.mem_cons.1 ht with rfl | ht
      · intro e he
        rcases List.mem_append.1 he with he | he
        · exact h2 u (by simp) e he
        · rw [List.mem_singleton.1 he]; exact hW _
      · exact h2 t (by simp [ht])
    · rw [if_neg h]; exact ⟨h1, h2⟩
theorem getD_byt {w : List Nat} (h : ∀ c ∈ w, c < 256) (j : Nat) : w.getD j 0 < 256 := by
  rw [List.getD_eq_getElem?_getD]
  cases e : w[j]? with
  | none => decide
  | some c => exact h c (List.mem_of_getElem? e)
theorem ends_byt {p : List DS} (h : ∀ t ∈ p, Byt t) : ∀ t ∈ ends p, Byt t := by
  cases p with
  | nil => simp [ends]
  | cons s r =>
    intro t ht
    rcases List.mem_cons.1 ht with rfl | ht
    · exact h s (by simp)
    · exact h t (by simp [ht])
theorem add_byt {x : Daw.B} {w : List Nat} (h1 : ∀ t ∈ x.left, Byt t) (h2 : ∀ t ∈ x.path, Byt t) (hx : ∀ c ∈ x.word, c < 256) : (∀ t ∈ (add x w).left, Byt t) ∧ ∀ t ∈ (add x w).path, Byt t := by
  obtain ⟨g1, g2⟩ := leave_byt x.word (getD_byt hx) (common w x.word) _ x.left x.path rfl h1 h2
  refine ⟨g1, ends_byt (fun t ht => ?_)⟩
  rcases List.mem_append.1 ht with ht | ht
  · rw [List.eq_of_mem_replicate ht]; intro e he; simp at he
  · exact g2 t ht
theorem adds_byt : ∀ (l : List (List Nat)) (x : Daw.B), (∀ w ∈ l, ∀ c ∈ w, c < 256) → (∀ t ∈ x.left, Byt t) → (∀ t ∈ x.path, Byt t) → (∀ c ∈ x.word, c < 256) → (∀ t ∈ (l.foldl add x).left, Byt t) ∧ (∀ t ∈ (l.foldl add x).path, Byt t) ∧ ∀ c ∈ (l.foldl add x).word, c < 256
  | [], x, _, h1, h2, h3 => ⟨h1, h2, h3⟩
  | w :: l, x, hl, h1, h2, h3 => by
    obtain ⟨g1, g2⟩ := add_byt (w := w) h1 h2 h3
    exact adds_byt l (add x w) (fun v hv => hl v (by simp [hv])) g1 g2 (hl w (by simp))
theorem build_byt (l : List (List Nat)) (hl : ∀ w ∈ l, ∀ c ∈ w, c < 256) : ∀ t ∈ build l, Byt t := by
  obtain ⟨g1, g2, g3⟩ := adds_byt l Daw.start hl (by simp [Daw.start]) (by intro t ht e he; simp [Daw.start] at ht; subst ht; simp at he) (by simp [Daw.start])
  obtain ⟨k1, k2⟩ := leave_byt (l.foldl add Daw.start).word (getD_byt g3) 0 _ (l.foldl add Daw.start).left (l.foldl add Daw.start).path rfl g1 g2
  unfold build finish
  split
  · rename_i s r hp
    rw [hp] at k2
    exact num_byt k1 (k2 s (by simp))
  · exact k1
theorem rising_len : ∀ (l : List DE) (m N : Nat), Rising l → (∀ e ∈ l, m ≤ e.1 ∧ e.1 < N) → l.length ≤ N - m
  | [], _, _, _, _ => by simp
  | e :: r, m, N, h, hl => by
    have h1 := hl e (by simp)
    have := rising_len r (e.1 + 1) N h.2 (fun f hf => ⟨h.1 f hf, (hl f (by simp [hf])).2⟩)
    simp only [List.length_cons]; omega
theorem nats_byt (s : ByteArray) : ∀ c ∈ Utf.nats s, c < 256 := by
  intro c hc
  unfold Utf.nats at hc
  obtain ⟨b, _, rfl⟩ := List.mem_map.1 hc
  exact UInt8.toNat_lt b
theorem wordsN_byt (l : List ByteArray) : ∀ w ∈ wordsN l, ∀ c ∈ w, c < 256 := by
  intro w hw
  unfold wordsN at hw
  obtain ⟨s, _, rfl⟩ := List.mem_map.1 hw
  exact nats_byt s
theorem build_nil : build [] = [(false, [])] := by
  simp [build, finish, Daw.start, leave, num]
theorem words_rise {l : List (List Nat)} (h0 : [] ∉ l) (h : l.Pairwise (· < ·)) : ([] :: l).Pairwise (· < ·) := by
  rw [List.pairwise_cons]
  refine ⟨fun w hw => ?_, h⟩
  cases w with
  | nil => exact absurd hw h0
  | cons a t => exact List.nil_lt_cons a t
/-- What was built: each state's edges few, to lower ones, rising; ending or going on; no two alike. -/
theorem build_good (l : List ByteArray) (h0 : [] ∉ wordsN l) (h : (wordsN l).Pairwise (· < ·)) :
    (build (wordsN l)).Nodup ∧ (∀ i s, (build (wordsN l))[i]? = some s → Row i s ∧ (l ≠ [] → Alive s) ∧ s.2.length ≤ 256 ∧ Byt s) ∧ 1 ≤ (build (wordsN l)).length ∧ (build (wordsN l)).length ≤ 1 + (l.map ByteArray.size).sum := by
  have hby := build_byt (wordsN l) (wordsN_byt l)
  have hlen : ∀ i s, (build (wordsN l))[i]? = some s → Row i s → s.2.length ≤ 256 ∧ Byt s := fun i s hs hr => by
    have hb := hby s (List.mem_of_getElem? hs)
    exact ⟨by have := rising_len s.2 0 256 hr.2 (fun e he => ⟨Nat.zero_le _, hb e he⟩); omega, hb⟩
  by_cases hl : l = []
  · subst hl
    have hw : wordsN [] = [] := rfl
    rw [hw, build_nil]
    refine ⟨by simp, fun i s hs => ?_, by simp, by simp⟩
    cases i with
    | zero =>
      have : (false, []) = s := by simpa using hs
      subst this
      exact ⟨⟨by simp, trivial⟩, fun h => absurd rfl h, by simp, by intro e he; simp at he⟩
    | succ i => simp at hs
  · have hne : wordsN l ≠ [] := by unfold wordsN; simpa using hl
    obtain ⟨g1, g2, g3, g4⟩ := build_least (wordsN l) (words_rise h0 h) hne
    refine ⟨g1, fun i s hs => ?_, g3, ?_⟩
    · obtain ⟨k1, k2⟩ := g2 i s hs
      exact ⟨k1, fun _ => k2, hlen i s hs k1⟩
    · have e : ((wordsN l).map List.length) = l.map ByteArray.size := by
        unfold wordsN
        rw [List.map_map]
        exact List.map_congr_left (fun s _ => nats_len s)
      rw [e] at g4
      exact g4
end Go.Proofs.Ytebdcblchjhmpaa.K

namespace Go.Proofs.Ytebdcblchjhmpaa.K
open Go.RowKit Go.Proofs.YtebdcblchjhmpaaW.PrintWords Go.Proofs.YtebdcblchjhmpaaW.PrintLast Go.Proofs.YtebdcblchjhmpaaW.PrintMore Go.Proofs.Ytebdcblchjhmpaa
attribute [local go_sem] max2_int min2_int max_two min_two max_three min_three max_four min_four
set_option linter.unusedVariables false
set_option linter.unusedSimpArgs false
open Go.Proofs.Ytebdcblchjhmpaa.PDk Go.Proofs.Ytebdcblchjhmpaa.PSh14 Go.Proofs.Ytebdcblchjhmpaa.Daw
open Classical
theorem fnd_idx (es : List DE) (c : Nat) : match (es.map toE).findIdx? (fun e => e.f0 == (c : Int)) with
    | some k => ∃ h : k < es.length, es.find? (fun e => e.1 == c) = some es[k]
    | none => es.find? (fun e => e.1 == c) = none := by
  induction es with
  | nil => rfl
  | cons e r ih =>
    rw [List.map_cons, List.findIdx?_cons, List.find?_cons]
    have hb : ((toE e).f0 == (c : Int)) = (e.1 == c) := by
      rw [Bool.eq_iff_iff, beq_iff_eq, beq_iff_eq]; show (e.1 : Int) = (c : Int) ↔ _; omega
    rw [hb]
    by_cases h : (e.1 == c) = true
    · rw [if_pos h, h]; exact ⟨by simp, rfl⟩
    · rw [if_neg h]
      have h2 : (e.1 == c) = false := by simpa using h
      rw [h2]
      cases hf : (r.map toE).findIdx? (fun e => e.f0 == (c : Int)) with
      | none => rw [hf] at ih; exact ih
      | some k =>
        rw [hf] at ih
        obtain ⟨hk, hq⟩ := ih
        exact ⟨by simpa using hk, by simpa using hq⟩
theorem has_acc {b : List DS} (hg : ∀ (i : Nat) (s : DS), b[i]? = some s → ∀ e ∈ s.2, e.2 < b.length) : ∀ (v : List Nat) (i : Nat), i < b.length → hasFrom (b.map toS) (i : Int) v = acc b i v
  | [], i, h => by
    have hl : i < (b.map toS).length := by rw [List.length_map]; exact h
    rw [hasFrom, acc, rd31 _ i hl, List.getElem_map, List.getElem?_eq_getElem h, decide_eq_true (by omega), decide_eq_true (by omega)]
    rfl
  | c :: v, i, h => by
    have hl : i < (b.map toS).length := by rw [List.length_map]; exact h
    have hgi := hg i _ (List.getElem?_eq_getElem h)
    have hfi := fnd_idx b[i].2 c
    rw [hasFrom, acc, if_neg (by omega), rd31 _ i hl, List.getElem_map, List.getElem?_eq_getElem h]
    show (match ((b[i].2.map toE).findIdx? fun e => e.f0 == (c : Int)) with | some k => _ | none => false) = match fnd b[i] c with | some e => acc b e.2 v | none => false
    unfold fnd
    cases hf : (b[i].2.map toE).findIdx? (fun e => e.f0 == (c : Int)) with
    | none => rw [hf] at hfi; rw [hfi]
    | some k =>
      rw [hf] at hfi
      obtain ⟨hk, hq⟩ := hfi
      have hkl : k < (toS b[i]).f1.length := by simpa [toS] using hk
      rw [hq]
      show hasFrom (b.map toS) (rd_T33 (toS b[i]).f1 (k : Int)).f1 v = acc b (b[i].2[k]).2 v
      rw [rd33 _ k hkl]
      have e : ((toS b[i]).f1[k]).f1 = (((b[i].2[k]).2 : Nat) : Int) := by simp [toS, toE]
      rw [e]
      exact has_acc hg v _ (hgi _ (List.getElem_mem hk))
/-- What was built takes just its words. -/
theorem has_built (l : List ByteArray) (h0 : [] ∉ wordsN l) (h : (wordsN l).Pairwise (· < ·)) (hs : (l.map ByteArray.size).sum ≤ 1000000) (v : ByteArray) (hv : v.size ≤ 140737488355328) :
    daw_Has.f ((build (wordsN l)).map toS) v = some (decide (Utf.nats v ∈ wordsN l)) := by
  obtain ⟨g1, g2, g3, g4⟩ := build_good l h0 h
  unfold daw_Has.f
  rw [if_pos ⟨by rw [List.length_map]; omega, hv⟩, List.length_map]
  have hg : ∀ (i : Nat) (s : DS), (build (wordsN l))[i]? = some s → ∀ e ∈ s.2, e.2 < (build (wordsN l)).length := fun i s hs e he => by
    have := (g2 i s hs).1.1 e he
    have := (List.getElem?_eq_some_iff.1 hs).1
    omega
  have e1 : (((build (wordsN l)).length : Nat) : Int) - 1 = (((build (wordsN l)).length - 1 : Nat) : Int) := by omega
  rw [e1, has_acc hg _ _ (by omega)]
  by_cases hl : l = []
  · subst hl
    have hw : wordsN [] = [] := rfl
    rw [hw, build_nil]
    cases hv : Utf.nats v with
    | nil => rfl
    | cons c t => rfl
  · have hne : wordsN l ≠ [] := by unfold wordsN; simpa using hl
    obtain ⟨a, s, hb, _, hacc⟩ := build_takes (wordsN l) (words_rise h0 h) hne
    have e2 : (build (wordsN l)).length - 1 = a.length := by rw [hb]; simp
    rw [e2, hacc]
end Go.Proofs.Ytebdcblchjhmpaa.K

namespace Go.Proofs.Ytebdcblchjhmpaa.K
open Go.RowKit Go.Proofs.YtebdcblchjhmpaaW.PrintWords Go.Proofs.YtebdcblchjhmpaaW.PrintLast Go.Proofs.YtebdcblchjhmpaaW.PrintMore Go.Proofs.Ytebdcblchjhmpaa
attribute [local go_sem] max2_int min2_int max_two min_two max_three min_three max_four min_four
set_option linter.unusedVariables false
set_option linter.unusedSimpArgs false
open Go Go.Shelf Go.Proofs
def renCl : Go.Shelf.Ren := ⟨fun | 25 => 51 | n => n, fun | 37 => 35 | 47 => 89 | 5 => 5 | 9 => 9 | 4 => 4 | 3 => 3 | 0 => 0 | n => n, fun | n => n⟩
end Go.Proofs.Ytebdcblchjhmpaa.K

namespace Go.Proofs.Ytebdcblchjhmpaa.K
open Go.RowKit Go.Proofs.YtebdcblchjhmpaaW.PrintWords Go.Proofs.YtebdcblchjhmpaaW.PrintLast Go.Proofs.YtebdcblchjhmpaaW.PrintMore Go.Proofs.Ytebdcblchjhmpaa
attribute [local go_sem] max2_int min2_int max_two min_two max_three min_three max_four min_four
set_option linter.unusedVariables false
set_option linter.unusedSimpArgs false
open Go.Proofs.Ytebdcblchjhmpaa.PDk Go.Proofs.Ytebdcblchjhmpaa.PDm
def oneB (c : Int) : ByteArray := strOfNums [c]
def tlE (most : Nat) (f : Nat → ByteArray → List ByteArray → Bool × List ByteArray) (word : ByteArray) : List (Int × Nat) → List ByteArray → Bool × List ByteArray
  | [], acc => (true, acc)
  | e :: es, acc => if most < acc.length then (false, acc) else if (f e.2 (word ++ oneB e.1) acc).1 = true then tlE most f word es (f e.2 (word ++ oneB e.1) acc).2 else (false, (f e.2 (word ++ oneB e.1) acc).2)
def edgesT (l : List S31) (n : Nat) : List (Int × Nat) := (rd_T31 l (n : Int)).f1.map fun e => (e.f0, e.f1.toNat)
def accT (l : List S31) (n : Nat) (word : ByteArray) (acc : List ByteArray) : List ByteArray := if (rd_T31 l (n : Int)).f0 = true then acc ++ [word] else acc
/-- What the closure tells, called for state n behind a word: whether all was told, and what was. -/
def tl (l : List S31) (most : Nat) : Nat → Nat → ByteArray → List ByteArray → Bool × List ByteArray
  | 0, _, _, acc => (false, acc)
  | k + 1, n, word, acc => if (tlE most (tl l most k) word (edgesT l n) (accT l n word acc)).1 = true then (decide ((tlE most (tl l most k) word (edgesT l n) (accT l n word acc)).2.length ≤ most), (tlE most (tl l most k) word (edgesT l n) (accT l n word acc)).2)
    else (false, (tlE most (tl l most k) word (edgesT l n) (accT l n word acc)).2)
/-- The closure's world. -/
structure TkW (w0 : World) (ba bs bm bl : Nat) (A : Option Addr) (c : Nat) (l : List S31) (most : Nat) (acc : List ByteArray) (w : World) : Prop where
  below : Below w0.heap.size w0 w
  ca : w.cell? ⟨ba, 0, none⟩ = some (.slice A l.length c)
  cm : w.cell? ⟨bm, 0, none⟩ = some (.int .i64 (most : Int))
  cl : w.cell? ⟨bl, 0, none⟩ = some (.func (.func 45) #[] #[.pointer (some ⟨ba, 0, none⟩), .pointer (some ⟨bs, 0, none⟩), .pointer (some ⟨bm, 0, none⟩), .pointer (some ⟨bl, 0, none⟩)])
  hs : ∃ v, w.heap[bs]? = some (.cells #[v] 22 (0, 0)) ∧ Kd.R Kd.string 9 w w0.heap.size (fun k => k ≠ ba ∧ k ≠ bs ∧ k ≠ bm ∧ k ≠ bl) v acc
end Go.Proofs.Ytebdcblchjhmpaa.K

namespace Go.Proofs.Ytebdcblchjhmpaa.K
open Go.RowKit Go.Proofs.YtebdcblchjhmpaaW.PrintWords Go.Proofs.YtebdcblchjhmpaaW.PrintLast Go.Proofs.YtebdcblchjhmpaaW.PrintMore Go.Proofs.Ytebdcblchjhmpaa
attribute [local go_sem] max2_int min2_int max_two min_two max_three min_three max_four min_four
set_option linter.unusedVariables false
set_option linter.unusedSimpArgs false
open Go.Proofs.Ytebdcblchjhmpaa.PDk Go.Proofs.Ytebdcblchjhmpaa.PDm
end Go.Proofs.Ytebdcblchjhmpaa.K

namespace Go.Proofs.Ytebdcblchjhmpaa.K
open Go.RowKit Go.Proofs.YtebdcblchjhmpaaW.PrintWords Go.Proofs.YtebdcblchjhmpaaW.PrintLast Go.Proofs.YtebdcblchjhmpaaW.PrintMore Go.Proofs.Ytebdcblchjhmpaa
attribute [local go_sem] max2_int min2_int max_two min_two max_three min_three max_four min_four
set_option linter.unusedVariables false
set_option linter.unusedSimpArgs false
open Go.Proofs.Ytebdcblchjhmpaa.PDk Go.Proofs.Ytebdcblchjhmpaa.PDm
def daw_Words.f (l : List S31) (a1 : Int) : Option (List ByteArray × Int) :=
  if okB l = true ∧ lowB l = true ∧ 0 < l.length then
    (if a1 < 0 then some ([], 1) else if 100000 < a1 then some ([], 1) else if mayB l = true then
      (if (tl l a1.toNat l.length (l.length - 1) ⟨#[]⟩ []).1 = true then some ((tl l a1.toNat l.length (l.length - 1) ⟨#[]⟩ []).2, 0) else some ([], 6)) else some ([], 1))
  else none
end Go.Proofs.Ytebdcblchjhmpaa.K

namespace Go.Proofs.Ytebdcblchjhmpaa.K
open Go.RowKit Go.Proofs.YtebdcblchjhmpaaW.PrintWords Go.Proofs.YtebdcblchjhmpaaW.PrintLast Go.Proofs.YtebdcblchjhmpaaW.PrintMore Go.Proofs.Ytebdcblchjhmpaa
attribute [local go_sem] max2_int min2_int max_two min_two max_three min_three max_four min_four
set_option linter.unusedVariables false
set_option linter.unusedSimpArgs false
open Go.Proofs.Ytebdcblchjhmpaa.PDk Go.Proofs.Ytebdcblchjhmpaa.PDm Go.Proofs.Ytebdcblchjhmpaa.PSh14 Go.Proofs.Ytebdcblchjhmpaa.Daw
open Classical
def edI (e : DE) : Int × Nat := ((e.1 : Int), e.2)
def Tells (most : Nat) (f : ByteArray → List ByteArray → Bool × List ByteArray) (X : List (List Nat)) : Prop :=
  ∀ w a, a.length ≤ most → (a.length + X.length ≤ most → ∃ Z, f w a = (true, Z) ∧ Z.map Utf.nats = a.map Utf.nats ++ X.map (Utf.nats w ++ ·)) ∧ (most < a.length + X.length → (f w a).1 = false)
theorem rdB (b : List DS) (n : Nat) (h : n < b.length) : rd_T31 (b.map toS) (n : Int) = toS b[n] := by
  rw [rd31 _ n (by rw [List.length_map]; exact h), List.getElem_map]
theorem tosR_b (b : List DS) (n : Nat) (h : n < b.length) : tosR (b.map toS) n = b[n].2.map (·.2) := by
  unfold tosR
  rw [rdB b n h]
  unfold toS
  simp only [List.map_map]
  refine List.map_congr_left (fun e _ => ?_)
  simp [toE]
theorem visE_rk {v : Nat → Nat → Option Nat} {f : Nat → Nat → Bool × Nat} : ∀ (es : List DE) (m r : Nat), (∀ e ∈ es, ∀ m r, v e.2 m = some r → f e.2 m = (true, r)) → visE v es m = some r → rkE f (es.map (·.2)) m = (true, r)
  | [], m, r, _, h => by rw [visE] at h; injection h with h; subst h; rfl
  | e :: es, m, r, hf, h => by
    rw [visE] at h
    rw [List.map_cons, rkE]
    by_cases c : m ≤ e.2
    · rw [if_pos c] at h ⊢
      obtain ⟨x, hx, h⟩ := Option.bind_eq_some_iff.1 h
      rw [hf e (by simp) m x hx, if_pos rfl]
      exact visE_rk es x r (fun y hy => hf y (by simp [hy])) h
    · rw [if_neg c] at h ⊢
      exact visE_rk es m r (fun y hy => hf y (by simp [hy])) h
theorem vis_rk (b : List DS) : ∀ (k n m r : Nat), vis b k n m = some r → rk (b.map toS) k n m = (true, r)
  | 0, n, m, r, h => by simp [vis] at h
  | k + 1, n, m, r, h => by
    unfold vis at h
    cases hs : b[n]? with
    | none => rw [hs] at h; cases h
    | some s =>
      rw [hs] at h
      obtain ⟨hn, rfl⟩ := List.getElem?_eq_some_iff.1 hs
      obtain ⟨x, hx, h⟩ := Option.bind_eq_some_iff.1 h
      have h1 := visE_rk b[n].2 m x (fun e _ m r => vis_rk b k e.2 m r) hx
      by_cases c : n = x
      · rw [if_pos c] at h
        injection h with h
        subst h
        rw [rk, tosR_b b n hn, h1, if_pos rfl, decide_eq_true c]
      · rw [if_neg c] at h; cases h


theorem rising_get : ∀ (es : List DE), Rising es → ∀ j (h : j + 1 < es.length), (es[j]'(by omega)).1 < (es[j + 1]).1
  | [], _, j, h => by simp at h
  | e :: r, hr, 0, h => by
    have hl : 0 < r.length := by simpa using h
    exact hr.1 _ (List.getElem_mem hl)
  | e :: r, hr, j + 1, h => rising_get r hr.2 j (by simpa using h)
theorem ofS_toS (s : DS) : ofS (toS s) = s := by
  unfold ofS toS
  obtain ⟨a, es⟩ := s
  simp only [List.map_map]
  congr 1
  refine (List.map_congr_left (fun e _ => ?_)).trans (List.map_id _)
  simp [toE]
theorem ok_built (l : List ByteArray) (h0 : [] ∉ wordsN l) (h : (wordsN l).Pairwise (· < ·)) (hs : (l.map ByteArray.size).sum ≤ 1000000) : okB ((build (wordsN l)).map toS) = true ∧ lowB ((build (wordsN l)).map toS) = true ∧ 0 < ((build (wordsN l)).map toS).length := by
  obtain ⟨g1, g2, g3, g4⟩ := build_good l h0 h
  refine ⟨(okB_iff _).2 ⟨by rw [List.length_map]; omega, fun s hs => ?_⟩, (lowB_iff _).2 (fun n hn e he => ?_), by rw [List.length_map]; omega⟩
  · obtain ⟨t, ht, rfl⟩ := List.mem_map.1 hs
    obtain ⟨i, hi, rfl⟩ := List.getElem_of_mem ht
    obtain ⟨_, _, k3, k4⟩ := g2 i _ (List.getElem?_eq_getElem hi)
    refine ⟨by show (_ : List _).length ≤ _; unfold toS; rw [List.length_map]; omega, fun e he => ?_⟩
    unfold toS at he
    obtain ⟨f, hf, rfl⟩ := List.mem_map.1 he
    have := k4 f hf
    exact ⟨by show (0 : Int) ≤ (f.1 : Int); omega, by show (f.1 : Int) < 256; omega⟩
  · rw [List.length_map] at hn
    rw [rdB _ n hn] at he
    obtain ⟨k1, _⟩ := g2 n _ (List.getElem?_eq_getElem hn)
    unfold toS at he
    obtain ⟨f, hf, rfl⟩ := List.mem_map.1 he
    have := k1.1 f hf
    exact ⟨by show (0 : Int) ≤ (f.2 : Int); omega, by show (f.2 : Int) < (n : Int); omega⟩
theorem plain_built (l : List ByteArray) (h0 : [] ∉ wordsN l) (h : (wordsN l).Pairwise (· < ·)) : plainB ((build (wordsN l)).map toS) = true := by
  obtain ⟨g1, g2, g3, g4⟩ := build_good l h0 h
  unfold plainB
  rw [Bool.and_eq_true, decide_eq_true_eq, List.length_map]
  refine ⟨List.all_eq_true.2 (fun i hi => ?_), by omega⟩
  have hi : i < (build (wordsN l)).length := by rw [List.mem_range'_1] at hi; omega
  obtain ⟨k1, k2, k3, k4⟩ := g2 i _ (List.getElem?_eq_getElem hi)
  unfold stateB
  rw [rdB _ i hi, Bool.and_eq_true]
  constructor
  · refine List.all_eq_true.2 (fun j hj => ?_)
    have hjl : j < ((build (wordsN l))[i].2.map toE).length := by
      rw [List.mem_range'_1] at hj
      have h2 := hj.2
      have e0 : (toS (build (wordsN l))[i]).f1.length = ((build (wordsN l))[i].2.map toE).length := rfl
      rw [e0] at h2
      omega
    have hjl2 : j < (build (wordsN l))[i].2.length := by rw [List.length_map] at hjl; exact hjl
    have e1 : rd_T33 (toS (build (wordsN l))[i]).f1 (j : Int) = toE ((build (wordsN l))[i].2[j]) := by
      unfold toS
      rw [rd33 _ j hjl, List.getElem_map]
    unfold edgeB
    rw [e1]
    have hlt := k1.1 _ (List.getElem_mem hjl2)
    rw [Bool.and_eq_true, Bool.and_eq_true, decide_eq_true_eq, decide_eq_true_eq, Bool.or_eq_true, decide_eq_true_eq, decide_eq_true_eq]
    refine ⟨⟨?_, ?_⟩, ?_⟩
    · show (0 : Int) ≤ (((build (wordsN l))[i].2[j].2 : Nat) : Int); omega
    · show (((build (wordsN l))[i].2[j].2 : Nat) : Int) < (i : Int); omega
    · cases j with
      | zero => exact Or.inl rfl
      | succ j =>
        right
        have hr := rising_get _ k1.2 j hjl2
        have e2 : rd_T33 (toS (build (wordsN l))[i]).f1 ((j + 1 - 1 : Nat) : Int) = toE ((build (wordsN l))[i].2[j]) := by
          rw [Nat.add_sub_cancel]
          unfold toS
          rw [rd33 _ j (by rw [List.length_map]; omega), List.getElem_map]
        rw [e2]
        show (((build (wordsN l))[i].2[j].1 : Nat) : Int) < (((build (wordsN l))[i].2[j + 1].1 : Nat) : Int)
        omega
  · unfold useB
    rw [Bool.or_eq_true, Bool.or_eq_true, decide_eq_true_eq, List.length_map]
    by_cases hl : l = []
    · right
      subst hl
      have hw : wordsN [] = [] := rfl
      rw [hw, build_nil]; simp
    · left
      rcases k2 hl with k | k
      · exact Or.inl k
      · right
        unfold toS
        simpa using k
theorem root_built (l : List ByteArray) (h0 : [] ∉ wordsN l) (h : (wordsN l).Pairwise (· < ·)) : ∃ s, (build (wordsN l))[(build (wordsN l)).length - 1]? = some s ∧ s.1 = false := by
  by_cases hl : l = []
  · subst hl
    have hw : wordsN [] = [] := rfl
    rw [hw, build_nil]
    exact ⟨_, rfl, rfl⟩
  · have hne : wordsN l ≠ [] := by unfold wordsN; simpa using hl
    obtain ⟨a, s, hb, _, hacc⟩ := build_takes (wordsN l) (words_rise h0 h) hne
    have hg : (build (wordsN l))[a.length]? = some s := by rw [hb]; simp
    refine ⟨s, by rw [hb]; simp, ?_⟩
    have h1 := hacc []
    rw [acc_at hg, decide_eq_false h0] at h1
    exact h1
theorem ranked_built (l : List ByteArray) (h0 : [] ∉ wordsN l) (h : (wordsN l).Pairwise (· < ·)) (hs : (l.map ByteArray.size).sum ≤ 1000000) : (rk ((build (wordsN l)).map toS) (build (wordsN l)).length ((build (wordsN l)).length - 1) 0).1 = true := by
  have hk : ∃ k, vis (build (wordsN l)) k ((build (wordsN l)).length - 1) 0 = some (build (wordsN l)).length := by
    by_cases hl : l = []
    · subst hl
      have hw : wordsN [] = [] := rfl
      rw [hw, build_nil]
      exact ⟨1, rfl⟩
    · have hne : wordsN l ≠ [] := by unfold wordsN; simpa using hl
      exact build_ranked (wordsN l) (words_rise h0 h) hne
  obtain ⟨k, hk⟩ := hk
  obtain ⟨o1, o2, o3⟩ := ok_built l h0 h hs
  rw [List.length_map] at o3
  have h1 := vis_le (build (wordsN l)) [] (k' := k + (build (wordsN l)).length + 1) (by omega) hk
  rw [List.append_nil] at h1
  have h2 := vis_rk _ _ _ _ _ h1
  rw [rk_fuel ((lowB_iff _).1 o2) ((build (wordsN l)).length - 1) (build (wordsN l)).length (k + (build (wordsN l)).length + 1) 0 (by rw [List.length_map]; omega) (by omega) (by omega), h2]
theorem may_built (l : List ByteArray) (h0 : [] ∉ wordsN l) (h : (wordsN l).Pairwise (· < ·)) (hs : (l.map ByteArray.size).sum ≤ 1000000) : mayB ((build (wordsN l)).map toS) = true := by
  obtain ⟨g1, g2, g3, g4⟩ := build_good l h0 h
  obtain ⟨s, hs1, hs2⟩ := root_built l h0 h
  obtain ⟨hn, hse⟩ := List.getElem?_eq_some_iff.1 hs1
  unfold mayB
  rw [plain_built l h0 h, List.length_map, ranked_built l h0 h hs, show (((build (wordsN l)).length : Nat) : Int) - 1 = (((build (wordsN l)).length - 1 : Nat) : Int) from by omega, rdB _ _ hn, hse]
  have e : ((build (wordsN l)).map toS).map ofS = build (wordsN l) := by
    rw [List.map_map]
    exact (List.map_congr_left (fun s _ => ofS_toS s)).trans (List.map_id _)
  rw [e, decide_eq_true g1]
  show (true && true && !s.1 && true) = true
  rw [hs2]; rfl
end Go.Proofs.Ytebdcblchjhmpaa.K

