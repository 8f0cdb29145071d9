/- DictNobody. (The texts that the proof is made of, one behind the other: part 5 of 18.) -/
import Derived.KernelRfl
import Derived.Test.YtgebhidpkcjpmaaProg
import Derived.Below
import Derived.Deep.Draws
import Derived.Deep.AppendLies
import Derived.Maps.AppendAt
import Derived.OwnWalk
import Derived.Laws.BytesArg
import Derived.Laws.MakeOwn
import Derived.Laws.OwnMore
import Derived.Deep.OwnRows
import Derived.Tactics
import Derived.Lib.ConvBytes
import Derived.Laws.Slices
import Derived.WalkKit
import Derived.RowKit3
import Derived.Deep.LoopGhost
import Derived.Deep.QuietTactic
import Derived.BigQuiet
import Derived.WideLaws
import Derived.Deep.DeepCutAuto
import Derived.Deep.CutBlock
import Derived.Deep.RegionHeld3
import Derived.Laws.Rows
import Derived.Lib.AppendStr
import Derived.ArgAppend
import Derived.Laws.IdiomCopy
import Derived.OrdersHeld
import Derived.Laws.BitsLemmas
import Derived.RowKit
import Derived.Lib.OthersKept
import Derived.WalkSmall
import Derived.Deep.RegionLaw
import Derived.BigRegion
import Derived.Maps.OwnSet
import Derived.Maps.OwnOps
import Derived.Test.YtgebhidpkcjpmaaZDictNobodya
import Derived.Test.YtgebhidpkcjpmaaZDictNobodyb
import Derived.Test.YtgebhidpkcjpmaaZDictNobodyc
import Derived.Test.YtgebhidpkcjpmaaZDictNobodyd
namespace Go.Proofs.Ytgebhidpkcjpmaa.PDm
open Go.RowKit Go.Proofs.YtgebhidpkcjpmaaW.PrintWords Go.Proofs.YtgebhidpkcjpmaaW.PrintLast Go.Proofs.YtgebhidpkcjpmaaW.PrintMore Go.Proofs.Ytgebhidpkcjpmaa.K Go.Proofs.Ytgebhidpkcjpmaa.PDk
attribute [local go_sem] max2_int min2_int max_two min_two max_three min_three max_four min_four   -- for this text's walks alone
set_option linter.unusedVariables false
set_option linter.unusedSimpArgs false

end Go.Proofs.Ytgebhidpkcjpmaa.PDm

namespace Go.Proofs.Ytgebhidpkcjpmaa.Daw
set_option linter.unusedVariables false
set_option linter.unusedSimpArgs false
abbrev DE := Nat × Nat
abbrev DS := Bool × List DE
/-- The number of a state that is left. -/
def num (left : List DS) (s : DS) : List DS × Nat := if s ∈ left then (left, left.idxOf s) else (left ++ [s], left.length)
/-- The path is told from its end: the state of the word's last byte first. -/
def leave (w : List Nat) (n : Nat) : List DS → List DS → List DS × List DS
  | left, [] => (left, [])
  | left, [s] => (left, [s])
  | left, s :: u :: r => if n < r.length + 1 then leave w n (num left s).1 ((u.1, u.2 ++ [(w.getD r.length 0, (num left s).2)]) :: r) else (left, s :: u :: r)
termination_by _ p => p.length
def common : List Nat → List Nat → Nat
  | a :: s, b :: t => if a = b then common s t + 1 else 0
  | _, _ => 0
structure B where
  left : List DS
  path : List DS
  word : List Nat
def ends : List DS → List DS
  | [] => []
  | s :: r => (true, s.2) :: r
def add (x : B) (w : List Nat) : B :=
  let y := leave x.word (common w x.word) x.left x.path
  ⟨y.1, ends (List.replicate (w.length + 1 - y.2.length) (false, []) ++ y.2), w⟩
def start : B := ⟨[], [(false, [])], []⟩
def finish (x : B) : List DS :=
  match (leave x.word 0 x.left x.path).2 with
  | s :: _ => (num (leave x.word 0 x.left x.path).1 s).1
  | [] => (leave x.word 0 x.left x.path).1
def build (l : List (List Nat)) : List DS := finish (l.foldl add start)
def Rising : List DE → Prop
  | [] => True
  | e :: r => (∀ f ∈ r, e.1 < f.1) ∧ Rising r
theorem rising_snoc (l : List DE) (e : DE) (h : Rising l) (hl : ∀ f ∈ l, f.1 < e.1) : Rising (l ++ [e]) := by
  induction l with
  | nil => simp [Rising]
  | cons a r ih =>
    refine ⟨fun f hf => ?_, ih h.2 (fun f hf => hl f (by simp [hf]))⟩
    rcases List.mem_append.1 hf with hf | hf
    · exact h.1 f hf
    · rw [List.mem_singleton.1 hf]; exact hl a (by simp)
def Row (L : Nat) (s : DS) : Prop := (∀ e ∈ s.2, e.2 < L) ∧ Rising s.2
def Alive (s : DS) : Prop := s.1 = true ∨ s.2 ≠ []
theorem Row.mono {L L' : Nat} {s : DS} (h : Row L s) (hl : L ≤ L') : Row L' s := ⟨fun e he => Nat.lt_of_lt_of_le (h.1 e he) hl, h.2⟩
def Good (left : List DS) : Prop := left.Nodup ∧ ∀ i s, left[i]? = some s → Row i s ∧ Alive s
def P (L : Nat) (w : List Nat) : List DS → Prop
  | [] => True
  | s :: r => Row L s ∧ (∀ e ∈ s.2, e.1 < w.getD r.length 0) ∧ P L w r
theorem P.mono {L L' : Nat} {w : List Nat} : ∀ {r : List DS}, P L w r → L ≤ L' → P L' w r
  | [], _, _ => trivial
  | _ :: _, h, hl => ⟨h.1.mono hl, h.2.1, h.2.2.mono hl⟩
theorem num_good {left : List DS} {s : DS} (h : Good left) (hr : Row left.length s) (ha : Alive s) : Good (num left s).1 ∧ (num left s).2 < (num left s).1.length ∧ left.length ≤ (num left s).1.length ∧ (num left s).1.length ≤ left.length + 1 ∧ (num left s).1[(num left s).2]? = some s ∧ ∃ t, (num left s).1 = left ++ t := by
  unfold num
  by_cases hs : s ∈ left
  · rw [if_pos hs]
    have hi := List.idxOf_lt_length_iff.2 hs
    refine ⟨h, hi, Nat.le_refl _, Nat.le_succ _, ?_, [], by simp⟩
    rw [List.getElem?_eq_getElem hi]; simp
  · rw [if_neg hs]
    refine ⟨⟨?_, ?_⟩, by simp, by simp, by simp, by simp, [s], rfl⟩
    · rw [List.nodup_append]
      exact ⟨h.1, by simp, fun a hm b hb => by simp at hb; subst hb; rintro rfl; exact hs hm⟩
    · intro i t hi
      rw [List.getElem?_append] at hi
      by_cases hlt : i < left.length
      · rw [if_pos hlt] at hi; exact h.2 i t hi
      · rw [if_neg hlt] at hi
        have h0 : i - left.length = 0 := by
          have := (List.getElem?_eq_some_iff.1 hi).1
          simp at this; omega
        rw [h0] at hi
        simp at hi
        subst hi
        have : i = left.length := by omega
        subst this
        exact ⟨hr, ha⟩
/-- What leaving leaves. -/
theorem leave_ok (w : List Nat) (n : Nat) : ∀ (k : Nat) (left : List DS) (s : DS) (r : List DS), r.length = k → n ≤ r.length → Good left → Row left.length s → (0 < r.length → Alive s) → P left.length w r →
    (n = r.length ∨ n < r.length) → ∃ s' r', (leave w n left (s :: r)).2 = s' :: r' ∧ r'.length = n ∧ Good (leave w n left (s :: r)).1 ∧ Row (leave w n left (s :: r)).1.length s' ∧ P (leave w n left (s :: r)).1.length w r' ∧
      (n = r.length → s' = s ∧ (leave w n left (s :: r)).1 = left ∧ r' = r) ∧ (n < r.length → Alive s' ∧ ∀ e ∈ s'.2, e.1 ≤ w.getD n 0) ∧ left.length ≤ (leave w n left (s :: r)).1.length ∧ (leave w n left (s :: r)).1.length + n ≤ left.length + r.length := by
  intro k
  induction k with
  | zero =>
    intro left s r hk hn hg hrow hal hp _
    have : r = [] := List.length_eq_zero_iff.1 hk
    subst this
    have hl : leave w n left [s] = (left, [s]) := by rw [leave]
    rw [hl]
    have hn0 : n = 0 := by simpa using hn
    subst hn0
    exact ⟨s, [], rfl, rfl, hg, hrow, trivial, fun _ => ⟨rfl, rfl, rfl⟩, fun h => absurd h (by simp), Nat.le_refl _, by simp⟩
  | succ k ih =>
    intro left s r hk hn hg hrow hal hp _
    match r, hk with
    | u :: r, hk =>
    by_cases hlt : n < r.length + 1
    · have hl : leave w n left (s :: u :: r) = leave w n (num left s).1 ((u.1, u.2 ++ [(w.getD r.length 0, (num left s).2)]) :: r) := by rw [leave, if_pos hlt]
      rw [hl]
      obtain ⟨g1, g2, g3, g4, g5, g6⟩ := num_good hg hrow (hal (by simp))
      obtain ⟨hu, hub, hpr⟩ := hp
      have hrow' : Row (num left s).1.length (u.1, u.2 ++ [(w.getD r.length 0, (num left s).2)]) := by
        refine ⟨fun e he => ?_, rising_snoc _ _ hu.2 hub⟩
        rcases List.mem_append.1 he with he | he
        · exact Nat.lt_of_lt_of_le (hu.1 e he) g3
        · rw [List.mem_singleton.1 he]; exact g2
      have hk' : r.length = k := by simpa using hk
      obtain ⟨s', r', q1, q2, q3, q4, q5, q6, q7, q8, q9⟩ := ih (num left s).1 (u.1, u.2 ++ [(w.getD r.length 0, (num left s).2)]) r hk' (by omega) g1 hrow' (fun _ => Or.inr (by simp)) (hpr.mono g3) (by omega)
      refine ⟨s', r', q1, q2, q3, q4, q5, fun h => ?_, fun _ => ?_, by omega, by simp only [List.length_cons]; omega⟩
      · simp only [List.length_cons] at h; omega
      · by_cases hn' : n = r.length
        · obtain ⟨rfl, _, _⟩ := q6 hn'
          refine ⟨Or.inr (by simp), fun e he => ?_⟩
          rcases List.mem_append.1 he with he | he
          · rw [hn']; exact Nat.le_of_lt (hub e he)
          · rw [List.mem_singleton.1 he, hn']; exact Nat.le_refl _
        · exact q7 (by omega)
    · have hl : leave w n left (s :: u :: r) = (left, s :: u :: r) := by rw [leave, if_neg hlt]
      rw [hl]
      simp only [List.length_cons] at hn
      have hn' : n = r.length + 1 := by omega
      exact ⟨s, u :: r, rfl, by simp [hn'], hg, hrow, hp, fun _ => ⟨rfl, rfl, rfl⟩, fun h => absurd h (by simp; omega), Nat.le_refl _, by simp; omega⟩
theorem common_le : ∀ (a b : List Nat), common a b ≤ a.length ∧ common a b ≤ b.length
  | [], _ => by simp [common]
  | _ :: _, [] => by simp [common]
  | a :: s, b :: t => by
    unfold common
    split
    · have := common_le s t; simp; omega
    · simp
theorem common_get : ∀ (a b : List Nat) (j : Nat), j < common a b → a.getD j 0 = b.getD j 0
  | [], _, j, h => by simp [common] at h
  | _ :: _, [], j, h => by simp [common] at h
  | a :: s, b :: t, j, h => by
    unfold common at h
    split at h
    · rename_i hab
      match j with
      | 0 => simpa using hab
      | j + 1 => simpa using common_get s t j (by omega)
    · simp at h
/-- A word above another one goes on behind what they share: by a greater byte, or beyond its end. -/
theorem common_lt : ∀ (a b : List Nat), b < a → common a b < a.length ∧ (common a b = b.length ∨ b.getD (common a b) 0 < a.getD (common a b) 0)
  | [], b, h => by simp at h
  | a :: s, [], h => by simp [common]
  | a :: s, b :: t, h => by
    rw [List.cons_lt_cons_iff] at h
    unfold common
    by_cases hab : a = b
    · rw [if_pos hab]
      rcases h with h | ⟨_, h⟩
      · omega
      · have := common_lt s t h
        simp only [List.length_cons, List.getD_cons_succ]
        omega
    · rw [if_neg hab]
      rcases h with h | ⟨h, _⟩
      · simp [h]
      · exact absurd h.symm hab
/-- What stands between two words. -/
structure Inv (x : B) (total : Nat) : Prop where
  good : Good x.left
  path : ∃ s r, x.path = s :: r ∧ r.length = x.word.length ∧ s.2 = [] ∧ (0 < r.length → s.1 = true) ∧ P x.left.length x.word r
  many : x.left.length + x.word.length ≤ total
theorem P_word {L : Nat} {w w' : List Nat} : ∀ {r : List DS}, P L w r → (∀ j, j < r.length → w.getD j 0 = w'.getD j 0) → P L w' r
  | [], _, _ => trivial
  | s :: r, h, hw => ⟨h.1, fun e he => by rw [← hw r.length (by simp)]; exact h.2.1 e he, P_word h.2.2 (fun j hj => hw j (by simp; omega))⟩
theorem P_new {L : Nat} {w : List Nat} : ∀ (k : Nat) {r : List DS}, P L w r → P L w (List.replicate k (false, []) ++ r)
  | 0, _, h => by simpa using h
  | k + 1, r, h => by
    rw [List.replicate_succ, List.cons_append]
    exact ⟨⟨by simp, trivial⟩, by simp, P_new k h⟩
theorem add_ok {x : B} {total : Nat} (h : Inv x total) (w : List Nat) (hw : x.word < w) : Inv (add x w) (total + w.length) := by
  obtain ⟨s, r, hp, hrl, hse, hsf, hP⟩ := h.path
  obtain ⟨c1, c2⟩ := common_lt w x.word hw
  have c3 := common_le w x.word
  have hn : common w x.word ≤ r.length := by rw [hrl]; exact c3.2
  have hrow : Row x.left.length s := ⟨by simp [hse], by rw [hse]; trivial⟩
  obtain ⟨s', r', q1, q2, q3, q4, q5, q6, q7, q8, q9⟩ := leave_ok x.word (common w x.word) r.length x.left s r rfl hn h.good hrow (fun h0 => Or.inl (hsf h0)) hP (by omega)
  rw [← hp] at q1 q3 q4 q5 q6 q8 q9
  have hbytes : ∀ e ∈ s'.2, e.1 < w.getD (common w x.word) 0 := by
    by_cases hc : common w x.word = r.length
    · rw [(q6 hc).1, hse]; simp
    · intro e he
      have h1 := (q7 (by omega)).2 e he
      rcases c2 with c2 | c2
      · omega
      · omega
  have hP' : P (leave x.word (common w x.word) x.left x.path).1.length w (s' :: r') :=
    ⟨q4, by rw [q2]; exact hbytes, P_word q5 (fun j hj => (common_get w x.word j (by omega)).symm)⟩
  have hlen : w.length + 1 - (s' :: r').length = (w.length - common w x.word - 1) + 1 := by simp; omega
  refine ⟨q3, ?_, ?_⟩
  · refine ⟨(true, []), List.replicate (w.length - common w x.word - 1) (false, []) ++ (s' :: r'), ?_, ?_, rfl, fun _ => rfl, P_new _ hP'⟩
    · show ends (List.replicate (w.length + 1 - (leave x.word (common w x.word) x.left x.path).2.length) (false, []) ++ (leave x.word (common w x.word) x.left x.path).2) = _
      rw [q1, hlen, List.replicate_succ]; rfl
    · show _ = w.length
      simp; omega
  · have := h.many
    show (leave x.word (common w x.word) x.left x.path).1.length + w.length ≤ _
    omega
theorem adds_ok : ∀ (l : List (List Nat)) (x : B) (total : Nat), Inv x total → (x.word :: l).Pairwise (· < ·) → Inv (l.foldl add x) (total + (l.map List.length).sum)
  | [], x, total, h, _ => by simpa using h
  | w :: l, x, total, h, hs => by
    rw [List.foldl_cons, List.map_cons, List.sum_cons, ← Nat.add_assoc]
    rw [List.pairwise_cons] at hs
    exact adds_ok l (add x w) _ (add_ok h w (hs.1 w (by simp))) hs.2
theorem start_ok : Inv start 0 := ⟨⟨by simp [start], by simp [start]⟩, ⟨(false, []), [], rfl, rfl, rfl, by simp, trivial⟩, by simp [start]⟩
/-- What is built: no two alike, each of use, leading to lower ones by rising bytes; no more than bytes, and one. -/
theorem build_least (l : List (List Nat)) (hs : ([] :: l).Pairwise (· < ·)) (hl : l ≠ []) :
    (build l).Nodup ∧ (∀ i s, (build l)[i]? = some s → Row i s ∧ Alive s) ∧ 1 ≤ (build l).length ∧ (build l).length ≤ 1 + (l.map List.length).sum := by
  have h := adds_ok l start 0 start_ok hs
  obtain ⟨s, r, hp, hrl, hse, hsf, hP⟩ := h.path
  have hrow : Row (l.foldl add start).left.length s := ⟨by simp [hse], by rw [hse]; trivial⟩
  obtain ⟨s', r', q1, q2, q3, q4, q5, q6, q7, q8, q9⟩ := leave_ok (l.foldl add start).word 0 r.length _ s r rfl (Nat.zero_le _) h.good hrow (fun h0 => Or.inl (hsf h0)) hP (by omega)
  rw [← hp] at q1 q3 q4 q5 q6 q8 q9
  have hword : (l.foldl add start).word ≠ [] := by
    obtain ⟨w, l', rfl⟩ : ∃ w l', l = l' ++ [w] := ⟨l.getLast hl, l.dropLast, (List.dropLast_concat_getLast hl).symm⟩
    rw [List.foldl_append]
    show w ≠ []
    rintro rfl
    rw [List.pairwise_cons] at hs
    have := hs.1 [] (by simp)
    simp at this
  have hr0 : 0 < r.length := by rw [hrl]; exact List.length_pos_iff.2 hword
  have hal := (q7 hr0).1
  have hb : build l = (num (leave (l.foldl add start).word 0 (l.foldl add start).left (l.foldl add start).path).1 s').1 := by
    unfold build finish; rw [q1]
  obtain ⟨g1, g2, g3, g4, g5, g6⟩ := num_good q3 q4 hal
  rw [hb]
  refine ⟨g1.1, g1.2, by omega, ?_⟩
  have := h.many
  omega
def fnd (s : DS) (c : Nat) : Option DE := s.2.find? fun e => e.1 == c
def acc (a : List DS) : Nat → List Nat → Bool
  | i, [] => match a[i]? with | some s => s.1 | none => false
  | i, c :: v => match a[i]? with | some s => (match fnd s c with | some e => acc a e.2 v | none => false) | none => false
def accS (a : List DS) (s : DS) : List Nat → Bool
  | [] => s.1
  | c :: v => match fnd s c with | some e => acc a e.2 v | none => false
theorem acc_at {a : List DS} {i : Nat} {s : DS} (h : a[i]? = some s) (v : List Nat) : acc a i v = accS a s v := by
  cases v <;> simp [acc, accS, h]
theorem acc_ext {a t : List DS} (h : Good a) : ∀ (v : List Nat) (i : Nat), i < a.length → acc (a ++ t) i v = acc a i v
  | [], i, hi => by simp [acc, List.getElem?_append_left hi]
  | c :: v, i, hi => by
    have e : a[i]? = some a[i] := List.getElem?_eq_getElem hi
    simp only [acc, List.getElem?_append_left hi, e]
    cases hf : fnd a[i] c with
    | none => rfl
    | some d =>
      have hd := (h.2 i _ e).1.1 d (List.mem_of_find?_eq_some hf)
      exact acc_ext h v d.2 (by omega)
theorem accS_ext {a t : List DS} (h : Good a) {s : DS} (hs : Row a.length s) (v : List Nat) : accS (a ++ t) s v = accS a s v := by
  cases v with
  | nil => rfl
  | cons c v =>
    simp only [accS]
    cases hf : fnd s c with
    | none => rfl
    | some d => exact acc_ext h v d.2 (hs.1 d (List.mem_of_find?_eq_some hf))
/-- What the path takes, f being what its last state takes. -/
def PL (a : List DS) (w : List Nat) : List DS → (List Nat → Bool) → List Nat → Bool
  | [], f => f
  | u :: r, f => PL a w r fun v => accS a u v || (match v with | c :: v' => decide (c = w.getD r.length 0) && f v' | [] => false)
theorem PL_cons (a : List DS) (w : List Nat) (u : DS) (r : List DS) (f : List Nat → Bool) (v : List Nat) : PL a w (u :: r) f v = PL a w r (fun v => accS a u v || (match v with | c :: v' => decide (c = w.getD r.length 0) && f v' | [] => false)) v := rfl
def lang (a : List DS) (w : List Nat) : List DS → List Nat → Bool
  | [] => fun _ => false
  | s :: r => PL a w r (accS a s)
theorem PL_congr (a : List DS) (w : List Nat) : ∀ (r : List DS) (f g : List Nat → Bool), (∀ v, f v = g v) → ∀ v, PL a w r f v = PL a w r g v
  | [], f, g, h, v => h v
  | u :: r, f, g, h, v => by
    unfold PL
    apply PL_congr
    intro v
    cases v <;> simp [h]
theorem PL_ext {a t : List DS} (h : Good a) (w : List Nat) : ∀ (r : List DS) (f : List Nat → Bool), P a.length w r → ∀ v, PL (a ++ t) w r f v = PL a w r f v
  | [], f, _, v => rfl
  | u :: r, f, hp, v => by
    unfold PL
    rw [PL_ext h w r _ hp.2.2]
    apply PL_congr
    intro v
    rw [accS_ext h hp.1]
theorem fnd_snoc (u : DS) (c : Nat) (i : Nat) (b : Nat) (hb : ∀ e ∈ u.2, e.1 < c) : fnd (u.1, u.2 ++ [(c, i)]) b = if b = c then some (c, i) else fnd u b := by
  unfold fnd
  rw [List.find?_append]
  by_cases h : b = c
  · subst h
    rw [if_pos rfl]
    have : u.2.find? (fun e => e.1 == b) = none := by
      rw [List.find?_eq_none]
      intro e he
      have := hb e he
      simp; omega
    rw [this]; simp
  · rw [if_neg h]
    cases u.2.find? (fun e => e.1 == b) <;> simp [Ne.symm h]
theorem leave_lang (w : List Nat) (n : Nat) : ∀ (k : Nat) (left : List DS) (s : DS) (r : List DS), r.length = k → n ≤ r.length → Good left → Row left.length s → (0 < r.length → Alive s) → P left.length w r →
    ∀ v, lang (leave w n left (s :: r)).1 w (leave w n left (s :: r)).2 v = lang left w (s :: r) v := by
  intro k
  induction k with
  | zero =>
    intro left s r hk hn hg hrow hal hp v
    have : r = [] := List.length_eq_zero_iff.1 hk
    subst this
    have hl : leave w n left [s] = (left, [s]) := by rw [leave]
    rw [hl]
  | succ k ih =>
    intro left s r hk hn hg hrow hal hp v
    match r, hk with
    | u :: r, hk =>
    by_cases hlt : n < r.length + 1
    · have hl : leave w n left (s :: u :: r) = leave w n (num left s).1 ((u.1, u.2 ++ [(w.getD r.length 0, (num left s).2)]) :: r) := by rw [leave, if_pos hlt]
      rw [hl]
      obtain ⟨g1, g2, g3, g4, g5, t, g6⟩ := num_good hg hrow (hal (by simp))
      obtain ⟨hu, hub, hpr⟩ := hp
      have hrow' : Row (num left s).1.length (u.1, u.2 ++ [(w.getD r.length 0, (num left s).2)]) := by
        refine ⟨fun e he => ?_, rising_snoc _ _ hu.2 hub⟩
        rcases List.mem_append.1 he with he | he
        · exact Nat.lt_of_lt_of_le (hu.1 e he) g3
        · rw [List.mem_singleton.1 he]; exact g2
      have hk' : r.length = k := by simpa using hk
      rw [ih (num left s).1 (u.1, u.2 ++ [(w.getD r.length 0, (num left s).2)]) r hk' (by omega) g1 hrow' (fun _ => Or.inr (by simp)) (hpr.mono g3) v]
      show PL (num left s).1 w r (accS (num left s).1 (u.1, u.2 ++ [(w.getD r.length 0, (num left s).2)])) v = PL left w r _ v
      have h1 : PL (num left s).1 w r (accS (num left s).1 (u.1, u.2 ++ [(w.getD r.length 0, (num left s).2)])) v = PL left w r (accS (num left s).1 (u.1, u.2 ++ [(w.getD r.length 0, (num left s).2)])) v := by
        rw [g6]; exact PL_ext hg w r _ hpr v
      rw [h1]
      apply PL_congr
      intro v
      cases v with
      | nil => simp [accS]
      | cons c v =>
        show (match fnd (u.1, u.2 ++ [(w.getD r.length 0, (num left s).2)]) c with | some e => acc (num left s).1 e.2 v | none => false) = (accS left u (c :: v) || (decide (c = w.getD r.length 0) && accS left s v))
        rw [fnd_snoc u _ _ _ hub]
        by_cases hc : c = w.getD r.length 0
        · rw [if_pos hc, decide_eq_true hc]
          have hn : fnd u c = none := by
            unfold fnd
            rw [List.find?_eq_none]
            intro e he
            have := hub e he
            simp; omega
          have e1 : accS left u (c :: v) = false := by simp [accS, hn]
          rw [e1]
          simp only [Bool.false_or, Bool.true_and]
          rw [acc_at g5, g6]
          exact accS_ext hg hrow v
        · rw [if_neg hc, decide_eq_false hc]
          simp only [Bool.false_and, Bool.or_false, accS]
          cases hf : fnd u c with
          | none => rfl
          | some d =>
            show acc (num left s).1 d.2 v = acc left d.2 v
            rw [g6]
            exact acc_ext hg v d.2 (hu.1 d (List.mem_of_find?_eq_some hf))
    · have hl : leave w n left (s :: u :: r) = (left, s :: u :: r) := by rw [leave, if_neg hlt]
      rw [hl]
theorem PL_word (a : List DS) {w w' : List Nat} : ∀ (r : List DS) (f : List Nat → Bool), (∀ j, j < r.length → w.getD j 0 = w'.getD j 0) → ∀ v, PL a w r f v = PL a w' r f v
  | [], f, _, v => rfl
  | u :: r, f, h, v => by
    unfold PL
    rw [PL_word a r _ (fun j hj => h j (by simp; omega))]
    apply PL_congr
    intro v
    rw [h r.length (by simp)]
/-- One word more at a path's end. -/
theorem PL_or (a : List DS) (w : List Nat) : ∀ (r : List DS) (x : List Nat) (f : List Nat → Bool) (v : List Nat), PL a w r (fun v => f v || decide (v = x)) v = (PL a w r f v || decide (v = (List.range r.length).map (fun j => w.getD j 0) ++ x))
  | [], x, f, v => by simp [PL]
  | u :: r, x, f, v => by
    rw [PL_cons, PL_cons, PL_congr a w r _ (fun v => (accS a u v || (match v with | c :: v' => decide (c = w.getD r.length 0) && f v' | [] => false)) || decide (v = w.getD r.length 0 :: x))]
    · rw [PL_or a w r (w.getD r.length 0 :: x)]
      simp [List.range_succ]
    · intro v
      cases v with
      | nil => simp
      | cons c v =>
        show (accS a u (c :: v) || (decide (c = w.getD r.length 0) && (f v || decide (v = x)))) = ((accS a u (c :: v) || (decide (c = w.getD r.length 0) && f v)) || decide (c :: v = w.getD r.length 0 :: x))
        rw [show decide (c :: v = w.getD r.length 0 :: x) = (decide (c = w.getD r.length 0) && decide (v = x)) by simp [Bool.decide_and]]
        cases accS a u (c :: v) <;> cases decide (c = w.getD r.length 0) <;> cases f v <;> cases decide (v = x) <;> rfl
theorem PL_dead (a : List DS) (w : List Nat) : ∀ (k : Nat) (x : List Nat) (r : List DS) (s : DS) (v : List Nat), PL a w (List.replicate k (false, []) ++ s :: r) (fun v => decide (v = x)) v =
    PL a w r (fun v => accS a s v || decide (v = (List.range (k + 1)).map (fun j => w.getD (r.length + j) 0) ++ x)) v
  | 0, x, r, s, v => by
    rw [List.replicate_zero, List.nil_append, PL_cons]
    apply PL_congr
    intro v
    cases v with
    | nil => simp [List.range_succ]
    | cons c v => simp [List.range_succ, Bool.decide_and]
  | k + 1, x, r, s, v => by
    rw [List.replicate_succ, List.cons_append, PL_cons]
    have e : (List.replicate k ((false, []) : DS) ++ s :: r).length = r.length + (k + 1) := by simp; omega
    rw [e, PL_congr a w _ _ (fun v => decide (v = w.getD (r.length + (k + 1)) 0 :: x))]
    · rw [PL_dead a w k (w.getD (r.length + (k + 1)) 0 :: x) r s v]
      apply PL_congr
      intro v
      rw [List.range_succ (n := k + 1)]
      simp
    · intro v
      cases v with
      | nil => simp [accS]
      | cons c v => simp [accS, fnd, Bool.decide_and]
theorem map_getD (w : List Nat) (n m : Nat) (h : n + m = w.length) : (List.range n).map (fun j => w.getD j 0) ++ (List.range m).map (fun j => w.getD (n + j) 0) = w := by
  apply List.ext_getElem
  · simp; omega
  · intro i h1 h2
    rw [List.getElem_append]
    split
    · simp [List.getD_eq_getElem?_getD, List.getElem?_eq_getElem h2]
    · rename_i hi
      simp at hi
      simp [List.getD_eq_getElem?_getD, show n + (i - n) = i by omega, List.getElem?_eq_getElem h2]
theorem add_lang {x : B} {total : Nat} (h : Inv x total) (w : List Nat) (hw : x.word < w) (v : List Nat) : lang (add x w).left (add x w).word (add x w).path v = (lang x.left x.word x.path v || decide (v = w)) := by
  obtain ⟨s, r, hp, hrl, hse, hsf, hP⟩ := h.path
  obtain ⟨c1, c2⟩ := common_lt w x.word hw
  have c3 := common_le w x.word
  have hn : common w x.word ≤ r.length := by rw [hrl]; exact c3.2
  have hrow : Row x.left.length s := ⟨by simp [hse], by rw [hse]; trivial⟩
  obtain ⟨s', r', q1, q2, q3, q4, q5, q6, q7, q8, q9⟩ := leave_ok x.word (common w x.word) r.length x.left s r rfl hn h.good hrow (fun h0 => Or.inl (hsf h0)) hP (by omega)
  have hlg := leave_lang x.word (common w x.word) r.length x.left s r rfl hn h.good hrow (fun h0 => Or.inl (hsf h0)) hP v
  rw [← hp] at q1 q3 q4 q5 q6 q8 q9 hlg
  rw [← hlg, q1]
  have hlen : w.length + 1 - (s' :: r').length = (w.length - common w x.word - 1) + 1 := by simp; omega
  have hpath : (add x w).path = (true, []) :: (List.replicate (w.length - common w x.word - 1) ((false, []) : DS) ++ (s' :: r')) := by
    show ends (List.replicate (w.length + 1 - (leave x.word (common w x.word) x.left x.path).2.length) (false, []) ++ (leave x.word (common w x.word) x.left x.path).2) = _
    rw [q1, hlen, List.replicate_succ]; rfl
  rw [hpath]
  show PL (leave x.word (common w x.word) x.left x.path).1 w _ (accS (leave x.word (common w x.word) x.left x.path).1 (true, [])) v = (PL (leave x.word (common w x.word) x.left x.path).1 x.word r' (accS (leave x.word (common w x.word) x.left x.path).1 s') v || decide (v = w))
  generalize (leave x.word (common w x.word) x.left x.path).1 = a
  rw [PL_congr a w _ (accS a (true, [])) (fun v => decide (v = [])) (fun v => by cases v <;> simp [accS, fnd])]
  rw [PL_dead, PL_or a w r']
  rw [PL_word a (w := w) (w' := x.word) r' (accS a s') (fun j hj => common_get w x.word j (by omega))]
  congr 1
  rw [List.append_nil, map_getD w r'.length _ (by omega)]
theorem adds_lang : ∀ (l : List (List Nat)) (x : B) (total : Nat), Inv x total → (x.word :: l).Pairwise (· < ·) → ∀ v, lang (l.foldl add x).left (l.foldl add x).word (l.foldl add x).path v = (lang x.left x.word x.path v || decide (v ∈ l))
  | [], x, total, h, _, v => by simp
  | w :: l, x, total, h, hs, v => by
    rw [List.pairwise_cons] at hs
    rw [List.foldl_cons, adds_lang l (add x w) _ (add_ok h w (hs.1 w (by simp))) hs.2 v, add_lang h w (hs.1 w (by simp)) v]
    by_cases h1 : v = w
    · simp [h1]
    · simp [h1]
/-- Each state that was left stands behind a begin of a word that isn't empty. -/
def Reach (a : List DS) (f : List Nat → Bool) : Prop := ∀ j, j < a.length → ∃ u : List Nat, u ≠ [] ∧ ∀ v, acc a j v = true → f (u ++ v) = true
theorem PL_prefix (a : List DS) (w : List Nat) : ∀ (r : List DS) (f : List Nat → Bool) (v : List Nat), f v = true → PL a w r f ((List.range r.length).map (fun j => w.getD j 0) ++ v) = true
  | [], f, v, h => by simpa [PL] using h
  | u :: r, f, v, h => by
    rw [PL_cons]
    have := PL_prefix a w r (fun v => accS a u v || (match v with | c :: v' => decide (c = w.getD r.length 0) && f v' | [] => false)) (w.getD r.length 0 :: v) (by simp [h])
    rw [List.length_cons, List.range_succ, List.map_append, List.append_assoc]
    exact this
theorem num_reach {left : List DS} {s : DS} {f : List Nat → Bool} (h : Good left) (hr : Row left.length s) (hR : Reach left f) (u : List Nat) (hu : u ≠ []) (hs : ∀ v, accS left s v = true → f (u ++ v) = true) : Reach (num left s).1 f := by
  unfold num
  by_cases hm : s ∈ left
  · rw [if_pos hm]; exact hR
  · rw [if_neg hm]
    intro j hj
    by_cases hl : j < left.length
    · obtain ⟨u', hu', h'⟩ := hR j hl
      exact ⟨u', hu', fun v hv => h' v (by rwa [acc_ext h v j hl] at hv)⟩
    · have : j = left.length := by simp at hj; omega
      subst this
      refine ⟨u, hu, fun v hv => hs v ?_⟩
      rw [acc_at (s := s) (by simp), accS_ext h hr] at hv
      exact hv
theorem leave_reach (w : List Nat) (n : Nat) (f : List Nat → Bool) : ∀ (k : Nat) (left : List DS) (s : DS) (r : List DS), r.length = k → Good left → Row left.length s → (0 < r.length → Alive s) → P left.length w r →
    Reach left f → (∀ v, lang left w (s :: r) v = true → f v = true) → Reach (leave w n left (s :: r)).1 f := by
  intro k
  induction k with
  | zero =>
    intro left s r hk hg hrow hal hp hR hf
    have : r = [] := List.length_eq_zero_iff.1 hk
    subst this
    have hl : leave w n left [s] = (left, [s]) := by rw [leave]
    rw [hl]; exact hR
  | succ k ih =>
    intro left s r hk hg hrow hal hp hR hf
    match r, hk with
    | u :: r, hk =>
    by_cases hlt : n < r.length + 1
    · have hl : leave w n left (s :: u :: r) = leave w n (num left s).1 ((u.1, u.2 ++ [(w.getD r.length 0, (num left s).2)]) :: r) := by rw [leave, if_pos hlt]
      rw [hl]
      obtain ⟨g1, g2, g3, g4, g5, t, g6⟩ := num_good hg hrow (hal (by simp))
      have hone := leave_lang w r.length (k + 1) left s (u :: r) (by simpa using hk) (by simp) hg hrow hal hp
      have hl1 : leave w r.length left (s :: u :: r) = leave w r.length (num left s).1 ((u.1, u.2 ++ [(w.getD r.length 0, (num left s).2)]) :: r) := by rw [leave, if_pos (by omega)]
      have hl2 : leave w r.length (num left s).1 ((u.1, u.2 ++ [(w.getD r.length 0, (num left s).2)]) :: r) = ((num left s).1, (u.1, u.2 ++ [(w.getD r.length 0, (num left s).2)]) :: r) := by
        cases r with
        | nil => rw [leave]
        | cons x r => rw [leave, if_neg (by simp)]
      rw [hl1, hl2] at hone
      obtain ⟨hu, hub, hpr⟩ := hp
      have hrow' : Row (num left s).1.length (u.1, u.2 ++ [(w.getD r.length 0, (num left s).2)]) := by
        refine ⟨fun e he => ?_, rising_snoc _ _ hu.2 hub⟩
        rcases List.mem_append.1 he with he | he
        · exact Nat.lt_of_lt_of_le (hu.1 e he) g3
        · rw [List.mem_singleton.1 he]; exact g2
      refine ih (num left s).1 _ r (by simpa using hk) g1 hrow' (fun _ => Or.inr (by simp)) (hpr.mono g3) ?_ (fun v hv => hf v (by rw [← hone v]; exact hv))
      refine num_reach hg hrow hR ((List.range (u :: r).length).map (fun j => w.getD j 0)) (by simp) (fun v hv => hf _ ?_)
      exact PL_prefix left w (u :: r) (accS left s) v hv
    · have hl : leave w n left (s :: u :: r) = (left, s :: u :: r) := by rw [leave, if_neg hlt]
      rw [hl]; exact hR
theorem add_reach {x : B} {total : Nat} (h : Inv x total) (w : List Nat) (hw : x.word < w) (hR : Reach x.left (lang x.left x.word x.path)) : Reach (add x w).left (lang (add x w).left (add x w).word (add x w).path) := by
  obtain ⟨s, r, hp, hrl, hse, hsf, hP⟩ := h.path
  have hrow : Row x.left.length s := ⟨by simp [hse], by rw [hse]; trivial⟩
  have h1 : Reach (leave x.word (common w x.word) x.left x.path).1 (lang x.left x.word x.path) := by
    have := leave_reach x.word (common w x.word) (lang x.left x.word x.path) r.length x.left s r rfl h.good hrow (fun h0 => Or.inl (hsf h0)) hP hR (fun v hv => by rw [hp]; exact hv)
    rwa [← hp] at this
  intro j hj
  obtain ⟨u, hu, hv⟩ := h1 j hj
  refine ⟨u, hu, fun v ha => ?_⟩
  rw [add_lang h w hw]
  rw [hv v ha]; rfl
theorem adds_reach : ∀ (l : List (List Nat)) (x : B) (total : Nat), Inv x total → (x.word :: l).Pairwise (· < ·) → Reach x.left (lang x.left x.word x.path) → Reach (l.foldl add x).left (lang (l.foldl add x).left (l.foldl add x).word (l.foldl add x).path)
  | [], x, total, h, _, hR => hR
  | w :: l, x, total, h, hs, hR => by
    rw [List.pairwise_cons] at hs
    exact adds_reach l (add x w) _ (add_ok h w (hs.1 w (by simp))) hs.2 (add_reach h w (hs.1 w (by simp)) hR)
theorem longest : ∀ (l : List (List Nat)), l ≠ [] → ∃ v ∈ l, ∀ x ∈ l, x.length ≤ v.length
  | [], h => absurd rfl h
  | [w], _ => ⟨w, by simp, by simp⟩
  | w :: x :: l, _ => by
    obtain ⟨v, hv, hm⟩ := longest (x :: l) (by simp)
    by_cases h : v.length ≤ w.length
    · refine ⟨w, by simp, fun y hy => ?_⟩
      rcases List.mem_cons.1 hy with rfl | hy
      · exact Nat.le_refl _
      · exact Nat.le_trans (hm y hy) h
    · refine ⟨v, by simp [hv], fun y hy => ?_⟩
      rcases List.mem_cons.1 hy with rfl | hy
      · omega
      · exact hm y hy
/-- What is built takes its words and no others, from its last state on. -/
theorem build_takes (l : List (List Nat)) (hs : ([] :: l).Pairwise (· < ·)) (hl : l ≠ []) : ∃ a s, build l = a ++ [s] ∧ Good (a ++ [s]) ∧ ∀ v, acc (build l) a.length v = decide (v ∈ l) := by
  have h := adds_ok l start 0 start_ok hs
  have hlang := adds_lang l start 0 start_ok hs
  have hreach := adds_reach l start 0 start_ok hs (fun j hj => absurd hj (by simp [start]))
  obtain ⟨s, r, hp, hrl, hse, hsf, hP⟩ := h.path
  have hrow : Row (l.foldl add start).left.length s := ⟨by simp [hse], by rw [hse]; trivial⟩
  obtain ⟨s', r', q1, q2, q3, q4, q5, q6, q7, q8, q9⟩ := leave_ok (l.foldl add start).word 0 r.length _ s r rfl (Nat.zero_le _) h.good hrow (fun h0 => Or.inl (hsf h0)) hP (by omega)
  have hll := leave_lang (l.foldl add start).word 0 r.length _ s r rfl (Nat.zero_le _) h.good hrow (fun h0 => Or.inl (hsf h0)) hP
  have hlr := leave_reach (l.foldl add start).word 0 (lang (l.foldl add start).left (l.foldl add start).word (l.foldl add start).path) r.length _ s r rfl h.good hrow (fun h0 => Or.inl (hsf h0)) hP hreach (fun v hv => by rw [hp]; exact hv)
  rw [← hp] at q1 q3 q4 q5 q6 q8 q9 hll hlr
  have hr' : r' = [] := List.length_eq_zero_iff.1 q2
  subst hr'
  have hword : (l.foldl add start).word ≠ [] := by
    obtain ⟨w, l', rfl⟩ : ∃ w l', l = l' ++ [w] := ⟨l.getLast hl, l.dropLast, (List.dropLast_concat_getLast hl).symm⟩
    rw [List.foldl_append]
    show w ≠ []
    rintro rfl
    rw [List.pairwise_cons] at hs
    have := hs.1 [] (by simp)
    simp at this
  have hr0 : 0 < r.length := by rw [hrl]; exact List.length_pos_iff.2 hword
  have hal := (q7 hr0).1
  have htake : ∀ v, accS (leave (l.foldl add start).word 0 (l.foldl add start).left (l.foldl add start).path).1 s' v = decide (v ∈ l) := by
    intro v
    have h1 := hll v
    rw [q1, hlang v] at h1
    have h0 : lang start.left start.word start.path v = false := by cases v <;> simp [start, lang, PL, accS, fnd]
    rw [h0, Bool.false_or] at h1
    exact h1
  have hlangl : ∀ v, lang (l.foldl add start).left (l.foldl add start).word (l.foldl add start).path v = decide (v ∈ l) := by
    intro v
    have h0 : lang start.left start.word start.path v = false := by cases v <;> simp [start, lang, PL, accS, fnd]
    rw [hlang v, h0, Bool.false_or]
  have hnew : s' ∉ (leave (l.foldl add start).word 0 (l.foldl add start).left (l.foldl add start).path).1 := by
    intro hm
    obtain ⟨j, hj, hjs⟩ := List.getElem_of_mem hm
    obtain ⟨u, hu, hv⟩ := hlr j hj
    obtain ⟨v, hvl, hmax⟩ := longest l hl
    have h1 : acc (leave (l.foldl add start).word 0 (l.foldl add start).left (l.foldl add start).path).1 j v = true := by
      rw [acc_at (s := s') (by rw [List.getElem?_eq_getElem hj, hjs]), htake v]
      simpa using hvl
    have h2 := hv v h1
    rw [hlangl] at h2
    have h3 := hmax _ (of_decide_eq_true h2)
    have h4 := List.length_pos_iff.2 hu
    simp at h3
    omega
  have hb : build l = (leave (l.foldl add start).word 0 (l.foldl add start).left (l.foldl add start).path).1 ++ [s'] := by
    unfold build finish
    rw [q1]
    show (num _ s').1 = _
    unfold num
    rw [if_neg hnew]
  obtain ⟨g1, _⟩ := num_good q3 q4 hal
  refine ⟨_, s', hb, ?_, fun v => ?_⟩
  · unfold num at g1; rwa [if_neg hnew] at g1
  · rw [hb, acc_at (s := s') (by simp), accS_ext q3 q4, htake]
def stOf : List Nat → DS
  | [] => (true, [])
  | c :: t => (false, [(c, t.length)])
/-- The states of the rests of a word that are shorter. -/
def shorter : List Nat → List DS
  | [] => []
  | _ :: t => shorter t ++ [stOf t]
theorem shorter_len (t : List Nat) : (shorter t).length = t.length := by
  induction t with
  | nil => rfl
  | cons c t ih => simp [shorter, ih]
def endWords (e : List Nat) (k : Nat) : List (List Nat) := (List.range k).map fun i => (97 + i) :: e
def rootE (e : List Nat) (k : Nat) : List DE := (List.range k).map fun i => (97 + i, e.length)
def listing (a : List DS) : Nat → Nat → List (List Nat)
  | 0, _ => []
  | k + 1, i => match a[i]? with
    | some s => (if s.1 = true then [[]] else []) ++ s.2.flatMap fun e => (listing a k e.2).map (e.1 :: ·)
    | none => []
theorem fnd_mem {s : DS} (hr : Rising s.2) {e : DE} (he : e ∈ s.2) : fnd s e.1 = some e := by
  unfold fnd
  obtain ⟨b, l⟩ := s
  simp only at hr he ⊢
  induction l with
  | nil => simp at he
  | cons a r ih =>
    rw [List.find?_cons]
    rcases List.mem_cons.1 he with rfl | he
    · simp
    · have := hr.1 e he
      rw [show (a.1 == e.1) = false by simp; omega]
      exact ih hr.2 he
theorem mem_listing {a : List DS} (h : Good a) : ∀ (k i : Nat), i < k → i < a.length → ∀ v, v ∈ listing a k i ↔ acc a i v = true
  | 0, i, hk, _, v => by omega
  | k + 1, i, hk, hi, v => by
    have e0 : a[i]? = some a[i] := List.getElem?_eq_getElem hi
    have hrow := (h.2 i _ e0).1
    unfold listing
    rw [e0]
    simp only [List.mem_append, List.mem_flatMap, List.mem_map]
    cases v with
    | nil =>
      simp only [acc, e0]
      by_cases hf : a[i].1 = true <;> simp [hf]
    | cons c v =>
      simp only [acc, e0]
      constructor
      · rintro (h1 | ⟨e, he, w, hw, h1⟩)
        · by_cases hf : a[i].1 = true <;> simp [hf] at h1
        · injection h1 with h1 h2
          subst h1 h2
          rw [fnd_mem hrow.2 he]
          have := hrow.1 e he
          exact (mem_listing h k e.2 (by omega) (by omega) w).1 hw
      · intro hv
        right
        cases hf : fnd a[i] c with
        | none => rw [hf] at hv; cases hv
        | some e =>
          rw [hf] at hv
          have he := List.mem_of_find?_eq_some hf
          have hc := List.find?_some hf
          simp at hc
          have := hrow.1 e he
          exact ⟨e, he, v, (mem_listing h k e.2 (by omega) (by omega) v).2 hv, by rw [hc]⟩
theorem sorted_map (c : Nat) : ∀ (l : List (List Nat)), l.Pairwise (· < ·) → (l.map (c :: ·)).Pairwise (· < ·) := by
  intro l h
  rw [List.pairwise_map]
  exact h.imp (fun hab => by rw [List.cons_lt_cons_iff]; exact .inr ⟨rfl, hab⟩)
theorem sorted_edges (f : DE → List (List Nat)) : ∀ (es : List DE), Rising es → (∀ e ∈ es, (f e).Pairwise (· < ·)) → (es.flatMap fun e => (f e).map (e.1 :: ·)).Pairwise (· < ·)
  | [], _, _ => by simp
  | e :: es, hr, hf => by
    rw [List.flatMap_cons, List.pairwise_append]
    refine ⟨sorted_map e.1 _ (hf e (by simp)), sorted_edges f es hr.2 (fun x hx => hf x (by simp [hx])), ?_⟩
    intro u hu v hv
    obtain ⟨u', _, rfl⟩ := List.mem_map.1 hu
    obtain ⟨d, hd, hv⟩ := List.mem_flatMap.1 hv
    obtain ⟨v', _, rfl⟩ := List.mem_map.1 hv
    rw [List.cons_lt_cons_iff]
    exact .inl (hr.1 d hd)
theorem sorted_listing {a : List DS} (h : Good a) : ∀ (k i : Nat), (listing a k i).Pairwise (· < ·)
  | 0, i => by simp [listing]
  | k + 1, i => by
    unfold listing
    cases hs : a[i]? with
    | none => simp
    | some s =>
      have hrow := (h.2 i _ hs).1
      simp only
      rw [List.pairwise_append]
      refine ⟨by by_cases hf : s.1 = true <;> simp [hf], sorted_edges _ _ hrow.2 (fun e _ => sorted_listing h k e.2), ?_⟩
      intro u hu v hv
      obtain ⟨d, _, hv⟩ := List.mem_flatMap.1 hv
      obtain ⟨v', _, rfl⟩ := List.mem_map.1 hv
      by_cases hf : s.1 = true
      · simp [hf] at hu; subst hu; simp
      · simp [hf] at hu
theorem lt_asymm' {a b : List Nat} (h : a < b) : ¬ b < a := fun k => List.lt_irrefl a (List.lt_trans h k)
theorem sorted_eq : ∀ (x y : List (List Nat)), x.Pairwise (· < ·) → y.Pairwise (· < ·) → (∀ v, v ∈ x ↔ v ∈ y) → x = y
  | [], [], _, _, _ => rfl
  | [], b :: y, _, _, h => by have := (h b).2 (by simp); simp at this
  | a :: x, [], _, _, h => by have := (h a).1 (by simp); simp at this
  | a :: x, b :: y, hx, hy, h => by
    rw [List.pairwise_cons] at hx hy
    have hab : a = b := by
      rcases List.mem_cons.1 ((h a).1 (by simp)) with h1 | h1
      · exact h1
      · rcases List.mem_cons.1 ((h b).2 (by simp)) with h2 | h2
        · exact h2.symm
        · exact absurd (hy.1 a h1) (lt_asymm' (hx.1 b h2))
    subst hab
    congr 1
    refine sorted_eq x y hx.2 hy.2 (fun v => ⟨fun hv => ?_, fun hv => ?_⟩)
    · rcases List.mem_cons.1 ((h v).1 (by simp [hv])) with h1 | h1
      · subst h1; exact absurd (hx.1 v hv) (List.lt_irrefl v)
      · exact h1
    · rcases List.mem_cons.1 ((h v).2 (by simp [hv])) with h1 | h1
      · subst h1; exact absurd (hy.1 v hv) (List.lt_irrefl v)
      · exact h1
/-- The words, listed by rising bytes, are the words. -/
theorem build_lists (l : List (List Nat)) (hs : ([] :: l).Pairwise (· < ·)) (hl : l ≠ []) (k : Nat) (hk : (build l).length ≤ k) : listing (build l) k ((build l).length - 1) = l := by
  obtain ⟨a, s, hb, hg, ht⟩ := build_takes l hs hl
  have hlen : (build l).length = a.length + 1 := by rw [hb]; simp
  rw [← hb] at hg
  refine sorted_eq _ _ (sorted_listing hg _ _) (List.pairwise_cons.1 hs).2 (fun v => ?_)
  rw [mem_listing hg k _ (by omega) (by omega) v, hlen, Nat.add_sub_cancel, ht v]
  simp
def visE (v : Nat → Nat → Option Nat) : List DE → Nat → Option Nat
  | [], m => some m
  | e :: r, m => if m ≤ e.2 then (v e.2 m).bind (visE v r) else visE v r m
def vis (a : List DS) : Nat → Nat → Nat → Option Nat
  | 0, _, _ => none
  | k + 1, n, m => match a[n]? with
    | some s => (visE (vis a k) s.2 m).bind fun x => if n = x then some (x + 1) else none
    | none => none
theorem visE_mono {v v' : Nat → Nat → Option Nat} (h : ∀ n m r, v n m = some r → v' n m = some r) : ∀ (es : List DE) (m r : Nat), visE v es m = some r → visE v' es m = some r
  | [], m, r, hr => hr
  | e :: es, m, r, hr => by
    unfold visE at hr ⊢
    by_cases hm : m ≤ e.2
    · rw [if_pos hm] at hr ⊢
      obtain ⟨x, hx, hr⟩ := Option.bind_eq_some_iff.1 hr
      rw [h _ _ _ hx]
      exact visE_mono h es x r hr
    · rw [if_neg hm] at hr ⊢
      exact visE_mono h es m r hr
theorem vis_more (a t : List DS) : ∀ (k n m r : Nat), vis a k n m = some r → vis (a ++ t) (k + 1) n m = some r
  | 0, n, m, r, h => by simp [vis] at h
  | k + 1, n, m, r, h => by
    unfold vis at h ⊢
    cases hs : a[n]? with
    | none => rw [hs] at h; cases h
    | some s =>
      have hn := (List.getElem?_eq_some_iff.1 hs).1
      rw [hs] at h
      rw [List.getElem?_append_left hn, hs]
      simp only at h ⊢
      obtain ⟨x, hx, h⟩ := Option.bind_eq_some_iff.1 h
      rw [visE_mono (vis_more a t k) s.2 m x hx]
      exact h
def VE (a : List DS) (es : List DE) (m r : Nat) : Prop := ∃ k, visE (vis a k) es m = some r
theorem vis_le (a t : List DS) {k k' n m r : Nat} (hk : k < k') (h : vis a k n m = some r) : vis (a ++ t) k' n m = some r := by
  induction k' with
  | zero => omega
  | succ j ih =>
    by_cases hj : k = j
    · subst hj; exact vis_more a t k n m r h
    · have h1 := ih (by omega)
      have := vis_more (a ++ t) [] j n m r h1
      simpa using this
theorem VE.more {a : List DS} {es : List DE} {m r : Nat} (h : VE a es m r) (t : List DS) : VE (a ++ t) es m r := by
  obtain ⟨k, hk⟩ := h
  exact ⟨k + 1, visE_mono (vis_more a t k) es m r hk⟩
theorem visE_append (v : Nat → Nat → Option Nat) : ∀ (x y : List DE) (m : Nat), visE v (x ++ y) m = (visE v x m).bind (visE v y)
  | [], y, m => by simp [visE]
  | e :: x, y, m => by
    rw [List.cons_append]
    unfold visE
    by_cases hm : m ≤ e.2
    · rw [if_pos hm, if_pos hm]
      cases v e.2 m with
      | none => rfl
      | some z => simp [visE_append v x y z]
    · rw [if_neg hm, if_neg hm]; exact visE_append v x y m
theorem VE_append {a : List DS} {x y : List DE} {m r : Nat} : VE a (x ++ y) m r ↔ ∃ z, VE a x m z ∧ VE a y z r := by
  constructor
  · rintro ⟨k, hk⟩
    rw [visE_append] at hk
    obtain ⟨z, h1, h2⟩ := Option.bind_eq_some_iff.1 hk
    exact ⟨z, ⟨k, h1⟩, ⟨k, h2⟩⟩
  · rintro ⟨z, ⟨k1, h1⟩, ⟨k2, h2⟩⟩
    have e : a ++ [] = a := List.append_nil a
    refine ⟨k1 + k2 + 1, ?_⟩
    rw [visE_append, visE_mono (fun n m r h => by have := vis_le a [] (show k1 < k1 + k2 + 1 by omega) h; rwa [e] at this) x m z h1]
    exact visE_mono (fun n m r h => by have := vis_le a [] (show k2 < k1 + k2 + 1 by omega) h; rwa [e] at this) y z r h2
theorem vis_val {a : List DS} {k n m r : Nat} (h : vis a k n m = some r) : r = n + 1 := by
  cases k with
  | zero => simp [vis] at h
  | succ k =>
    unfold vis at h
    cases hs : a[n]? with
    | none => rw [hs] at h; cases h
    | some s =>
      rw [hs] at h
      obtain ⟨x, _, h⟩ := Option.bind_eq_some_iff.1 h
      by_cases hn : n = x
      · rw [if_pos hn] at h; injection h with h; omega
      · rw [if_neg hn] at h; cases h
/-- What was visited rises, by an edge to the state below what it comes to. -/
theorem visE_last {a : List DS} (k : Nat) : ∀ (es : List DE) (m r : Nat), visE (vis a k) es m = some r → r = m ∨ (m < r ∧ ∃ e ∈ es, e.2 + 1 = r)
  | [], m, r, h => by simp [visE] at h; exact .inl h.symm
  | e :: es, m, r, h => by
    unfold visE at h
    by_cases hm : m ≤ e.2
    · rw [if_pos hm] at h
      obtain ⟨x, hx, h⟩ := Option.bind_eq_some_iff.1 h
      have hv := vis_val hx
      rcases visE_last k es x r h with h1 | ⟨h1, d, hd, h2⟩
      · exact .inr ⟨by omega, e, by simp, by omega⟩
      · exact .inr ⟨by omega, d, by simp [hd], h2⟩
    · rw [if_neg hm] at h
      rcases visE_last k es m r h with h1 | ⟨h1, d, hd, h2⟩
      · exact .inl h1
      · exact .inr ⟨h1, d, by simp [hd], h2⟩
/-- The edges of a path, from its root on. -/
def pathE : List DS → List DE
  | [] => []
  | s :: r => pathE r ++ s.2
theorem num_vis {left : List DS} {s : DS} (h : Good left) {m c : Nat} (hv : VE left s.2 m left.length) : VE (num left s).1 [(c, (num left s).2)] m (num left s).1.length := by
  obtain ⟨k, hk⟩ := hv
  unfold num
  by_cases hs : s ∈ left
  · rw [if_pos hs]
    have hi := List.idxOf_lt_length_iff.2 hs
    have hg : left[left.idxOf s]? = some s := by rw [List.getElem?_eq_getElem hi]; simp
    refine ⟨k, ?_⟩
    have hm : m = left.length := by
      rcases visE_last k s.2 m _ hk with h1 | ⟨h1, d, hd, h2⟩
      · exact h1.symm
      · have := (h.2 _ _ hg).1.1 d hd
        omega
    unfold visE
    rw [if_neg (by simp only; omega)]
    simp [visE, hm]
  · rw [if_neg hs]
    refine ⟨k + 1 + 1, ?_⟩
    have hm : m ≤ left.length := by
      rcases visE_last k s.2 m _ hk with h1 | ⟨h1, _⟩ <;> omega
    unfold visE
    rw [if_pos hm]
    have : vis (left ++ [s]) (k + 1 + 1) left.length m = some (left.length + 1) := by
      unfold vis
      rw [show (left ++ [s])[left.length]? = some s by simp]
      simp only
      rw [visE_mono (vis_more left [s] k) s.2 m _ hk]
      simp
    rw [this]
    simp [visE]
theorem leave_vis (w : List Nat) (n : Nat) : ∀ (k : Nat) (left : List DS) (s : DS) (r : List DS), r.length = k → Good left → Row left.length s → (0 < r.length → Alive s) → P left.length w r →
    VE left (pathE (s :: r)) 0 left.length → VE (leave w n left (s :: r)).1 (pathE (leave w n left (s :: r)).2) 0 (leave w n left (s :: r)).1.length := by
  intro k
  induction k with
  | zero =>
    intro left s r hk hg hrow hal hp hv
    have : r = [] := List.length_eq_zero_iff.1 hk
    subst this
    have hl : leave w n left [s] = (left, [s]) := by rw [leave]
    rw [hl]; exact hv
  | succ k ih =>
    intro left s r hk hg hrow hal hp hv
    match r, hk with
    | u :: r, hk =>
    by_cases hlt : n < r.length + 1
    · have hl : leave w n left (s :: u :: r) = leave w n (num left s).1 ((u.1, u.2 ++ [(w.getD r.length 0, (num left s).2)]) :: r) := by rw [leave, if_pos hlt]
      rw [hl]
      obtain ⟨g1, g2, g3, g4, g5, t, g6⟩ := num_good hg hrow (hal (by simp))
      obtain ⟨hu, hub, hpr⟩ := hp
      have hrow' : Row (num left s).1.length (u.1, u.2 ++ [(w.getD r.length 0, (num left s).2)]) := by
        refine ⟨fun e he => ?_, rising_snoc _ _ hu.2 hub⟩
        rcases List.mem_append.1 he with he | he
        · exact Nat.lt_of_lt_of_le (hu.1 e he) g3
        · rw [List.mem_singleton.1 he]; exact g2
      refine ih (num left s).1 _ r (by simpa using hk) g1 hrow' (fun _ => Or.inr (by simp)) (hpr.mono g3) ?_
      obtain ⟨z, h1, h2⟩ := VE_append.1 (show VE left (pathE (u :: r) ++ s.2) 0 left.length from hv)
      show VE (num left s).1 (pathE r ++ (u.2 ++ [(w.getD r.length 0, (num left s).2)])) 0 (num left s).1.length
      rw [← List.append_assoc]
      refine VE_append.2 ⟨z, ?_, num_vis hg h2⟩
      rw [g6]
      exact h1.more t
    · have hl : leave w n left (s :: u :: r) = (left, s :: u :: r) := by rw [leave, if_neg hlt]
      rw [hl]; exact hv
theorem pathE_new : ∀ (k : Nat) (r : List DS), pathE (List.replicate k (false, []) ++ r) = pathE r
  | 0, r => by simp
  | k + 1, r => by rw [List.replicate_succ, List.cons_append, pathE, pathE_new k r]; simp
theorem add_vis {x : B} {total : Nat} (h : Inv x total) (w : List Nat) (hw : x.word < w) (hv : VE x.left (pathE x.path) 0 x.left.length) : VE (add x w).left (pathE (add x w).path) 0 (add x w).left.length := by
  obtain ⟨s, r, hp, hrl, hse, hsf, hP⟩ := h.path
  have hrow : Row x.left.length s := ⟨by simp [hse], by rw [hse]; trivial⟩
  obtain ⟨c1, c2⟩ := common_lt w x.word hw
  have c3 := common_le w x.word
  have hn : common w x.word ≤ r.length := by rw [hrl]; exact c3.2
  obtain ⟨s', r', q1, q2, _⟩ := leave_ok x.word (common w x.word) r.length x.left s r rfl hn h.good hrow (fun h0 => Or.inl (hsf h0)) hP (by omega)
  have h1 := leave_vis x.word (common w x.word) r.length x.left s r rfl h.good hrow (fun h0 => Or.inl (hsf h0)) hP (by rw [← hp]; exact hv)
  rw [← hp] at q1 h1
  have hlen : w.length + 1 - (s' :: r').length = (w.length - common w x.word - 1) + 1 := by simp; omega
  have hpath : (add x w).path = (true, []) :: (List.replicate (w.length - common w x.word - 1) ((false, []) : DS) ++ (s' :: r')) := by
    show ends (List.replicate (w.length + 1 - (leave x.word (common w x.word) x.left x.path).2.length) (false, []) ++ (leave x.word (common w x.word) x.left x.path).2) = _
    rw [q1, hlen, List.replicate_succ]; rfl
  rw [hpath]
  show VE (leave x.word (common w x.word) x.left x.path).1 (pathE (List.replicate (w.length - common w x.word - 1) ((false, []) : DS) ++ (s' :: r')) ++ []) 0 _
  rw [List.append_nil, pathE_new, ← q1]
  exact h1
theorem adds_vis : ∀ (l : List (List Nat)) (x : B) (total : Nat), Inv x total → (x.word :: l).Pairwise (· < ·) → VE x.left (pathE x.path) 0 x.left.length → VE (l.foldl add x).left (pathE (l.foldl add x).path) 0 (l.foldl add x).left.length
  | [], x, total, h, _, hv => hv
  | w :: l, x, total, h, hs, hv => by
    rw [List.pairwise_cons] at hs
    exact adds_vis l (add x w) _ (add_ok h w (hs.1 w (by simp))) hs.2 (add_vis h w (hs.1 w (by simp)) hv)
/-- What is built is numbered as its states are left. -/
theorem build_ranked (l : List (List Nat)) (hs : ([] :: l).Pairwise (· < ·)) (hl : l ≠ []) : ∃ k, vis (build l) k ((build l).length - 1) 0 = some (build l).length := by
  have h := adds_ok l start 0 start_ok hs
  have hv0 := adds_vis l start 0 start_ok hs ⟨0, rfl⟩
  obtain ⟨a, s0, hb, hg, ht⟩ := build_takes l hs hl
  obtain ⟨s, r, hp, hrl, hse, hsf, hP⟩ := h.path
  have hrow : Row (l.foldl add start).left.length s := ⟨by simp [hse], by rw [hse]; trivial⟩
  obtain ⟨s', r', q1, q2, q3, q4, _⟩ := leave_ok (l.foldl add start).word 0 r.length _ s r rfl (Nat.zero_le _) h.good hrow (fun h0 => Or.inl (hsf h0)) hP (by omega)
  have h1 := leave_vis (l.foldl add start).word 0 r.length _ s r rfl h.good hrow (fun h0 => Or.inl (hsf h0)) hP (by rw [← hp]; exact hv0)
  rw [← hp] at q1 h1 q3
  have hr' : r' = [] := List.length_eq_zero_iff.1 q2
  subst hr'
  rw [q1] at h1
  have hbn : build l = (num (leave (l.foldl add start).word 0 (l.foldl add start).left (l.foldl add start).path).1 s').1 := by unfold build finish; rw [q1]
  have h2 := num_vis (c := 0) q3 (show VE _ s'.2 0 _ from by simpa [pathE] using h1)
  obtain ⟨k, hk⟩ := h2
  rw [← hbn] at hk
  unfold visE at hk
  rw [if_pos (Nat.zero_le _)] at hk
  obtain ⟨x, hx, hk⟩ := Option.bind_eq_some_iff.1 hk
  simp [visE] at hk
  subst hk
  have := vis_val hx
  refine ⟨k, ?_⟩
  simp only at hx this
  rw [show (build l).length - 1 = (num (leave (l.foldl add start).word 0 (l.foldl add start).left (l.foldl add start).path).1 s').2 by omega]
  exact hx
def put (n : Nat) : List Nat := if n < 128 then [n] else (n % 128 + 128) :: put (n / 128)
termination_by n
decreasing_by omega
theorem put_low {n : Nat} (h : n < 128) : put n = [n] := by rw [put, if_pos h]
theorem put_high {n : Nat} (h : ¬ n < 128) : put n = (n % 128 + 128) :: put (n / 128) := by rw [put, if_neg h]
theorem put_free : ∀ (a b : Nat) (x y : List Nat), put a ++ x = put b ++ y → a = b ∧ x = y := by
  intro a
  induction a using Nat.strongRecOn with
  | _ a ih =>
    intro b x y h
    by_cases ha : a < 128
    · rw [put_low ha] at h
      by_cases hb : b < 128
      · rw [put_low hb] at h
        simp at h; exact h
      · rw [put_high hb] at h
        simp at h
        have := h.1
        omega
    · rw [put_high ha] at h
      by_cases hb : b < 128
      · rw [put_low hb] at h
        simp at h
        have := h.1
        omega
      · rw [put_high hb] at h
        simp only [List.cons_append, List.cons.injEq] at h
        obtain ⟨h1, h2⟩ := ih (a / 128) (by omega) (b / 128) x y h.2
        exact ⟨by omega, h2⟩
def keyE (es : List DE) : List Nat := es.flatMap fun e => e.1 :: put e.2
def keyL (s : DS) : List Nat := put (if s.1 = true then 1 else 0) ++ keyE s.2
theorem put_ne (n : Nat) : put n ≠ [] := by
  rw [put]; split <;> simp
theorem keyE_inj : ∀ (x y : List DE), keyE x = keyE y → x = y
  | [], [], _ => rfl
  | [], e :: y, h => by simp [keyE] at h
  | e :: x, [], h => by simp [keyE] at h
  | e :: x, f :: y, h => by
    unfold keyE at h
    rw [List.flatMap_cons, List.flatMap_cons, List.cons_append, List.cons_append, List.cons.injEq] at h
    obtain ⟨h1, h2⟩ := h
    obtain ⟨h3, h4⟩ := put_free _ _ _ _ h2
    rw [keyE_inj x y h4]
    congr 1
    exact Prod.ext h1 h3
theorem keyL_inj {s t : DS} (h : keyL s = keyL t) : s = t := by
  obtain ⟨h1, h2⟩ := put_free _ _ _ _ h
  refine Prod.ext ?_ (keyE_inj _ _ h2)
  cases hs : s.1 <;> cases ht : t.1 <;> simp [hs, ht] at h1 ⊢
/-- Words by their first bytes; the empty one apart. -/
def grp : List (List Nat) → List (Nat × List (List Nat))
  | [] => []
  | [] :: r => grp r
  | (c :: v) :: r => match grp r with
    | (d, l) :: g => if c = d then (c, v :: l) :: g else (c, [v]) :: (d, l) :: g
    | [] => [(c, [v])]
abbrev RS := List DS × List (List (List Nat))
def rfind (x : RS) (rests : List (List Nat)) (s : DS) : RS × Nat := if rests ∈ x.2 then (x, x.2.idxOf rests) else ((x.1 ++ [s], x.2 ++ [rests]), x.1.length)
def refE (f : RS → List (List Nat) → RS × Nat) : RS → List (Nat × List (List Nat)) → RS × List DE
  | x, [] => (x, [])
  | x, g :: gs => ((refE f (f x g.2).1 gs).1, (g.1, (f x g.2).2) :: (refE f (f x g.2).1 gs).2)
def refLeave : Nat → RS → List (List Nat) → RS × Nat
  | 0, x, _ => (x, 0)
  | k + 1, x, rests => rfind (refE (refLeave k) x (grp rests)).1 rests (decide ([] ∈ rests), (refE (refLeave k) x (grp rests)).2)
structure J (x : RS) : Prop where
  len : x.1.length = x.2.length
  good : Good x.1
  nodup : x.2.Nodup
  sorted : ∀ r ∈ x.2, r.Pairwise (· < ·) ∧ r ≠ []
  takes : ∀ i r, x.2[i]? = some r → ∀ v, acc x.1 i v = decide (v ∈ r)
  closed : ∀ r ∈ x.2, ∀ g ∈ grp r, g.2 ∈ x.2
def Grows (x y : RS) : Prop := ∃ t u, y.1 = x.1 ++ t ∧ y.2 = x.2 ++ u
/-- What leaving some rests comes to. -/
def Left (x y : RS) (n : Nat) (rests : List (List Nat)) : Prop :=
  J y ∧ Grows x y ∧ y.2[n]? = some rests ∧ n < y.1.length ∧ (rests ∈ x.2 → y = x) ∧ (rests ∉ x.2 → n + 1 = y.1.length ∧ ∃ k, vis y.1 k n x.1.length = some y.1.length) ∧
  (∀ b, (∀ w ∈ rests, w.length ≤ b) → ∀ r ∈ y.2, r ∉ x.2 → ∀ w ∈ r, w.length ≤ b)
end Go.Proofs.Ytgebhidpkcjpmaa.Daw

namespace Go.Proofs.Ytgebhidpkcjpmaa.K
open Go.RowKit Go.Proofs.YtgebhidpkcjpmaaW.PrintWords Go.Proofs.YtgebhidpkcjpmaaW.PrintLast Go.Proofs.YtgebhidpkcjpmaaW.PrintMore Go.Proofs.Ytgebhidpkcjpmaa
attribute [local go_sem] max2_int min2_int max_two min_two max_three min_three max_four min_four
set_option linter.unusedVariables false
set_option linter.unusedSimpArgs false
theorem less_nats : ∀ (a b : List UInt8), Op.bytesLess a b = decide (a.map (fun x => x.toNat) < b.map (fun x => x.toNat))
  | [], [] => by simp [Op.bytesLess]
  | [], b :: t => by simp [Op.bytesLess]
  | a :: s, [] => by simp [Op.bytesLess]
  | a :: s, b :: t => by
    unfold Op.bytesLess
    rw [less_nats s t, List.map_cons, List.map_cons]
    have h : (a.toNat :: s.map (fun x => x.toNat) < b.toNat :: t.map (fun x => x.toNat)) ↔ a.toNat < b.toNat ∨ a.toNat = b.toNat ∧ s.map (fun x => x.toNat) < t.map (fun x => x.toNat) := List.cons_lt_cons_iff
    have e1 : (a < b) ↔ a.toNat < b.toNat := UInt8.lt_iff_toNat_lt
    have e2 : (a == b) = decide (a.toNat = b.toNat) := by
      by_cases hab : a = b
      · simp [hab]
      · have : a.toNat ≠ b.toNat := fun k => hab (UInt8.toNat_inj.1 k)
        simp [hab, this]
    rw [e2]
    by_cases h1 : a.toNat < b.toNat
    · simp [e1, h1, h]
    · by_cases h2 : a.toNat = b.toNat <;> simp [e1, h1, h2, h]
theorem less_str (s t : ByteArray) : Op.bytesLess s.toList t.toList = decide (Utf.nats s < Utf.nats t) := by
  rw [less_nats]
  have e : ∀ s : ByteArray, s.toList.map (fun x => x.toNat) = Utf.nats s := by
    intro s
    have := Utf.toList_nats s s.toList
    simp at this
    exact this.symm
  rw [e, e]
theorem nats_inj {s t : ByteArray} (h : Utf.nats s = Utf.nats t) : s = t := by
  have h2 : s.data.toList = t.data.toList := by
    unfold Utf.nats at h
    exact (List.map_inj_right (fun x y hxy => UInt8.toNat_inj.1 hxy)).1 h
  exact ByteArray.ext (Array.toList_inj.1 h2)
end Go.Proofs.Ytgebhidpkcjpmaa.K

namespace Go.Proofs.Ytgebhidpkcjpmaa.K
open Go.RowKit Go.Proofs.YtgebhidpkcjpmaaW.PrintWords Go.Proofs.YtgebhidpkcjpmaaW.PrintLast Go.Proofs.YtgebhidpkcjpmaaW.PrintMore Go.Proofs.Ytgebhidpkcjpmaa
attribute [local go_sem] max2_int min2_int max_two min_two max_three min_three max_four min_four
set_option linter.unusedVariables false
set_option linter.unusedSimpArgs false
open Go.Proofs.Ytgebhidpkcjpmaa.PDk Go.Proofs.Ytgebhidpkcjpmaa.Daw
def toE (e : DE) : S84 := ⟨(e.1 : Int), (e.2 : Int)⟩
def toS (s : DS) : S82 := ⟨s.1, s.2.map toE⟩
def OkE (e : DE) : Prop := e.1 < 256 ∧ e.2 < 4398046511104
def OkS (s : DS) : Prop := ∀ e ∈ s.2, OkE e
set_option maxRecDepth 100000 in
theorem or128 : ∀ m : Fin 256, Go.bits .or .u8 (m.val : Int) 128 = ((m.val % 128 + 128 : Nat) : Int) := by decide
theorem pow7 (k : Nat) : 2 ^ (7 * (k + 1)) = 2 ^ (7 * k) * 128 := by rw [show 7 * (k + 1) = 7 * k + 7 from by omega, Nat.pow_add]
theorem put_step (k n : Nat) (x : List Int) (hx : x.length < 140737488355328) : num_Put.l0 (k + 1) (n : Int) x = if n < 128 then some (x ++ (put n).map Int.ofNat) else num_Put.l0 k ((n / 128 : Nat) : Int) (x ++ [((n % 128 + 128 : Nat) : Int)]) := by
  conv => lhs; unfold num_Put.l0
  by_cases h1 : n < 128
  · rw [if_neg (by omega), if_pos (by omega), if_pos h1, put_low h1]
    have e : (n : Int) % 256 = n := by omega
    rw [e]; rfl
  · rw [if_pos (by omega), if_pos (by omega), if_neg h1]
    have e1 : (n : Int) / 128 = ((n / 128 : Nat) : Int) := by omega
    have e2 : (n : Int) % 256 = ((⟨n % 256, by omega⟩ : Fin 256).val : Int) := by simp
    rw [e1, e2, or128]
    have e3 : n % 256 % 128 + 128 = n % 128 + 128 := by omega
    simp only [e3]
theorem put_l0 : ∀ (k n : Nat) (x : List Int), n < 2 ^ (7 * (k + 1)) → x.length + k < 140737488355328 → num_Put.l0 (k + 1) (n : Int) x = some (x ++ (put n).map Int.ofNat)
  | 0, n, x, h, hx => by
    rw [put_step 0 n x (by omega), if_pos (by simpa using h)]
  | k + 1, n, x, h, hx => by
    rw [put_step (k + 1) n x (by omega)]
    by_cases h1 : n < 128
    · rw [if_pos h1]
    · rw [if_neg h1, put_l0 k (n / 128) _ (by rw [Nat.div_lt_iff_lt_mul (by decide)]; rw [pow7] at h; omega) (by simp; omega), put_high h1]
      simp
theorem put_len : ∀ (k n : Nat), n < 2 ^ (7 * k) → (put n).length ≤ k + 1
  | 0, n, h => by
    have : n = 0 := by simpa using h
    subst this; rw [put_low (by decide)]; decide
  | k + 1, n, h => by
    by_cases h1 : n < 128
    · rw [put_low h1]; simp
    · rw [put_high h1]
      have := put_len k (n / 128) (by
        rw [Nat.div_lt_iff_lt_mul (by decide)]; rw [pow7] at h; omega)
      simpa using this
theorem Put_eq (k n : Nat) (hk : 7 ≤ k) (hn : n < 2 ^ 42) (x : List Int) (hx : x.length + k < 140737488355328) : num_Put.f k x (n : Int) = some (x ++ (put n).map Int.ofNat) := by
  unfold num_Put.f
  simp only [Option.bind_some, List.length_nil, Nat.zero_add, List.nil_append]
  obtain ⟨m, rfl⟩ : ∃ m, k = m + 1 := ⟨k - 1, by omega⟩
  rw [if_pos (by omega), put_l0 m n x (Nat.lt_of_lt_of_le hn (Nat.pow_le_pow_right (by decide) (by omega))) (by omega)]
def keyZ (s : DS) : List Int := (keyL s).map Int.ofNat
def keyB (s : DS) : ByteArray := strOfNums (keyZ s)
theorem put_lt (n : Nat) : ∀ x ∈ put n, x < 256 := by
  induction n using Nat.strongRecOn with
  | _ n ih =>
    intro x hx
    by_cases h : n < 128
    · rw [put_low h] at hx; simp at hx; omega
    · rw [put_high h] at hx
      rcases List.mem_cons.1 hx with rfl | hx
      · omega
      · exact ih (n / 128) (by omega) x hx
theorem keyL_lt {s : DS} (h : OkS s) : ∀ x ∈ keyL s, x < 256 := by
  intro x hx
  unfold keyL keyE at hx
  rcases List.mem_append.1 hx with hx | hx
  · exact put_lt _ x hx
  · obtain ⟨e, he, hx⟩ := List.mem_flatMap.1 hx
    rcases List.mem_cons.1 hx with rfl | hx
    · exact (h e he).1
    · exact put_lt _ x hx
theorem keyB_inj {s t : DS} (hs : OkS s) (ht : OkS t) (h : (keyB s).data.toList = (keyB t).data.toList) : s = t := by
  apply keyL_inj
  have e : ∀ s, OkS s → (keyB s).data.toList.map (fun b => b.toNat) = keyL s := by
    intro s hs
    unfold keyB
    rw [strOfNums_data, List.map_map]
    unfold keyZ
    rw [List.map_map]
    refine (List.map_congr_left (fun x hx => ?_)).trans (List.map_id _)
    have := keyL_lt hs x hx
    simp [Function.comp]
    omega
  rw [← e s hs, ← e t ht, h]
theorem keyE_len : ∀ (es : List DE), (∀ e ∈ es, OkE e) → (keyE es).length ≤ 8 * es.length
  | [], _ => by simp [keyE]
  | e :: es, h => by
    have h1 := put_len 6 e.2 (Nat.lt_of_lt_of_le (h e (by simp)).2 (by decide))
    have h2 := keyE_len es (fun f hf => h f (by simp [hf]))
    have : keyE (e :: es) = e.1 :: put e.2 ++ keyE es := by simp [keyE]
    rw [this]
    simp
    omega
theorem key_l0 (es : List DE) (hes : ∀ e ∈ es, OkE e) (hl : es.length ≤ 8796093022208) : ∀ (m i : Nat) (k : Nat) (x : List Int), i + m = es.length → m + 8 ≤ k → k < 20000000000000 → x.length ≤ 8 * i + 2 →
    daw_key.l0 k x (es.map toE) (es.length : Int) (i : Int) = some (strOfNums (x ++ (keyE (es.drop i)).map Int.ofNat))
  | 0, i, k + 1, x, hm, hk, hk2, hx => by
    unfold daw_key.l0
    rw [if_neg (by omega), List.drop_eq_nil_of_le (by omega)]
    simp [keyE]
  | m + 1, i, k + 1, x, hm, hk, hk2, hx => by
    unfold daw_key.l0
    have hi : i < es.length := by omega
    have hd : es.drop i = es[i] :: es.drop (i + 1) := List.drop_eq_getElem_cons hi
    have hr : rd_T84 (es.map toE) (i : Int) = toE es[i] := by
      unfold rd_T84
      rw [Int.toNat_natCast, List.getD_eq_getElem?_getD, List.getElem?_map, List.getElem?_eq_getElem hi]; rfl
    have ho := hes es[i] (List.getElem_mem hi)
    rw [if_pos (by omega), if_pos (by omega), if_pos (by simp; omega), if_pos (by omega), hr]
    have hw : IntKind.u64.wrap ((toE es[i]).f1) = ((es[i].2 : Nat) : Int) := by
      have := ho.2
      simp [toE, IntKind.wrap, IntKind.bits, IntKind.signed]
      omega
    rw [hw, Put_eq k es[i].2 (by omega) (Nat.lt_of_lt_of_le ho.2 (by decide)) _ (by simp; omega)]
    simp only [Option.bind_some]
    have hw2 : Go.RowKit.wrap64 ((i : Int) + 1) = ((i + 1 : Nat) : Int) := by
      unfold Go.RowKit.wrap64; omega
    have hp := put_len 6 es[i].2 (Nat.lt_of_lt_of_le ho.2 (by decide))
    rw [hw2, key_l0 es hes hl m (i + 1) k _ (by omega) (by omega) (by omega) (by simp; omega), hd]
    have hk3 : keyE (es[i] :: es.drop (i + 1)) = es[i].1 :: put es[i].2 ++ keyE (es.drop (i + 1)) := by unfold keyE; rw [List.flatMap_cons]
    rw [hk3]
    simp only [toE, List.map_append, List.map_cons, List.append_assoc, List.cons_append, List.nil_append]
    rfl
theorem key_eq (s : DS) (hs : OkS s) (hl : s.2.length ≤ 8796093022208) (k : Nat) (hk : s.2.length + 9 ≤ k) (hk2 : k < 20000000000000) : daw_key.f k (toS s).f0 (toS s).f1 = some (keyB s) := by
  have hj : ∀ b : Nat, b ≤ 1 → daw_key.j0 k (b : Int) (toS s).f0 (toS s).f1 = some (strOfNums ((put b).map Int.ofNat ++ (keyE s.2).map Int.ofNat)) := by
    intro b hb
    cases k with
    | zero => omega
    | succ k =>
      simp only [daw_key.j0]
      rw [Put_eq k b (by omega) (by omega) [] (by simp; omega)]
      simp only [Option.bind_some, List.nil_append]
      have h2 := key_l0 s.2 hs hl s.2.length 0 k ((put b).map Int.ofNat) (by omega) (by omega) (by omega) (by rw [put_low (by omega)]; simp)
      have : ((toS s).f1.length : Int) = (s.2.length : Int) := by simp [toS]
      rw [this]
      simpa [toS] using h2
  unfold daw_key.f keyB keyZ keyL
  have h0 := hj 0 (by omega)
  have h1 := hj 1 (by omega)
  have e : (toS s).f0 = s.1 := rfl
  cases hb : s.1 with
  | true => rw [e, hb] at h1 ⊢; rw [if_pos rfl]; simp only [if_true, List.map_append]; exact_mod_cast h1
  | false => rw [e, hb] at h0 ⊢; rw [if_neg (by decide)]; simp only [Bool.false_eq_true, if_false, List.map_append]; exact_mod_cast h0
open Go.Maps
def kl (s : DS) : Lit := .string (keyB s).data.toList
theorem isKey (s : DS) : WideAt.IsKeyLit (kl s) := trivial
/-- The map holds each left state's number at its key, and no other key of a state. -/
def Link (D : DataW Unit) (left : List DS) : Prop :=
  IsMap D ∧ (∀ s, OkS s → has D (kl s) = decide (s ∈ left)) ∧ ∀ s, OkS s → s ∈ left → D.atKey (kl s) (.lit (.int .i64 0)) = .lit (.int .i64 (left.idxOf s : Nat))
theorem link_empty : Link (.map [] : DataW Unit) [] := ⟨⟨[], rfl⟩, fun s _ => by simp [has_eq], fun s _ h => by simp at h⟩
theorem kl_ne {s t : DS} (hs : OkS s) (ht : OkS t) (h : s ≠ t) : kl s ≠ kl t := fun e => h (keyB_inj hs ht (by injection e))
theorem link_put {D : DataW Unit} {left : List DS} {s : DS} (h : Link D left) (hs : OkS s) (hn : s ∉ left) : Link (D.put (kl s) (.lit (.int .i64 (left.length : Nat)))) (left ++ [s]) := by
  refine ⟨h.1.put _ _, fun t ht => ?_, fun t ht hm => ?_⟩
  · by_cases e : t = s
    · subst e; rw [has_put_same h.1 (isKey _)]; simp
    · rw [has_put_other (kl_ne ht hs e), h.2.1 t ht]; simp [e]
  · by_cases e : t = s
    · subst e
      rw [atKey_put_same h.1 (isKey _)]
      have : (left ++ [t]).idxOf t = left.length := by
        rw [List.idxOf_append, if_neg hn]; simp
      rw [this]
    · have hm2 : t ∈ left := by simpa [e] using hm
      rw [atKey_put_other (kl_ne ht hs e), h.2.2 t ht hm2, List.idxOf_append, if_pos hm2]
end Go.Proofs.Ytgebhidpkcjpmaa.K

namespace Go.Proofs.Ytgebhidpkcjpmaa.K
open Go.RowKit Go.Proofs.YtgebhidpkcjpmaaW.PrintWords Go.Proofs.YtgebhidpkcjpmaaW.PrintLast Go.Proofs.YtgebhidpkcjpmaaW.PrintMore Go.Proofs.Ytgebhidpkcjpmaa
attribute [local go_sem] max2_int min2_int max_two min_two max_three min_three max_four min_four
set_option linter.unusedVariables false
set_option linter.unusedSimpArgs false
open Go.Proofs.Ytgebhidpkcjpmaa.PDk Go.Proofs.Ytgebhidpkcjpmaa.Daw Go.Maps
theorem string_law : Keyed Try.prog 9 := string_keyed Try.underlying9
theorem zeroE (w : World) : (zeroValue 3).run Try.prog w = .ok (.int .i64 0) w := by kernel_rfl
theorem map_move {w w' : World} {P : Program} {k : TypeId} {R : Value → Option (DataW Unit × List MemPlace)} {b n : Nat} {D : DataW Unit} (h : w.ownsMap P k R b n D) (e : w'.heap[b]? = w.heap[b]?) : w'.ownsMap P k R b n D := by
  obtain ⟨es, clock, hb, F, hs, hD⟩ := h
  exact ⟨es, clock, e.trans hb, F, hs, hD⟩
theorem wf_nat (n : Nat) (h : n ≤ 1000000000) : (Lit.int .i64 (n : Int)).wf = true := by
  simp only [Lit.wf, IntKind.min, IntKind.max, IntKind.signed, IntKind.bits, Bool.and_eq_true, decide_eq_true_eq, if_true]
  omega
theorem map_cells {w : World} {P : Program} {k : TypeId} {R : Value → Option (DataW Unit × List MemPlace)} {b n : Nat} {D : DataW Unit} (h : w.ownsMap P k R b n D) {g t : Nat} {cells : Array Value} (hg : w.heap[g]? = some (.cells cells t (0, 0))) : g ≠ b := by
  rintro rfl
  obtain ⟨es, cl, hb2, _⟩ := h
  rw [hg] at hb2
  cases hb2
theorem keyB_size (s : DS) (h : OkS s) (hl : s.2.length ≤ 1000000) : (keyB s).size ≤ 10000000 := by
  unfold keyB keyZ
  rw [strOfNums_size, List.length_map]
  unfold keyL
  have := keyE_len s.2 h
  rw [List.length_append, put_low (by split <;> decide)]
  simp; omega
theorem keyOf_key (s : DS) (h : OkS s) (hl : s.2.length ≤ 1000000) : keyOf Try.prog 9 (.string (keyB s)) = some (kl s) :=
  Go.WideMaps.keyOf_string_mk Try.underlying9 (Nat.le_trans (keyB_size s h hl) (by decide))
/-- What number leaves. -/
def NumQ (base g bm : Nat) (left : List DS) (s : DS) (vP : Value) (word : ByteArray) (okL okS : Nat → Prop) (w w' : World) : Prop :=
  ∃ vL' okL' n' D', w'.heap[g]? = some (.cells #[vL', .map (some bm), vP, .string word] 112 (0, 0)) ∧ w'.ownsMap Try.prog 9 (plainElem Try.prog 3) bm n' D' ∧ n' ≤ (num left s).1.length ∧ Link D' (num left s).1 ∧
      Kd.S k82 82 w' base okL' vL' ((num left s).1.map toS) ∧ (∀ k, okL' k → okL k ∨ okS k ∨ w.heap.size ≤ k) ∧ Below base w w' ∧ (∀ k, k < w.heap.size → ¬ okL k → k ≠ g → k ≠ bm → w'.heap[k]? = w.heap[k]?)
set_option maxHeartbeats 4000000 in
set_option maxRecDepth 100000 in
theorem number_k (base g bm n : Nat) (left : List DS) (s : DS) (vL vP vE : Value) (word : ByteArray) (D : DataW Unit) (okL okS : Nat → Prop) (w : World)
    (hg : w.heap[g]? = some (.cells #[vL, .map (some bm), vP, .string word] 112 (0, 0)))
    (hm : w.ownsMap Try.prog 9 (plainElem Try.prog 3) bm n D) (hn : n ≤ left.length) (hD : Link D left)
    (hL : Kd.S k82 82 w base okL vL (left.map toS)) (hE : Kd.R k84 84 w base okS vE (toS s).f1)
    (hLS : ∀ k, okL k → ¬ okS k) (hb : base ≤ w.heap.size) (hbg : base ≤ g) (hbm : base ≤ bm) (hs : OkS s) (hsl : s.2.length ≤ 1000000) (hll : left.length ≤ 1000000) :
    Calls Try.prog 61 #[.pointer (some ⟨g, 0, none⟩), .agg #[.bool s.1, vE]] w fun e w' => e = .returned (.int .i64 ((num left s).2 : Nat)) ∧ NumQ base g bm left s vP word okL okS w w' := by
  obtain ⟨A, c, rfl⟩ := Kd.R_slice hE
  obtain ⟨AL, cL, hvL⟩ := Kd.S_slice hL
  rw [List.length_map] at hvL
  subst hvL
  have hLb := Kd.S_mono (Kd.S_bound hL) (ok' := fun k => okL k ∧ k < w.heap.size ∧ k ≠ bm) (fun k hk => ⟨hk.1, hk.2.2.1, by obtain ⟨_, _, cells, hc⟩ := hk.2.2.2; exact map_cells hm hc⟩)
  have hEb := Kd.R_mono (Kd.R_bound hE) (ok' := fun k => okS k ∧ k < w.heap.size ∧ k ≠ bm) (fun k hk => ⟨hk.1, hk.2.2.1, by obtain ⟨_, _, cells, hc⟩ := hk.2.2.2; exact map_cells hm hc⟩)
  obtain ⟨K, hK5, hK6⟩ : ∃ K, s.2.length + 9 ≤ K ∧ K < 20000000000000 := ⟨s.2.length + 9, by omega, by omega⟩
  have hkey : daw_key.f K s.1 (toS s).f1 = some (keyB s) := key_eq s hs (by omega) K hK5 hK6
  have hkof := keyOf_key s hs hsl
  obtain ⟨kb, hkb⟩ : ∃ kb, kb = keyB s := ⟨_, rfl⟩
  rw [← hkb] at hkey hkof
  clear hkb
  have hmlt := hm.lt
  have hglt := blk_lt hg
  have hgm := map_cells hm hg
  have HG := Aside0.mk hg; have HM := Aside0.mk hm; have HL := Aside0.mk hLb; have HE := Aside0.mk hEb; have HK := Aside0.mk hkey; have HO := Aside0.mk hkof
  have HBG := Aside0.mk hbg; have HBM := Aside0.mk hbm; have HB := Aside0.mk hb; have HLL := Aside0.mk hll; have HNN := Aside0.mk hn
  have HGL := Aside0.mk hglt; have HML := Aside0.mk hmlt; have HGM := Aside0.mk hgm
  clear hg hm hL hE hLb hEb hkey hkof hbg hbm hb hll hn hK5 hK6 hglt hmlt hgm
  have huS := Try.underlying82
  have huE := Try.underlying84
  go_enter Try.func61, Try.ntmps61
  go_wp2_with (first | ((with_reducible refine gate_dst (N := 3) rfl ?_); refine box_event ?hg (N := 3) ?hd (cs := #[.bool s.1, .slice A (toS s).f1.length c]) (t := 82) ?hr ?_; (case hd => rfl); (case hg => rfl); (case hr => first | (go_simp; done) | (go_simp; rfl)); intro gp hgq_ w1 hp hb1; have gp_eq := Aside0.mk hgq_; clear hgq_; have c0 : w1.cell? ⟨gp, 0, none⟩ = some (.bool s.1) := (blk_cell hp 0).trans rfl; have c1 : w1.cell? ⟨gp, 1, none⟩ = some (.slice A (toS s).f1.length c) := (blk_cell hp 1).trans rfl) | (go_at_call 85; (with_reducible refine (daw_key.calls K s.1 A c (toS s).f1 kb _ ?sC ?sc HK.out).mono ?_); (case sC => exact (Kd.R_reads' (Kd.R_below HE.out hb1)).2.2); (case sc => exact (Kd.R_reads' HE.out).2.1)))
  rintro e w2 ⟨rfl, hb2⟩
  have hb12 := hb1.trans (hb2.mono hb1.size)
  have HG2 := Aside0.mk (blk_below HG.out hb12); have HM2 := Aside0.mk (map_move HM.out (hb12.block bm HML.out)); have HL2 := Aside0.mk (Kd.S_below HL.out hb12); have HE2 := Aside0.mk (Kd.R_below HE.out hb12); have HP2 := Aside0.mk (blk_below hp hb2); have HB12 := Aside0.mk hb12
  have hsz2 : w.heap.size < w2.heap.size := by
    have h1 := blk_lt hp; have h2 := hb2.size; have h3 := gp_eq.out; omega
  have HS2 := Aside0.mk hsz2
  clear hb1 hb2 hb12 hp hsz2 c0 c1 HK
  have d0 : w2.cell? ⟨g, 0, none⟩ = some (.slice AL left.length cL) := (blk_cell HG2.out 0).trans rfl
  have d1 : w2.cell? ⟨g, 1, none⟩ = some (.map (some bm)) := (blk_cell HG2.out 1).trans rfl
  have c0 : w2.cell? ⟨gp, 0, none⟩ = some (.bool s.1) := (blk_cell HP2.out 0).trans rfl
  have c1 : w2.cell? ⟨gp, 1, none⟩ = some (.slice A (toS s).f1.length c) := (blk_cell HP2.out 1).trans rfl
  by_cases hmem : s ∈ left
  · have hhas : Maps.has D (kl s) = true := by rw [hD.2.1 s hs]; simp [hmem]
    have hat0 := hD.2.2 s hs hmem
    have hnum : num left s = (left, left.idxOf s) := by unfold num; rw [if_pos hmem]
    go_wp2_with (first | (at_lookup; refine wpList_lookup_own_ok_int _ rfl _ _ 110 rfl 9 3 .i64 string_law Try.underlying110 Try.underlying3 (zeroE _) bm n D rfl HM2.out _ _ rfl HO.out ?_; intro cc hat hwc; rw [hhas]))
    go_ret
    unfold NumQ
    rw [hnum]
    rw [hat0] at hat
    injection hat with hat
    injection hat with _ hat
    refine ⟨by rw [← hat]; rfl, _, _, n, D, HG2.out, HM2.out, HNN.out, hD, HL2.out, fun k hk => Or.inl hk.1, HB12.out.mono HB.out, fun k hk _ _ _ => HB12.out.block k hk⟩
  · have hhas : Maps.has D (kl s) = false := by rw [hD.2.1 s hs]; simp [hmem]
    have hnum : num left s = (left ++ [s], left.length) := by unfold num; rw [if_neg hmem]
    have hnl : n < maxLen := by have := HNN.out; have := HLL.out; unfold maxLen; omega
    go_wp2_with (first | (at_lookup; refine wpList_lookup_own_ok_int _ rfl _ _ 110 rfl 9 3 .i64 string_law Try.underlying110 Try.underlying3 (zeroE _) bm n D rfl HM2.out _ _ rfl HO.out ?_; intro cc hat hwc; rw [hhas]) | (at_mapUpdate; refine wpList_mapUpdate_own _ rfl _ _ _ 110 rfl 9 3 string_law Try.underlying110 _ bm n D rfl HM2.out hnl _ _ _ rfl rfl HO.out _ [] (plainElem_int Try.underlying3 (wf_nat _ (Nat.le_trans HLL.out (by decide)))) ?_; intro w3 hm3 hg3))
    have hgp : gp ≠ bm := map_cells HM2.out HP2.out
    have hgg : g ≠ gp := by have h1 := gp_eq.out; have h2 := HGL.out; omega
    have HG3 := Aside0.mk (blk_drew (blk_grown HG2.out hg3 (by simpa using HGM.out)))
    have HP3 := Aside0.mk (blk_drew (blk_grown HP2.out hg3 (by simpa using hgp)))
    have HL3 := Aside0.mk (Kd.S_drew (Kd.S_grown HL2.out hg3 (fun k hk => by simpa using hk.2.2)))
    have HE3 := Aside0.mk (Kd.R_drew (Kd.R_grown HE2.out hg3 (fun k hk => by simpa using hk.2.2)))
    have HM3 := Aside0.mk hm3.drew
    have HB3 := Aside0.mk (below_drew ((HB12.out.mono HB.out).grown hg3 (Nat.le_trans HB.out HB12.out.size) (fun k hk => by cases hk; exact HBM.out)))
    have HF3 : Aside0 (∀ k, k < w.heap.size → k ≠ bm → w3.drew.heap[k]? = w.heap[k]?) := ⟨fun k hk hkm => (hg3.block k (Nat.lt_of_lt_of_le hk HB12.out.size) (by simpa using hkm)).trans (HB12.out.block k hk)⟩
    have HS3 : Aside0 (w.heap.size < w3.drew.heap.size) := ⟨Nat.lt_of_lt_of_le HS2.out hg3.size⟩
    clear HG2 HP2 HL2 HE2 HM2 hm3 hg3 d0 d1 c0 c1
    refine start_ (n := 11) (S := fun w' => w'.cell? ⟨g, 0, none⟩ = some (.slice AL left.length cL) ∧ w'.cell? ⟨gp, 0, none⟩ = some (.bool s.1) ∧ w'.cell? ⟨gp, 1, none⟩ = some (.slice A (toS s).f1.length c)) (ds := [7, 10]) #[false, false, false, false, false, false, false, false, false, false, false] (by kernel_rfl) rfl rfl ⟨(blk_cell HG3.out 0).trans rfl, (blk_cell HP3.out 0).trans rfl, (blk_cell HP3.out 1).trans rfl⟩ (fun hHeld => ?_)
    generalize w3.drew = w4 at HG3 HP3 HL3 HE3 HM3 HB3 HF3 HS3 hHeld ⊢
    (refine pure_ (i := 0) (N := some 32) (v := ?_) (a' := ?_) #[true, false, false, false, false, false, false, false, false, false, false] rfl rfl (by kernel_rfl) (fun _ _ _ h => h) (Or.inl ⟨by rfl, ?_⟩) ?_ ?_; rotate_left; (intro w'; go_simp; with_reducible rfl); rotate_left; (simp only [Act.put, List.setIfInBounds_toArray, List.set_cons_zero, List.set_cons_succ, i64_w, i32_w]; rfl)); (refine pure_ (i := 1) (N := some 33) (v := ?_) (a' := ?_) #[true, true, false, false, false, false, false, false, false, false, false] rfl rfl (by kernel_rfl) (fun _ _ _ h => h) (Or.inl ⟨by rfl, ?_⟩) ?_ ?_; rotate_left; (intro w'; go_simp; with_reducible rfl); rotate_left; (simp only [Act.put, List.setIfInBounds_toArray, List.set_cons_zero, List.set_cons_succ, i64_w, i32_w]; rfl)); (refine pure_ (i := 2) (N := some 34) (v := ?_) (a' := ?_) #[true, true, true, false, false, false, false, false, false, false, false] rfl rfl (by kernel_rfl) (fun _ _ _ h => h) (Or.inl ⟨by rfl, ?_⟩) ?_ ?_; rotate_left; (intro w'; go_simp; with_reducible rfl); rotate_left; (simp only [Act.put, List.setIfInBounds_toArray, List.set_cons_zero, List.set_cons_succ, i64_w, i32_w]; rfl)); (refine pure_ (i := 3) (N := some 35) (v := ?_) (a' := ?_) #[true, true, true, true, false, false, false, false, false, false, false] rfl rfl (by kernel_rfl) (fun _ _ _ h => h) (Or.inl ⟨by rfl, ?_⟩) ?_ ?_; rotate_left; (intro w'; go_simp; with_reducible rfl); rotate_left; (simp only [Act.put, List.setIfInBounds_toArray, List.set_cons_zero, List.set_cons_succ, i64_w, i32_w]; rfl))
    (refine take_ (i := 4) (N := some 36) (v := ?_) (a' := ?_) #[true, true, true, true, true, false, false, false, false, false, false] rfl rfl (by kernel_rfl) (fun _ _ _ h => h) (Or.inl ⟨by rfl, ?_⟩) hHeld ?_ ?_; rotate_left; (rintro w' ⟨s0, s1, s2⟩; go_simp; with_reducible rfl); rotate_left; (simp only [Act.put, List.setIfInBounds_toArray, List.set_cons_zero, List.set_cons_succ, i64_w, i32_w]; rfl)); (refine take_ (i := 5) (N := some 37) (v := ?_) (a' := ?_) #[true, true, true, true, true, true, false, false, false, false, false] rfl rfl (by kernel_rfl) (fun _ _ _ h => h) (Or.inl ⟨by rfl, ?_⟩) hHeld ?_ ?_; rotate_left; (rintro w' ⟨s0, s1, s2⟩; go_simp; with_reducible rfl); rotate_left; (simp only [Act.put, List.setIfInBounds_toArray, List.set_cons_zero, List.set_cons_succ, i64_w, i32_w]; rfl))
    refine one_ (i := 6) (N := some 38) #[true, true, true, true, true, true, true, false, false, false, false] rfl rfl (by kernel_rfl) (by decide) (fun K hK => ?_)
    (refine value_ (w1 := ?_) (v := ?_) (by rfl) rfl ?_ ?_; rotate_left 2; (go_simp; constructor; rfl; rfl))
    refine hK.out _ _ ⟨(blk_cell (blk_alloc HG3.out _) 0).trans rfl, (blk_cell (blk_alloc HP3.out _) 0).trans rfl, (blk_cell (blk_alloc HP3.out _) 1).trans rfl⟩ (fun hHeld => ?_)
    (clear hK K; refine norm_ (a' := ?_) ?_ ?_; rotate_left; (show Act.put _ (some 38) _ = _; simp only [Act.put, List.setIfInBounds_toArray, List.set_cons_zero, List.set_cons_succ, i64_w, i32_w]; rfl))
    refine last_ (i := 7) (N := some 39) #[true, true, true, true, true, true, true, true, false, false, false] rfl rfl (by kernel_rfl) (by decide) (fun K hK => ?_)
    refine Kd.S_append_step (k82) (w0 := w) (base) (by rfl) (.tmp 36) (.tmp 38) 25 82 (.agg #[(.bool false), (.slice none 0 0)]) 32 rfl Try.underlying25 info82 rfl (by decide) (by omega) (.slice AL left.length cL) (left.map toS) (toS s) [.bool s.1, .slice A (toS s).f1.length c] (fun k => okL k ∨ okS k ∨ w.heap.size ≤ k) okS rfl rfl ?aP ?aK ?aF ?aO ?aB ?aS ?aL ?_
    (case aP => exact k82_mkM _ _ _ (toS s) (Kd.R_mono HE3.out (fun k hk => hk.1)))
    (case aK => exact fun k hk => ⟨Or.inr (Or.inl hk), fun e => hLS k ((Kd.S_R HL3.out).1 k e.symm).1 hk⟩)
    (case aF => exact fun k hk => Or.inr (Or.inr (Nat.le_trans (Nat.le_of_lt HS3.out) hk)))
    (case aO => exact Kd.S_mono HL3.out (fun k hk => ⟨Or.inl hk.1, hLS k hk.1⟩))
    (case aB => exact HB3.out)
    (case aS => exact Nat.le_trans HB.out (Nat.le_of_lt HS3.out))
    (case aL => have := HLL.out; rw [List.length_map]; omega)
    intro v1 w5 hS5 hb5 hg5 hat5
    have hgne : some g ≠ (Value.slice AL left.length cL).ownBlock := fun e => (by have := ((Kd.S_R HL3.out).1 g e.symm); exact absurd (Kd.S_typed HL3.out g e.symm) (by rintro ⟨cells, hc⟩; rw [HG3.out] at hc; injection hc with hc; injection hc with _ hc; exact absurd hc (by decide)))
    have hmne : some bm ≠ (Value.slice AL left.length cL).ownBlock := fun e => ((Kd.S_R HL3.out).1 bm e.symm).2.2 rfl
    have HG5 := Aside0.mk (blk_grown HG3.out hg5 hgne)
    have HM5 := Aside0.mk (HM3.out.kept hg5 hmne)
    have HB5 := Aside0.mk hb5
    have HF5 : Aside0 (∀ k, k < w.heap.size → ¬ okL k → k ≠ bm → w5.heap[k]? = w.heap[k]?) := ⟨fun k hk hn hkm => (hg5.block k (Nat.lt_trans hk HS3.out) (fun e => hn ((Kd.S_R HL3.out).1 k e.symm).1)).trans (HF3.out k hk hkm)⟩
    obtain ⟨A5, c5, hv5⟩ := Kd.S_slice hS5
    rw [List.length_append, List.length_map] at hv5
    subst hv5
    have HS5 := Aside0.mk hS5
    clear hS5 hb5 hg5 hat5 hgne hmne
    refine hK.out _ _ ?_
    (clear hK K; refine norm_ (a' := ?_) ?_ ?_; rotate_left; (show Act.put _ (some 39) _ = _; simp only [Act.put, List.setIfInBounds_toArray, List.set_cons_zero, List.set_cons_succ, i64_w, i32_w]; rfl))
    (refine pure_ (i := 8) (N := some 40) (v := ?_) (a' := ?_) #[true, true, true, true, true, true, true, true, true, false, false] rfl rfl (by kernel_rfl) (fun _ _ _ h => h) (Or.inl ⟨by rfl, ?_⟩) ?_ ?_; rotate_left; (intro w'; go_simp; with_reducible rfl); rotate_left; (simp only [Act.put, List.setIfInBounds_toArray, List.set_cons_zero, List.set_cons_succ, i64_w, i32_w]; rfl)); (refine pure_ (i := 9) (N := some 41) (v := ?_) (a' := ?_) #[true, true, true, true, true, true, true, true, true, true, false] rfl rfl (by kernel_rfl) (fun _ _ _ h => h) (Or.inl ⟨by rfl, ?_⟩) ?_ ?_; rotate_left; (intro w'; go_simp; with_reducible rfl); rotate_left; (simp only [Act.put, List.setIfInBounds_toArray, List.set_cons_zero, List.set_cons_succ, i64_w, i32_w]; rfl))
    refine last_ (i := 10) (N := none) #[true, true, true, true, true, true, true, true, true, true, true] rfl rfl (by kernel_rfl) (by decide) (fun K hK => ?_)
    have d0 : w5.cell? ⟨g, 0, none⟩ = some (.slice AL left.length cL) := (blk_cell HG5.out 0).trans rfl
    have f0 := blk_frozen HG5.out 0
    refine skip_ (w1 := ?_) (by rfl) rfl ?_ ?_
    rotate_left
    · go_simp
      rfl
    refine hK.out _ _ ?_
    clear hK K
    refine done_ (by kernel_rfl) ?_
    try go_wp2
    go_ret
    unfold NumQ
    rw [hnum]
    refine ⟨rfl, _, _, n + 1, _, blk_put HG5.out 0 _ rfl, map_move HM5.out (Below.heap_setCell _ _ _ _ (Ne.symm HGM.out)), by have := HNN.out; simp; omega, link_put hD hs hmem, ?_, fun k hk => hk, HB5.out.setCell (p := ⟨g, 0, none⟩) HBG.out _, fun k hk hn hkg hkm => (Below.heap_setCell _ ⟨g, 0, none⟩ _ k hkg).trans (HF5.out k hk hn hkm)⟩
    have e1 : (left ++ [s]).map toS = left.map toS ++ [toS s] := by simp
    rw [e1]
    exact Kd.S_mono (Kd.S_set HS5.out HG5.out (by decide) 0 _) (fun k hk => hk)
end Go.Proofs.Ytgebhidpkcjpmaa.K

