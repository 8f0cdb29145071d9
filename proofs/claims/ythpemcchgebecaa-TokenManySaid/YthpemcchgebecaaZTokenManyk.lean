/- TokenMany: whatever chunk behind whatever bytes (2000 at most each): it tells at most as many words as it has bytes, and one more; all words of bytes are no more than bytes. (The texts that the proof is made of, one behind the other: part 11 of 11.) -/
import Derived.Test.YthpemcchgebecaaProg
import Derived.Below
import Derived.Deep.Draws
import Derived.Deep.AppendLies
import Derived.Maps.AppendAt
import Derived.OwnWalk
import Derived.Laws.BytesArg
import Derived.Laws.MakeOwn
import Derived.Laws.OwnMore
import Derived.Deep.OwnRows
import Derived.Tactics
import Derived.Lib.ConvBytes
import Derived.Laws.Slices
import Derived.WalkKit
import Derived.KernelRfl
import Derived.RowKit3
import Derived.Deep.LoopGhost
import Derived.Deep.QuietTactic
import Derived.BigQuiet
import Derived.WideLaws
import Derived.Deep.DeepCutAuto
import Derived.Deep.CutBlock
import Derived.Deep.RegionHeld3
import Derived.Laws.Rows
import Derived.Lib.AppendStr
import Derived.ArgAppend
import Derived.Laws.IdiomCopy
import Derived.OrdersHeld
import Derived.Laws.BitsLemmas
import Derived.RowKit
import Derived.Lib.OthersKept
import Derived.WalkSmall
import Derived.Deep.RegionLaw
import Derived.BigRegion
import GoSem.Claim
import Derived.Test.YthpemcchgebecaaRows
import Derived.ProofKit
import Derived.OpenShut
import Derived.ShutString
import Derived.ChangeOld
import Derived.SizedLaws
import Derived.Test.YthpemcchgebecaaZTokenManya
import Derived.Test.YthpemcchgebecaaZTokenManyb
import Derived.Test.YthpemcchgebecaaZTokenManyc
import Derived.Test.YthpemcchgebecaaZTokenManyd
import Derived.Test.YthpemcchgebecaaZTokenManye
import Derived.Test.YthpemcchgebecaaZTokenManyf
import Derived.Test.YthpemcchgebecaaZTokenManyg
import Derived.Test.YthpemcchgebecaaZTokenManyh
import Derived.Test.YthpemcchgebecaaZTokenManyi
import Derived.Test.YthpemcchgebecaaZTokenManyj
namespace Go.Proofs.Ythpemcchgebecaa.PSh05
open Go.RowKit Go.Proofs.YthpemcchgebecaaW.PrintWords Go.Proofs.YthpemcchgebecaaW.PrintLast Go.Proofs.YthpemcchgebecaaW.PrintMore Go.Proofs.Ythpemcchgebecaa.K Go.Proofs.Ythpemcchgebecaa.PFold
attribute [local go_sem] max2_int min2_int max_two min_two max_three min_three max_four min_four   -- for this text's walks alone
set_option linter.unusedVariables false
set_option linter.unusedSimpArgs false



def errW : Option Int → Value
  | none => .nilIface
  | some c => .iface 0 (.int .i64 c)
theorem errW_none : errW none = .nilIface := rfl
theorem errW_some (c : Int) : errW (some c) = .iface 0 (.int .i64 c) := rfl

end Go.Proofs.Ythpemcchgebecaa.PSh05

namespace Go.Proofs.Ythpemcchgebecaa.PSh05
open Go.RowKit Go.Proofs.YthpemcchgebecaaW.PrintWords Go.Proofs.YthpemcchgebecaaW.PrintLast Go.Proofs.YthpemcchgebecaaW.PrintMore Go.Proofs.Ythpemcchgebecaa.K Go.Proofs.Ythpemcchgebecaa.PFold
attribute [local go_sem] max2_int min2_int max_two min_two max_three min_three max_four min_four   -- for this text's walks alone
set_option linter.unusedVariables false
set_option linter.unusedSimpArgs false

def manteletlaw05_shown.f (k : Nat)  : Option (Bool) := (fold_Fold.f k 376).bind fun t101 => (if t101 = 255 then ((fold_Text.f (⟨#[195, 132, 206, 163]⟩ : ByteArray)).bind fun t102 => (if t102.toList = ([195, 164, 207, 131] : List UInt8) then ((fold_Letter.f 122).bind fun t103 => (if t103 = true then ((fold_Mark.f 8217).bind fun t104 => (some t104)) else (some false))) else (some false))) else (some false))
end Go.Proofs.Ythpemcchgebecaa.PSh05

namespace Go.Proofs.Ythpemcchgebecaa.PSh05
open Go.RowKit Go.Proofs.YthpemcchgebecaaW.PrintWords Go.Proofs.YthpemcchgebecaaW.PrintLast Go.Proofs.YthpemcchgebecaaW.PrintMore Go.Proofs.Ythpemcchgebecaa.K Go.Proofs.Ythpemcchgebecaa.PFold
attribute [local go_sem] max2_int min2_int max_two min_two max_three min_three max_four min_four   -- for this text's walks alone
set_option linter.unusedVariables false
set_option linter.unusedSimpArgs false

end Go.Proofs.Ythpemcchgebecaa.PSh05

namespace Go.Proofs.Ythpemcchgebecaa.K
open Go.RowKit Go.Proofs.YthpemcchgebecaaW.PrintWords Go.Proofs.YthpemcchgebecaaW.PrintLast Go.Proofs.YthpemcchgebecaaW.PrintMore Go.Proofs.Ythpemcchgebecaa
attribute [local go_sem] max2_int min2_int max_two min_two max_three min_three max_four min_four
set_option linter.unusedVariables false
set_option linter.unusedSimpArgs false
open Go.Proofs.Ythpemcchgebecaa.PFold Go.Proofs.Ythpemcchgebecaa.PSh05
end Go.Proofs.Ythpemcchgebecaa.K

namespace Go.Proofs.Ythpemcchgebecaa.K
open Go.RowKit Go.Proofs.YthpemcchgebecaaW.PrintWords Go.Proofs.YthpemcchgebecaaW.PrintLast Go.Proofs.YthpemcchgebecaaW.PrintMore Go.Proofs.Ythpemcchgebecaa
attribute [local go_sem] max2_int min2_int max_two min_two max_three min_three max_four min_four
set_option linter.unusedVariables false
set_option linter.unusedSimpArgs false
open Go.Proofs.Ythpemcchgebecaa.PFold Go.Proofs.Ythpemcchgebecaa.PWd
def wSt (l : List Int) (i : Nat) : WS := (l.take i).foldl wStep ([], [], false, false)
def wEnd (s : WS) : List ByteArray := s.1 ++ wOuts s.2.1 s.2.2.2
def wAll (l : List Int) : List ByteArray := wEnd (l.foldl wStep ([], [], false, false))
def lt (l : List Int) (i : Nat) : Bool := match l[i]? with | some c => isLetter c | none => false
def mk (l : List Int) (i : Nat) : Bool := match l[i]? with | some c => decide (c = 39 ∨ c = 8217) | none => false
def pl (l : List Int) (i : Nat) : Bool := match i with | 0 => false | i + 1 => lt l i
def wi (l : List Int) (i : Nat) : Bool := lt l i || (mk l i && (pl l i && lt l (i + 1)))
theorem outs_nil (lg : Bool) : wOuts [] lg = [] := by simp [wOuts]
/-- What stands at a stretch's begin. -/
def Rel (l : List Int) (i : Nat) (out : List ByteArray) : Prop :=
  pl l i = false ∧ ((wSt l i = (out, [], false, false)) ∨ (lt l i = false ∧ ∃ o w lg, wSt l i = (o, w, true, lg) ∧ out = o ++ wOuts w lg))
/-- What stands within a stretch that began at a place, n runes further. -/
def In (l : List Int) (i n : Nat) (out : List ByteArray) (x : List Int) : Prop :=
  x.length = n ∧ ((n = 0 ∧ wSt l i = (out, [], false, false) ∧ pl l i = false) ∨
    (0 < n ∧ pl l (i + n) = true ∧ wSt l (i + n) = (out, if n ≤ 32 then x else [], false, decide (32 < n))) ∨
    (0 < n ∧ lt l (i + n) = true ∧ ∃ y, x = y ++ [39] ∧ 0 < y.length ∧ wSt l (i + n) = (out, if n - 1 ≤ 32 then y else [], true, decide (32 < n - 1))))
end Go.Proofs.Ythpemcchgebecaa.K

namespace Go.Proofs.Ythpemcchgebecaa.K
open Go.RowKit Go.Proofs.YthpemcchgebecaaW.PrintWords Go.Proofs.YthpemcchgebecaaW.PrintLast Go.Proofs.YthpemcchgebecaaW.PrintMore Go.Proofs.Ythpemcchgebecaa Go.Proofs.Ythpemcchgebecaa.PRf04
set_option linter.unusedVariables false
set_option linter.unusedSimpArgs false
def szN (a : Int) : Int := if a < 128 then 1 else if 194 ≤ a ∧ a ≤ 223 then 2 else if 224 ≤ a ∧ a ≤ 239 then 3 else if 240 ≤ a ∧ a ≤ 244 then 4 else 0
/-- May a byte stand at a place? -/
def fitN (a at_ b : Int) : Bool := if at_ = 1 then Utf.fits a.toNat b.toNat else Utf.cont b.toNat
def gv (l : List Int) : Int :=
  let s := szN (rd l 0)
  let ok (i : Int) : Prop := i < (l.length : Int) ∧ i < s ∧ fitN (rd l 0) i (rd l i) = true
  have : ∀ i, Decidable (ok i) := fun i => inferInstanceAs (Decidable (_ ∧ _))
  if s = 0 then 0 else if ok 1 then (if ok 2 then (if ok 3 then 4 else 3) else 2) else 1
def toN (l : List Int) : List Nat := l.map Int.toNat
/-- What 'good' says of a list, with what 'dec' and 'pend' say. -/
def Spec (l : List Int) : Prop :=
    (szN (rd l 0) = 0 → Utf.dec (toN l) = (65533, 1) ∧ Utf.pend (toN l) = false) ∧
    (szN (rd l 0) ≠ 0 → gv l < szN (rd l 0) → Utf.dec (toN l) = (65533, 1) ∧ (gv l = l.length ↔ Utf.pend (toN l) = true)) ∧
    (szN (rd l 0) ≠ 0 → ¬ gv l < szN (rd l 0) → ((Utf.dec (toN l)).2 : Int) = szN (rd l 0) ∧ Utf.pend (toN l) = false ∧ Utf.dec (toN l) ≠ (65533, 1))
def byt (l : List Int) : Bool := l.all fun x => decide (0 ≤ x) && decide (x < 256)
theorem toN_str {l : List Int} (hb : ∀ x ∈ l, 0 ≤ x ∧ x < 256) : Utf.nats (strOfNums l) = toN l := by
  rw [nats_str]
  unfold toN
  apply List.map_congr_left
  intro x hx
  have := hb x hx; omega
theorem toN_drop (l : List Int) (k : Nat) : toN (l.drop k) = (toN l).drop k := by simp [toN, List.map_drop]
theorem byt_drop {l : List Int} (hb : ∀ x ∈ l, 0 ≤ x ∧ x < 256) (k : Nat) : ∀ x ∈ l.drop k, 0 ≤ x ∧ x < 256 := fun x hx => hb x (List.mem_of_mem_drop hx)
end Go.Proofs.Ythpemcchgebecaa.K

namespace Go.Proofs.Ythpemcchgebecaa.K
open Go.RowKit Go.Proofs.YthpemcchgebecaaW.PrintWords Go.Proofs.YthpemcchgebecaaW.PrintLast Go.Proofs.YthpemcchgebecaaW.PrintMore Go.Proofs.Ythpemcchgebecaa Go.Proofs.Ythpemcchgebecaa.PRf04
set_option linter.unusedVariables false
set_option linter.unusedSimpArgs false
theorem wf_u8 {l : List Int} (h : ∀ x ∈ l, (Lit.int .u8 x).wf = true) : ∀ x ∈ l, 0 ≤ x ∧ x < 256 := by
  intro x hx
  have := h x hx
  simp only [Lit.wf, Bool.and_eq_true, decide_eq_true_eq] at this
  exact ⟨this.1, Int.lt_of_le_of_lt this.2 (by decide)⟩
/-- Runes of bytes, over the numbers. -/
theorem runes_toN {l : List Int} (hb : ∀ x ∈ l, 0 ≤ x ∧ x < 256) : Utf.runesZ (strOfNums l) = (Utf.all (toN l)).map fun n : Nat => (n : Int) := by
  unfold Utf.runesZ Utf.runesFrom
  rw [List.drop_zero, toN_str hb]
theorem feed_toN {l : List Int} (hb : ∀ x ∈ l, 0 ≤ x ∧ x < 256) : utf_Feed.r l = ((Utf.feed (toN l)).1.map fun n : Nat => (n : Int), l.drop (l.length - (Utf.feed (toN l)).2.length)) := by
  unfold utf_Feed.r Utf.fedFrom
  rw [List.drop_zero, toN_str hb]
theorem toN_append (a b : List Int) : toN (a ++ b) = toN a ++ toN b := by simp [toN]
theorem toN_length (a : List Int) : (toN a).length = a.length := by simp [toN]
/-- What is pending, as the bytes themselves. -/
theorem feed_rest {l : List Int} : toN (l.drop (l.length - (Utf.feed (toN l)).2.length)) = (Utf.feed (toN l)).2 := by
  obtain ⟨z, hz⟩ := Utf.feed_suffix (toN l)
  have hl : l.length = z.length + (Utf.feed (toN l)).2.length := by
    rw [← toN_length l]
    conv => lhs; rw [hz]
    simp
  rw [toN_drop, show l.length - (Utf.feed (toN l)).2.length = z.length by omega]
  generalize (Utf.feed (toN l)).2 = q at hz
  rw [hz, List.drop_left]
theorem all_ascii (y : List Nat) (hy : ∀ b ∈ y, b < 128) : Utf.all y = y := by
  induction y with
  | nil => exact Utf.all_nil
  | cons a t ih =>
    have ha := hy a (by simp)
    rw [Utf.all_ne _ (by simp), show Utf.dec (a :: t) = (a, 1) by simp [Utf.dec, ha]]
    simp [ih (fun b hb => hy b (by simp [hb]))]
end Go.Proofs.Ythpemcchgebecaa.K

namespace Go.Proofs.Ythpemcchgebecaa.K
open Go.RowKit Go.Proofs.YthpemcchgebecaaW.PrintWords Go.Proofs.YthpemcchgebecaaW.PrintLast Go.Proofs.YthpemcchgebecaaW.PrintMore Go.Proofs.Ythpemcchgebecaa
attribute [local go_sem] max2_int min2_int max_two min_two max_three min_three max_four min_four
set_option linter.unusedVariables false
set_option linter.unusedSimpArgs false
open Go.Proofs.Ythpemcchgebecaa.PFold Go.Proofs.Ythpemcchgebecaa.PWd Go.Proofs.Ythpemcchgebecaa.PTk Go.Proofs.Ythpemcchgebecaa.PRf04
theorem End_eq (w : List Int) (m lg : Bool) : words_End.f w m lg = some (wOuts w lg) := by
  unfold words_End.f words_State_word.f wOuts
  by_cases h : 0 < w.length
  · rw [if_pos (by omega)]
    cases lg <;> simp [h]
  · rw [if_neg (by omega)]
    simp [h]
theorem Feed_of (l : List Int) (m lg : Bool) (r : List Int) (h1 : l.length ≤ 1000000) (h2 : r.length ≤ 100000000) : words_Feed.f l m lg r = some (r.foldl wStep ([], l, m, lg)) := if_pos ⟨h1, h2⟩
theorem outs_len (r : List Int) : ∀ s : WS, (r.foldl wStep s).1.length ≤ s.1.length + r.length := by
  induction r with
  | nil => intro s; simp
  | cons c r ih =>
    intro s
    rw [List.foldl_cons]
    have h := ih (wStep s c)
    have h2 : (wStep s c).1.length ≤ s.1.length + 1 := by
      unfold wStep
      split
      · simp
      · split
        · simp
        · have := wOuts_le s.2.1 s.2.2.2; simp; omega
    simp; omega
theorem word_len (r : List Int) : ∀ s : WS, s.2.1.length ≤ 1000000 → (r.foldl wStep s).2.1.length ≤ 1000000 := by
  induction r with
  | nil => intro s h; exact h
  | cons c r ih =>
    intro s h
    rw [List.foldl_cons]
    refine ih _ ?_
    unfold wStep
    split
    · have := wLet_le s.2.1 s.2.2.1 s.2.2.2 c; show (wLet _ _ _ _).1.length ≤ _; omega
    · split
      · exact h
      · show ([] : List Int).length ≤ _; simp
theorem All_of (l : List Int) (h : l.length ≤ 1000000) : words_All.f l = some (wAll l) := by
  unfold words_All.f
  rw [Feed_of _ _ _ _ (by simp) (by omega)]
  simp only [Option.bind_some, End_eq]
  have h1 := outs_len l ([], [], false, false)
  have h2 := wOuts_le (l.foldl wStep ([], [], false, false)).2.1 (l.foldl wStep ([], [], false, false)).2.2.2
  simp only [List.length_nil, Nat.zero_add] at h1
  rw [if_pos (by omega)]
  rfl
def isL (c : Int) : Bool := isLetter c
def wCount (s : WS) : Nat := s.1.length + (if 0 < s.2.1.length then 1 else 0)
theorem count_step (s : WS) (c : Int) : wCount (wStep s c) ≤ wCount s + (if isLetter c = true then 1 else 0) := by
  unfold wStep wCount
  by_cases h1 : isLetter c = true
  · rw [if_pos h1, if_pos h1]
    show s.1.length + (if 0 < (wLet _ _ _ _).1.length then 1 else 0) ≤ _
    split <;> split <;> omega
  · rw [if_neg h1, if_neg h1]
    split
    · exact Nat.le_refl _
    · show (s.1 ++ wOuts s.2.1 s.2.2.2).length + (if 0 < ([] : List Int).length then 1 else 0) ≤ _
      unfold wOuts
      by_cases h : 0 < s.2.1.length
      · rw [if_pos h]; split <;> simp
      · rw [if_neg h, if_neg (fun k => h k.1)]; simp
theorem count_fold (r : List Int) : ∀ s : WS, wCount (r.foldl wStep s) ≤ wCount s + r.countP isLetter := by
  induction r with
  | nil => intro s; simp
  | cons c r ih =>
    intro s
    rw [List.foldl_cons, List.countP_cons]
    have h1 := ih (wStep s c)
    have h2 := count_step s c
    omega
theorem count_end (s : WS) : (wEnd s).length ≤ wCount s := by
  unfold wEnd wCount wOuts
  by_cases h : 0 < s.2.1.length
  · rw [if_pos h]; split <;> simp
  · rw [if_neg h, if_neg (fun k => h k.1)]; simp
theorem all_count (l : List Int) : (wAll l).length ≤ l.countP isLetter := by
  have h1 := count_end (l.foldl wStep ([], [], false, false))
  have h2 := count_fold l ([], [], false, false)
  have h3 : wCount ([], [], false, false) = 0 := rfl
  unfold wAll
  omega
def nLet (x : List Nat) : Nat := ((Utf.all x).map fun n : Nat => (n : Int)).countP isLetter
theorem nLet_le (x : List Nat) : nLet x ≤ x.length := by
  unfold nLet
  refine Nat.le_trans List.countP_le_length ?_
  rw [List.length_map]
  exact Utf.all_length x
theorem nLet_step (x : List Nat) (h : x ≠ []) : nLet x = nLet (x.drop (Utf.dec x).2) + (if isLetter ((Utf.dec x).1 : Int) = true then 1 else 0) := by
  unfold nLet
  rw [Utf.all_ne x h, List.map_cons, List.countP_cons]
theorem letter_bad : isLetter 65533 = false := by kernel_rfl
theorem nLet_cont (y : List Nat) : ∀ p : List Nat, (∀ c ∈ p, 0x80 ≤ c ∧ c ≤ 0xBF) → nLet (p ++ y) ≤ y.length
  | [], _ => nLet_le y
  | c :: p, h => by
    have hc := h c (by simp)
    have hd : Utf.dec (c :: p ++ y) = (65533, 1) := by
      show Utf.dec (c :: (p ++ y)) = _
      simp only [Utf.dec]
      rw [if_neg (show ¬ c < 128 by omega), if_neg (show ¬ (0xC2 ≤ c ∧ c ≤ 0xDF) by omega), if_neg (show ¬ (0xE0 ≤ c ∧ c ≤ 0xEF) by omega), if_neg (show ¬ (0xF0 ≤ c ∧ c ≤ 0xF4) by omega)]
    rw [nLet_step _ (by simp), hd]
    have := nLet_cont y p (fun x hx => h x (by simp [hx]))
    rw [show ((65533, 1) : Nat × Nat).1 = 65533 from rfl, show (((65533 : Nat) : Int)) = 65533 from rfl, letter_bad]
    simpa using this
theorem pend_shape (p : List Nat) (h : Utf.pend p = true) : ∃ a t, p = a :: t ∧ 0xC2 ≤ a ∧ (1 ≤ t.length → 0xE0 ≤ a) ∧ (2 ≤ t.length → 0xF0 ≤ a) ∧ t.length ≤ 2 ∧ ∀ c ∈ t, 0x80 ≤ c ∧ c ≤ 0xBF := by
  have hf : ∀ a b, Utf.fits a b = true → 0x80 ≤ b ∧ b ≤ 0xBF := fun a b h => by have := (Utf.fits_iff a b).1 h; omega
  match p with
  | [] => simp [Utf.pend] at h
  | [a] => simp [Utf.pend] at h; exact ⟨a, [], rfl, by omega, by simp, by simp, by simp, by simp⟩
  | [a, b] =>
    simp [Utf.pend] at h
    have := hf a b h.2
    exact ⟨a, [b], rfl, by omega, fun _ => h.1.1, by simp, by simp, by simpa using this⟩
  | [a, b, c] =>
    simp [Utf.pend] at h
    have h1 := hf a b h.1.2
    have h2 := (Utf.cont_iff c).1 h.2
    exact ⟨a, [b, c], rfl, by omega, fun _ => by omega, fun _ => h.1.1.1, by simp, by simp; exact ⟨h1, h2⟩⟩
  | a :: b :: c :: d :: t => simp [Utf.pend] at h
theorem nLet_pend (p y : List Nat) (hp : p = [] ∨ Utf.pend p = true) (hb : ∀ x ∈ p ++ y, x < 256) : nLet (p ++ y) ≤ y.length := by
  rcases hp with rfl | hp
  · exact nLet_le y
  · obtain ⟨a, t, rfl, ha, h1, h2, hl, hc⟩ := pend_shape p hp
    have hne : a :: t ++ y ≠ [] := by simp
    rw [nLet_step _ hne]
    have long : ∀ k, (a :: t).length < k → k ≤ (a :: t ++ y).length → nLet ((a :: t ++ y).drop k) + 1 ≤ y.length := by
      intro k hk hk2
      have := nLet_le ((a :: t ++ y).drop k)
      rw [List.length_drop] at this
      simp only [List.length_append] at this hk2
      omega
    have hdl := Utf.dec_le _ hne
    have hif : ∀ b : Bool, (if b = true then 1 else 0) ≤ 1 := by intro b; cases b <;> simp
    rcases Utf.dec_classes (a :: t ++ y) hne hb with ⟨a', t', he, hlt, hd⟩ | ⟨a', b', t', he, k1, k2, _, _, hd⟩ | ⟨a', b', c', t', he, k1, k2, _, _, _, hd⟩ | ⟨a', b', c', d', t', he, k1, k2, _, _, _, _, _, hd⟩ | hd
    · have : a = a' := by injection he
      omega
    · have : a = a' := by injection he
      have ht : t.length = 0 := by omega
      have hk := long 2 (by simp [ht]) (by rw [hd] at hdl; exact hdl)
      have := hif (isLetter ((Utf.dec (a :: t ++ y)).1 : Int))
      rw [show (Utf.dec (a :: t ++ y)).2 = 2 by rw [hd]]
      omega
    · have : a = a' := by injection he
      have ht : t.length ≤ 1 := by omega
      have hk := long 3 (by simp; omega) (by rw [hd] at hdl; exact hdl)
      have := hif (isLetter ((Utf.dec (a :: t ++ y)).1 : Int))
      rw [show (Utf.dec (a :: t ++ y)).2 = 3 by rw [hd]]
      omega
    · have hk := long 4 (by simp; omega) (by rw [hd] at hdl; exact hdl)
      have := hif (isLetter ((Utf.dec (a :: t ++ y)).1 : Int))
      rw [show (Utf.dec (a :: t ++ y)).2 = 4 by rw [hd]]
      omega
    · rw [hd]
      have := nLet_cont y t hc
      rw [show ((65533, 1) : Nat × Nat).1 = 65533 from rfl, show (((65533 : Nat) : Int)) = 65533 from rfl, letter_bad]
      simpa using this
theorem utfAll_of (l : List Int) (hb : ∀ x ∈ l, 0 ≤ x ∧ x < 256) (h : l.length ≤ 100000000) : utf_All.f l = some ((Utf.all (toN l)).map fun n : Nat => (n : Int)) := by
  unfold utf_All.f
  rw [if_pos (by omega), runes_toN hb]
theorem all_len (l : List Int) : ((Utf.all (toN l)).map fun n : Nat => (n : Int)).length ≤ l.length := by
  rw [List.length_map, ← toN_length l]
  exact Utf.all_length _
theorem tokenAll_of (l : List Int) (hb : ∀ x ∈ l, 0 ≤ x ∧ x < 256) (h : l.length ≤ 1000000) : token_All.f l = some (wAll ((Utf.all (toN l)).map fun n : Nat => (n : Int))) := by
  unfold token_All.f
  rw [utfAll_of l hb (by omega)]
  simp only [Option.bind_some]
  rw [All_of _ (by have := all_len l; omega)]
  rfl
theorem same_run (a : List ByteArray) (hl : a.length < 100000000) : ∀ (d i k : Nat), d + i = a.length → manteletref06_Same.l0 (k + 1 + d) a a (i : Int) = some true := by
  intro d
  induction d with
  | zero => intro i k hi; rw [manteletref06_Same.l0, if_neg (by omega)]
  | succ d ih =>
    intro i k hi
    rw [show k + 1 + (d + 1) = (k + 1 + d) + 1 by omega, manteletref06_Same.l0, if_pos (by omega), if_pos (by omega), if_pos (by omega), if_pos rfl, show wrap64 ((i : Int) + 1) = ((i + 1 : Nat) : Int) by unfold wrap64; omega]
    exact ih (i + 1) k (by omega)
theorem same_eq (a : List ByteArray) (hl : a.length < 100000000) (k : Nat) (hk : a.length < k) : manteletref06_Same.f k a a = some true := by
  unfold manteletref06_Same.f
  rw [if_pos rfl]
  have := same_run a hl a.length 0 (k - 1 - a.length) (by omega)
  rw [show k - 1 - a.length + 1 + a.length = k by omega] at this
  exact this
theorem wAll_len (l : List Int) : (wAll l).length ≤ l.length := Nat.le_trans (all_count l) List.countP_le_length
end Go.Proofs.Ythpemcchgebecaa.K

namespace Go.Proofs.Ythpemcchgebecaa.K
open Go.RowKit Go.Proofs.YthpemcchgebecaaW.PrintWords Go.Proofs.YthpemcchgebecaaW.PrintLast Go.Proofs.YthpemcchgebecaaW.PrintMore Go.Proofs.Ythpemcchgebecaa
attribute [local go_sem] max2_int min2_int max_two min_two max_three min_three max_four min_four
set_option linter.unusedVariables false
set_option linter.unusedSimpArgs false
open Go.Proofs.Ythpemcchgebecaa.PFold Go.Proofs.Ythpemcchgebecaa.PWd Go.Proofs.Ythpemcchgebecaa.PTk Go.Proofs.Ythpemcchgebecaa.PRf04
def runesI (x : List Nat) : List Int := x.map fun n : Nat => (n : Int)
theorem tokenFeed_of (p : List Int) (w : List Int) (m lg : Bool) (b : List Int) (hb : ∀ x ∈ p ++ b, 0 ≤ x ∧ x < 256) (hl : p.length + b.length ≤ 1000000) (hw : w.length ≤ 1000000) :
    token_Feed.f p w m lg b = some (((runesI (Utf.feed (toN (p ++ b))).1).foldl wStep ([], w, m, lg)).1, (p ++ b).drop ((p ++ b).length - (Utf.feed (toN (p ++ b))).2.length), ((runesI (Utf.feed (toN (p ++ b))).1).foldl wStep ([], w, m, lg)).2) := by
  have hlen : (runesI (Utf.feed (toN (p ++ b))).1).length ≤ 100000000 := by
    have h1 := congrArg List.length (Utf.all_feed (toN (p ++ b)))
    have h2 := Utf.all_length (toN (p ++ b))
    rw [List.length_append] at h1
    rw [toN_length, List.length_append] at h2
    unfold runesI
    rw [List.length_map]
    omega
  unfold token_Feed.f utf_Feed.f
  rw [if_pos (by omega), feed_toN hb]
  simp only [Option.bind_some]
  unfold runesI at hlen ⊢
  rw [Feed_of _ _ _ _ hw hlen]
  rfl
theorem tokenEnd_of (p : List Int) (w : List Int) (m lg : Bool) (hb : ∀ x ∈ p, 0 ≤ x ∧ x < 256) (hl : p.length ≤ 1000000) (hw : w.length ≤ 1000000) :
    token_End.f p w m lg = some (wEnd ((runesI (Utf.all (toN p))).foldl wStep ([], w, m, lg))) := by
  have hlen := all_len p
  unfold token_End.f utf_End.f
  rw [utfAll_of p hb (by omega)]
  simp only [Option.bind_some]
  unfold runesI
  rw [Feed_of _ _ _ _ hw (by omega)]
  simp only [Option.bind_some, End_eq]
  generalize hs : ((Utf.all (toN p)).map fun n : Nat => (n : Int)).foldl wStep ([], w, m, lg) = s
  have h1 := outs_len ((Utf.all (toN p)).map fun n : Nat => (n : Int)) ([], w, m, lg)
  rw [hs] at h1
  have h2 := wOuts_le s.2.1 s.2.2.2
  simp only [List.length_nil] at h1
  rw [if_pos (by omega)]
  rfl
theorem shown07 (k : Nat) (hk : 2 < k) : manteletlaw07_shown.f k = some true := by
  have f1 : Utf.feed [68, 111, 110, 226] = ([68, 111, 110], [226]) := by
    rw [Utf.feed_step _ (by simp) (by rfl), Utf.feed_step _ (by decide) (by rfl), Utf.feed_step _ (by decide) (by rfl), Utf.feed_pend _ (by rfl)]
    rfl
  have f2 : Utf.feed [226, 128] = ([], [226, 128]) := Utf.feed_pend _ (by rfl)
  have f3 : Utf.feed [226, 128, 153, 116] = ([8217, 116], []) := by
    rw [Utf.feed_step _ (by simp) (by rfl), Utf.feed_step _ (by decide) (by rfl)]
    have : Utf.feed (List.drop (Utf.dec (List.drop (Utf.dec [226, 128, 153, 116]).2 [226, 128, 153, 116])).2 (List.drop (Utf.dec [226, 128, 153, 116]).2 [226, 128, 153, 116])) = ([], []) := Utf.feed_nil
    rw [this]
    rfl
  unfold manteletlaw07_shown.f
  simp only [Option.bind_some]
  have t1 : ([68, 111, 110, 226, 128, 153, 116] : List Int).take 4 = [68, 111, 110, 226] := rfl
  have t2 : (([68, 111, 110, 226, 128, 153, 116] : List Int).take 5).drop 4 = [128] := rfl
  have t3 : ([68, 111, 110, 226, 128, 153, 116] : List Int).drop 5 = [153, 116] := rfl
  have g1 : token_Feed.f [] [] false false [68, 111, 110, 226] = some ([], [226], [100, 111, 110], false, false) := by
    rw [tokenFeed_of _ _ _ _ _ (by decide) (by decide) (by decide), show toN ([] ++ [68, 111, 110, 226]) = [68, 111, 110, 226] from rfl, f1]
    kernel_rfl
  have g2 : token_Feed.f [226] [100, 111, 110] false false [128] = some ([], [226, 128], [100, 111, 110], false, false) := by
    rw [tokenFeed_of _ _ _ _ _ (by decide) (by decide) (by decide), show toN ([226] ++ [128]) = [226, 128] from rfl, f2]
    kernel_rfl
  have g3 : token_Feed.f [226, 128] [100, 111, 110] false false [153, 116] = some ([], [], [100, 111, 110, 39, 116], false, false) := by
    rw [tokenFeed_of _ _ _ _ _ (by decide) (by decide) (by decide), show toN ([226, 128] ++ [153, 116]) = [226, 128, 153, 116] from rfl, f3]
    kernel_rfl
  have g4 : token_End.f [] [100, 111, 110, 39, 116] false false = some [⟨#[100, 111, 110, 39, 116]⟩] := by
    rw [tokenEnd_of _ _ _ _ (by decide) (by decide) (by decide), show toN [] = [] from rfl, Utf.all_nil]
    kernel_rfl
  rw [t1, t2, t3, g1, if_pos (by decide)]
  simp only [Option.bind_some]
  rw [if_pos (by decide), if_pos (by decide), g2]
  simp only [Option.bind_some]
  rw [g3]
  simp only [Option.bind_some]
  rw [g4]
  simp only [Option.bind_some]
  rw [same_eq _ (by decide) k (by simpa using by omega)]
  rfl
end Go.Proofs.Ythpemcchgebecaa.K

namespace Go.Proofs.Ythpemcchgebecaa.Pure
open Go.RowKit Go.Proofs.YthpemcchgebecaaW.PrintWords Go.Proofs.YthpemcchgebecaaW.PrintLast Go.Proofs.Ythpemcchgebecaa.PTokenMany Go.Proofs.Ythpemcchgebecaa.PFold Go.Proofs.Ythpemcchgebecaa.PWd Go.Proofs.Ythpemcchgebecaa.PTk Go.Proofs.Ythpemcchgebecaa.PRf04 Go.Proofs.Ythpemcchgebecaa.K Go.Proofs.Ythpemcchgebecaa
theorem TokenMany : manteletlaw07_TokenMany.Pure := by
  intro l0 l1 _ _ hw0 _ _ hw1
  have hb0 := wf_u8 hw0
  have hb1 := wf_u8 hw1
  obtain ⟨K, hK⟩ : ∃ K : Nat, 5100 ≤ K := ⟨5100, Nat.le_refl _⟩
  refine ⟨K + 1, ?_⟩
  unfold manteletlaw07_TokenMany.f
  rw [shown07 _ (by omega)]
  simp only [Option.bind_some]
  by_cases h0 : (l0.length : Int) > 2000
  · rw [if_pos h0, manteletlaw07_TokenMany.j0, if_pos rfl]
  · rw [if_neg h0]
    by_cases h1 : (l1.length : Int) > 2000
    · rw [decide_eq_true h1, manteletlaw07_TokenMany.j0, if_pos rfl]
    · rw [decide_eq_false h1, manteletlaw07_TokenMany.j0, if_neg (by decide)]
      rw [tokenFeed_of _ _ _ _ _ (by simpa using hb0) (by simp; omega) (by simp)]
      simp only [Option.bind_some, List.nil_append]
      obtain ⟨s, hs⟩ : ∃ s, s = (runesI (Utf.feed (toN l0)).1).foldl wStep ([], [], false, false) := ⟨_, rfl⟩
      obtain ⟨p, hp⟩ : ∃ p, p = l0.drop (l0.length - (Utf.feed (toN l0)).2.length) := ⟨_, rfl⟩
      have hws : s.2.1.length ≤ 1000000 := by rw [hs]; exact word_len _ _ (by simp)
      have hpN : toN p = (Utf.feed (toN l0)).2 := by rw [hp]; exact feed_rest
      have hpp : toN p = [] ∨ Utf.pend (toN p) = true := by rw [hpN]; exact Utf.feed_pending _
      have hpb : ∀ x ∈ p, 0 ≤ x ∧ x < 256 := by rw [hp]; exact byt_drop hb0 _
      have hpl : p.length ≤ 3 := by
        rw [← toN_length]
        rcases hpp with h | h
        · rw [h]; simp
        · exact (Utf.pend_len _ h).2
      rw [← hs, ← hp]
      clear hp hpN
      have hb2 : ∀ x ∈ p ++ l1, 0 ≤ x ∧ x < 256 := by
        intro x hx
        rcases List.mem_append.1 hx with h | h
        · exact hpb x h
        · exact hb1 x h
      rw [tokenFeed_of p s.2.1 s.2.2.1 s.2.2.2 l1 hb2 (by omega) hws]
      simp only [Option.bind_some]
      obtain ⟨s2, hs2⟩ : ∃ s2, s2 = (runesI (Utf.feed (toN (p ++ l1))).1).foldl wStep ([], s.2.1, s.2.2.1, s.2.2.2) := ⟨_, rfl⟩
      have hws2 : s2.2.1.length ≤ 1000000 := by rw [hs2]; exact word_len _ _ hws
      obtain ⟨p2, hp2⟩ : ∃ p2, p2 = (p ++ l1).drop ((p ++ l1).length - (Utf.feed (toN (p ++ l1))).2.length) := ⟨_, rfl⟩
      have hpN2 : toN p2 = (Utf.feed (toN (p ++ l1))).2 := by rw [hp2]; exact feed_rest
      have hpb2 : ∀ x ∈ p2, 0 ≤ x ∧ x < 256 := by rw [hp2]; exact byt_drop hb2 _
      have hpl2 : p2.length ≤ 100000 := by rw [hp2]; simp; omega
      rw [← hs2, ← hp2, tokenEnd_of p2 s2.2.1 s2.2.2.1 s2.2.2.2 hpb2 (by omega) hws2]
      rw [Option.bind_some]
      rw [if_pos trivial]
      -- how many
      have hsplit : runesI (Utf.all (toN (p ++ l1))) = runesI (Utf.feed (toN (p ++ l1))).1 ++ runesI (Utf.all (toN p2)) := by
        rw [Utf.all_feed, hpN2]; unfold runesI; rw [List.map_append]
      have hcnt : (runesI (Utf.all (toN (p ++ l1)))).countP isLetter ≤ l1.length := by
        have hn := nLet_pend (toN p) (toN l1) hpp (by
          intro x hx
          rw [← toN_append] at hx
          unfold toN at hx
          obtain ⟨y, hy, rfl⟩ := List.mem_map.1 hx
          have := hb2 y hy
          omega)
        rw [toN_length] at hn
        rw [toN_append]
        exact hn
      rw [hsplit, List.countP_append] at hcnt
      have c1 := count_fold (runesI (Utf.feed (toN (p ++ l1))).1) ([], s.2.1, s.2.2.1, s.2.2.2)
      rw [← hs2] at c1
      have c0 : wCount (([], s.2.1, s.2.2.1, s.2.2.2) : WS) ≤ 1 := by unfold wCount; split <;> simp
      have c2 := count_fold (runesI (Utf.all (toN p2))) ([], s2.2.1, s2.2.2.1, s2.2.2.2)
      have c3 := count_end ((runesI (Utf.all (toN p2))).foldl wStep ([], s2.2.1, s2.2.2.1, s2.2.2.2))
      have c4 : wCount s2 = s2.1.length + wCount (([], s2.2.1, s2.2.2.1, s2.2.2.2) : WS) := by unfold wCount; simp
      generalize wEnd ((runesI (Utf.all (toN p2))).foldl wStep ([], s2.2.1, s2.2.2.1, s2.2.2.2)) = q at c3
      generalize s2.1 = q1 at c4
      have hq : q1.length + q.length ≤ l1.length + 1 := by omega
      rw [if_pos (by unfold wrap64; omega), tokenAll_of l0 hb0 (by omega)]
      simp only [Option.bind_some]
      have k0 := wAll_len ((Utf.all (toN l0)).map fun n : Nat => (n : Int))
      have k2 := all_len l0
      rw [decide_eq_true (by omega)]
end Go.Proofs.Ythpemcchgebecaa.Pure

namespace Go.Proofs.Ythpemcchgebecaa.tokenMany
open Go.ChangeShapes Go.WideShapes Go.ChangeAt Go.RowKit
open Go.ChangeMaps (open_string shut_string)
set_option linter.unusedVariables false
theorem own : ownKnob Try.prog.godebug = none := by kernel_rfl
theorem laidOut : laidOutB Try.prog = true := by kernel_rfl
def IsRow (k : IntKind) (w : World) (a : Option Addr) (len cap : Nat) (zs : List Int) : Prop :=
  (a = none ∧ len = 0 ∧ cap = 0 ∧ zs = []) ∨
  ∃ x, a = some x ∧ len ≤ cap ∧ cap ≤ maxLen ∧ zs.length = cap ∧ (∀ i, i < zs.length → w.cell? (x.add i) = some (.int k (zs.getD i 0))) ∧ ∀ n ∈ zs, (Lit.int k n).wf = true
set_option maxRecDepth 100000 in
theorem lifted (os : Os) (started : os.Started) (H : Type) (enc : TypeId × Value → H) :
    ReturnsInHanded {} Try.checked os 9 .any (Rows.tokenManySpec.pre6 enc Try.prog Try.f9 Rows.tokenManyRow.domain false) (Rows.tokenManySpec.post enc Try.prog Try.f9 false true false false) := by
  refine returnsInHanded_of_change_sized (C := Try.checked) own started (by kernel_rfl) Try.func9
    (ChangeSpec.witness6 (enc := enc) (C := Try.checked) false ⟨#[], #[.slice none 0 0, .slice none 0 0], []⟩ 8 (by kernel_rfl) (by kernel_rfl) (by kernel_rfl) (by kernel_rfl)) ?_
  intro W base args ds gs before hval0 hW hcnd hsz0 _
  have hsz : (DataW.weightsEach Try.prog (Try.f9.params.toList ++ Rows.tokenManySpec.plain.varTypes Try.prog) (ds ++ gs)).all (· ≤ reachBytes) = true := hsz0
  have hval : ∀ (j : Nat) t v, Try.f9.params[j]? = some t → args[j]? = some v → Value.okWide Try.prog W .any base t v := hval0
  have hW' := hW
  obtain ⟨p, q, hA0, hV, rfl, hfz, hnd⟩ := hW
  have hA : DataW.TrodAll enc Try.prog W 0 (fun _ => true) true Try.f9.params.toList args.toList ds p := hA0
  rw [Try.params9] at hA hval hsz
  obtain ⟨v0, vs0, d0, ds0, p0, q0, hargs, rfl, rfl, h0, r0⟩ := trodAll_cons hA
  obtain ⟨v1, vs1, d1, ds1, p1, q1, rfl, rfl, rfl, h1, r1⟩ := trodAll_cons r0
  obtain ⟨rfl, rfl, rfl⟩ := trodAll_nil r1
  obtain rfl : args = #[v0, v1] := by cases args; simp_all
  obtain ⟨rfl, rfl⟩ := trodVars_none hV
  obtain ⟨a0, len0, cap0, rfl⟩ := okWide_slice Try.underlying31 (hval 0 31 v0 rfl rfl)
  have k0 := h0
  have lt0 : ∀ x ∈ p0, x.block < W.heap.size := by obtain ⟨m, hm⟩ := k0; exact DataW.trod_lt m _ _ _ hm
  obtain ⟨z0, w0⟩ : ∃ zs, IsRow .u8 W a0 len0 cap0 zs := by
    obtain ⟨fuel, hf⟩ := h0
    rcases open_ints Try.underlying31 Try.underlying5 (by kernel_rfl) hf with ⟨hcs, _⟩ | ⟨x, l, c, zs, hcs, _, hl, hm, hz, _, hcell, hwz⟩
    · simp [Value.cells] at hcs
      obtain ⟨rfl, rfl, rfl⟩ := hcs
      exact ⟨[], .inl ⟨rfl, rfl, rfl, rfl⟩⟩
    · simp [Value.cells] at hcs
      obtain ⟨rfl, rfl, rfl⟩ := hcs
      exact ⟨zs, .inr ⟨_, rfl, hl, hm, by simpa using hz, hcell, hwz⟩⟩
  have y0 : len0 * 1 ≤ 140737488351232 := Go.Proofs.YthpemcchgebecaaW.PrintWords.sized_ints hsz (j := 0) (t := 31) rfl rfl Try.underlying31 Try.underlying5 (by kernel_rfl) (by kernel_rfl) h0
  obtain ⟨a1, len1, cap1, rfl⟩ := okWide_slice Try.underlying31 (hval 1 31 v1 rfl rfl)
  have k1 := h1
  have lt1 : ∀ x ∈ p1, x.block < W.heap.size := by obtain ⟨m, hm⟩ := k1; exact DataW.trod_lt m _ _ _ hm
  obtain ⟨z1, w1⟩ : ∃ zs, IsRow .u8 W a1 len1 cap1 zs := by
    obtain ⟨fuel, hf⟩ := h1
    rcases open_ints Try.underlying31 Try.underlying5 (by kernel_rfl) hf with ⟨hcs, _⟩ | ⟨x, l, c, zs, hcs, _, hl, hm, hz, _, hcell, hwz⟩
    · simp [Value.cells] at hcs
      obtain ⟨rfl, rfl, rfl⟩ := hcs
      exact ⟨[], .inl ⟨rfl, rfl, rfl, rfl⟩⟩
    · simp [Value.cells] at hcs
      obtain ⟨rfl, rfl, rfl⟩ := hcs
      exact ⟨zs, .inr ⟨_, rfl, hl, hm, by simpa using hz, hcell, hwz⟩⟩
  have y1 : len1 * 1 ≤ 140737488351232 := Go.Proofs.YthpemcchgebecaaW.PrintWords.sized_ints hsz (j := 1) (t := 31) rfl rfl Try.underlying31 Try.underlying5 (by kernel_rfl) (by kernel_rfl) h1
  clear hA0 hval0 hsz0 hsz
  refine (PTokenMany.manteletlaw07_TokenMany.walk Pure.TokenMany a0 len0 cap0 z0 a1 len1 cap1 z1 W w0 y0 w1 y1).mono fun e W' ⟨he, bel⟩ => ?_
  subst he
  exact ⟨_, rfl, _, _, _, [], _, [], hW', trodAll_mk1 (shut_bool Try.underlying4 _), (trodAll_cons_mk (Below.trod laidOut (by kernel_rfl) (of_decide_eq_true (by kernel_rfl)) k0 bel lt0) (trodAll_cons_mk (Below.trod laidOut (by kernel_rfl) (of_decide_eq_true (by kernel_rfl)) k1 bel lt1) trodAll_mk0)), rfl, bel.frame _, fun h => by cases h⟩
theorem over : Rows.tokenManyRow.holds Try.pinned (OpenSpec.ofChange Rows.tokenManySpec) :=
  OpenClaim.holds_of_wide 9 Try.f9 rfl rfl rfl rfl rfl rfl rfl ⟨rfl, rfl, rfl, rfl, rfl⟩ rfl rfl rfl rfl rfl (by kernel_rfl) Try.func9 (by kernel_rfl)
    (of_decide_eq_true (by kernel_rfl)) (by unfold Func.isWrapper; first | (rw [if_pos (by decide +kernel)]; kernel_rfl) | (rw [if_neg (by decide +kernel)]; exact ⟨rfl, rfl⟩))
    (fun os started H enc _ => lifted os started H enc)
theorem proved : Rows.TokenManySaid := over
#print axioms proved
end Go.Proofs.Ythpemcchgebecaa.tokenMany
namespace Go.Proofs.Ythpemcchgebecaa
/-- The row, under a short name, for the claim. -/
theorem tokenMany_holds : Rows.TokenManySaid := tokenMany.proved
end Go.Proofs.Ythpemcchgebecaa

