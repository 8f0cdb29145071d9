/- TokenAll: whatever bytes (5000 at most): the words told are the document's. (The texts that the proof is made of, one behind the other: part 3 of 13.) -/
import Derived.Test.YthpemcchgebecaaProg
import Derived.KernelRfl
import Derived.Lib.DecodeNEq
import Derived.Laws.Strings
import Derived.Below
import Derived.Deep.Draws
import Derived.Deep.AppendLies
import Derived.Maps.AppendAt
import Derived.OwnWalk
import Derived.Laws.BytesArg
import Derived.Laws.MakeOwn
import Derived.Laws.OwnMore
import Derived.Deep.OwnRows
import Derived.Tactics
import Derived.Lib.ConvBytes
import Derived.Laws.Slices
import Derived.WalkKit
import Derived.RowKit3
import Derived.Deep.LoopGhost
import Derived.Deep.QuietTactic
import Derived.BigQuiet
import Derived.WideLaws
import Derived.Deep.DeepCutAuto
import Derived.Deep.CutBlock
import Derived.Deep.RegionHeld3
import Derived.Laws.Rows
import Derived.Lib.AppendStr
import Derived.ArgAppend
import Derived.Laws.IdiomCopy
import Derived.OrdersHeld
import Derived.Laws.BitsLemmas
import Derived.RowKit
import Derived.Lib.OthersKept
import Derived.WalkSmall
import Derived.Deep.RegionLaw
import Derived.BigRegion
import Derived.Laws.Cover4
import Derived.Laws.IdiomStrings
import Derived.Lib.SlBytesConst
import Derived.Test.YthpemcchgebecaaZTokenAlla
import Derived.Test.YthpemcchgebecaaZTokenAllb
namespace Go.Proofs.Ythpemcchgebecaa.K
theorem info5 : (Try.prog.info? 5).map (fun i => (i.zero, i.size, i.bytes)) = some (some (.int .u8 0), 1, 1) := by kernel_rfl
theorem info9 : (Try.prog.info? 9).map (fun i => (i.zero, i.size, i.bytes)) = some (some (.string ⟨#[]⟩), 1, 16) := by kernel_rfl
theorem info21 : (Try.prog.info? 21).map (fun i => (i.zero, i.size, i.bytes)) = some (some (.int .i32 0), 1, 4) := by kernel_rfl
end Go.Proofs.Ythpemcchgebecaa.K

namespace Go.Proofs.Ythpemcchgebecaa.Utf
open Go
set_option linter.unusedVariables false
set_option linter.unusedSimpArgs false

/-- May b stand behind a as the second byte of a sequence of three or four? -/
def fits (a b : Nat) : Bool :=
  if a = 0xE0 then decide (0xA0 ≤ b) && decide (b ≤ 0xBF)
  else if a = 0xED then decide (0x80 ≤ b) && decide (b ≤ 0x9F)
  else if a = 0xF0 then decide (0x90 ≤ b) && decide (b ≤ 0xBF)
  else if a = 0xF4 then decide (0x80 ≤ b) && decide (b ≤ 0x8F)
  else decide (0x80 ≤ b) && decide (b ≤ 0xBF)
def cont (b : Nat) : Bool := decide (0x80 ≤ b) && decide (b ≤ 0xBF)
/-- The rune with which bytes begin, and how many bytes it has. -/
def dec : List Nat → Nat × Nat
  | [] => (65533, 1)
  | a :: t =>
    if a < 128 then (a, 1)
    else if 0xC2 ≤ a ∧ a ≤ 0xDF then
      match t with
      | b :: _ => if cont b then (a % 32 * 64 + b % 64, 2) else (65533, 1)
      | [] => (65533, 1)
    else if 0xE0 ≤ a ∧ a ≤ 0xEF then
      match t with
      | b :: c :: _ => if fits a b && cont c then (a % 16 * 4096 + b % 64 * 64 + c % 64, 3) else (65533, 1)
      | _ => (65533, 1)
    else if 0xF0 ≤ a ∧ a ≤ 0xF4 then
      match t with
      | b :: c :: d :: _ => if fits a b && cont c && cont d then (a % 8 * 262144 + b % 64 * 4096 + c % 64 * 64 + d % 64, 4) else (65533, 1)
      | _ => (65533, 1)
    else (65533, 1)
/-- Are these bytes the begin of a sequence? -/
def pend : List Nat → Bool
  | [a] => decide (0xC2 ≤ a) && decide (a ≤ 0xF4)
  | [a, b] => decide (0xE0 ≤ a) && decide (a ≤ 0xF4) && fits a b
  | [a, b, c] => decide (0xF0 ≤ a) && decide (a ≤ 0xF4) && fits a b && cont c
  | _ => false

theorem dec_pos (l : List Nat) : 1 ≤ (dec l).2 := by
  unfold dec
  repeat' split
  all_goals simp
theorem dec_le (l : List Nat) (h : l ≠ []) : (dec l).2 ≤ l.length := by
  unfold dec
  repeat' split
  all_goals simp_all
/-- What is no begin of a sequence is read as it is, whatever stands behind it. -/
theorem dec_append (x y : List Nat) (hx : x ≠ []) (hp : pend x = false) : dec (x ++ y) = dec x := by
  match x, hx with
  | [a], _ =>
    simp [pend] at hp
    by_cases h1 : a < 128
    · simp [dec, h1]
    · have h2 : ¬ (0xC2 ≤ a ∧ a ≤ 0xDF) := by omega
      have h3 : ¬ (0xE0 ≤ a ∧ a ≤ 0xEF) := by omega
      have h4 : ¬ (0xF0 ≤ a ∧ a ≤ 0xF4) := by omega
      simp only [dec, List.cons_append, List.nil_append, if_neg h1, if_neg h2, if_neg h3, if_neg h4]
  | [a, b], _ =>
    by_cases h1 : a < 128
    · simp [dec, h1]
    by_cases h2 : 0xC2 ≤ a ∧ a ≤ 0xDF
    · simp [dec, h1, h2]
    by_cases h3 : 0xE0 ≤ a ∧ a ≤ 0xEF
    · have hf : fits a b = false := by
        cases h : fits a b
        · rfl
        · simp [pend, h] at hp; omega
      cases y <;> simp [dec, h1, h2, h3, hf]
    by_cases h4 : 0xF0 ≤ a ∧ a ≤ 0xF4
    · have hf : fits a b = false := by
        cases h : fits a b
        · rfl
        · simp [pend, h] at hp; omega
      simp only [dec, List.cons_append, List.nil_append, h1, h2, h3, h4, if_false, if_true, and_self]
      match y with
      | [] => rfl
      | [c] => rfl
      | c :: d :: _ => simp [hf]
    · simp [dec, h1, h2, h3, h4]
  | [a, b, c], _ =>
    by_cases h1 : a < 128
    · simp [dec, h1]
    by_cases h2 : 0xC2 ≤ a ∧ a ≤ 0xDF
    · simp [dec, h1, h2]
    by_cases h3 : 0xE0 ≤ a ∧ a ≤ 0xEF
    · simp [dec, h1, h2, h3]
    by_cases h4 : 0xF0 ≤ a ∧ a ≤ 0xF4
    · have hf : (fits a b && cont c) = false := by
        cases h : fits a b && cont c
        · rfl
        · simp only [pend, Bool.and_assoc, h] at hp; simp at hp; omega
      simp only [dec, List.cons_append, List.nil_append, h1, h2, h3, h4, if_false, if_true, and_self]
      match y with
      | [] => rfl
      | d :: _ => simp [hf]
    · simp [dec, h1, h2, h3, h4]
  | a :: b :: c :: d :: t, _ =>
    simp only [dec, List.cons_append]
theorem pend_len (l : List Nat) (h : pend l = true) : 1 ≤ l.length ∧ l.length ≤ 3 := by
  match l with
  | [] => simp [pend] at h
  | [a] => simp
  | [a, b] => simp
  | [a, b, c] => simp
  | a :: b :: c :: d :: t => simp [pend] at h
/-- All runes of bytes. -/
def all (l : List Nat) : List Nat :=
  if h : l = [] then [] else (dec l).1 :: all (l.drop (dec l).2)
termination_by l.length
decreasing_by
  have := dec_pos l
  have : 0 < l.length := List.length_pos_iff.2 h
  simp; omega
/-- The runes ahead of what is pending, and that. -/
def feed (l : List Nat) : List Nat × List Nat :=
  if h : l = [] then ([], [])
  else if pend l then ([], l)
  else ((dec l).1 :: (feed (l.drop (dec l).2)).1, (feed (l.drop (dec l).2)).2)
termination_by l.length
decreasing_by
  all_goals
    have := dec_pos l
    have : 0 < l.length := List.length_pos_iff.2 h
    simp; omega
theorem all_nil : all [] = [] := by rw [all]; simp
theorem all_ne (l : List Nat) (h : l ≠ []) : all l = (dec l).1 :: all (l.drop (dec l).2) := by rw [all]; simp [h]
theorem feed_nil : feed [] = ([], []) := by rw [feed]; simp
theorem feed_pend (l : List Nat) (h : pend l = true) : feed l = ([], l) := by
  have hne : l ≠ [] := by rintro rfl; simp [pend] at h
  rw [feed]; simp [hne, h]
theorem feed_step (l : List Nat) (hne : l ≠ []) (h : pend l = false) : feed l = ((dec l).1 :: (feed (l.drop (dec l).2)).1, (feed (l.drop (dec l).2)).2) := by
  rw [feed]; simp [hne, h]

/-- All runes: those fed, and those of what is pending. -/
theorem all_feed (x : List Nat) : all x = (feed x).1 ++ all (feed x).2 := by
  match h : x.length with
  | n =>
    induction n using Nat.strongRecOn generalizing x with
    | ind n ih =>
      by_cases hx : x = []
      · subst hx; simp [feed_nil, all_nil]
      · cases hp : pend x with
        | true => rw [feed_pend x hp]; simp
        | false =>
          have h1 := dec_pos x
          have hlen : (x.drop (dec x).2).length < n := by
            have : 0 < x.length := List.length_pos_iff.2 hx
            simp; omega
          rw [feed_step x hx hp, all_ne x hx]
          have := ih _ hlen (x.drop (dec x).2) rfl
          rw [this]; simp
theorem all_length (x : List Nat) : (all x).length ≤ x.length := by
  match h : x.length with
  | n =>
    induction n using Nat.strongRecOn generalizing x with
    | ind n ih =>
      by_cases hx : x = []
      · subst hx; simp [all_nil]
      · have h1 := dec_pos x
        have h0 : 0 < x.length := List.length_pos_iff.2 hx
        have hlen : (x.drop (dec x).2).length < n := by simp; omega
        rw [all_ne x hx]
        have := ih _ hlen (x.drop (dec x).2) rfl
        simp at this ⊢; omega

theorem fits_iff (a b : Nat) : fits a b = true ↔ 0x80 ≤ b ∧ b ≤ 0xBF ∧ (a = 0xE0 → 0xA0 ≤ b) ∧ (a = 0xED → b ≤ 0x9F) ∧ (a = 0xF0 → 0x90 ≤ b) ∧ (a = 0xF4 → b ≤ 0x8F) := by
  unfold fits
  repeat' split
  all_goals
    simp only [Bool.and_eq_true, decide_eq_true_eq]
    omega
theorem cont_iff (b : Nat) : cont b = true ↔ 0x80 ≤ b ∧ b ≤ 0xBF := by simp [cont]
theorem ite_two {α : Type} {p q r : Prop} [Decidable p] [Decidable q] [Decidable r] {x z : α} (h : r ↔ p ∧ q) : (if p then (if q then x else z) else z) = if r then x else z := by
  by_cases hp : p
  · by_cases hq : q
    · rw [if_pos hp, if_pos hq, if_pos (h.2 ⟨hp, hq⟩)]
    · rw [if_pos hp, if_neg hq, if_neg (fun hr => hq (h.1 hr).2)]
  · rw [if_neg hp, if_neg (fun hr => hp (h.1 hr).1)]
/-- The decoder's classes by the first byte. -/
theorem decodeN_1 (n a b c d : Nat) (h : a < 128) : Lib.decodeN n a b c d = (a, 1) := by simp [Lib.decodeN, h]
theorem decodeN_bad (n a b c d : Nat) (h0 : a < 256) (h : ¬ a < 128) (h2 : ¬ (0xC2 ≤ a ∧ a ≤ 0xDF)) (h3 : ¬ (0xE0 ≤ a ∧ a ≤ 0xEF)) (h4 : ¬ (0xF0 ≤ a ∧ a ≤ 0xF4)) : Lib.decodeN n a b c d = (65533, 1) := by
  unfold Lib.decodeN
  rw [if_neg h]
  repeat' split
  all_goals first | rfl | (exfalso; omega)
theorem decodeN_2 (n a b c d : Nat) (h : 0xC2 ≤ a ∧ a ≤ 0xDF) (hb : b < 256) : Lib.decodeN n a b c d = if 1 < n ∧ cont b = true then (a % 32 * 64 + b % 64, 2) else (65533, 1) := by
  unfold Lib.decodeN
  rw [if_neg (by omega), if_neg (show ¬ (a / 16 = 14 ∧ _) by omega), if_neg (show ¬ (a / 8 = 30 ∧ _) by omega)]
  exact ite_two (by rw [cont_iff]; omega)
theorem decodeN_3 (n a b c d : Nat) (h : 0xE0 ≤ a ∧ a ≤ 0xEF) (hb : b < 256) (hc : c < 256) : Lib.decodeN n a b c d = if 2 < n ∧ (fits a b && cont c) = true then (a % 16 * 4096 + b % 64 * 64 + c % 64, 3) else (65533, 1) := by
  unfold Lib.decodeN
  rw [if_neg (by omega), if_neg (show ¬ (a / 32 = 6 ∧ _) by omega), if_neg (show ¬ (a / 8 = 30 ∧ _) by omega)]
  exact ite_two (by rw [Bool.and_eq_true, fits_iff, cont_iff]; omega)
theorem decodeN_4 (n a b c d : Nat) (h : 0xF0 ≤ a ∧ a ≤ 0xF4) (hb : b < 256) (hc : c < 256) (hd : d < 256) : Lib.decodeN n a b c d = if 3 < n ∧ (fits a b && cont c && cont d) = true then (a % 8 * 262144 + b % 64 * 4096 + c % 64 * 64 + d % 64, 4) else (65533, 1) := by
  unfold Lib.decodeN
  rw [if_neg (by omega), if_neg (show ¬ (a / 32 = 6 ∧ _) by omega), if_neg (show ¬ (a / 16 = 14 ∧ _) by omega)]
  exact ite_two (by rw [Bool.and_eq_true, Bool.and_eq_true, fits_iff, cont_iff, cont_iff]; omega)
theorem decodeN_dec (l : List Nat) (hne : l ≠ []) (hb : ∀ x ∈ l, x < 256) : Lib.decodeN l.length (l.getD 0 0) (l.getD 1 0) (l.getD 2 0) (l.getD 3 0) = dec l := by
  have hg : ∀ k, l.getD k 0 < 256 := by
    intro k
    rw [List.getD_eq_getElem?_getD]
    cases h : l[k]? with
    | none => simp
    | some x => exact hb x (List.mem_of_getElem? h)
  match l, hne with
  | a :: t, _ =>
    by_cases h1 : a < 128
    · simp [decodeN_1, dec, h1]
    by_cases h2 : 0xC2 ≤ a ∧ a ≤ 0xDF
    · rw [show (a :: t).getD 0 0 = a from rfl, decodeN_2 _ _ _ _ _ h2 (hg 1)]
      cases t with
      | nil => simp [dec, h1, h2]
      | cons b t => simp [dec, h1, h2]
    by_cases h3 : 0xE0 ≤ a ∧ a ≤ 0xEF
    · rw [show (a :: t).getD 0 0 = a from rfl, decodeN_3 _ _ _ _ _ h3 (hg 1) (hg 2)]
      match t with
      | [] => simp [dec, h1, h2]
      | [b] => simp [dec, h1, h2]
      | b :: c :: t => simp [dec, h1, h2, h3]
    by_cases h4 : 0xF0 ≤ a ∧ a ≤ 0xF4
    · rw [show (a :: t).getD 0 0 = a from rfl, decodeN_4 _ _ _ _ _ h4 (hg 1) (hg 2) (hg 3)]
      match t with
      | [] => simp [dec, h1, h2, h3]
      | [b] => simp [dec, h1, h2, h3]
      | [b, c] => simp [dec, h1, h2, h3]
      | b :: c :: d :: t => simp [dec, h1, h2, h3, h4]
    · have hg0 : a < 256 := hg 0
      rw [show (a :: t).getD 0 0 = a from rfl, decodeN_bad _ _ _ _ _ hg0 h1 h2 h3 h4]
      simp [dec, h1, h2, h3, h4]
/-- The bytes of a string, as numbers. -/
def nats (s : ByteArray) : List Nat := s.data.toList.map fun b => b.toNat
theorem nats_length (s : ByteArray) : (nats s).length = s.size := by simp [nats]
theorem nats_lt (s : ByteArray) : ∀ x ∈ nats s, x < 256 := by
  intro x hx
  simp only [nats, List.mem_map] at hx
  obtain ⟨b, _, rfl⟩ := hx
  exact b.toNat_lt
theorem nats_get (s : ByteArray) (i : Nat) : (nats s).getD i 0 = (s.get! i).toNat := by
  have h1 : s.get! i = s.data[i]! := rfl
  rw [h1]
  simp only [nats, List.getD_eq_getElem?_getD, List.getElem?_map, Array.getElem?_toList, getElem!_def]
  cases s.data[i]? <;> rfl
theorem decode_dec (s : ByteArray) (i : Nat) (h : i < s.size) : Utf8.decode s i = dec ((nats s).drop i) := by
  rw [Lib.decode_at, ← decodeN_dec _ (by intro e; have := congrArg List.length e; simp [nats_length] at this; omega) (fun x hx => nats_lt s x (List.mem_of_mem_drop hx))]
  have e : ∀ k, ((nats s).drop i).getD k 0 = (s.get! (i + k)).toNat := by
    intro k
    rw [← nats_get]
    simp [List.getD_eq_getElem?_getD, List.getElem?_drop]
  rw [e, e, e, e, List.length_drop, nats_length]
  rfl
/-- The runes of a string, as Go's ints. -/
def runesFrom (s : ByteArray) (pos : Nat) : List Int := (all ((nats s).drop pos)).map fun n : Nat => (n : Int)
def runesZ (s : ByteArray) : List Int := runesFrom s 0
theorem runesFrom_end (s : ByteArray) (pos : Nat) (h : ¬ pos < s.size) : runesFrom s pos = [] := by
  unfold runesFrom
  rw [List.drop_of_length_le (by rw [nats_length]; omega), all_nil]
  rfl
theorem step (s : ByteArray) (pos : Nat) (h : pos < s.size) : ∃ c wd : Nat, Utf8.decode s pos = (c, wd) ∧ runesFrom s pos = (c : Int) :: runesFrom s (pos + wd) ∧ 1 ≤ wd ∧ pos + wd ≤ s.size := by
  have hne : (nats s).drop pos ≠ [] := by
    intro e
    have := congrArg List.length e
    simp [nats_length] at this
    omega
  refine ⟨(dec ((nats s).drop pos)).1, (dec ((nats s).drop pos)).2, decode_dec s pos h, ?_, dec_pos _, ?_⟩
  · unfold runesFrom
    rw [all_ne _ hne, List.drop_drop]
    rfl
  · have := dec_le _ hne
    rw [List.length_drop, nats_length] at this
    omega
/-- What is fed from a place on: the runes, and how many bytes are pending. -/
def fedFrom (s : ByteArray) (pos : Nat) : List Int × Nat := ((feed ((nats s).drop pos)).1.map fun n : Nat => (n : Int), (feed ((nats s).drop pos)).2.length)
theorem drop_ne (s : ByteArray) (pos : Nat) (h : pos < s.size) : (nats s).drop pos ≠ [] := by
  intro e
  have := congrArg List.length e
  simp [nats_length] at this
  omega
theorem fed_end (s : ByteArray) (pos : Nat) (h : ¬ pos < s.size) : fedFrom s pos = ([], 0) := by
  unfold fedFrom
  rw [List.drop_of_length_le (by rw [nats_length]; omega), feed_nil]
  rfl
theorem fed_pend (s : ByteArray) (pos : Nat) (h : pend ((nats s).drop pos) = true) : fedFrom s pos = ([], s.size - pos) := by
  unfold fedFrom
  rw [feed_pend _ h]
  simp [nats_length]
theorem fed_step (s : ByteArray) (pos : Nat) (h : pos < s.size) (hp : pend ((nats s).drop pos) = false) : ∃ c wd : Nat, Utf8.decode s pos = (c, wd) ∧ fedFrom s pos = ((c : Int) :: (fedFrom s (pos + wd)).1, (fedFrom s (pos + wd)).2) ∧ 1 ≤ wd ∧ pos + wd ≤ s.size := by
  have hne := drop_ne s pos h
  refine ⟨(dec ((nats s).drop pos)).1, (dec ((nats s).drop pos)).2, decode_dec s pos h, ?_, dec_pos _, ?_⟩
  · unfold fedFrom
    rw [feed_step _ hne hp, List.drop_drop]
    rfl
  · have := dec_le _ hne
    rw [List.length_drop, nats_length] at this
    omega

def wellL (l : List Nat) : Bool := decide ((dec l).2 = l.length) && decide (1 < l.length)
def well (s : ByteArray) : Bool :=
  if s.size = 0 then false
  else decide (s.size = (Utf8.encode (Utf8.decode s 0).1).size) && (decide (1 < s.size) && (decide ((Utf8.decode s 0).1 ≠ 65533) || (s.toList == [239, 191, 189])))
theorem dec_classes (l : List Nat) (hne : l ≠ []) (hb : ∀ x ∈ l, x < 256) :
    (∃ a t, l = a :: t ∧ a < 128 ∧ dec l = (a, 1)) ∨
    (∃ a b t, l = a :: b :: t ∧ 0xC2 ≤ a ∧ a ≤ 0xDF ∧ 0x80 ≤ b ∧ b ≤ 0xBF ∧ dec l = (a % 32 * 64 + b % 64, 2)) ∨
    (∃ a b c t, l = a :: b :: c :: t ∧ 0xE0 ≤ a ∧ a ≤ 0xEF ∧ fits a b = true ∧ 0x80 ≤ c ∧ c ≤ 0xBF ∧ dec l = (a % 16 * 4096 + b % 64 * 64 + c % 64, 3)) ∨
    (∃ a b c d t, l = a :: b :: c :: d :: t ∧ 0xF0 ≤ a ∧ a ≤ 0xF4 ∧ fits a b = true ∧ 0x80 ≤ c ∧ c ≤ 0xBF ∧ 0x80 ≤ d ∧ d ≤ 0xBF ∧ dec l = (a % 8 * 262144 + b % 64 * 4096 + c % 64 * 64 + d % 64, 4)) ∨
    dec l = (65533, 1) := by
  match l, hne with
  | a :: t, _ =>
    by_cases h1 : a < 128
    · left; exact ⟨a, t, rfl, h1, by simp [dec, h1]⟩
    by_cases h2 : 0xC2 ≤ a ∧ a ≤ 0xDF
    · match t with
      | [] => right; right; right; right; simp [dec, h1, h2]
      | b :: t =>
        cases hc : cont b
        · right; right; right; right; simp [dec, h1, h2, hc]
        · have := (cont_iff b).1 hc
          right; left; exact ⟨a, b, t, rfl, h2.1, h2.2, this.1, this.2, by simp [dec, h1, h2, hc]⟩
    by_cases h3 : 0xE0 ≤ a ∧ a ≤ 0xEF
    · match t with
      | [] => right; right; right; right; simp [dec, h1, h2]
      | [b] => right; right; right; right; simp [dec, h1, h2]
      | b :: c :: t =>
        cases hf : (fits a b && cont c)
        · right; right; right; right; simp only [dec, h1, h2, h3, hf, if_false, if_true, and_self]; rfl
        · rw [Bool.and_eq_true] at hf
          have := (cont_iff c).1 hf.2
          right; right; left; exact ⟨a, b, c, t, rfl, h3.1, h3.2, hf.1, this.1, this.2, by simp [dec, h1, h2, h3, hf.1, hf.2]⟩
    by_cases h4 : 0xF0 ≤ a ∧ a ≤ 0xF4
    · match t with
      | [] => right; right; right; right; simp [dec, h1, h2, h3]
      | [b] => right; right; right; right; simp [dec, h1, h2, h3]
      | [b, c] => right; right; right; right; simp [dec, h1, h2, h3]
      | b :: c :: d :: t =>
        cases hf : (fits a b && cont c && cont d)
        · right; right; right; right; simp only [dec, h1, h2, h3, h4, hf, if_false, if_true, and_self]; rfl
        · rw [Bool.and_eq_true, Bool.and_eq_true] at hf
          have e1 := (cont_iff c).1 hf.1.2
          have e2 := (cont_iff d).1 hf.2
          right; right; right; left; exact ⟨a, b, c, d, t, rfl, h4.1, h4.2, hf.1.1, e1.1, e1.2, e2.1, e2.2, by simp [dec, h1, h2, h3, h4, hf.1.1, hf.1.2, hf.2]⟩
    · right; right; right; right; simp [dec, h1, h2, h3, h4]
theorem encode_size1 (c : Nat) (h : c < 128) : (Utf8.encode (c : Int)).size = 1 := by
  have hv : Utf8.valid (c : Int) = true := by simp [Utf8.valid]; omega
  unfold Utf8.encode
  simp only [hv, if_true, Int.toNat_natCast]
  rw [if_pos h]; rfl
theorem encode_size2 (c : Nat) (h1 : 128 ≤ c) (h2 : c < 2048) : (Utf8.encode (c : Int)).size = 2 := by
  have hv : Utf8.valid (c : Int) = true := by simp [Utf8.valid]; omega
  unfold Utf8.encode
  simp only [hv, if_true, Int.toNat_natCast]
  rw [if_neg (by omega), if_pos h2]; rfl
theorem encode_size3 (c : Nat) (h1 : 2048 ≤ c) (h2 : c < 65536) (hs : c < 0xD800 ∨ 0xE000 ≤ c) : (Utf8.encode (c : Int)).size = 3 := by
  have hv : Utf8.valid (c : Int) = true := by simp [Utf8.valid]; omega
  unfold Utf8.encode
  simp only [hv, if_true, Int.toNat_natCast]
  rw [if_neg (by omega), if_neg (by omega), if_pos h2]; rfl
theorem encode_size4 (c : Nat) (h1 : 65536 ≤ c) (h2 : c ≤ 0x10FFFF) : (Utf8.encode (c : Int)).size = 4 := by
  have hv : Utf8.valid (c : Int) = true := by simp [Utf8.valid]; omega
  unfold Utf8.encode
  simp only [hv, if_true, Int.toNat_natCast]
  rw [if_neg (by omega), if_neg (by omega), if_neg (by omega)]; rfl
theorem toList_nats (s : ByteArray) (l : List UInt8) : (s.toList == l) = (nats s == l.map fun b => b.toNat) := by
  rw [ByteArray.toList_eq, Bool.eq_iff_iff, beq_iff_eq, beq_iff_eq, nats]
  constructor
  · intro h; rw [h]
  · intro h
    exact List.map_inj_right (fun a b h => UInt8.toNat_inj.1 h) |>.1 h
theorem well_eq (s : ByteArray) : well s = wellL (nats s) := by
  unfold well wellL
  by_cases h0 : s.size = 0
  · rw [if_pos h0, nats_length, h0]; simp
  rw [if_neg h0, decode_dec s 0 (by omega), List.drop_zero, toList_nats, ← nats_length]
  have hne : nats s ≠ [] := by
    intro e
    have := congrArg List.length e
    rw [nats_length] at this
    exact h0 this
  have hb := nats_lt s
  generalize nats s = l at hne hb ⊢
  rcases dec_classes l hne hb with ⟨a, t, rfl, ha, hd⟩ | ⟨a, b, t, rfl, h1, h2, h3, h4, hd⟩ | ⟨a, b, c, t, rfl, h1, h2, h3, h4, h5, hd⟩ | ⟨a, b, c, d, t, rfl, h1, h2, h3, h4, h5, h6, h7, hd⟩ | hd
  · rw [hd]; simp only [encode_size1 a ha]
    rw [Bool.eq_iff_iff]
    simp only [Bool.and_eq_true, decide_eq_true_eq]
    omega
  · rw [hd]; simp only []
    rw [encode_size2 _ (by omega) (by omega), Bool.eq_iff_iff]
    simp only [Bool.and_eq_true, Bool.or_eq_true, decide_eq_true_eq]
    have : a % 32 * 64 + b % 64 ≠ 65533 := by omega
    simp only [this, ne_eq, not_false_eq_true, true_or, and_true]
    omega
  · rw [hd]; simp only []
    rw [fits_iff] at h3
    rw [encode_size3 _ (by omega) (by omega) (by omega), Bool.eq_iff_iff]
    simp only [Bool.and_eq_true, Bool.or_eq_true, decide_eq_true_eq, beq_iff_eq]
    constructor
    · intro h; exact ⟨by omega, h.2.1⟩
    · intro h
      refine ⟨by omega, h.2, ?_⟩
      by_cases hc : a % 16 * 4096 + b % 64 * 64 + c % 64 = 65533
      · right
        have : t = [] := by
          have := h.1
          simp only [List.length_cons] at this
          exact List.eq_nil_of_length_eq_zero (by omega)
        subst this
        have e1 : a = 0xEF := by omega
        have e2 : b = 0xBF := by omega
        have e3 : c = 0xBD := by omega
        subst e1 e2 e3; rfl
      · left; exact hc
  · rw [hd]; simp only []
    rw [fits_iff] at h3
    rw [encode_size4 _ (by omega) (by omega), Bool.eq_iff_iff]
    simp only [Bool.and_eq_true, Bool.or_eq_true, decide_eq_true_eq, beq_iff_eq]
    have : a % 8 * 262144 + b % 64 * 4096 + c % 64 * 64 + d % 64 ≠ 65533 := by omega
    simp only [this, ne_eq, not_false_eq_true, true_or, and_true]
    omega
  · rw [hd]; simp only []
    rw [encode_size3 65533 (by omega) (by omega) (by omega), Bool.eq_iff_iff]
    simp only [Bool.and_eq_true, Bool.or_eq_true, decide_eq_true_eq, beq_iff_eq]
    constructor
    · rintro ⟨h, _, h2 | h2⟩
      · exact absurd rfl h2
      · rw [h2] at hd; exact absurd hd (by decide)
    · intro h; omega
def tails : List (List Nat) := [[0x80], [0x80, 0x80], [0x80, 0x80, 0x80], [0x90, 0x80, 0x80], [0xA0, 0x80], [0x90, 0x80]]
theorem pend_well (l : List Nat) (h1 : 1 ≤ l.length) (h3 : l.length ≤ 3) : pend l = tails.any fun t => wellL (l ++ t) := by
  cases hp : pend l with
  | false =>
    symm
    rw [List.any_eq_false]
    intro t ht
    have hne : l ≠ [] := by intro e; rw [e] at h1; simp at h1
    unfold wellL
    rw [dec_append l t hne hp]
    have := dec_le l hne
    have ht0 : 0 < t.length := by
      simp only [tails, List.mem_cons, List.not_mem_nil, or_false] at ht
      rcases ht with rfl | rfl | rfl | rfl | rfl | rfl <;> simp
    simp only [Bool.and_eq_true, decide_eq_true_eq, List.length_append]
    omega
  | true =>
    symm
    rw [List.any_eq_true]
    match l with
    | [] => simp at h1
    | [a] =>
      simp only [pend, Bool.and_eq_true, decide_eq_true_eq] at hp
      have ha : ¬ a < 128 := by omega
      by_cases h2 : a ≤ 0xDF
      · exact ⟨[0x80], by simp [tails], by simp [wellL, dec, ha, hp.1, h2, cont]⟩
      have h2' : ¬ (0xC2 ≤ a ∧ a ≤ 0xDF) := by omega
      by_cases h3 : a ≤ 0xEF
      · have h3' : 0xE0 ≤ a ∧ a ≤ 0xEF := by omega
        by_cases h4 : a = 0xE0
        · subst h4; exact ⟨[0xA0, 0x80], by simp [tails], by decide⟩
        · refine ⟨[0x80, 0x80], by simp [tails], ?_⟩
          have hf : fits a 0x80 = true := by rw [fits_iff]; omega
          simp [wellL, dec, ha, h2', h3', hf, cont]
      have h3' : ¬ (0xE0 ≤ a ∧ a ≤ 0xEF) := by omega
      have h4' : 0xF0 ≤ a ∧ a ≤ 0xF4 := by omega
      by_cases h5 : a = 0xF0
      · subst h5; exact ⟨[0x90, 0x80, 0x80], by simp [tails], by decide⟩
      · refine ⟨[0x80, 0x80, 0x80], by simp [tails], ?_⟩
        have hf : fits a 0x80 = true := by rw [fits_iff]; omega
        simp [wellL, dec, ha, h2', h3', h4', hf, cont]
    | [a, b] =>
      simp only [pend, Bool.and_eq_true, decide_eq_true_eq] at hp
      obtain ⟨⟨ha1, ha2⟩, hf⟩ := hp
      have ha : ¬ a < 128 := by omega
      have h2' : ¬ (0xC2 ≤ a ∧ a ≤ 0xDF) := by omega
      by_cases h3' : 0xE0 ≤ a ∧ a ≤ 0xEF
      · exact ⟨[0x80], by simp [tails], by simp [wellL, dec, ha, h2', h3', hf, cont]⟩
      · have h4' : 0xF0 ≤ a ∧ a ≤ 0xF4 := by omega
        exact ⟨[0x80, 0x80], by simp [tails], by simp [wellL, dec, ha, h2', h3', h4', hf, cont]⟩
    | [a, b, c] =>
      simp only [pend, Bool.and_eq_true, decide_eq_true_eq] at hp
      obtain ⟨⟨⟨ha1, ha2⟩, hf⟩, hc⟩ := hp
      have ha : ¬ a < 128 := by omega
      have h2' : ¬ (0xC2 ≤ a ∧ a ≤ 0xDF) := by omega
      have h3' : ¬ (0xE0 ≤ a ∧ a ≤ 0xEF) := by omega
      have h4' : 0xF0 ≤ a ∧ a ≤ 0xF4 := by omega
      have hd : cont 0x80 = true := by decide
      exact ⟨[0x80], by simp [tails], by simp [wellL, dec, ha, h2', h3', h4', hf, hc, hd]⟩
    | a :: b :: c :: d :: t => simp at h3
end Go.Proofs.Ythpemcchgebecaa.Utf

namespace Go.Proofs.Ythpemcchgebecaa.K
open Go.RowKit Go.Proofs.YthpemcchgebecaaW.PrintWords Go.Proofs.YthpemcchgebecaaW.PrintLast Go.Proofs.YthpemcchgebecaaW.PrintMore Go.Proofs.Ythpemcchgebecaa
attribute [local go_sem] max2_int min2_int max_two min_two max_three min_three max_four min_four
set_option linter.unusedVariables false
set_option linter.unusedSimpArgs false
section
variable {P : Program} {α : Type} {d : Kd α} {w : World} {base c : Nat} {ok : Nat → Prop} {A : Option Addr} {xs : List α}
theorem info_row {e : TypeId} {z : Value} {sz bytes : Nat} (h : (P.info? e).map (fun i => (i.zero, i.size, i.bytes)) = some (some z, sz, bytes)) : ∃ i, P.info? e = some i ∧ i.size = sz := by
  obtain ⟨i, hi, _, hs, _⟩ := info_parts h
  exact ⟨i, hi, hs⟩
/-- x[j:] of what the call owns; what is left has a name of its own. -/
theorem drop_own (t e : TypeId) {z : Value} {bytes : Nat} (ht : P.underlying t = some (.slice e)) (hinfo : (P.info? e).map (fun i => (i.zero, i.size, i.bytes)) = some (some z, d.sz, bytes))
    (h : d.Q e w base ok (.slice A xs.length c) xs) (j : Nat) (hj : j ≤ xs.length) :
    ∃ A' D, D = xs.drop j ∧ (∀ W : World, (Instr.slice t (.slice A xs.length c) (some (.int .i64 (j : Int))) none none).run P W = .ok (.slice A' D.length (c - j)) W) ∧ d.Q e w base ok (.slice A' D.length (c - j)) D ∧ D.length ≤ c - j := by
  obtain ⟨i, hi, hs⟩ := info_row hinfo
  have hl : (xs.drop j).length = xs.length - j := List.length_drop
  have hq := Kd.Q_drop h hj
  refine ⟨_, _, rfl, fun W => ?_, by rw [hl]; exact hq, ?_⟩
  · have hr := cut_from (P := P) t e .i64 ht hi d.sz hs A xs.length c (j : Int) (by omega) (by omega) W
    rw [hl]; simpa using hr
  · have := (Kd.Q_reads' h).2.1
    omega
end
theorem rd_nat (l : List Int) (k : Nat) : rd l (k : Int) = l.getD k 0 := by simp [rd]
/-- The bytes of a string that was made of bytes. -/
theorem nats_str (l : List Int) : Utf.nats (strOfNums l) = l.map fun n => n.toNat % 256 := by
  unfold Utf.nats
  rw [strOfNums_data, List.map_map]
  apply List.map_congr_left
  intro n _
  simp
theorem nats_str_drop (l : List Int) (k : Nat) : Utf.nats (strOfNums (l.drop k)) = (Utf.nats (strOfNums l)).drop k := by
  rw [nats_str, nats_str, List.map_drop]
end Go.Proofs.Ythpemcchgebecaa.K

namespace Go.Proofs.Ythpemcchgebecaa.K
open Go.RowKit Go.Proofs.YthpemcchgebecaaW.PrintWords Go.Proofs.YthpemcchgebecaaW.PrintLast Go.Proofs.YthpemcchgebecaaW.PrintMore Go.Proofs.Ythpemcchgebecaa
attribute [local go_sem] max2_int min2_int max_two min_two max_three min_three max_four min_four
set_option linter.unusedVariables false
set_option linter.unusedSimpArgs false
section
variable {P : Program} {src dst e : TypeId}
/-- string(runes), of what came in. -/
theorem C_runes (hs : P.underlying src = some (.slice e)) (he : P.underlying e = some (.int .i32)) (hd : P.underlying dst = some .string) {A : Option Addr} {c : Nat} {l : List Int} {w : World}
    (h : Kd.C (Kd.int .i32) w A l.length l) : (convert src dst (.slice A l.length c)).run P w = .ok (.string (runesBytes l)) w := by
  cases A with
  | none =>
    match l with
    | [] => exact run_convert_runes_nil w src dst e 0 c hs he hd
    | a :: t => obtain ⟨_, hh, _⟩ := Kd.at_int h 0 (by omega) (by simp); simp at hh
  | some a =>
    have := run_convert_runes w src dst e a l.length c l (Nat.le_refl _) hs he hd (fun j hj => by
      obtain ⟨ad, hh, hc⟩ := Kd.at_int h (j : Int) (by omega) (by exact_mod_cast hj)
      cases hh
      rw [rd_nat] at hc
      simpa using hc)
    rwa [List.take_length] at this
theorem own_runes (hs : P.underlying src = some (.slice e)) (he : P.underlying e = some (.int .i32)) (hd : P.underlying dst = some .string) {w : World} {base t : Nat} {ok : Nat → Prop} {v : Value} {xs : List Int}
    (h : (Kd.int .i32).R t w base ok v xs) : (convert src dst v).run P w = .ok (.string (runesBytes xs)) w := by
  obtain ⟨A, c, rfl⟩ := Kd.R_slice h
  exact C_runes hs he hd (Kd.R_reads' h).2.2
theorem own_runes2 (hs : P.underlying src = some (.slice e)) (he : P.underlying e = some (.int .i32)) (hd : P.underlying dst = some .string) {w : World} {base t : Nat} {ok : Nat → Prop} {v : Value} {xs : List Int}
    (h : (Kd.int .i32).R t w base ok v xs) : (convert src dst v).run P w = .ok (.string (runesBytes xs)) w ∧ ∀ n, (convert src dst v).run P (w.drewN n) = .ok (.string (runesBytes xs)) (w.drewN n) :=
  ⟨own_runes hs he hd h, fun n => own_runes hs he hd (Kd.R_drewN h n)⟩
end
section
variable {P : Program} {ops : Array Oper} {rest : List Oper} {o : Oper} {a : Act} {Q : Exit → Act → World → Prop}
end
end Go.Proofs.Ythpemcchgebecaa.K

namespace Go.Proofs.Ythpemcchgebecaa.K
open Go.RowKit Go.Proofs.YthpemcchgebecaaW.PrintWords Go.Proofs.YthpemcchgebecaaW.PrintLast Go.Proofs.YthpemcchgebecaaW.PrintMore Go.Proofs.Ythpemcchgebecaa
attribute [local go_sem] max2_int min2_int max_two min_two max_three min_three max_four min_four
set_option linter.unusedVariables false
set_option linter.unusedSimpArgs false
section
variable {P : Program} {src dst e : TypeId}
theorem C_runes2 (hs : P.underlying src = some (.slice e)) (he : P.underlying e = some (.int .i32)) (hd : P.underlying dst = some .string) {A : Option Addr} {c : Nat} {l : List Int} {w : World}
    (h : Kd.C (Kd.int .i32) w A l.length l) : (convert src dst (.slice A l.length c)).run P w = .ok (.string (runesBytes l)) w ∧ ∀ n, (convert src dst (.slice A l.length c)).run P (w.drewN n) = .ok (.string (runesBytes l)) (w.drewN n) :=
  ⟨C_runes hs he hd h, fun n => C_runes hs he hd (Kd.C_drewN h n)⟩
end
section
variable {α : Type} {d : Kd α} {e base t : Nat} {ok : Nat → Prop} {w w1 : World} {v : Value} {xs : List α} {g : Nat} {cs : Array Value}
theorem R_butg (h : Kd.R d e w base ok v xs) (hg : w.heap[g]? = some (.cells cs t (0, 0))) (ht : ∀ q, q ∈ e :: d.E → q ≠ t) (hk : ∀ k, k ≠ g → w1.heap[k]? = w.heap[k]?) : Kd.R d e w1 base ok v xs :=
  Kd.R_mono (Kd.R_step (Kd.R_types h hg ht) (fun k ho _ => hk k ho.2)) (fun _ h => h.1)
theorem Q_butg (h : Kd.Q d e w base ok v xs) (hg : w.heap[g]? = some (.cells cs t (0, 0))) (ht : ∀ q, q ∈ e :: d.E → q ≠ t) (hk : ∀ k, k ≠ g → w1.heap[k]? = w.heap[k]?) : Kd.Q d e w1 base ok v xs :=
  Kd.Q_mono (Kd.Q_step (Kd.Q_types h hg ht) (fun k ho _ => hk k ho.2)) (fun _ h => h.1)
end
theorem far1 {w : World} {g a : Nat} {x : Value} (k : Nat) (hk : k ≠ g) : (w.setCell ⟨g, a, none⟩ x).heap[k]? = w.heap[k]? := Below.heap_setCell _ _ _ k hk
theorem far2 {w : World} {g a b : Nat} {x y : Value} (k : Nat) (hk : k ≠ g) : ((w.setCell ⟨g, a, none⟩ x).setCell ⟨g, b, none⟩ y).heap[k]? = w.heap[k]? := (far1 k hk).trans (far1 k hk)
theorem far3 {w : World} {g a b c : Nat} {x y z : Value} (k : Nat) (hk : k ≠ g) : (((w.setCell ⟨g, a, none⟩ x).setCell ⟨g, b, none⟩ y).setCell ⟨g, c, none⟩ z).heap[k]? = w.heap[k]? := (far1 k hk).trans (far2 k hk)
theorem far4 {w : World} {g a b c d : Nat} {x y z u : Value} (k : Nat) (hk : k ≠ g) : ((((w.setCell ⟨g, a, none⟩ x).setCell ⟨g, b, none⟩ y).setCell ⟨g, c, none⟩ z).setCell ⟨g, d, none⟩ u).heap[k]? = w.heap[k]? := (far1 k hk).trans (far3 k hk)
end Go.Proofs.Ythpemcchgebecaa.K

namespace Go.Proofs.Ythpemcchgebecaa.K
open Go.RowKit Go.Proofs.YthpemcchgebecaaW.PrintWords Go.Proofs.YthpemcchgebecaaW.PrintLast Go.Proofs.YthpemcchgebecaaW.PrintMore Go.Proofs.Ythpemcchgebecaa
attribute [local go_sem] max2_int min2_int max_two min_two max_three min_three max_four min_four
set_option linter.unusedVariables false
set_option linter.unusedSimpArgs false
def RM (W : World) (base : Nat) (ok : Nat → Prop) (v : Value) (xs : List Int) : Prop :=
  ∃ (g c : Nat) (mk : Nat × Nat), v = .slice (some ⟨g, 0, none⟩) xs.length c ∧ xs.length ≤ c ∧ xs.length ≤ 9223372036854775807 ∧ base ≤ g ∧ ok g ∧ W.heap[g]? = some (.cells (xs.map (Value.int .u8)).toArray 5 mk)
section
variable {W w1 : World} {base : Nat} {ok ok' : Nat → Prop} {v u : Value} {xs : List Int}
theorem RM_mono (h : RM W base ok v xs) (hok : ∀ k, ok k → ok' k) : RM W base ok' v xs := by
  obtain ⟨g, c, m, hv, hl, hm, hb, ho, hg⟩ := h
  exact ⟨g, c, m, hv, hl, hm, hb, hok g ho, hg⟩
theorem RM_step (h : RM W base ok v xs) (hm : ∀ k, ok k → k < W.heap.size → w1.heap[k]? = W.heap[k]?) : RM w1 base ok v xs := by
  obtain ⟨g, c, m, hv, hl, hmx, hb, ho, hg⟩ := h
  exact ⟨g, c, m, hv, hl, hmx, hb, ho, (hm g ho (blk_lt hg)).trans hg⟩
theorem RM_below (h : RM W base ok v xs) (hb : Below W.heap.size W w1) : RM w1 base ok v xs := RM_step h (fun k _ hk => hb.block k hk)
theorem RM_drew (h : RM W base ok v xs) : RM W.drew base ok v xs := h
theorem RM_lt (h : RM W base ok v xs) : ∀ k, v.ownBlock = some k → k < W.heap.size := by
  obtain ⟨g, c, m, hv, hl, hm, hb, ho, hg⟩ := h
  intro k hk
  rw [hv] at hk
  simp only [Value.ownBlock, Option.some.injEq] at hk
  subst hk
  exact blk_lt hg
theorem RM_butg {t g : Nat} {cs : Array Value} (h : RM W base ok v xs) (hg : W.heap[g]? = some (.cells cs t (0, 0))) (ht : 5 ≠ t) (hk : ∀ k, k ≠ g → w1.heap[k]? = W.heap[k]?) : RM w1 base ok v xs := by
  obtain ⟨g', c, m, hv, hl, hm, hb, ho, hg'⟩ := h
  have hne : g' ≠ g := by
    rintro rfl
    rw [hg'] at hg
    injection hg with hg
    injection hg with _ hg
    exact ht hg
  exact ⟨g', c, m, hv, hl, hm, hb, ho, (hk g' hne).trans hg'⟩
theorem RM_elder' (h : RM W base ok u xs) (hbase : ∀ k, v.ownBlock = some k → W.heap.size ≤ k) (hb : Below W.heap.size W w1) : RM w1 base (fun k => ok k ∧ some k ≠ v.ownBlock) u xs := by
  obtain ⟨g, c, m, hv, hl, hm, hbs, ho, hg⟩ := h
  refine ⟨g, c, m, hv, hl, hm, hbs, ⟨ho, fun he => ?_⟩, (hb.block g (blk_lt hg)).trans hg⟩
  have := hbase g he.symm
  have := blk_lt hg
  omega
theorem RM_reads {A : Option Addr} {n c : Nat} (h : RM W base ok (.slice A n c) xs) : n = xs.length ∧ xs.length ≤ c ∧ Kd.C (Kd.int .u8) W A xs.length xs := by
  obtain ⟨g, c', m, hv, hl, hm, hb, ho, hg⟩ := h
  injection hv with h1 h2 h3
  subst h1 h2 h3
  refine ⟨rfl, hl, Kd.C_of_reads (d := (0 : Int)) (h1 := fun _ => rfl) ⟨rfl, hm, fun _ => ⟨⟨g, 0, none⟩, rfl, fun j hj => ?_⟩⟩⟩
  rw [Addr.add_lit]
  show W.cell? ⟨g, 0 + j, none⟩ = _
  rw [cell_of_row W g _ _ _ m hg]
  simp [hj, List.getD_eq_getElem?_getD]
end
end Go.Proofs.Ythpemcchgebecaa.K

namespace Go.Proofs.Ythpemcchgebecaa.Utf
set_option linter.unusedVariables false
set_option linter.unusedSimpArgs false
def okR (c : Nat) : Prop := c < 0xD800 ∨ (0xE000 ≤ c ∧ c ≤ 0x10FFFF)
def sane (r : Int) : Int := if Utf8.valid r = true then r else 65533
def code (c : Nat) : List Nat :=
  if c < 128 then [c] else if c < 2048 then [192 + c / 64, 128 + c % 64] else if c < 65536 then [224 + c / 4096, 128 + c / 64 % 64, 128 + c % 64]
  else [240 + c / 262144, 128 + c / 4096 % 64, 128 + c / 64 % 64, 128 + c % 64]
theorem code_ne (c : Nat) : code c ≠ [] := by
  unfold code
  repeat' split
  all_goals simp
theorem runesBytes_nil : runesBytes [] = ByteArray.empty := rfl
end Go.Proofs.Ythpemcchgebecaa.Utf

namespace Go.Proofs.Ythpemcchgebecaa.K
open Go.RowKit Go.Proofs.YthpemcchgebecaaW.PrintWords Go.Proofs.YthpemcchgebecaaW.PrintLast Go.Proofs.YthpemcchgebecaaW.PrintMore Go.Proofs.Ythpemcchgebecaa
attribute [local go_sem] max2_int min2_int max_two min_two max_three min_three max_four min_four
set_option linter.unusedVariables false
set_option linter.unusedSimpArgs false
def utf_well.f (a0 : ByteArray) : Option Bool := some (Utf.well a0)
set_option maxHeartbeats 1000000 in
set_option maxRecDepth 100000 in
theorem utf_well.calls (a0 : ByteArray) (r : Bool) (w : World) (h : utf_well.f a0 = some r) :
    Calls Try.prog 55 #[.string a0] w fun e w' => e = .returned (.bool r) ∧ Below w.heap.size w w' := by
  obtain rfl : Utf.well a0 = r := Option.some.inj h
  by_cases hp : 0 < a0.size
  · go_enter Try.func55, Try.ntmps55
    go_wp2
    go_loopw [] (fun wr => wr = w.iter a0 0) (fun _ => 0)
    case atStart => rfl
    case round =>
      subst hrel
      have hnx0 : ∀ ty, (Instr.next (.pointer (some ⟨w.heap.size, 0, none⟩)) true ty).run Try.prog (w.iter a0 0) = _ := fun ty => run_next_any w a0 0 ty hp
      have hb : Utf.well a0 = (decide (a0.size = (Utf8.encode (Utf8.decode a0 0).1).size) && (decide (1 < a0.size) && (decide ((Utf8.decode a0 0).1 ≠ 65533) || (a0.toList == [239, 191, 189])))) := by
        unfold Utf.well; rw [if_neg (by omega)]
      obtain ⟨c, hc⟩ : ∃ c, c = (Utf8.decode a0 0).1 := ⟨_, rfl⟩
      obtain ⟨p, hpp⟩ : ∃ p, p = 0 + (Utf8.decode a0 0).2 := ⟨_, rfl⟩
      rw [← hc] at hb
      rw [← hc, ← hpp] at hnx0
      have hnx : ∀ ty, (Instr.next (.pointer (some ⟨w.heap.size, 0, none⟩)) true ty).run Try.prog (w.iter a0 0) = .ok (.tuple #[.bool true, .int .i64 0, .int .i32 (c : Int)]) (w.iter a0 p) := hnx0
      clear hnx0 hc hpp
      have hbw : Below w.heap.size w (w.iter a0 p) := Below.alloc (Below.refl _ _) (Nat.le_refl _) _
      by_cases h1 : a0.size = (Utf8.encode (c : Int)).size
      · have b1 : ((a0.size : Int) == ((Utf8.encode (c : Int)).size : Int)) = true := by simp [h1]
        by_cases h2 : 1 < a0.size
        · have b2 : decide (1 < a0.size) = true := decide_eq_true h2
          have b2' : decide ((1 : Int) < (a0.size : Int)) = true := decide_eq_true (by omega)
          by_cases h3 : c = 65533
          · have b3 : ((c : Int) != 65533) = false := by simp [h3]
            cases h4 : (a0.toList == [239, 191, 189])
            all_goals
              have hB := Aside0.mk hb; clear hb
              have Hh1 := Aside0.mk h1; clear h1; have Hh3 := Aside0.mk h3; clear h3; have Hh2 := Aside0.mk h2; clear h2
              go_wp2
              go_ret
              exact ⟨by rw [hB.out, decide_eq_true Hh1.out, decide_eq_true Hh2.out, h4]; simp [Hh3.out], hbw⟩
          · have b3 : ((c : Int) != 65533) = true := by simp; omega
            have hB := Aside0.mk hb; clear hb
            have Hh1 := Aside0.mk h1; clear h1; have Hh3 := Aside0.mk h3; clear h3; have Hh2 := Aside0.mk h2; clear h2
            go_wp2
            go_ret
            exact ⟨by rw [hB.out, decide_eq_true Hh1.out, decide_eq_true Hh2.out]; simp [Hh3.out], hbw⟩
        · have b2 : decide (1 < a0.size) = false := decide_eq_false h2
          have b2' : decide ((1 : Int) < (a0.size : Int)) = false := decide_eq_false (by omega)
          have hB := Aside0.mk hb; clear hb
          have Hh1 := Aside0.mk h1; clear h1; have Hh2 := Aside0.mk h2; clear h2
          go_wp2
          go_ret
          exact ⟨by rw [hB.out, decide_eq_false Hh2.out]; simp, hbw⟩
      · have b1 : ((a0.size : Int) == ((Utf8.encode (c : Int)).size : Int)) = false := by simp; omega
        have hB := Aside0.mk hb; clear hb
        have Hh1 := Aside0.mk h1; clear h1
        go_wp2
        go_ret
        exact ⟨by rw [hB.out]; simp [Hh1.out], hbw⟩
  · go_enter Try.func55, Try.ntmps55
    go_wp2
    go_loopw [] (fun wr => wr = w.iter a0 0) (fun _ => 0)
    case atStart => rfl
    case round =>
      subst hrel
      have hnx : ∀ ty, (Instr.next (.pointer (some ⟨w.heap.size, 0, none⟩)) true ty).run Try.prog (w.iter a0 0) = _ := fun ty => run_next_end w a0 0 ty hp
      go_wp2
      go_ret
      refine ⟨by simp [Utf.well, show a0.size = 0 by omega], ?_⟩
      exact Below.alloc (Below.refl _ _) (Nat.le_refl _) _
def utf_All.f (l0 : List Int) : Option (List Int) := if l0.length < 35184372088832 then some (Utf.runesZ (strOfNums l0)) else none
set_option maxHeartbeats 1000000 in
set_option maxRecDepth 100000 in
theorem utf_All.calls (A0 : Option Addr) (c0 : Nat) (l0 : List Int) (r : List Int) (w : World) (hr0 : Kd.C (Kd.int .u8) w A0 l0.length l0) (hc0 : l0.length ≤ c0) (h : utf_All.f l0 = some r) :
    Calls Try.prog 32 #[.slice A0 l0.length c0] w fun e w' => ∃ v0_ : Value, e = .returned (v0_) ∧ Kd.R (Kd.int .i32) 21 w' w.heap.size (fun _ => True) v0_ r ∧ Below w.heap.size w w' := by
  have hlen : l0.length < 35184372088832 := by
    unfold utf_All.f at h; split at h
    · assumption
    · cases h
  have hr : Utf.runesZ (strOfNums l0) = r := by
    unfold utf_All.f at h; rw [if_pos hlen] at h; exact Option.some.inj h
  clear h
  have hcv := Kd.C_string (P := Try.prog) (A := A0) (c := c0) Try.underlying31 Try.underlying5 Try.underlying9 hr0
  have hsz : (strOfNums l0).size < 35184372088832 := by rw [strOfNums_size]; exact hlen
  obtain ⟨s, hs⟩ : ∃ s, s = strOfNums l0 := ⟨_, rfl⟩
  rw [← hs] at hcv hr hsz
  clear hs hr0
  have HR := Aside0.mk hr; clear hr
  have HSZ := Aside0.mk hsz; clear hsz
  go_enter Try.func32, Try.ntmps32
  go_wp2
  go_loopw [3] (fun v wr => ∃ (pos : Nat) (acc : List Int), Aside0 (wr.heap[w.heap.size]? = some (.stringIter s pos)) ∧ Aside0 (Kd.R (Kd.int .i32) 21 wr w.heap.size (fun k => k ≠ w.heap.size) v acc) ∧ Aside0 (Below w.heap.size w wr) ∧ Aside0 (acc ++ Utf.runesFrom s pos = r) ∧ Aside0 (acc.length ≤ pos) ∧ Aside0 (pos ≤ s.size)) (fun _ wr => s.size - wr.iterPos w.heap.size)
  case atStart => exact ⟨0, [], ⟨World.iter_heap w s 0⟩, ⟨Kd.R_nil _ _ _ _ _⟩, ⟨Below.alloc (Below.refl _ _) (Nat.le_refl _) _⟩, ⟨by rw [← HR.out]; rfl⟩, ⟨by simp⟩, ⟨by omega⟩⟩
  case round =>
    obtain ⟨pos, acc, hit, hR, hbw, hacc, hal, hpl⟩ := hrel
    have hsz : w.heap.size < wr.heap.size := (Array.getElem?_eq_some_iff.1 hit.out).1
    by_cases hp : pos < s.size
    · obtain ⟨c, wd, hdec, hrest, hwd, hle⟩ := Utf.step s pos hp
      have hnx0 : ∀ ty, (Instr.next (.pointer (some ⟨w.heap.size, 0, none⟩)) true ty).run Try.prog wr = _ := fun ty => Lib.run_next_any_at wr w.heap.size s pos ty hit.out hp
      rw [hdec] at hnx0
      have hit2 := Aside0.mk (Lib.iterAt_heap wr w.heap.size s pos (pos + wd) hit.out)
      have hbw2 := Aside0.mk (Lib.below_iterAt hbw.out (k := w.heap.size) (Nat.le_refl _) s (pos + wd))
      have hR2 := Aside0.mk (Kd.R_step hR.out (w1 := wr.iterAt w.heap.size s (pos + wd)) (fun k hk _ => Lib.iterAt_other wr w.heap.size k s (pos + wd) hk))
      have hs2 : (wr.iterAt w.heap.size s (pos + wd)).heap.size = wr.heap.size := Lib.iterAt_size ..
      obtain ⟨W2, hW2⟩ : ∃ W2, W2 = wr.iterAt w.heap.size s (pos + wd) := ⟨_, rfl⟩
      rw [← hW2] at hnx0 hit2 hbw2 hR2 hs2
      have hnx : ∀ ty, (Instr.next (.pointer (some ⟨w.heap.size, 0, none⟩)) true ty).run Try.prog wr = .ok (.tuple #[.bool true, .int .i64 pos, .int .i32 (c : Int)]) W2 := hnx0
      have hsz2 : w.heap.size < W2.heap.size := by omega
      have HA := Aside0.mk hs2
      clear hnx0 hdec hW2 hs2
      have HRE := Aside0.mk hrest; clear hrest
      go_wp2_with (((with_reducible refine gate_builtin (b := .append) (xs := #[.tmp 12, .tmp 14]) rfl ?_); at_builtin; refine Kd.R_append (Kd.int .i32) (w0 := w) w.heap.size rfl (.tmp 12) (.tmp 14) 29 21 (.int .i32 0) 4 rfl Try.underlying29 info21 rfl (by decide) (by omega) _ acc (c : Int) [.int .i32 c] (fun k => k ≠ w.heap.size) (fun _ => False) rfl rfl rfl (fun _ hk => hk.elim) (fun k hk => by omega) hR2.out hbw2.out (hbw2.out).size (by have := hal.out; have := HSZ.out; omega) ?_))
      intro v1 w1 hR3 hb3 hg3 hat3
      have hit3 : w1.heap[w.heap.size]? = some (.stringIter s (pos + wd)) := by
        rw [hg3.block _ hsz2 (fun e => hR2.out.1 _ e.symm rfl)]; exact hit2.out
      have hR3 := Aside0.mk hR3
      have hb3 := Aside0.mk hb3
      have hit3 := Aside0.mk hit3
      clear hat3 hg3
      go_wp2
      go_roundw
      case rel => exact ⟨pos + wd, acc ++ [(c : Int)], hit3, hR3, hb3, ⟨by rw [← hacc.out, HRE.out]; simp⟩, ⟨by have := hal.out; simp; omega⟩, ⟨hle⟩⟩
      case measure =>
        rw [iterPos_of hit3.out, iterPos_of hit.out]
        omega
    · have hnx : ∀ ty, (Instr.next (.pointer (some ⟨w.heap.size, 0, none⟩)) true ty).run Try.prog wr = _ := fun ty => Lib.run_next_end_at wr w.heap.size s pos ty hit.out hp
      have hend := Utf.runesFrom_end s pos hp
      have HE := Aside0.mk hend; clear hend
      go_wp2
      go_ret
      have e : acc = r := by have := hacc.out; rw [HE.out, List.append_nil] at this; exact this
      subst e
      exact ⟨_, rfl, Kd.R_mono hR.out (fun _ _ => trivial), hbw.out⟩

def utf_End.f (l0 : List Int) : Option (List Int) := utf_All.f l0
set_option maxHeartbeats 1000000 in
theorem utf_End.calls (A0 : Option Addr) (c0 : Nat) (l0 : List Int) (r : List Int) (w : World) (hr0 : Kd.C (Kd.int .u8) w A0 l0.length l0) (hc0 : l0.length ≤ c0) (h : utf_End.f l0 = some r) :
    Calls Try.prog 37 #[.slice A0 l0.length c0] w fun e w' => ∃ v0_ : Value, e = .returned (v0_) ∧ Kd.R (Kd.int .i32) 21 w' w.heap.size (fun _ => True) v0_ r ∧ Below w.heap.size w w' := by
  have H : Aside0 (utf_All.f l0 = some r) := ⟨h⟩
  have HR := Aside0.mk hr0
  clear h hr0
  go_enter Try.func37, Try.ntmps37
  go_wp2_with (go_at_call 32; (with_reducible refine (utf_All.calls A0 c0 l0 r _ HR.out hc0 H.out).mono ?_))
  rintro e w' ⟨v, rfl, hR, hB⟩
  have hR := Aside0.mk hR
  go_wp2
  go_ret
  exact ⟨_, rfl, hR.out, hB⟩

def tailB (k : Nat) : ByteArray := (([⟨#[128]⟩, ⟨#[128, 128]⟩, ⟨#[128, 128, 128]⟩, ⟨#[144, 128, 128]⟩, ⟨#[160, 128]⟩, ⟨#[144, 128]⟩] : List ByteArray).getD k ⟨#[]⟩)
theorem tailB_size (k : Nat) : (tailB k).size ≤ 3 := by
  match k with
  | 0 | 1 | 2 | 3 | 4 | 5 => decide
  | k + 6 => exact (show (⟨#[]⟩ : ByteArray).size ≤ 3 by decide)
theorem nats_append (s t : ByteArray) : Utf.nats (s ++ t) = Utf.nats s ++ Utf.nats t := by simp [Utf.nats, ByteArray.data_append]
theorem tails_any (s : ByteArray) (f : ByteArray → Bool) : (Utf.tails.any fun t => Utf.wellL (Utf.nats s ++ t)) = (List.range 6).any fun k => Utf.well (s ++ tailB k) := by
  have e : ∀ k, Utf.well (s ++ tailB k) = Utf.wellL (Utf.nats s ++ Utf.nats (tailB k)) := fun k => by rw [Utf.well_eq, nats_append]
  simp only [e]
  rfl
def utf_Pending.f (l0 : List Int) : Option Bool := some (Utf.pend (Utf.nats (strOfNums l0)))
set_option maxHeartbeats 1000000 in
set_option maxRecDepth 100000 in
theorem utf_Pending.calls (A0 : Option Addr) (c0 : Nat) (l0 : List Int) (r : Bool) (w : World) (hr0 : Kd.C (Kd.int .u8) w A0 l0.length l0) (hc0 : l0.length ≤ c0) (h : utf_Pending.f l0 = some r) :
    Calls Try.prog 45 #[.slice A0 l0.length c0] w fun e w' => e = .returned (.bool r) ∧ Below w.heap.size w w' := by
  obtain rfl : Utf.pend (Utf.nats (strOfNums l0)) = r := Option.some.inj h
  clear h
  have hn : (Utf.nats (strOfNums l0)).length = l0.length := by rw [Utf.nats_length, strOfNums_size]
  by_cases h1 : l0.length < 1
  · have b1 : decide ((l0.length : Int) < 1) = true := decide_eq_true (by omega)
    have b2 : decide (l0.length < 1) = true := decide_eq_true (by omega)
    have hp := Utf.pend_len (Utf.nats (strOfNums l0))
    have HP : Aside0 (Utf.pend (Utf.nats (strOfNums l0)) = false) := ⟨by
      cases h : Utf.pend (Utf.nats (strOfNums l0)) with
      | false => rfl
      | true => have := hp h; omega⟩
    clear hp hn
    go_enter Try.func45, Try.ntmps45
    go_wp2
    go_ret
    exact ⟨by rw [HP.out]; rfl, Below.refl _ _⟩
  by_cases h3 : 3 < l0.length
  · have b1 : decide ((l0.length : Int) < 1) = false := decide_eq_false (by omega)
    have b2 : decide (l0.length < 1) = false := decide_eq_false (by omega)
    have b3 : decide ((3 : Int) < (l0.length : Int)) = true := decide_eq_true (by omega)
    have b4 : decide (3 < l0.length) = true := decide_eq_true (by omega)
    have hp := Utf.pend_len (Utf.nats (strOfNums l0))
    have HP : Aside0 (Utf.pend (Utf.nats (strOfNums l0)) = false) := ⟨by
      cases h : Utf.pend (Utf.nats (strOfNums l0)) with
      | false => rfl
      | true => have := hp h; omega⟩
    clear hp hn
    go_enter Try.func45, Try.ntmps45
    go_wp2
    go_ret
    exact ⟨by rw [HP.out]; rfl, Below.refl _ _⟩
  · have b1 : decide ((l0.length : Int) < 1) = false := decide_eq_false (by omega)
    have b2 : decide (l0.length < 1) = false := decide_eq_false (by omega)
    have b3 : decide ((3 : Int) < (l0.length : Int)) = false := decide_eq_false (by omega)
    have b4 : decide (3 < l0.length) = false := decide_eq_false (by omega)
    have hp := Utf.pend_well (Utf.nats (strOfNums l0)) (by omega) (by omega)
    rw [tails_any _ Utf.well] at hp
    have hsz : (strOfNums l0).size ≤ 3 := by rw [strOfNums_size]; omega
    obtain ⟨s, hs⟩ : ∃ s, s = strOfNums l0 := ⟨_, rfl⟩
    rw [← hs] at hp hsz ⊢
    have HS := Aside0.mk hs; clear hs hn
    have HP := Aside0.mk hp; clear hp
    have HR := Aside0.mk hr0; clear hr0
    go_enter Try.func45, Try.ntmps45
    go_wp2
    clear b1 b2 b3 b4
    go_loopw [15, 4] (fun v _ wr => ∃ k : Nat, v = .int .i64 k ∧ k ≤ 6 ∧ Aside0 (∀ j, j < k → Utf.well (s ++ tailB j) = false) ∧ Aside0 (∀ j, j < 6 → wr.cell? ⟨w.heap.size, j, none⟩ = some (.string (tailB j))) ∧ Aside0 (Below w.heap.size w wr) ∧ w.heap.size < wr.heap.size) (fun v _ _ => 6 - (intOf v).toNat)
    case atStart =>
      refine ⟨0, rfl, by omega, ⟨fun j hj => by omega⟩, ⟨fun j hj => ?_⟩, ⟨Below.alloc (Below.refl _ _) (Nat.le_refl _) _⟩, by simp⟩
      match j, hj with
      | 0, _ | 1, _ | 2, _ | 3, _ | 4, _ | 5, _ => simp [tailB]
    case round =>
      obtain ⟨k, rfl, hk, hno, hcl, hbw, hsz1⟩ := hrel
      by_cases hlt : k < 6
      · have hc := hcl.out k hlt
        have hts := tailB_size k
        have hadd : s.size + (tailB k).size ≤ 9223372036854775807 := by omega
        have hcv := Kd.C_string (P := Try.prog) (A := A0) (c := c0) Try.underlying31 Try.underlying5 Try.underlying9 (Kd.C_below HR.out hbw.out)
        rw [← HS.out] at hcv
        obtain ⟨tl, htl⟩ : ∃ tl, tl = tailB k := ⟨_, rfl⟩
        rw [← htl] at hc hts hadd
        obtain ⟨b, hb⟩ : ∃ b, b = Utf.well (s ++ tl) := ⟨_, rfl⟩
        have HB := Aside0.mk hb; clear hb
        have HT := Aside0.mk htl; clear htl
        go_wp2_with (go_at_call 55; (with_reducible refine (utf_well.calls (s ++ tl) b _ (by rw [utf_well.f, HB.out])).mono ?_))
        rintro e w' ⟨rfl, hb2⟩
        have hbw2 := Aside0.mk (hbw.out.trans (hb2.mono hbw.out.size))
        have hsz2 : w.heap.size < w'.heap.size := Nat.lt_of_lt_of_le hsz1 hb2.size
        have hcl2 : Aside0 (∀ j, j < 6 → w'.cell? ⟨w.heap.size, j, none⟩ = some (.string (tailB j))) := ⟨fun j hj => by
          rw [hb2.cell (p := ⟨w.heap.size, j, none⟩) hsz1]; exact hcl.out j hj⟩
        clear hb2 hc hcv
        cases b with
        | true =>
          go_wp2
          go_ret
          refine ⟨?_, hbw2.out⟩
          have e : Utf.pend (Utf.nats s) = true := by
            rw [HP.out, List.any_eq_true]
            exact ⟨k, by simp; omega, by rw [← HT.out]; exact HB.out.symm⟩
          rw [e]; rfl
        | false =>
          go_wp2
          go_roundw
          case rel =>
            refine ⟨k + 1, by go_num, by omega, ⟨fun j hj => ?_⟩, hcl2, hbw2, hsz2⟩
            by_cases e : j = k
            · subst e; rw [← HT.out]; exact HB.out.symm
            · exact hno.out j (by omega)
          case measure => simp [intOf]; omega
      · have hk6 : k = 6 := by omega
        subst hk6
        go_wp2
        go_ret
        refine ⟨?_, hbw.out⟩
        have e : Utf.pend (Utf.nats s) = false := by
          rw [HP.out, List.any_eq_false]
          intro j hj
          have := hno.out j (by simpa using hj)
          simp [this]
        rw [e]; rfl

def utf_Feed.r (L : List Int) : List Int × List Int := ((Utf.fedFrom (strOfNums L) 0).1, L.drop (L.length - (Utf.fedFrom (strOfNums L) 0).2))
def utf_Feed.f (l0 l1 : List Int) : Option (List Int × List Int) := if l0.length + l1.length < 35184372088832 then some (utf_Feed.r (l0 ++ l1)) else none
set_option maxHeartbeats 2000000 in
set_option maxRecDepth 100000 in
theorem utf_Feed.calls (A0 : Option Addr) (c0 : Nat) (l0 : List Int) (A1 : Option Addr) (c1 : Nat) (l1 : List Int) (r1 : List Int) (r2 : List Int) (w : World) (hr0 : Kd.C (Kd.int .u8) w A0 l0.length l0) (hc0 : l0.length ≤ c0) (hr1 : Kd.C (Kd.int .u8) w A1 l1.length l1) (hc1 : l1.length ≤ c1) (h : utf_Feed.f l0 l1 = some (r1, r2)) :
    Calls Try.prog 35 #[.slice A0 l0.length c0, .slice A1 l1.length c1] w fun e w' => ∃ v0_ v1_ : Value, e = .returned (.tuple #[v0_, v1_]) ∧ Kd.R (Kd.int .i32) 21 w' w.heap.size (fun _ => True) v0_ r1 ∧ Kd.Q (Kd.int .u8) 5 w' w.heap.size (fun _ => True) v1_ r2 ∧ Below w.heap.size w w' := by
  have hlen : l0.length + l1.length < 35184372088832 := by
    unfold utf_Feed.f at h; split at h
    · assumption
    · cases h
  have hr : utf_Feed.r (l0 ++ l1) = (r1, r2) := by
    unfold utf_Feed.f at h; rw [if_pos hlen] at h; exact Option.some.inj h
  clear h
  have HR0 := Aside0.mk hr0
  have HR1 := Aside0.mk hr1
  have HR := Aside0.mk hr
  have HLN := Aside0.mk hlen
  clear hr0 hr1 hr hlen
  go_enter Try.func35, Try.ntmps35
  go_wp2_with ((with_reducible refine gate_dst (N := 10) rfl ?_); refine Kd.R_lit (Kd.int .u8) _ 5 ?hg (N := 10) ?hd (xs := []) (inner := []) (ok := fun _ => True) (okp := fun _ => True) ?hr ?hp (fun _ hk => hk) trivial (Below.refl _ _) (Nat.le_refl _) (by simp) ?_; (case hd => rfl); (case hg => rfl); (case hr => first | (go_simp; done) | (go_simp; rfl)); (case hp => exact (Reps.none _ _)))
  intro v0 w0 hR0 hb0 hg0 n0 hn0 hle0
  have hR0 := Aside0.mk hR0
  clear hg0 hle0 hn0 n0
  go_wp2_with ((with_reducible refine gate_builtin (b := .append) (xs := #[.tmp 10, .tmp 11]) rfl ?_); at_builtin; refine Kd.R_append_rows (Kd.int .u8) (w0 := w) w.heap.size rfl (.tmp 10) (.tmp 11) 31 5 (.int .u8 0) 1 rfl Try.underlying31 info5 rfl (by decide) (by omega) v0 [] l0 _ _ _ (fun _ => True) (fun _ => False) rfl rfl hR0.out (Kd.C_below HR0.out hb0) (fun _ _ h => h) (fun _ h => h.elim) (fun _ _ => trivial) hb0 (hb0).size (by have := HLN.out; simp; omega) ?_)
  intro v1 w1 hR1 hb1 hg1 hat1
  have hR1 := Aside0.mk hR1
  clear hg1 hat1 hb0 hR0
  go_wp2_with ((with_reducible refine gate_builtin (b := .append) (xs := #[.tmp 12, .tmp 13]) rfl ?_); at_builtin; refine Kd.R_append_rows (Kd.int .u8) (w0 := w) w.heap.size rfl (.tmp 12) (.tmp 13) 31 5 (.int .u8 0) 1 rfl Try.underlying31 info5 rfl (by decide) (by omega) v1 l0 l1 _ _ _ (fun _ => True) (fun _ => False) rfl rfl hR1.out (Kd.C_below HR1.out hb1) (fun _ _ h => h) (fun _ h => h.elim) (fun _ _ => trivial) hb1 (hb1).size (by have := HLN.out; simp; omega) ?_)
  intro v2 w2 hR2 hb2 hg2 hat2
  clear hg2 hat2 hb1 hR1
  have hLn : (l0 ++ l1).length < 35184372088832 := by rw [List.length_append]; exact HLN.out
  obtain ⟨L, hL⟩ : ∃ L, L = l0 ++ l1 := ⟨_, rfl⟩
  rw [← hL] at hR2 hLn HR
  clear hL HLN HR0 HR1
  obtain ⟨A, c, rfl⟩ := Kd.R_slice hR2
  obtain ⟨_, hLc, hC⟩ := Kd.R_reads' hR2
  have hcv := own_string (P := Try.prog) Try.underlying31 Try.underlying5 Try.underlying9 (Kd.own_of_R hR2)
  have HR2 := Aside0.mk hR2
  have HB2 := Aside0.mk hb2
  have HC := Aside0.mk hC
  have HLN := Aside0.mk hLn
  have hsz : (strOfNums L).size = L.length := strOfNums_size L
  obtain ⟨s, hs⟩ : ∃ s, s = strOfNums L := ⟨_, rfl⟩
  rw [← hs] at hcv hsz
  have HS := Aside0.mk hs
  have HSZ := Aside0.mk hsz
  clear hR2 hb2 hC hLn hs hsz
  go_wp2
  clear hcv
  go_loopw [7, 8, 9] (fun v _ _ wr => ∃ (pos : Nat) (acc : List Int), Aside0 (wr.heap[w2.heap.size]? = some (.stringIter s pos)) ∧ Aside0 (Kd.R (Kd.int .i32) 21 wr w2.heap.size (fun k => k ≠ w2.heap.size) v acc) ∧ Aside0 (Below w2.heap.size w2 wr) ∧ Aside0 ((acc ++ (Utf.fedFrom s pos).1, (Utf.fedFrom s pos).2) = Utf.fedFrom s 0) ∧ Aside0 (acc.length ≤ pos) ∧ Aside0 (pos ≤ s.size)) (fun _ _ _ wr => s.size - wr.iterPos w2.heap.size)
  case atStart => exact ⟨0, [], ⟨World.iter_heap w2 s 0⟩, ⟨Kd.R_nil _ _ _ _ _⟩, ⟨Below.alloc (Below.refl _ _) (Nat.le_refl _) _⟩, ⟨by simp⟩, ⟨by simp⟩, ⟨by omega⟩⟩
  case round =>
    obtain ⟨pos, acc, hit, hRa, hbw, hacc, hal, hpl⟩ := hrel
    have hszI : w2.heap.size < wr.heap.size := (Array.getElem?_eq_some_iff.1 hit.out).1
    by_cases hp : pos < s.size
    · obtain ⟨c_, wd_, hdec_, _, hwd_, hle_⟩ := Utf.step s pos hp
      have hnx0 : ∀ ty, (Instr.next (.pointer (some ⟨w2.heap.size, 0, none⟩)) true ty).run Try.prog wr = _ := fun ty => Lib.run_next_any_at wr w2.heap.size s pos ty hit.out hp
      rw [hdec_] at hnx0
      have hit2 := Aside0.mk (Lib.iterAt_heap wr w2.heap.size s pos (pos + wd_) hit.out)
      have hbw2 := Aside0.mk (Lib.below_iterAt hbw.out (k := w2.heap.size) (Nat.le_refl _) s (pos + wd_))
      have hRa2 := Aside0.mk (Kd.R_step hRa.out (w1 := wr.iterAt w2.heap.size s (pos + wd_)) (fun k hk _ => Lib.iterAt_other wr w2.heap.size k s (pos + wd_) hk))
      have hs2 : (wr.iterAt w2.heap.size s (pos + wd_)).heap.size = wr.heap.size := Lib.iterAt_size ..
      obtain ⟨W2, hW2⟩ : ∃ W2, W2 = wr.iterAt w2.heap.size s (pos + wd_) := ⟨_, rfl⟩
      rw [← hW2] at hnx0 hit2 hbw2 hRa2 hs2
      have hnx : ∀ ty, (Instr.next (.pointer (some ⟨w2.heap.size, 0, none⟩)) true ty).run Try.prog wr = .ok (.tuple #[.bool true, .int .i64 pos, .int .i32 (c_ : Int)]) W2 := hnx0
      have hsz2 : w2.heap.size < W2.heap.size := by omega
      have HD := Aside0.mk hdec_
      clear hnx0 hdec_ hW2 hs2
      obtain ⟨A', D, hD, hrun, hQ, hcl⟩ := drop_own (P := Try.prog) 31 5 Try.underlying31 info5 (Kd.Q_of_R HR2.out) pos (by have := HSZ.out; omega)
      obtain ⟨_, _, hCd⟩ := Kd.Q_reads' hQ
      have HQ := Aside0.mk hQ
      have HCd := Aside0.mk hCd
      clear hQ hCd
      have hposL : (pos : Int) ≤ (L.length : Int) := by have := HSZ.out; omega
      obtain ⟨b, hb⟩ : ∃ b, b = Utf.pend ((Utf.nats s).drop pos) := ⟨_, rfl⟩
      have HB := Aside0.mk hb
      have HF : Aside0 (utf_Pending.f D = some b) := ⟨by unfold utf_Pending.f; rw [hD, nats_str_drop, ← HS.out, ← HB.out]⟩
      have HDD := Aside0.mk hD
      clear hb hD
      go_wp2_with (go_at_call 45; (with_reducible refine (utf_Pending.calls A' (c - pos) D b W2 (Kd.C_below HCd.out hbw2.out) hcl HF.out).mono ?_))
      (first | rintro e w' rfl hb3 | rintro e w' ⟨rfl, hb3⟩)
      have hbw3 := Aside0.mk (hbw2.out.trans (hb3.mono hbw2.out.size))
      have hit3 : w'.heap[w2.heap.size]? = some (.stringIter s (pos + wd_)) := by rw [hb3.block _ hsz2]; exact hit2.out
      have hRa3 := Aside0.mk (Kd.R_below hRa2.out hb3)
      have hsz3 : w2.heap.size < w'.heap.size := Nat.lt_of_lt_of_le hsz2 hb3.size
      have hit3 := Aside0.mk hit3
      clear hb3
      cases b with
      | true =>
        go_wp2
        go_quiet (fail)
        go_wp2
        go_ret2
        have e := Utf.fed_pend s pos HB.out.symm
        have ha := hacc.out
        rw [e, List.append_nil] at ha
        have hrr := HR.out
        unfold utf_Feed.r at hrr
        rw [← HS.out, ← ha] at hrr
        simp only [Prod.mk.injEq] at hrr
        obtain ⟨e1, e2⟩ := hrr
        have e3 : L.length - (s.size - pos) = pos := by have := HSZ.out; omega
        rw [e3, ← HDD.out] at e2
        subst e1 e2
        have hB := HB2.out.trans (hbw3.out.mono HB2.out.size)
        exact ⟨_, _, rfl, Kd.R_drewN (Kd.R_mono (Kd.R_lower hRa3.out HB2.out.size) (fun _ _ => trivial)) _, Kd.Q_drewN (Kd.Q_below HQ.out hbw3.out) _, pw_below_drewN hB _⟩
      | false =>
        obtain ⟨c2, wd2, hd2, hfed, hw2, hl2⟩ := Utf.fed_step s pos hp HB.out.symm
        rw [HD.out] at hd2
        simp only [Prod.mk.injEq] at hd2
        obtain ⟨rfl, rfl⟩ := hd2
        have HFE := Aside0.mk hfed
        clear hfed hrun
        go_wp2_with (((with_reducible refine gate_builtin (b := .append) (xs := #[.tmp 30, .tmp 32]) rfl ?_); at_builtin; refine Kd.R_append (Kd.int .i32) (w0 := w2) w2.heap.size rfl (.tmp 30) (.tmp 32) 29 21 (.int .i32 0) 4 rfl Try.underlying29 info21 rfl (by decide) (by omega) _ acc (c_ : Int) [.int .i32 c_] (fun k => k ≠ w2.heap.size) (fun _ => False) rfl rfl rfl (fun _ hk => hk.elim) (fun k hk => by omega) hRa3.out hbw3.out (hbw3.out).size (by have := hal.out; have := HSZ.out; have := HLN.out; omega) ?_))
        intro v3 w3 hR3 hb3 hg3 hat3
        have hit4 : w3.heap[w2.heap.size]? = some (.stringIter s (pos + wd_)) := by
          rw [hg3.block _ hsz3 (fun e => hRa3.out.1 _ e.symm rfl)]; exact hit3.out
        have hR3 := Aside0.mk hR3
        have hb3 := Aside0.mk hb3
        have hit4 := Aside0.mk hit4
        clear hat3 hg3
        go_wp2
        go_roundw
        case rel => exact ⟨pos + wd_, acc ++ [(c_ : Int)], hit4, hR3, hb3, ⟨by rw [← hacc.out, HFE.out]; simp⟩, ⟨by have := hal.out; simp; omega⟩, ⟨hle_⟩⟩
        case measure =>
          rw [iterPos_of hit4.out, iterPos_of hit.out]
          omega
    · have hnx : ∀ ty, (Instr.next (.pointer (some ⟨w2.heap.size, 0, none⟩)) true ty).run Try.prog wr = _ := fun ty => Lib.run_next_end_at wr w2.heap.size s pos ty hit.out hp
      have HE := Aside0.mk (Utf.fed_end s pos hp)
      go_wp2
      go_ret2
      have ha := hacc.out
      rw [HE.out, List.append_nil] at ha
      have hrr := HR.out
      unfold utf_Feed.r at hrr
      rw [← HS.out, ← ha] at hrr
      simp only [Prod.mk.injEq, Nat.sub_zero, List.drop_length] at hrr
      obtain ⟨e1, e2⟩ := hrr
      subst e1 e2
      exact ⟨_, _, rfl, Kd.R_mono (Kd.R_lower hRa.out HB2.out.size) (fun _ _ => trivial), Kd.Q_nil _ _ _ _ _, HB2.out.trans (hbw.out.mono HB2.out.size)⟩
end Go.Proofs.Ythpemcchgebecaa.K

namespace Go.Proofs.Ythpemcchgebecaa.PFold
open Go.RowKit Go.Proofs.YthpemcchgebecaaW.PrintWords Go.Proofs.YthpemcchgebecaaW.PrintLast Go.Proofs.YthpemcchgebecaaW.PrintMore Go.Proofs.Ythpemcchgebecaa.K
attribute [local go_sem] max2_int min2_int max_two min_two max_three min_three max_four min_four   -- for this text's walks alone
set_option linter.unusedVariables false
set_option linter.unusedSimpArgs false



def errW : Option Int → Value
  | none => .nilIface
  | some c => .iface 0 (.int .i64 c)
theorem errW_none : errW none = .nilIface := rfl
theorem errW_some (c : Int) : errW (some c) = .iface 0 (.int .i64 c) := rfl

structure S45 where
  f0 : Int
  f1 : Int
  f2 : Int
  f3 : Int
def z45 : S45 := ⟨(0 : Int), (0 : Int), (0 : Int), (0 : Int)⟩
def k45 : Kd S45 := Kd.iso (Kd.pair (Kd.int .i32) (Kd.pair (Kd.int .i32) (Kd.pair (Kd.int .i32) (Kd.int .i32)))) (fun x : S45 => (x.f0, x.f1, x.f2, x.f3))
theorem k45_open {w : World} {x : S45} {cs : List Value} (h : k45.K w x cs) : cs = [.int .i32 x.f0, .int .i32 x.f1, .int .i32 x.f2, .int .i32 x.f3] := by
  obtain ⟨_, _, rfl, rfl, ⟨_, _, rfl, rfl, ⟨_, _, rfl, rfl, rfl⟩⟩⟩ := h
  exact rfl
theorem k45_mkM (w : World) (base : Nat) (ok : Nat → Prop) (x : S45)  : k45.M w base ok x [.int .i32 x.f0, .int .i32 x.f1, .int .i32 x.f2, .int .i32 x.f3] := ⟨[.int .i32 x.f0], [.int .i32 x.f1, .int .i32 x.f2, .int .i32 x.f3], rfl, rfl, ⟨[.int .i32 x.f1], [.int .i32 x.f2, .int .i32 x.f3], rfl, rfl, ⟨[.int .i32 x.f2], [.int .i32 x.f3], rfl, rfl, rfl⟩⟩⟩
def rd_T45 (xs : List S45) (i : Int) : S45 := xs.getD i.toNat z45
theorem at_T45 {w : World} {A : Option Addr} {n : Nat} {xs : List S45} (h : Kd.C k45 w A n xs) (i : Int) (h0 : 0 ≤ i) (h1 : i < n) : ∃ ad , A = some ad ∧ w.cell? (ad.add (i.toNat * 4)) = some (.int .i32 (rd_T45 xs i).f0) ∧ w.cell? ⟨(ad.add (i.toNat * 4)).block, (ad.add (i.toNat * 4)).off + 1, none⟩ = some (.int .i32 (rd_T45 xs i).f1) ∧ w.cell? ⟨(ad.add (i.toNat * 4)).block, (ad.add (i.toNat * 4)).off + 2, none⟩ = some (.int .i32 (rd_T45 xs i).f2) ∧ w.cell? ⟨(ad.add (i.toNat * 4)).block, (ad.add (i.toNat * 4)).off + 3, none⟩ = some (.int .i32 (rd_T45 xs i).f3) := by
  obtain ⟨ad, c, e, _, hK, hc0⟩ := Kd.C_get h z45 i h0 h1
  have hc : ∀ j u, c[j]? = some u → w.cell? (ad.add (i.toNat * 4 + j)) = some u := hc0
  obtain rfl := k45_open hK
  exact ⟨ad, e, hc 0 _ rfl, by rw [← add_field _ _ 1 (by omega)]; exact hc 1 _ rfl, by rw [← add_field _ _ 2 (by omega)]; exact hc 2 _ rfl, by rw [← add_field _ _ 3 (by omega)]; exact hc 3 _ rfl⟩

end Go.Proofs.Ythpemcchgebecaa.PFold

