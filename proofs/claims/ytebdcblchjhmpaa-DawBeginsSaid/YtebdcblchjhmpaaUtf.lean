/- Plain facts on UTF-8: a decoder over lists of byte numbers, what is pending, what is fed; no program in sight. -/
import Derived.Lib.DecodeNEq
import Derived.Laws.Strings
namespace Go.Proofs.Ytebdcblchjhmpaa.Utf
open Go
set_option linter.unusedVariables false
set_option linter.unusedSimpArgs false

/-- May b stand behind a as the second byte of a sequence of three or four? -/
def fits (a b : Nat) : Bool :=
  if a = 0xE0 then decide (0xA0 ≤ b) && decide (b ≤ 0xBF)
  else if a = 0xED then decide (0x80 ≤ b) && decide (b ≤ 0x9F)
  else if a = 0xF0 then decide (0x90 ≤ b) && decide (b ≤ 0xBF)
  else if a = 0xF4 then decide (0x80 ≤ b) && decide (b ≤ 0x8F)
  else decide (0x80 ≤ b) && decide (b ≤ 0xBF)
def cont (b : Nat) : Bool := decide (0x80 ≤ b) && decide (b ≤ 0xBF)
/-- The rune with which bytes begin, and how many bytes it has. -/
def dec : List Nat → Nat × Nat
  | [] => (65533, 1)
  | a :: t =>
    if a < 128 then (a, 1)
    else if 0xC2 ≤ a ∧ a ≤ 0xDF then
      match t with
      | b :: _ => if cont b then (a % 32 * 64 + b % 64, 2) else (65533, 1)
      | [] => (65533, 1)
    else if 0xE0 ≤ a ∧ a ≤ 0xEF then
      match t with
      | b :: c :: _ => if fits a b && cont c then (a % 16 * 4096 + b % 64 * 64 + c % 64, 3) else (65533, 1)
      | _ => (65533, 1)
    else if 0xF0 ≤ a ∧ a ≤ 0xF4 then
      match t with
      | b :: c :: d :: _ => if fits a b && cont c && cont d then (a % 8 * 262144 + b % 64 * 4096 + c % 64 * 64 + d % 64, 4) else (65533, 1)
      | _ => (65533, 1)
    else (65533, 1)
/-- Are these bytes the begin of a sequence? -/
def pend : List Nat → Bool
  | [a] => decide (0xC2 ≤ a) && decide (a ≤ 0xF4)
  | [a, b] => decide (0xE0 ≤ a) && decide (a ≤ 0xF4) && fits a b
  | [a, b, c] => decide (0xF0 ≤ a) && decide (a ≤ 0xF4) && fits a b && cont c
  | _ => false

theorem dec_pos (l : List Nat) : 1 ≤ (dec l).2 := by
  unfold dec
  repeat' split
  all_goals simp
theorem dec_le (l : List Nat) (h : l ≠ []) : (dec l).2 ≤ l.length := by
  unfold dec
  repeat' split
  all_goals simp_all
theorem dec_le4 (l : List Nat) : (dec l).2 ≤ 4 := by
  unfold dec
  repeat' split
  all_goals simp

/-- What is no begin of a sequence is read as it is, whatever stands behind it. -/
theorem dec_append (x y : List Nat) (hx : x ≠ []) (hp : pend x = false) : dec (x ++ y) = dec x := by
  match x, hx with
  | [a], _ =>
    simp [pend] at hp
    by_cases h1 : a < 128
    · simp [dec, h1]
    · have h2 : ¬ (0xC2 ≤ a ∧ a ≤ 0xDF) := by omega
      have h3 : ¬ (0xE0 ≤ a ∧ a ≤ 0xEF) := by omega
      have h4 : ¬ (0xF0 ≤ a ∧ a ≤ 0xF4) := by omega
      simp only [dec, List.cons_append, List.nil_append, if_neg h1, if_neg h2, if_neg h3, if_neg h4]
  | [a, b], _ =>
    by_cases h1 : a < 128
    · simp [dec, h1]
    by_cases h2 : 0xC2 ≤ a ∧ a ≤ 0xDF
    · simp [dec, h1, h2]
    by_cases h3 : 0xE0 ≤ a ∧ a ≤ 0xEF
    · have hf : fits a b = false := by
        cases h : fits a b
        · rfl
        · simp [pend, h] at hp; omega
      cases y <;> simp [dec, h1, h2, h3, hf]
    by_cases h4 : 0xF0 ≤ a ∧ a ≤ 0xF4
    · have hf : fits a b = false := by
        cases h : fits a b
        · rfl
        · simp [pend, h] at hp; omega
      simp only [dec, List.cons_append, List.nil_append, h1, h2, h3, h4, if_false, if_true, and_self]
      match y with
      | [] => rfl
      | [c] => rfl
      | c :: d :: _ => simp [hf]
    · simp [dec, h1, h2, h3, h4]
  | [a, b, c], _ =>
    by_cases h1 : a < 128
    · simp [dec, h1]
    by_cases h2 : 0xC2 ≤ a ∧ a ≤ 0xDF
    · simp [dec, h1, h2]
    by_cases h3 : 0xE0 ≤ a ∧ a ≤ 0xEF
    · simp [dec, h1, h2, h3]
    by_cases h4 : 0xF0 ≤ a ∧ a ≤ 0xF4
    · have hf : (fits a b && cont c) = false := by
        cases h : fits a b && cont c
        · rfl
        · simp only [pend, Bool.and_assoc, h] at hp; simp at hp; omega
      simp only [dec, List.cons_append, List.nil_append, h1, h2, h3, h4, if_false, if_true, and_self]
      match y with
      | [] => rfl
      | d :: _ => simp [hf]
    · simp [dec, h1, h2, h3, h4]
  | a :: b :: c :: d :: t, _ =>
    simp only [dec, List.cons_append]
/-- What is no begin of a sequence, begins none with more behind it. -/
theorem pend_append (x y : List Nat) (hx : x ≠ []) (hp : pend x = false) : pend (x ++ y) = false := by
  match x, hx with
  | [a], _ =>
    simp [pend] at hp
    match y with
    | [] => simp [pend]; omega
    | [b] => simp [pend]; omega
    | [b, c] => simp [pend]; omega
    | b :: c :: d :: _ => simp [pend]
  | [a, b], _ =>
    match y with
    | [] => simpa using hp
    | [c] =>
      cases h : fits a b
      · simp [pend, h]
      · simp [pend, h] at hp ⊢; omega
    | c :: d :: _ => simp [pend]
  | [a, b, c], _ =>
    match y with
    | [] => simpa using hp
    | d :: _ => simp [pend]
  | a :: b :: c :: d :: t, _ => simp [pend]
theorem pend_len (l : List Nat) (h : pend l = true) : 1 ≤ l.length ∧ l.length ≤ 3 := by
  match l with
  | [] => simp [pend] at h
  | [a] => simp
  | [a, b] => simp
  | [a, b, c] => simp
  | a :: b :: c :: d :: t => simp [pend] at h
theorem pend_nil : pend [] = false := rfl

/-- All runes of bytes. -/
def all (l : List Nat) : List Nat :=
  if h : l = [] then [] else (dec l).1 :: all (l.drop (dec l).2)
termination_by l.length
decreasing_by
  have := dec_pos l
  have : 0 < l.length := List.length_pos_iff.2 h
  simp; omega
/-- The runes ahead of what is pending, and that. -/
def feed (l : List Nat) : List Nat × List Nat :=
  if h : l = [] then ([], [])
  else if pend l then ([], l)
  else ((dec l).1 :: (feed (l.drop (dec l).2)).1, (feed (l.drop (dec l).2)).2)
termination_by l.length
decreasing_by
  all_goals
    have := dec_pos l
    have : 0 < l.length := List.length_pos_iff.2 h
    simp; omega
theorem all_nil : all [] = [] := by rw [all]; simp
theorem all_ne (l : List Nat) (h : l ≠ []) : all l = (dec l).1 :: all (l.drop (dec l).2) := by rw [all]; simp [h]
theorem feed_nil : feed [] = ([], []) := by rw [feed]; simp
theorem feed_pend (l : List Nat) (h : pend l = true) : feed l = ([], l) := by
  have hne : l ≠ [] := by rintro rfl; simp [pend] at h
  rw [feed]; simp [hne, h]
theorem feed_step (l : List Nat) (hne : l ≠ []) (h : pend l = false) : feed l = ((dec l).1 :: (feed (l.drop (dec l).2)).1, (feed (l.drop (dec l).2)).2) := by
  rw [feed]; simp [hne, h]

theorem drop_append_le (x y : List Nat) (n : Nat) (h : n ≤ x.length) : (x ++ y).drop n = x.drop n ++ y := by
  rw [List.drop_append_of_le_length h]

/-- What is fed in two parts is fed as at once. -/
theorem feed_append (x y : List Nat) : feed (x ++ y) = ((feed x).1 ++ (feed ((feed x).2 ++ y)).1, (feed ((feed x).2 ++ y)).2) := by
  match h : x.length with
  | n =>
    induction n using Nat.strongRecOn generalizing x with
    | ind n ih =>
      by_cases hx : x = []
      · subst hx; simp [feed_nil]
      · cases hp : pend x with
        | true => rw [feed_pend x hp]; simp
        | false =>
          have hd := dec_append x y hx hp
          have hpa := pend_append x y hx hp
          have hl := dec_le x hx
          have h1 := dec_pos x
          have hxy : x ++ y ≠ [] := by simp [hx]
          rw [feed_step (x ++ y) hxy hpa, feed_step x hx hp, hd, drop_append_le x y _ hl]
          have hlen : (x.drop (dec x).2).length < n := by
            have : 0 < x.length := List.length_pos_iff.2 hx
            simp; omega
          have := ih _ hlen (x.drop (dec x).2) rfl
          rw [this]
          simp
/-- What is pending ends the bytes. -/
theorem feed_suffix (x : List Nat) : ∃ z, x = z ++ (feed x).2 := by
  match h : x.length with
  | n =>
    induction n using Nat.strongRecOn generalizing x with
    | ind n ih =>
      by_cases hx : x = []
      · subst hx; exact ⟨[], by simp [feed_nil]⟩
      · cases hp : pend x with
        | true => exact ⟨[], by rw [feed_pend x hp]; simp⟩
        | false =>
          have h1 := dec_pos x
          have hlen : (x.drop (dec x).2).length < n := by
            have : 0 < x.length := List.length_pos_iff.2 hx
            simp; omega
          obtain ⟨z, hz⟩ := ih _ hlen (x.drop (dec x).2) rfl
          refine ⟨x.take (dec x).2 ++ z, ?_⟩
          rw [feed_step x hx hp]
          simp only [List.append_assoc]
          rw [← hz, List.take_append_drop]
theorem feed_pending (x : List Nat) : (feed x).2 = [] ∨ pend (feed x).2 = true := by
  match h : x.length with
  | n =>
    induction n using Nat.strongRecOn generalizing x with
    | ind n ih =>
      by_cases hx : x = []
      · subst hx; left; simp [feed_nil]
      · cases hp : pend x with
        | true => right; rw [feed_pend x hp]; exact hp
        | false =>
          have h1 := dec_pos x
          have hlen : (x.drop (dec x).2).length < n := by
            have : 0 < x.length := List.length_pos_iff.2 hx
            simp; omega
          rw [feed_step x hx hp]
          exact ih _ hlen (x.drop (dec x).2) rfl
/-- All runes: those fed, and those of what is pending. -/
theorem all_feed (x : List Nat) : all x = (feed x).1 ++ all (feed x).2 := by
  match h : x.length with
  | n =>
    induction n using Nat.strongRecOn generalizing x with
    | ind n ih =>
      by_cases hx : x = []
      · subst hx; simp [feed_nil, all_nil]
      · cases hp : pend x with
        | true => rw [feed_pend x hp]; simp
        | false =>
          have h1 := dec_pos x
          have hlen : (x.drop (dec x).2).length < n := by
            have : 0 < x.length := List.length_pos_iff.2 hx
            simp; omega
          rw [feed_step x hx hp, all_ne x hx]
          have := ih _ hlen (x.drop (dec x).2) rfl
          rw [this]; simp
theorem all_length (x : List Nat) : (all x).length ≤ x.length := by
  match h : x.length with
  | n =>
    induction n using Nat.strongRecOn generalizing x with
    | ind n ih =>
      by_cases hx : x = []
      · subst hx; simp [all_nil]
      · have h1 := dec_pos x
        have h0 : 0 < x.length := List.length_pos_iff.2 hx
        have hlen : (x.drop (dec x).2).length < n := by simp; omega
        rw [all_ne x hx]
        have := ih _ hlen (x.drop (dec x).2) rfl
        simp at this ⊢; omega

/-! ### It is the model's own -/
theorem fits_iff (a b : Nat) : fits a b = true ↔ 0x80 ≤ b ∧ b ≤ 0xBF ∧ (a = 0xE0 → 0xA0 ≤ b) ∧ (a = 0xED → b ≤ 0x9F) ∧ (a = 0xF0 → 0x90 ≤ b) ∧ (a = 0xF4 → b ≤ 0x8F) := by
  unfold fits
  repeat' split
  all_goals
    simp only [Bool.and_eq_true, decide_eq_true_eq]
    omega
theorem cont_iff (b : Nat) : cont b = true ↔ 0x80 ≤ b ∧ b ≤ 0xBF := by simp [cont]
theorem ite_both {α : Type} {p q : Prop} [Decidable p] [Decidable q] {x y z : α} (h : q ↔ p) (hx : p → x = y) : (if p then x else z) = if q then y else z := by
  by_cases hp : p
  · rw [if_pos hp, if_pos (h.2 hp), hx hp]
  · rw [if_neg hp, if_neg (fun hq => hp (h.1 hq))]
theorem ite_two {α : Type} {p q r : Prop} [Decidable p] [Decidable q] [Decidable r] {x z : α} (h : r ↔ p ∧ q) : (if p then (if q then x else z) else z) = if r then x else z := by
  by_cases hp : p
  · by_cases hq : q
    · rw [if_pos hp, if_pos hq, if_pos (h.2 ⟨hp, hq⟩)]
    · rw [if_pos hp, if_neg hq, if_neg (fun hr => hq (h.1 hr).2)]
  · rw [if_neg hp, if_neg (fun hr => hp (h.1 hr).1)]
/-- The decoder's classes by the first byte. -/
theorem decodeN_1 (n a b c d : Nat) (h : a < 128) : Lib.decodeN n a b c d = (a, 1) := by simp [Lib.decodeN, h]
theorem decodeN_bad (n a b c d : Nat) (h0 : a < 256) (h : ¬ a < 128) (h2 : ¬ (0xC2 ≤ a ∧ a ≤ 0xDF)) (h3 : ¬ (0xE0 ≤ a ∧ a ≤ 0xEF)) (h4 : ¬ (0xF0 ≤ a ∧ a ≤ 0xF4)) : Lib.decodeN n a b c d = (65533, 1) := by
  unfold Lib.decodeN
  rw [if_neg h]
  repeat' split
  all_goals first | rfl | (exfalso; omega)
theorem decodeN_2 (n a b c d : Nat) (h : 0xC2 ≤ a ∧ a ≤ 0xDF) (hb : b < 256) : Lib.decodeN n a b c d = if 1 < n ∧ cont b = true then (a % 32 * 64 + b % 64, 2) else (65533, 1) := by
  unfold Lib.decodeN
  rw [if_neg (by omega), if_neg (show ¬ (a / 16 = 14 ∧ _) by omega), if_neg (show ¬ (a / 8 = 30 ∧ _) by omega)]
  exact ite_two (by rw [cont_iff]; omega)
theorem decodeN_3 (n a b c d : Nat) (h : 0xE0 ≤ a ∧ a ≤ 0xEF) (hb : b < 256) (hc : c < 256) : Lib.decodeN n a b c d = if 2 < n ∧ (fits a b && cont c) = true then (a % 16 * 4096 + b % 64 * 64 + c % 64, 3) else (65533, 1) := by
  unfold Lib.decodeN
  rw [if_neg (by omega), if_neg (show ¬ (a / 32 = 6 ∧ _) by omega), if_neg (show ¬ (a / 8 = 30 ∧ _) by omega)]
  exact ite_two (by rw [Bool.and_eq_true, fits_iff, cont_iff]; omega)
theorem decodeN_4 (n a b c d : Nat) (h : 0xF0 ≤ a ∧ a ≤ 0xF4) (hb : b < 256) (hc : c < 256) (hd : d < 256) : Lib.decodeN n a b c d = if 3 < n ∧ (fits a b && cont c && cont d) = true then (a % 8 * 262144 + b % 64 * 4096 + c % 64 * 64 + d % 64, 4) else (65533, 1) := by
  unfold Lib.decodeN
  rw [if_neg (by omega), if_neg (show ¬ (a / 32 = 6 ∧ _) by omega), if_neg (show ¬ (a / 16 = 14 ∧ _) by omega)]
  exact ite_two (by rw [Bool.and_eq_true, Bool.and_eq_true, fits_iff, cont_iff, cont_iff]; omega)
theorem decodeN_dec (l : List Nat) (hne : l ≠ []) (hb : ∀ x ∈ l, x < 256) : Lib.decodeN l.length (l.getD 0 0) (l.getD 1 0) (l.getD 2 0) (l.getD 3 0) = dec l := by
  have hg : ∀ k, l.getD k 0 < 256 := by
    intro k
    rw [List.getD_eq_getElem?_getD]
    cases h : l[k]? with
    | none => simp
    | some x => exact hb x (List.mem_of_getElem? h)
  match l, hne with
  | a :: t, _ =>
    by_cases h1 : a < 128
    · simp [decodeN_1, dec, h1]
    by_cases h2 : 0xC2 ≤ a ∧ a ≤ 0xDF
    · rw [show (a :: t).getD 0 0 = a from rfl, decodeN_2 _ _ _ _ _ h2 (hg 1)]
      cases t with
      | nil => simp [dec, h1, h2]
      | cons b t => simp [dec, h1, h2]
    by_cases h3 : 0xE0 ≤ a ∧ a ≤ 0xEF
    · rw [show (a :: t).getD 0 0 = a from rfl, decodeN_3 _ _ _ _ _ h3 (hg 1) (hg 2)]
      match t with
      | [] => simp [dec, h1, h2]
      | [b] => simp [dec, h1, h2]
      | b :: c :: t => simp [dec, h1, h2, h3]
    by_cases h4 : 0xF0 ≤ a ∧ a ≤ 0xF4
    · rw [show (a :: t).getD 0 0 = a from rfl, decodeN_4 _ _ _ _ _ h4 (hg 1) (hg 2) (hg 3)]
      match t with
      | [] => simp [dec, h1, h2, h3]
      | [b] => simp [dec, h1, h2, h3]
      | [b, c] => simp [dec, h1, h2, h3]
      | b :: c :: d :: t => simp [dec, h1, h2, h3, h4]
    · have hg0 : a < 256 := hg 0
      rw [show (a :: t).getD 0 0 = a from rfl, decodeN_bad _ _ _ _ _ hg0 h1 h2 h3 h4]
      simp [dec, h1, h2, h3, h4]
/-- The bytes of a string, as numbers. -/
def nats (s : ByteArray) : List Nat := s.data.toList.map fun b => b.toNat
theorem nats_length (s : ByteArray) : (nats s).length = s.size := by simp [nats]
theorem nats_lt (s : ByteArray) : ∀ x ∈ nats s, x < 256 := by
  intro x hx
  simp only [nats, List.mem_map] at hx
  obtain ⟨b, _, rfl⟩ := hx
  exact b.toNat_lt
theorem nats_get (s : ByteArray) (i : Nat) : (nats s).getD i 0 = (s.get! i).toNat := by
  have h1 : s.get! i = s.data[i]! := rfl
  rw [h1]
  simp only [nats, List.getD_eq_getElem?_getD, List.getElem?_map, Array.getElem?_toList, getElem!_def]
  cases s.data[i]? <;> rfl
theorem decode_dec (s : ByteArray) (i : Nat) (h : i < s.size) : Utf8.decode s i = dec ((nats s).drop i) := by
  rw [Lib.decode_at, ← decodeN_dec _ (by intro e; have := congrArg List.length e; simp [nats_length] at this; omega) (fun x hx => nats_lt s x (List.mem_of_mem_drop hx))]
  have e : ∀ k, ((nats s).drop i).getD k 0 = (s.get! (i + k)).toNat := by
    intro k
    rw [← nats_get]
    simp [List.getD_eq_getElem?_getD, List.getElem?_drop]
  rw [e, e, e, e, List.length_drop, nats_length]
  rfl
/-- The runes of a string, as Go's ints. -/
def runesFrom (s : ByteArray) (pos : Nat) : List Int := (all ((nats s).drop pos)).map fun n : Nat => (n : Int)
def runesZ (s : ByteArray) : List Int := runesFrom s 0
theorem runesFrom_end (s : ByteArray) (pos : Nat) (h : ¬ pos < s.size) : runesFrom s pos = [] := by
  unfold runesFrom
  rw [List.drop_of_length_le (by rw [nats_length]; omega), all_nil]
  rfl
theorem step (s : ByteArray) (pos : Nat) (h : pos < s.size) : ∃ c wd : Nat, Utf8.decode s pos = (c, wd) ∧ runesFrom s pos = (c : Int) :: runesFrom s (pos + wd) ∧ 1 ≤ wd ∧ pos + wd ≤ s.size := by
  have hne : (nats s).drop pos ≠ [] := by
    intro e
    have := congrArg List.length e
    simp [nats_length] at this
    omega
  refine ⟨(dec ((nats s).drop pos)).1, (dec ((nats s).drop pos)).2, decode_dec s pos h, ?_, dec_pos _, ?_⟩
  · unfold runesFrom
    rw [all_ne _ hne, List.drop_drop]
    rfl
  · have := dec_le _ hne
    rw [List.length_drop, nats_length] at this
    omega
/-- What is fed from a place on: the runes, and how many bytes are pending. -/
def fedFrom (s : ByteArray) (pos : Nat) : List Int × Nat := ((feed ((nats s).drop pos)).1.map fun n : Nat => (n : Int), (feed ((nats s).drop pos)).2.length)
theorem drop_ne (s : ByteArray) (pos : Nat) (h : pos < s.size) : (nats s).drop pos ≠ [] := by
  intro e
  have := congrArg List.length e
  simp [nats_length] at this
  omega
theorem fed_end (s : ByteArray) (pos : Nat) (h : ¬ pos < s.size) : fedFrom s pos = ([], 0) := by
  unfold fedFrom
  rw [List.drop_of_length_le (by rw [nats_length]; omega), feed_nil]
  rfl
theorem fed_pend (s : ByteArray) (pos : Nat) (h : pend ((nats s).drop pos) = true) : fedFrom s pos = ([], s.size - pos) := by
  unfold fedFrom
  rw [feed_pend _ h]
  simp [nats_length]
theorem fed_step (s : ByteArray) (pos : Nat) (h : pos < s.size) (hp : pend ((nats s).drop pos) = false) : ∃ c wd : Nat, Utf8.decode s pos = (c, wd) ∧ fedFrom s pos = ((c : Int) :: (fedFrom s (pos + wd)).1, (fedFrom s (pos + wd)).2) ∧ 1 ≤ wd ∧ pos + wd ≤ s.size := by
  have hne := drop_ne s pos h
  refine ⟨(dec ((nats s).drop pos)).1, (dec ((nats s).drop pos)).2, decode_dec s pos h, ?_, dec_pos _, ?_⟩
  · unfold fedFrom
    rw [feed_step _ hne hp, List.drop_drop]
    rfl
  · have := dec_le _ hne
    rw [List.length_drop, nats_length] at this
    omega

/-! ### One well-formed sequence of more than a byte -/
def wellL (l : List Nat) : Bool := decide ((dec l).2 = l.length) && decide (1 < l.length)
def well (s : ByteArray) : Bool :=
  if s.size = 0 then false
  else decide (s.size = (Utf8.encode (Utf8.decode s 0).1).size) && (decide (1 < s.size) && (decide ((Utf8.decode s 0).1 ≠ 65533) || (s.toList == [239, 191, 189])))
theorem dec_classes (l : List Nat) (hne : l ≠ []) (hb : ∀ x ∈ l, x < 256) :
    (∃ a t, l = a :: t ∧ a < 128 ∧ dec l = (a, 1)) ∨
    (∃ a b t, l = a :: b :: t ∧ 0xC2 ≤ a ∧ a ≤ 0xDF ∧ 0x80 ≤ b ∧ b ≤ 0xBF ∧ dec l = (a % 32 * 64 + b % 64, 2)) ∨
    (∃ a b c t, l = a :: b :: c :: t ∧ 0xE0 ≤ a ∧ a ≤ 0xEF ∧ fits a b = true ∧ 0x80 ≤ c ∧ c ≤ 0xBF ∧ dec l = (a % 16 * 4096 + b % 64 * 64 + c % 64, 3)) ∨
    (∃ a b c d t, l = a :: b :: c :: d :: t ∧ 0xF0 ≤ a ∧ a ≤ 0xF4 ∧ fits a b = true ∧ 0x80 ≤ c ∧ c ≤ 0xBF ∧ 0x80 ≤ d ∧ d ≤ 0xBF ∧ dec l = (a % 8 * 262144 + b % 64 * 4096 + c % 64 * 64 + d % 64, 4)) ∨
    dec l = (65533, 1) := by
  match l, hne with
  | a :: t, _ =>
    by_cases h1 : a < 128
    · left; exact ⟨a, t, rfl, h1, by simp [dec, h1]⟩
    by_cases h2 : 0xC2 ≤ a ∧ a ≤ 0xDF
    · match t with
      | [] => right; right; right; right; simp [dec, h1, h2]
      | b :: t =>
        cases hc : cont b
        · right; right; right; right; simp [dec, h1, h2, hc]
        · have := (cont_iff b).1 hc
          right; left; exact ⟨a, b, t, rfl, h2.1, h2.2, this.1, this.2, by simp [dec, h1, h2, hc]⟩
    by_cases h3 : 0xE0 ≤ a ∧ a ≤ 0xEF
    · match t with
      | [] => right; right; right; right; simp [dec, h1, h2]
      | [b] => right; right; right; right; simp [dec, h1, h2]
      | b :: c :: t =>
        cases hf : (fits a b && cont c)
        · right; right; right; right; simp only [dec, h1, h2, h3, hf, if_false, if_true, and_self]; rfl
        · rw [Bool.and_eq_true] at hf
          have := (cont_iff c).1 hf.2
          right; right; left; exact ⟨a, b, c, t, rfl, h3.1, h3.2, hf.1, this.1, this.2, by simp [dec, h1, h2, h3, hf.1, hf.2]⟩
    by_cases h4 : 0xF0 ≤ a ∧ a ≤ 0xF4
    · match t with
      | [] => right; right; right; right; simp [dec, h1, h2, h3]
      | [b] => right; right; right; right; simp [dec, h1, h2, h3]
      | [b, c] => right; right; right; right; simp [dec, h1, h2, h3]
      | b :: c :: d :: t =>
        cases hf : (fits a b && cont c && cont d)
        · right; right; right; right; simp only [dec, h1, h2, h3, h4, hf, if_false, if_true, and_self]; rfl
        · rw [Bool.and_eq_true, Bool.and_eq_true] at hf
          have e1 := (cont_iff c).1 hf.1.2
          have e2 := (cont_iff d).1 hf.2
          right; right; right; left; exact ⟨a, b, c, d, t, rfl, h4.1, h4.2, hf.1.1, e1.1, e1.2, e2.1, e2.2, by simp [dec, h1, h2, h3, h4, hf.1.1, hf.1.2, hf.2]⟩
    · right; right; right; right; simp [dec, h1, h2, h3, h4]
theorem encode_size1 (c : Nat) (h : c < 128) : (Utf8.encode (c : Int)).size = 1 := by
  have hv : Utf8.valid (c : Int) = true := by simp [Utf8.valid]; omega
  unfold Utf8.encode
  simp only [hv, if_true, Int.toNat_natCast]
  rw [if_pos h]; rfl
theorem encode_size2 (c : Nat) (h1 : 128 ≤ c) (h2 : c < 2048) : (Utf8.encode (c : Int)).size = 2 := by
  have hv : Utf8.valid (c : Int) = true := by simp [Utf8.valid]; omega
  unfold Utf8.encode
  simp only [hv, if_true, Int.toNat_natCast]
  rw [if_neg (by omega), if_pos h2]; rfl
theorem encode_size3 (c : Nat) (h1 : 2048 ≤ c) (h2 : c < 65536) (hs : c < 0xD800 ∨ 0xE000 ≤ c) : (Utf8.encode (c : Int)).size = 3 := by
  have hv : Utf8.valid (c : Int) = true := by simp [Utf8.valid]; omega
  unfold Utf8.encode
  simp only [hv, if_true, Int.toNat_natCast]
  rw [if_neg (by omega), if_neg (by omega), if_pos h2]; rfl
theorem encode_size4 (c : Nat) (h1 : 65536 ≤ c) (h2 : c ≤ 0x10FFFF) : (Utf8.encode (c : Int)).size = 4 := by
  have hv : Utf8.valid (c : Int) = true := by simp [Utf8.valid]; omega
  unfold Utf8.encode
  simp only [hv, if_true, Int.toNat_natCast]
  rw [if_neg (by omega), if_neg (by omega), if_neg (by omega)]; rfl
theorem toList_nats (s : ByteArray) (l : List UInt8) : (s.toList == l) = (nats s == l.map fun b => b.toNat) := by
  rw [ByteArray.toList_eq, Bool.eq_iff_iff, beq_iff_eq, beq_iff_eq, nats]
  constructor
  · intro h; rw [h]
  · intro h
    exact List.map_inj_right (fun a b h => UInt8.toNat_inj.1 h) |>.1 h
theorem well_eq (s : ByteArray) : well s = wellL (nats s) := by
  unfold well wellL
  by_cases h0 : s.size = 0
  · rw [if_pos h0, nats_length, h0]; simp
  rw [if_neg h0, decode_dec s 0 (by omega), List.drop_zero, toList_nats, ← nats_length]
  have hne : nats s ≠ [] := by
    intro e
    have := congrArg List.length e
    rw [nats_length] at this
    exact h0 this
  have hb := nats_lt s
  generalize nats s = l at hne hb ⊢
  rcases dec_classes l hne hb with ⟨a, t, rfl, ha, hd⟩ | ⟨a, b, t, rfl, h1, h2, h3, h4, hd⟩ | ⟨a, b, c, t, rfl, h1, h2, h3, h4, h5, hd⟩ | ⟨a, b, c, d, t, rfl, h1, h2, h3, h4, h5, h6, h7, hd⟩ | hd
  · rw [hd]; simp only [encode_size1 a ha]
    rw [Bool.eq_iff_iff]
    simp only [Bool.and_eq_true, decide_eq_true_eq]
    omega
  · rw [hd]; simp only []
    rw [encode_size2 _ (by omega) (by omega), Bool.eq_iff_iff]
    simp only [Bool.and_eq_true, Bool.or_eq_true, decide_eq_true_eq]
    have : a % 32 * 64 + b % 64 ≠ 65533 := by omega
    simp only [this, ne_eq, not_false_eq_true, true_or, and_true]
    omega
  · rw [hd]; simp only []
    rw [fits_iff] at h3
    rw [encode_size3 _ (by omega) (by omega) (by omega), Bool.eq_iff_iff]
    simp only [Bool.and_eq_true, Bool.or_eq_true, decide_eq_true_eq, beq_iff_eq]
    constructor
    · intro h; exact ⟨by omega, h.2.1⟩
    · intro h
      refine ⟨by omega, h.2, ?_⟩
      by_cases hc : a % 16 * 4096 + b % 64 * 64 + c % 64 = 65533
      · right
        have : t = [] := by
          have := h.1
          simp only [List.length_cons] at this
          exact List.eq_nil_of_length_eq_zero (by omega)
        subst this
        have e1 : a = 0xEF := by omega
        have e2 : b = 0xBF := by omega
        have e3 : c = 0xBD := by omega
        subst e1 e2 e3; rfl
      · left; exact hc
  · rw [hd]; simp only []
    rw [fits_iff] at h3
    rw [encode_size4 _ (by omega) (by omega), Bool.eq_iff_iff]
    simp only [Bool.and_eq_true, Bool.or_eq_true, decide_eq_true_eq, beq_iff_eq]
    have : a % 8 * 262144 + b % 64 * 4096 + c % 64 * 64 + d % 64 ≠ 65533 := by omega
    simp only [this, ne_eq, not_false_eq_true, true_or, and_true]
    omega
  · rw [hd]; simp only []
    rw [encode_size3 65533 (by omega) (by omega) (by omega), Bool.eq_iff_iff]
    simp only [Bool.and_eq_true, Bool.or_eq_true, decide_eq_true_eq, beq_iff_eq]
    constructor
    · rintro ⟨h, _, h2 | h2⟩
      · exact absurd rfl h2
      · rw [h2] at hd; exact absurd hd (by decide)
    · intro h; omega
def tails : List (List Nat) := [[0x80], [0x80, 0x80], [0x80, 0x80, 0x80], [0x90, 0x80, 0x80], [0xA0, 0x80], [0x90, 0x80]]
theorem pend_well (l : List Nat) (h1 : 1 ≤ l.length) (h3 : l.length ≤ 3) : pend l = tails.any fun t => wellL (l ++ t) := by
  cases hp : pend l with
  | false =>
    symm
    rw [List.any_eq_false]
    intro t ht
    have hne : l ≠ [] := by intro e; rw [e] at h1; simp at h1
    unfold wellL
    rw [dec_append l t hne hp]
    have := dec_le l hne
    have ht0 : 0 < t.length := by
      simp only [tails, List.mem_cons, List.not_mem_nil, or_false] at ht
      rcases ht with rfl | rfl | rfl | rfl | rfl | rfl <;> simp
    simp only [Bool.and_eq_true, decide_eq_true_eq, List.length_append]
    omega
  | true =>
    symm
    rw [List.any_eq_true]
    match l with
    | [] => simp at h1
    | [a] =>
      simp only [pend, Bool.and_eq_true, decide_eq_true_eq] at hp
      have ha : ¬ a < 128 := by omega
      by_cases h2 : a ≤ 0xDF
      · exact ⟨[0x80], by simp [tails], by simp [wellL, dec, ha, hp.1, h2, cont]⟩
      have h2' : ¬ (0xC2 ≤ a ∧ a ≤ 0xDF) := by omega
      by_cases h3 : a ≤ 0xEF
      · have h3' : 0xE0 ≤ a ∧ a ≤ 0xEF := by omega
        by_cases h4 : a = 0xE0
        · subst h4; exact ⟨[0xA0, 0x80], by simp [tails], by decide⟩
        · refine ⟨[0x80, 0x80], by simp [tails], ?_⟩
          have hf : fits a 0x80 = true := by rw [fits_iff]; omega
          simp [wellL, dec, ha, h2', h3', hf, cont]
      have h3' : ¬ (0xE0 ≤ a ∧ a ≤ 0xEF) := by omega
      have h4' : 0xF0 ≤ a ∧ a ≤ 0xF4 := by omega
      by_cases h5 : a = 0xF0
      · subst h5; exact ⟨[0x90, 0x80, 0x80], by simp [tails], by decide⟩
      · refine ⟨[0x80, 0x80, 0x80], by simp [tails], ?_⟩
        have hf : fits a 0x80 = true := by rw [fits_iff]; omega
        simp [wellL, dec, ha, h2', h3', h4', hf, cont]
    | [a, b] =>
      simp only [pend, Bool.and_eq_true, decide_eq_true_eq] at hp
      obtain ⟨⟨ha1, ha2⟩, hf⟩ := hp
      have ha : ¬ a < 128 := by omega
      have h2' : ¬ (0xC2 ≤ a ∧ a ≤ 0xDF) := by omega
      by_cases h3' : 0xE0 ≤ a ∧ a ≤ 0xEF
      · exact ⟨[0x80], by simp [tails], by simp [wellL, dec, ha, h2', h3', hf, cont]⟩
      · have h4' : 0xF0 ≤ a ∧ a ≤ 0xF4 := by omega
        exact ⟨[0x80, 0x80], by simp [tails], by simp [wellL, dec, ha, h2', h3', h4', hf, cont]⟩
    | [a, b, c] =>
      simp only [pend, Bool.and_eq_true, decide_eq_true_eq] at hp
      obtain ⟨⟨⟨ha1, ha2⟩, hf⟩, hc⟩ := hp
      have ha : ¬ a < 128 := by omega
      have h2' : ¬ (0xC2 ≤ a ∧ a ≤ 0xDF) := by omega
      have h3' : ¬ (0xE0 ≤ a ∧ a ≤ 0xEF) := by omega
      have h4' : 0xF0 ≤ a ∧ a ≤ 0xF4 := by omega
      have hd : cont 0x80 = true := by decide
      exact ⟨[0x80], by simp [tails], by simp [wellL, dec, ha, h2', h3', h4', hf, hc, hd]⟩
    | a :: b :: c :: d :: t => simp at h3
end Go.Proofs.Ytebdcblchjhmpaa.Utf
