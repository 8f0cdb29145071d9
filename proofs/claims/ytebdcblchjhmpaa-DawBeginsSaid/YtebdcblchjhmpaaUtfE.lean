/- Runes written as bytes and read again. -/
import Derived.Test.YtebdcblchjhmpaaUtf
import Derived.Laws.Cover4
namespace Go.Proofs.Ytebdcblchjhmpaa.Utf
set_option linter.unusedVariables false
set_option linter.unusedSimpArgs false
def okR (c : Nat) : Prop := c < 0xD800 ∨ (0xE000 ≤ c ∧ c ≤ 0x10FFFF)
def sane (r : Int) : Int := if Utf8.valid r = true then r else 65533
theorem valid_iff (r : Int) : Utf8.valid r = true ↔ 0 ≤ r ∧ okR r.toNat := by
  unfold Utf8.valid okR
  simp only [Bool.or_eq_true, Bool.and_eq_true, decide_eq_true_eq]
  omega
theorem sane_ok (r : Int) : 0 ≤ sane r ∧ okR (sane r).toNat := by
  unfold sane
  by_cases h : Utf8.valid r = true
  · rw [if_pos h]; exact (valid_iff r).1 h
  · rw [if_neg h]; exact ⟨by decide, by unfold okR; decide⟩
theorem sane_of (c : Nat) (h : okR c) : sane (c : Int) = c := by
  unfold sane; rw [if_pos ((valid_iff _).2 ⟨by omega, by simpa using h⟩)]
theorem sane_sane (r : Int) : sane (sane r) = sane r := by
  have := sane_ok r
  generalize sane r = x at this
  unfold sane; rw [if_pos ((valid_iff _).2 this)]
def code (c : Nat) : List Nat :=
  if c < 128 then [c] else if c < 2048 then [192 + c / 64, 128 + c % 64] else if c < 65536 then [224 + c / 4096, 128 + c / 64 % 64, 128 + c % 64]
  else [240 + c / 262144, 128 + c / 4096 % 64, 128 + c / 64 % 64, 128 + c % 64]
theorem nats_encode (r : Int) : nats (Utf8.encode r) = code (sane r).toNat := by
  have hs := sane_ok r
  have hc : (if Utf8.valid r = true then r.toNat else Utf8.runeError) = (sane r).toNat := by
    unfold sane; split <;> rfl
  unfold Utf8.encode
  simp only [hc]
  generalize (sane r).toNat = c at hs
  obtain ⟨_, hs⟩ := hs
  have hc : c ≤ 0x10FFFF := by unfold okR at hs; omega
  unfold code
  by_cases h1 : c < 128
  · rw [if_pos h1, if_pos h1]; simp [nats]; omega
  rw [if_neg h1, if_neg h1]
  by_cases h2 : c < 2048
  · rw [if_pos h2, if_pos h2]; simp [nats]; omega
  rw [if_neg h2, if_neg h2]
  by_cases h3 : c < 65536
  · rw [if_pos h3, if_pos h3]; simp [nats]; omega
  rw [if_neg h3, if_neg h3]; simp [nats]; omega
theorem code_ne (c : Nat) : code c ≠ [] := by
  unfold code
  repeat' split
  all_goals simp
theorem dec_code (c : Nat) (h : okR c) (t : List Nat) : dec (code c ++ t) = (c, (code c).length) := by
  have hb : c ≤ 0x10FFFF := by unfold okR at h; omega
  unfold code
  by_cases h1 : c < 128
  · rw [if_pos h1]; simp [dec, h1]
  rw [if_neg h1]
  by_cases h2 : c < 2048
  · rw [if_pos h2]
    have e1 : ¬ (192 + c / 64 < 128) := by omega
    have e2 : 0xC2 ≤ 192 + c / 64 ∧ 192 + c / 64 ≤ 0xDF := by omega
    have e3 : cont (128 + c % 64) = true := by rw [cont_iff]; omega
    simp only [List.cons_append, List.nil_append, dec, e1, e2, e3, if_true, if_false, and_self]
    simp; omega
  rw [if_neg h2]
  by_cases h3 : c < 65536
  · rw [if_pos h3]
    have e1 : ¬ (224 + c / 4096 < 128) := by omega
    have e2 : ¬ (0xC2 ≤ 224 + c / 4096 ∧ 224 + c / 4096 ≤ 0xDF) := by omega
    have e3 : 0xE0 ≤ 224 + c / 4096 ∧ 224 + c / 4096 ≤ 0xEF := by omega
    have e4 : fits (224 + c / 4096) (128 + c / 64 % 64) = true := by
      rw [fits_iff]; unfold okR at h
      refine ⟨by omega, by omega, by omega, by omega, by omega, by omega⟩
    have e5 : cont (128 + c % 64) = true := by rw [cont_iff]; omega
    simp only [List.cons_append, List.nil_append, dec, e1, e2, e3, e4, e5, if_true, if_false, and_self, Bool.and_self]
    simp; omega
  rw [if_neg h3]
  have e1 : ¬ (240 + c / 262144 < 128) := by omega
  have e2 : ¬ (0xC2 ≤ 240 + c / 262144 ∧ 240 + c / 262144 ≤ 0xDF) := by omega
  have e3 : ¬ (0xE0 ≤ 240 + c / 262144 ∧ 240 + c / 262144 ≤ 0xEF) := by omega
  have e3' : 0xF0 ≤ 240 + c / 262144 ∧ 240 + c / 262144 ≤ 0xF4 := by omega
  have e4 : fits (240 + c / 262144) (128 + c / 4096 % 64) = true := by
    rw [fits_iff]
    refine ⟨by omega, by omega, by omega, by omega, by omega, by omega⟩
  have e5 : cont (128 + c / 64 % 64) = true := by rw [cont_iff]; omega
  have e6 : cont (128 + c % 64) = true := by rw [cont_iff]; omega
  simp only [List.cons_append, List.nil_append, dec, e1, e2, e3, e3', e4, e5, e6, if_true, if_false, and_self, Bool.and_self]
  simp; omega
theorem all_code (c : Nat) (h : okR c) (t : List Nat) : all (code c ++ t) = c :: all t := by
  rw [all_ne _ (by simp [code_ne]), dec_code c h t]; simp
theorem nats_append' (s t : ByteArray) : nats (s ++ t) = nats s ++ nats t := by simp [nats, ByteArray.data_append]
theorem ba_assoc (a b c : ByteArray) : a ++ b ++ c = a ++ (b ++ c) := by
  apply ByteArray.ext; simp [Array.append_assoc]
theorem ba_empty (a : ByteArray) : ByteArray.empty ++ a = a := by
  apply ByteArray.ext; simp [ByteArray.data_append]
theorem foldl_bytes (l : List Int) (a : ByteArray) : l.foldl (fun r n => r ++ Utf8.encode n) a = a ++ runesBytes l := by
  unfold runesBytes
  induction l generalizing a with
  | nil => apply ByteArray.ext; simp [ByteArray.data_append]
  | cons x l ih =>
    simp only [List.foldl_cons]
    rw [ih (a ++ Utf8.encode x), ih (ByteArray.empty ++ Utf8.encode x), ba_assoc, ba_empty]
theorem runesBytes_nil : runesBytes [] = ByteArray.empty := rfl
theorem runesBytes_cons (x : Int) (l : List Int) : runesBytes (x :: l) = Utf8.encode x ++ runesBytes l := by
  conv => lhs; unfold runesBytes
  rw [List.foldl_cons, foldl_bytes, ba_empty]
theorem runesBytes_append (a b : List Int) : runesBytes (a ++ b) = runesBytes a ++ runesBytes b := by
  conv => lhs; unfold runesBytes
  rw [List.foldl_append, foldl_bytes]
  rfl
theorem runesZ_append (l : List Int) (t : ByteArray) : runesZ (runesBytes l ++ t) = l.map sane ++ runesZ t := by
  induction l with
  | nil => rw [runesBytes_nil, ba_empty]; simp
  | cons x l ih =>
    have hx := sane_ok x
    unfold runesZ runesFrom at ih ⊢
    rw [runesBytes_cons, ba_assoc, List.drop_zero, nats_append', nats_encode, all_code _ hx.2]
    rw [List.drop_zero] at ih
    rw [List.map_cons, ih, List.map_cons, List.cons_append]
    congr 1; omega
theorem runesZ_nil : runesZ ByteArray.empty = [] := by unfold runesZ runesFrom; simp [nats, all_nil]
theorem runesZ_bytes (l : List Int) : runesZ (runesBytes l) = l.map sane := by
  have := runesZ_append l ByteArray.empty
  rw [runesZ_nil, List.append_nil] at this
  rw [← this]; congr 1; apply ByteArray.ext; simp
theorem dec_ok (l : List Nat) : okR (dec l).1 := by
  have bad : okR 65533 := by unfold okR; decide
  match l with
  | [] => exact bad
  | a :: t =>
    by_cases h1 : a < 128
    · simp only [dec, h1, if_true]; unfold okR; omega
    by_cases h2 : 0xC2 ≤ a ∧ a ≤ 0xDF
    · match t with
      | [] => simp only [dec, h1, h2, if_true, if_false, and_self]; exact bad
      | b :: t =>
        simp only [dec, h1, h2, if_true, if_false, and_self]
        split
        · show okR (a % 32 * 64 + b % 64); unfold okR; omega
        · exact bad
    by_cases h3 : 0xE0 ≤ a ∧ a ≤ 0xEF
    · match t with
      | [] => simp only [dec, h1, h2, h3, if_true, if_false, and_self]; exact bad
      | [b] => simp only [dec, h1, h2, h3, if_true, if_false, and_self]; exact bad
      | b :: c :: t =>
        simp only [dec, h1, h2, h3, if_true, if_false, and_self]
        split
        · rename_i hf
          rw [Bool.and_eq_true, fits_iff] at hf
          show okR (a % 16 * 4096 + b % 64 * 64 + c % 64); unfold okR; omega
        · exact bad
    by_cases h4 : 0xF0 ≤ a ∧ a ≤ 0xF4
    · match t with
      | [] => simp only [dec, h1, h2, h3, h4, if_true, if_false, and_self]; exact bad
      | [b] => simp only [dec, h1, h2, h3, h4, if_true, if_false, and_self]; exact bad
      | [b, c] => simp only [dec, h1, h2, h3, h4, if_true, if_false, and_self]; exact bad
      | b :: c :: d :: t =>
        simp only [dec, h1, h2, h3, h4, if_true, if_false, and_self]
        split
        · rename_i hf
          rw [Bool.and_eq_true, Bool.and_eq_true, fits_iff] at hf
          show okR (a % 8 * 262144 + b % 64 * 4096 + c % 64 * 64 + d % 64); unfold okR; omega
        · exact bad
    · simp only [dec, h1, h2, h3, h4, if_false]; exact bad
theorem all_ok (l : List Nat) : ∀ c ∈ all l, okR c := by
  match h : l.length with
  | n =>
    induction n using Nat.strongRecOn generalizing l with
    | ind n ih =>
      by_cases hx : l = []
      · subst hx; simp [all_nil]
      · have h1 := dec_pos l
        have h2 := dec_le l hx
        rw [all_ne l hx]
        intro c hc
        rcases List.mem_cons.1 hc with rfl | hc
        · exact dec_ok l
        · exact ih (l.drop (dec l).2).length (by simp; omega) _ rfl c hc
theorem runesZ_sane (s : ByteArray) : (runesZ s).map sane = runesZ s := by
  unfold runesZ runesFrom
  rw [List.map_map]
  apply List.map_congr_left
  intro c hc
  have h := all_ok _ c hc
  have h2 := sane_of c h
  rw [Function.comp_apply]
  exact h2
theorem runesZ_again (s : ByteArray) : runesZ (runesBytes (runesZ s)) = runesZ s := by rw [runesZ_bytes, runesZ_sane]
theorem bytes_inj {s t : ByteArray} (h : runesBytes (runesZ s) = runesBytes (runesZ t)) : runesZ s = runesZ t := by
  rw [← runesZ_again s, h, runesZ_again]
theorem size_encode (x : Int) : (Utf8.encode x).size ≤ 4 := by
  rw [← nats_length, nats_encode]; unfold code
  repeat' split
  all_goals simp
theorem size_bytes (l : List Int) : (runesBytes l).size ≤ 4 * l.length := by
  induction l with
  | nil => simp [runesBytes_nil]
  | cons x l ih =>
    have := size_encode x
    rw [runesBytes_cons, ByteArray.size_append, List.length_cons]; omega
end Go.Proofs.Ytebdcblchjhmpaa.Utf
