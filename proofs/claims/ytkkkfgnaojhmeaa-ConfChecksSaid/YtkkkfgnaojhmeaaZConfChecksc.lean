/- ConfChecks. (The texts that the proof is made of, one behind the other: part 3 of 10.) -/
import Derived.Test.YtkkkfgnaojhmeaaProg
import Derived.KernelRfl
import Derived.Lib.DecodeNEq
import Derived.Laws.Strings
import Derived.Below
import Derived.Deep.Draws
import Derived.Deep.AppendLies
import Derived.Maps.AppendAt
import Derived.OwnWalk
import Derived.Laws.BytesArg
import Derived.Laws.MakeOwn
import Derived.Laws.OwnMore
import Derived.Deep.OwnRows
import Derived.Tactics
import Derived.Lib.ConvBytes
import Derived.Laws.Slices
import Derived.WalkKit
import Derived.RowKit3
import Derived.Deep.LoopGhost
import Derived.Deep.QuietTactic
import Derived.BigQuiet
import Derived.WideLaws
import Derived.Deep.DeepCutAuto
import Derived.Deep.CutBlock
import Derived.Deep.RegionHeld3
import Derived.Laws.Rows
import Derived.Lib.AppendStr
import Derived.ArgAppend
import Derived.Laws.IdiomCopy
import Derived.OrdersHeld
import Derived.Laws.BitsLemmas
import Derived.RowKit
import Derived.Lib.OthersKept
import Derived.WalkSmall
import Derived.Deep.RegionLaw
import Derived.BigRegion
import Derived.Laws.Cover4
import Derived.Laws.IdiomStrings
import Derived.Test.YtkkkfgnaojhmeaaZConfChecksa
import Derived.Test.YtkkkfgnaojhmeaaZConfChecksb
namespace Go.Proofs.Ytkkkfgnaojhmeaa.K
theorem info5 : (Try.prog.info? 5).map (fun i => (i.zero, i.size, i.bytes)) = some (some (.int .u8 0), 1, 1) := by kernel_rfl
theorem info9 : (Try.prog.info? 9).map (fun i => (i.zero, i.size, i.bytes)) = some (some (.string ⟨#[]⟩), 1, 16) := by kernel_rfl
theorem info21 : (Try.prog.info? 21).map (fun i => (i.zero, i.size, i.bytes)) = some (some (.int .i32 0), 1, 4) := by kernel_rfl
theorem info37 : (Try.prog.info? 37).map (fun i => (i.zero, i.size, i.bytes)) = some (some (.agg #[(.string ⟨#[]⟩), (.int .u64 0)]), 2, 24) := by kernel_rfl
theorem info57 : (Try.prog.info? 57).map (fun i => (i.zero, i.size, i.bytes)) = some (some (.agg #[(.int .i64 0), (.int .i64 0), (.int .u64 0)]), 3, 24) := by kernel_rfl
end Go.Proofs.Ytkkkfgnaojhmeaa.K

namespace Go.Proofs.Ytkkkfgnaojhmeaa.Utf
open Go
set_option linter.unusedVariables false
set_option linter.unusedSimpArgs false

/-- May b stand behind a as the second byte of a sequence of three or four? -/
def fits (a b : Nat) : Bool :=
  if a = 0xE0 then decide (0xA0 ≤ b) && decide (b ≤ 0xBF)
  else if a = 0xED then decide (0x80 ≤ b) && decide (b ≤ 0x9F)
  else if a = 0xF0 then decide (0x90 ≤ b) && decide (b ≤ 0xBF)
  else if a = 0xF4 then decide (0x80 ≤ b) && decide (b ≤ 0x8F)
  else decide (0x80 ≤ b) && decide (b ≤ 0xBF)
def cont (b : Nat) : Bool := decide (0x80 ≤ b) && decide (b ≤ 0xBF)
/-- The rune with which bytes begin, and how many bytes it has. -/
def dec : List Nat → Nat × Nat
  | [] => (65533, 1)
  | a :: t =>
    if a < 128 then (a, 1)
    else if 0xC2 ≤ a ∧ a ≤ 0xDF then
      match t with
      | b :: _ => if cont b then (a % 32 * 64 + b % 64, 2) else (65533, 1)
      | [] => (65533, 1)
    else if 0xE0 ≤ a ∧ a ≤ 0xEF then
      match t with
      | b :: c :: _ => if fits a b && cont c then (a % 16 * 4096 + b % 64 * 64 + c % 64, 3) else (65533, 1)
      | _ => (65533, 1)
    else if 0xF0 ≤ a ∧ a ≤ 0xF4 then
      match t with
      | b :: c :: d :: _ => if fits a b && cont c && cont d then (a % 8 * 262144 + b % 64 * 4096 + c % 64 * 64 + d % 64, 4) else (65533, 1)
      | _ => (65533, 1)
    else (65533, 1)
/-- Are these bytes the begin of a sequence? -/
def pend : List Nat → Bool
  | [a] => decide (0xC2 ≤ a) && decide (a ≤ 0xF4)
  | [a, b] => decide (0xE0 ≤ a) && decide (a ≤ 0xF4) && fits a b
  | [a, b, c] => decide (0xF0 ≤ a) && decide (a ≤ 0xF4) && fits a b && cont c
  | _ => false

theorem dec_pos (l : List Nat) : 1 ≤ (dec l).2 := by
  unfold dec
  repeat' split
  all_goals simp
theorem dec_le (l : List Nat) (h : l ≠ []) : (dec l).2 ≤ l.length := by
  unfold dec
  repeat' split
  all_goals simp_all
/-- All runes of bytes. -/
def all (l : List Nat) : List Nat :=
  if h : l = [] then [] else (dec l).1 :: all (l.drop (dec l).2)
termination_by l.length
decreasing_by
  have := dec_pos l
  have : 0 < l.length := List.length_pos_iff.2 h
  simp; omega
/-- The runes ahead of what is pending, and that. -/
def feed (l : List Nat) : List Nat × List Nat :=
  if h : l = [] then ([], [])
  else if pend l then ([], l)
  else ((dec l).1 :: (feed (l.drop (dec l).2)).1, (feed (l.drop (dec l).2)).2)
termination_by l.length
decreasing_by
  all_goals
    have := dec_pos l
    have : 0 < l.length := List.length_pos_iff.2 h
    simp; omega
theorem all_nil : all [] = [] := by rw [all]; simp
theorem all_ne (l : List Nat) (h : l ≠ []) : all l = (dec l).1 :: all (l.drop (dec l).2) := by rw [all]; simp [h]
theorem feed_nil : feed [] = ([], []) := by rw [feed]; simp
theorem fits_iff (a b : Nat) : fits a b = true ↔ 0x80 ≤ b ∧ b ≤ 0xBF ∧ (a = 0xE0 → 0xA0 ≤ b) ∧ (a = 0xED → b ≤ 0x9F) ∧ (a = 0xF0 → 0x90 ≤ b) ∧ (a = 0xF4 → b ≤ 0x8F) := by
  unfold fits
  repeat' split
  all_goals
    simp only [Bool.and_eq_true, decide_eq_true_eq]
    omega
theorem cont_iff (b : Nat) : cont b = true ↔ 0x80 ≤ b ∧ b ≤ 0xBF := by simp [cont]
theorem ite_two {α : Type} {p q r : Prop} [Decidable p] [Decidable q] [Decidable r] {x z : α} (h : r ↔ p ∧ q) : (if p then (if q then x else z) else z) = if r then x else z := by
  by_cases hp : p
  · by_cases hq : q
    · rw [if_pos hp, if_pos hq, if_pos (h.2 ⟨hp, hq⟩)]
    · rw [if_pos hp, if_neg hq, if_neg (fun hr => hq (h.1 hr).2)]
  · rw [if_neg hp, if_neg (fun hr => hp (h.1 hr).1)]
/-- The decoder's classes by the first byte. -/
theorem decodeN_1 (n a b c d : Nat) (h : a < 128) : Lib.decodeN n a b c d = (a, 1) := by simp [Lib.decodeN, h]
theorem decodeN_bad (n a b c d : Nat) (h0 : a < 256) (h : ¬ a < 128) (h2 : ¬ (0xC2 ≤ a ∧ a ≤ 0xDF)) (h3 : ¬ (0xE0 ≤ a ∧ a ≤ 0xEF)) (h4 : ¬ (0xF0 ≤ a ∧ a ≤ 0xF4)) : Lib.decodeN n a b c d = (65533, 1) := by
  unfold Lib.decodeN
  rw [if_neg h]
  repeat' split
  all_goals first | rfl | (exfalso; omega)
theorem decodeN_2 (n a b c d : Nat) (h : 0xC2 ≤ a ∧ a ≤ 0xDF) (hb : b < 256) : Lib.decodeN n a b c d = if 1 < n ∧ cont b = true then (a % 32 * 64 + b % 64, 2) else (65533, 1) := by
  unfold Lib.decodeN
  rw [if_neg (by omega), if_neg (show ¬ (a / 16 = 14 ∧ _) by omega), if_neg (show ¬ (a / 8 = 30 ∧ _) by omega)]
  exact ite_two (by rw [cont_iff]; omega)
theorem decodeN_3 (n a b c d : Nat) (h : 0xE0 ≤ a ∧ a ≤ 0xEF) (hb : b < 256) (hc : c < 256) : Lib.decodeN n a b c d = if 2 < n ∧ (fits a b && cont c) = true then (a % 16 * 4096 + b % 64 * 64 + c % 64, 3) else (65533, 1) := by
  unfold Lib.decodeN
  rw [if_neg (by omega), if_neg (show ¬ (a / 32 = 6 ∧ _) by omega), if_neg (show ¬ (a / 8 = 30 ∧ _) by omega)]
  exact ite_two (by rw [Bool.and_eq_true, fits_iff, cont_iff]; omega)
theorem decodeN_4 (n a b c d : Nat) (h : 0xF0 ≤ a ∧ a ≤ 0xF4) (hb : b < 256) (hc : c < 256) (hd : d < 256) : Lib.decodeN n a b c d = if 3 < n ∧ (fits a b && cont c && cont d) = true then (a % 8 * 262144 + b % 64 * 4096 + c % 64 * 64 + d % 64, 4) else (65533, 1) := by
  unfold Lib.decodeN
  rw [if_neg (by omega), if_neg (show ¬ (a / 32 = 6 ∧ _) by omega), if_neg (show ¬ (a / 16 = 14 ∧ _) by omega)]
  exact ite_two (by rw [Bool.and_eq_true, Bool.and_eq_true, fits_iff, cont_iff, cont_iff]; omega)
theorem decodeN_dec (l : List Nat) (hne : l ≠ []) (hb : ∀ x ∈ l, x < 256) : Lib.decodeN l.length (l.getD 0 0) (l.getD 1 0) (l.getD 2 0) (l.getD 3 0) = dec l := by
  have hg : ∀ k, l.getD k 0 < 256 := by
    intro k
    rw [List.getD_eq_getElem?_getD]
    cases h : l[k]? with
    | none => simp
    | some x => exact hb x (List.mem_of_getElem? h)
  match l, hne with
  | a :: t, _ =>
    by_cases h1 : a < 128
    · simp [decodeN_1, dec, h1]
    by_cases h2 : 0xC2 ≤ a ∧ a ≤ 0xDF
    · rw [show (a :: t).getD 0 0 = a from rfl, decodeN_2 _ _ _ _ _ h2 (hg 1)]
      cases t with
      | nil => simp [dec, h1, h2]
      | cons b t => simp [dec, h1, h2]
    by_cases h3 : 0xE0 ≤ a ∧ a ≤ 0xEF
    · rw [show (a :: t).getD 0 0 = a from rfl, decodeN_3 _ _ _ _ _ h3 (hg 1) (hg 2)]
      match t with
      | [] => simp [dec, h1, h2]
      | [b] => simp [dec, h1, h2]
      | b :: c :: t => simp [dec, h1, h2, h3]
    by_cases h4 : 0xF0 ≤ a ∧ a ≤ 0xF4
    · rw [show (a :: t).getD 0 0 = a from rfl, decodeN_4 _ _ _ _ _ h4 (hg 1) (hg 2) (hg 3)]
      match t with
      | [] => simp [dec, h1, h2, h3]
      | [b] => simp [dec, h1, h2, h3]
      | [b, c] => simp [dec, h1, h2, h3]
      | b :: c :: d :: t => simp [dec, h1, h2, h3, h4]
    · have hg0 : a < 256 := hg 0
      rw [show (a :: t).getD 0 0 = a from rfl, decodeN_bad _ _ _ _ _ hg0 h1 h2 h3 h4]
      simp [dec, h1, h2, h3, h4]
/-- The bytes of a string, as numbers. -/
def nats (s : ByteArray) : List Nat := s.data.toList.map fun b => b.toNat
theorem nats_length (s : ByteArray) : (nats s).length = s.size := by simp [nats]
theorem nats_lt (s : ByteArray) : ∀ x ∈ nats s, x < 256 := by
  intro x hx
  simp only [nats, List.mem_map] at hx
  obtain ⟨b, _, rfl⟩ := hx
  exact b.toNat_lt
theorem nats_get (s : ByteArray) (i : Nat) : (nats s).getD i 0 = (s.get! i).toNat := by
  have h1 : s.get! i = s.data[i]! := rfl
  rw [h1]
  simp only [nats, List.getD_eq_getElem?_getD, List.getElem?_map, Array.getElem?_toList, getElem!_def]
  cases s.data[i]? <;> rfl
theorem decode_dec (s : ByteArray) (i : Nat) (h : i < s.size) : Utf8.decode s i = dec ((nats s).drop i) := by
  rw [Lib.decode_at, ← decodeN_dec _ (by intro e; have := congrArg List.length e; simp [nats_length] at this; omega) (fun x hx => nats_lt s x (List.mem_of_mem_drop hx))]
  have e : ∀ k, ((nats s).drop i).getD k 0 = (s.get! (i + k)).toNat := by
    intro k
    rw [← nats_get]
    simp [List.getD_eq_getElem?_getD, List.getElem?_drop]
  rw [e, e, e, e, List.length_drop, nats_length]
  rfl
/-- The runes of a string, as Go's ints. -/
def runesFrom (s : ByteArray) (pos : Nat) : List Int := (all ((nats s).drop pos)).map fun n : Nat => (n : Int)
def runesZ (s : ByteArray) : List Int := runesFrom s 0
theorem runesFrom_end (s : ByteArray) (pos : Nat) (h : ¬ pos < s.size) : runesFrom s pos = [] := by
  unfold runesFrom
  rw [List.drop_of_length_le (by rw [nats_length]; omega), all_nil]
  rfl
theorem step (s : ByteArray) (pos : Nat) (h : pos < s.size) : ∃ c wd : Nat, Utf8.decode s pos = (c, wd) ∧ runesFrom s pos = (c : Int) :: runesFrom s (pos + wd) ∧ 1 ≤ wd ∧ pos + wd ≤ s.size := by
  have hne : (nats s).drop pos ≠ [] := by
    intro e
    have := congrArg List.length e
    simp [nats_length] at this
    omega
  refine ⟨(dec ((nats s).drop pos)).1, (dec ((nats s).drop pos)).2, decode_dec s pos h, ?_, dec_pos _, ?_⟩
  · unfold runesFrom
    rw [all_ne _ hne, List.drop_drop]
    rfl
  · have := dec_le _ hne
    rw [List.length_drop, nats_length] at this
    omega
/-- What is fed from a place on: the runes, and how many bytes are pending. -/
def fedFrom (s : ByteArray) (pos : Nat) : List Int × Nat := ((feed ((nats s).drop pos)).1.map fun n : Nat => (n : Int), (feed ((nats s).drop pos)).2.length)
def wellL (l : List Nat) : Bool := decide ((dec l).2 = l.length) && decide (1 < l.length)
def well (s : ByteArray) : Bool :=
  if s.size = 0 then false
  else decide (s.size = (Utf8.encode (Utf8.decode s 0).1).size) && (decide (1 < s.size) && (decide ((Utf8.decode s 0).1 ≠ 65533) || (s.toList == [239, 191, 189])))
theorem encode_size1 (c : Nat) (h : c < 128) : (Utf8.encode (c : Int)).size = 1 := by
  have hv : Utf8.valid (c : Int) = true := by simp [Utf8.valid]; omega
  unfold Utf8.encode
  simp only [hv, if_true, Int.toNat_natCast]
  rw [if_pos h]; rfl
def tails : List (List Nat) := [[0x80], [0x80, 0x80], [0x80, 0x80, 0x80], [0x90, 0x80, 0x80], [0xA0, 0x80], [0x90, 0x80]]
end Go.Proofs.Ytkkkfgnaojhmeaa.Utf

namespace Go.Proofs.Ytkkkfgnaojhmeaa.K
open Go.RowKit Go.Proofs.YtkkkfgnaojhmeaaW.PrintWords Go.Proofs.YtkkkfgnaojhmeaaW.PrintLast Go.Proofs.YtkkkfgnaojhmeaaW.PrintMore Go.Proofs.Ytkkkfgnaojhmeaa
attribute [local go_sem] max2_int min2_int max_two min_two max_three min_three max_four min_four
set_option linter.unusedVariables false
set_option linter.unusedSimpArgs false
section
variable {P : Program} {α : Type} {d : Kd α} {w : World} {base c : Nat} {ok : Nat → Prop} {A : Option Addr} {xs : List α}
end
theorem rd_nat (l : List Int) (k : Nat) : rd l (k : Int) = l.getD k 0 := by simp [rd]
/-- The bytes of a string that was made of bytes. -/
theorem nats_str (l : List Int) : Utf.nats (strOfNums l) = l.map fun n => n.toNat % 256 := by
  unfold Utf.nats
  rw [strOfNums_data, List.map_map]
  apply List.map_congr_left
  intro n _
  simp
end Go.Proofs.Ytkkkfgnaojhmeaa.K

namespace Go.Proofs.Ytkkkfgnaojhmeaa.K
open Go.RowKit Go.Proofs.YtkkkfgnaojhmeaaW.PrintWords Go.Proofs.YtkkkfgnaojhmeaaW.PrintLast Go.Proofs.YtkkkfgnaojhmeaaW.PrintMore Go.Proofs.Ytkkkfgnaojhmeaa
attribute [local go_sem] max2_int min2_int max_two min_two max_three min_three max_four min_four
set_option linter.unusedVariables false
set_option linter.unusedSimpArgs false
section
variable {P : Program} {src dst e : TypeId}
/-- string(runes), of what came in. -/
theorem C_runes (hs : P.underlying src = some (.slice e)) (he : P.underlying e = some (.int .i32)) (hd : P.underlying dst = some .string) {A : Option Addr} {c : Nat} {l : List Int} {w : World}
    (h : Kd.C (Kd.int .i32) w A l.length l) : (convert src dst (.slice A l.length c)).run P w = .ok (.string (runesBytes l)) w := by
  cases A with
  | none =>
    match l with
    | [] => exact run_convert_runes_nil w src dst e 0 c hs he hd
    | a :: t => obtain ⟨_, hh, _⟩ := Kd.at_int h 0 (by omega) (by simp); simp at hh
  | some a =>
    have := run_convert_runes w src dst e a l.length c l (Nat.le_refl _) hs he hd (fun j hj => by
      obtain ⟨ad, hh, hc⟩ := Kd.at_int h (j : Int) (by omega) (by exact_mod_cast hj)
      cases hh
      rw [rd_nat] at hc
      simpa using hc)
    rwa [List.take_length] at this
end
section
variable {P : Program} {ops : Array Oper} {rest : List Oper} {o : Oper} {a : Act} {Q : Exit → Act → World → Prop}
end
end Go.Proofs.Ytkkkfgnaojhmeaa.K

namespace Go.Proofs.Ytkkkfgnaojhmeaa.Utf
set_option linter.unusedVariables false
set_option linter.unusedSimpArgs false
def okR (c : Nat) : Prop := c < 0xD800 ∨ (0xE000 ≤ c ∧ c ≤ 0x10FFFF)
def sane (r : Int) : Int := if Utf8.valid r = true then r else 65533
def code (c : Nat) : List Nat :=
  if c < 128 then [c] else if c < 2048 then [192 + c / 64, 128 + c % 64] else if c < 65536 then [224 + c / 4096, 128 + c / 64 % 64, 128 + c % 64]
  else [240 + c / 262144, 128 + c / 4096 % 64, 128 + c / 64 % 64, 128 + c % 64]
theorem code_ne (c : Nat) : code c ≠ [] := by
  unfold code
  repeat' split
  all_goals simp
theorem runesBytes_nil : runesBytes [] = ByteArray.empty := rfl
end Go.Proofs.Ytkkkfgnaojhmeaa.Utf

namespace Go.Proofs.Ytkkkfgnaojhmeaa.PTb
open Go.RowKit Go.Proofs.YtkkkfgnaojhmeaaW.PrintWords Go.Proofs.YtkkkfgnaojhmeaaW.PrintLast Go.Proofs.YtkkkfgnaojhmeaaW.PrintMore Go.Proofs.Ytkkkfgnaojhmeaa.K
attribute [local go_sem] max2_int min2_int max_two min_two max_three min_three max_four min_four   -- for this text's walks alone
set_option linter.unusedVariables false
set_option linter.unusedSimpArgs false



def errW : Option Int → Value
  | none => .nilIface
  | some c => .iface 0 (.int .i64 c)
theorem errW_none : errW none = .nilIface := rfl
theorem errW_some (c : Int) : errW (some c) = .iface 0 (.int .i64 c) := rfl

structure S37 where
  f0 : ByteArray
  f1 : Int
def z37 : S37 := ⟨(⟨#[]⟩ : ByteArray), (0 : Int)⟩
def k37 : Kd S37 := Kd.iso (Kd.pair Kd.string (Kd.int .u64)) (fun x : S37 => (x.f0, x.f1))
theorem k37_open {w : World} {x : S37} {cs : List Value} (h : k37.K w x cs) : cs = [.string x.f0, .int .u64 x.f1] := by
  obtain ⟨_, _, rfl, rfl, rfl⟩ := h
  exact rfl
theorem k37_mk (w : World) (x : S37)  : k37.K w x [.string x.f0, .int .u64 x.f1] := ⟨[.string x.f0], [.int .u64 x.f1], rfl, rfl, rfl⟩
theorem k37_mkM (w : World) (base : Nat) (ok : Nat → Prop) (x : S37)  : k37.M w base ok x [.string x.f0, .int .u64 x.f1] := ⟨[.string x.f0], [.int .u64 x.f1], rfl, rfl, rfl⟩
def rd_T37 (xs : List S37) (i : Int) : S37 := xs.getD i.toNat z37
theorem at_T37 {w : World} {A : Option Addr} {n : Nat} {xs : List S37} (h : Kd.C k37 w A n xs) (i : Int) (h0 : 0 ≤ i) (h1 : i < n) : ∃ ad , A = some ad ∧ w.cell? (ad.add (i.toNat * 2)) = some (.string (rd_T37 xs i).f0) ∧ w.cell? ⟨(ad.add (i.toNat * 2)).block, (ad.add (i.toNat * 2)).off + 1, none⟩ = some (.int .u64 (rd_T37 xs i).f1) := by
  obtain ⟨ad, c, e, _, hK, hc0⟩ := Kd.C_get h z37 i h0 h1
  have hc : ∀ j u, c[j]? = some u → w.cell? (ad.add (i.toNat * 2 + j)) = some u := hc0
  obtain rfl := k37_open hK
  exact ⟨ad, e, hc 0 _ rfl, by rw [← add_field _ _ 1 (by omega)]; exact hc 1 _ rfl⟩

end Go.Proofs.Ytkkkfgnaojhmeaa.PTb

namespace Go.Proofs.Ytkkkfgnaojhmeaa.PTb
open Go.RowKit Go.Proofs.YtkkkfgnaojhmeaaW.PrintWords Go.Proofs.YtkkkfgnaojhmeaaW.PrintLast Go.Proofs.YtkkkfgnaojhmeaaW.PrintMore Go.Proofs.Ytkkkfgnaojhmeaa.K
attribute [local go_sem] max2_int min2_int max_two min_two max_three min_three max_four min_four   -- for this text's walks alone
set_option linter.unusedVariables false
set_option linter.unusedSimpArgs false

theorem eqA37 (d : Nat) (w : World) (x0 y0 : ByteArray) (x1 y1 : Int) :
    (Op.equalIn (d + 2) 37 (.agg #[.string x0, .int .u64 x1]) (.agg #[.string y0, .int .u64 y1])).run Try.prog w = .ok (x0.toList == y0.toList && (x1 == y1)) w := by
  refine eqA_of Try.underlying37 (by kernel_rfl) ?_
  refine eqf_cons (by rfl) (by go_simp; rfl) (by go_simp; rfl) (by go_simp) ?_
  exact eqf_last (by rfl) (by go_simp; rfl) (by go_simp; rfl) (by go_simp)
end Go.Proofs.Ytkkkfgnaojhmeaa.PTb

namespace Go.Proofs.Ytkkkfgnaojhmeaa.PTb
open Go.RowKit Go.Proofs.YtkkkfgnaojhmeaaW.PrintWords Go.Proofs.YtkkkfgnaojhmeaaW.PrintLast Go.Proofs.YtkkkfgnaojhmeaaW.PrintMore Go.Proofs.Ytkkkfgnaojhmeaa.K
attribute [local go_sem] max2_int min2_int max_two min_two max_three min_three max_four min_four   -- for this text's walks alone
set_option linter.unusedVariables false
set_option linter.unusedSimpArgs false

attribute [local go_sem high] eqA37
def num_Add.f (a0 : Int) (a1 : Int) : Option (Int × Bool) := if a0 > 4611686018427387904 then (some (0, false)) else (if a1 > (IntKind.u64.wrap (4611686018427387904 - a0)) then (some (0, false)) else (some (IntKind.u64.wrap (a0 + a1), true)))
set_option maxHeartbeats 8000000 in
set_option maxRecDepth 100000 in
theorem num_Add.calls (a0 : Int) (a1 : Int) (r1 : Int) (r2 : Bool) (w : World) (h : num_Add.f a0 a1 = some (r1, r2)) :
    Calls Try.prog 17 #[.int .u64 a0, .int .u64 a1] w fun e w' => e = .returned (.tuple #[.int .u64 r1, .bool r2]) ∧ Drawn0 w w' := by
  have H : (if a0 > 4611686018427387904 then (some (0, false)) else (if a1 > (IntKind.u64.wrap (4611686018427387904 - a0)) then (some (0, false)) else (some (IntKind.u64.wrap (a0 + a1), true)))) = some (r1, r2) := h
  clear h
  by_cases c3 : a0 > 4611686018427387904
  · rw [if_pos c3] at H
    have c3b0 : decide (4611686018427387904 < a0) = true := decide_eq_true c3
    clear c3
    simp only [Option.some.injEq, Prod.mk.injEq] at H
    obtain ⟨rfl, rfl⟩ := H
    go_enter Try.func17, Try.ntmps17
    go_wp2
    go_ret2
    exact ⟨by first | rfl | (simp; done) | (simp [*]; done), by repeat (first | exact Drawn0.refl _ | apply Drawn0.step)⟩
  · rw [if_neg c3] at H
    have c3b0 : decide (4611686018427387904 < a0) = false := decide_eq_false c3
    clear c3
    by_cases c4 : a1 > (IntKind.u64.wrap (4611686018427387904 - a0))
    · rw [if_pos c4] at H
      have c4b0 : decide ((IntKind.u64.wrap (4611686018427387904 - a0)) < a1) = true := decide_eq_true c4
      clear c4
      simp only [Option.some.injEq, Prod.mk.injEq] at H
      obtain ⟨rfl, rfl⟩ := H
      go_enter Try.func17, Try.ntmps17
      go_wp2
      go_ret2
      exact ⟨by first | rfl | (simp; done) | (simp [*]; done), by repeat (first | exact Drawn0.refl _ | apply Drawn0.step)⟩
    · rw [if_neg c4] at H
      have c4b0 : decide ((IntKind.u64.wrap (4611686018427387904 - a0)) < a1) = false := decide_eq_false c4
      clear c4
      simp only [Option.some.injEq, Prod.mk.injEq] at H
      obtain ⟨rfl, rfl⟩ := H
      go_enter Try.func17, Try.ntmps17
      go_wp2
      go_ret2
      exact ⟨by first | rfl | (simp; done) | (simp [*]; done), by repeat (first | exact Drawn0.refl _ | apply Drawn0.step)⟩

def manteletref08_Same.l0 : Nat → List (S37) → List (S37) → Int → Option (Bool)
  | 0, _, _, _ => none
  | k + 1, x0, x1, x5 => if x5 < (x0.length : Int) then (if 0 ≤ x5 then (if x5 < (x1.length : Int) then (if (!((((rd_T37 x0 x5).f0).toList) == (((rd_T37 x1 x5).f0).toList)) || (!(((rd_T37 x0 x5).f1) == ((rd_T37 x1 x5).f1)))) = true then (some false) else (manteletref08_Same.l0 k x0 x1 (wrap64 (x5 + 1)))) else (none)) else (none)) else (some true)
def manteletref08_Same.f (k : Nat) (l0 : List (S37)) (l1 : List (S37)) : Option (Bool) := if (l0.length : Int) = (l1.length : Int) then (manteletref08_Same.l0 k l0 l1 0) else (some false)
set_option maxHeartbeats 8000000 in
set_option maxRecDepth 100000 in
theorem manteletref08_Same.calls (k : Nat) (A0 : Option Addr) (c0 : Nat) (l0 : List (S37)) (A1 : Option Addr) (c1 : Nat) (l1 : List (S37)) (r : Bool) (w : World) (hr0 : Kd.C k37 w A0 l0.length l0) (hc0 : l0.length ≤ c0) (hr1 : Kd.C k37 w A1 l1.length l1) (hc1 : l1.length ≤ c1) (h : manteletref08_Same.f k l0 l1 = some r) :
    Calls Try.prog 8 #[.slice A0 l0.length c0, .slice A1 l1.length c1] w fun e w' => e = .returned (.bool r) ∧ Drawn0 w w' := by
  have hu37 := Try.underlying37
  have HR0 := Aside0.mk hr0
  have HC0 := Aside0.mk hc0
  clear hr0 hc0
  have HR1 := Aside0.mk hr1
  have HC1 := Aside0.mk hc1
  clear hr1 hc1
  have H : (if (l0.length : Int) = (l1.length : Int) then (manteletref08_Same.l0 k l0 l1 0) else (some false)) = some r := h
  clear h
  by_cases c3 : (l0.length : Int) = (l1.length : Int)
  · rw [if_pos c3] at H
    have c3b0 : ((l0.length : Int) == (l1.length : Int)) = true := beq_iff_eq.mpr c3
    have c3b1 : ((l0.length : Int) != (l1.length : Int)) = false := bne_eq_false_iff_eq.mpr c3
    have c3b2 : (l0.length == l1.length) = true := by first | simpa using c3 | (simp at c3 ⊢; omega)
    clear c3
    have H' := Aside0.mk H
    clear H
    go_enter Try.func8, Try.ntmps8
    go_wp2
    repeat (go_quiet (fail); try go_wp2)
    go_loopg [5] k (fun kq v5 w' => ∃ (x5_1 : Int), v5 = .int .i64 x5_1 ∧ Aside0 (manteletref08_Same.l0 kq l0 l1 x5_1 = some r) ∧ Aside0 (kq ≤ k) ∧ Drawn0 w w')
    case atStart => exact ⟨(0), (by first | rfl | (simp; done) | (simp [*]; done)), H', ⟨Nat.le_refl _⟩, by repeat (first | exact Drawn0.refl _ | apply Drawn0.step)⟩
    case round =>
      clear H'
      try clear c1
      try clear p2
      try clear c3
      try clear c3b0
      try clear c3b1
      try clear c3b2
      obtain ⟨x5_1, rfl, HA, HK1, ⟨m1, rfl⟩⟩ := hrel
      cases gk with
      | zero => exact absurd HA.out (by simp [manteletref08_Same.l0])
      | succ k1 =>
        have H := HA.out
        clear HA
        simp only [manteletref08_Same.l0] at H
        by_cases c4 : x5_1 < (l0.length : Int)
        · rw [if_pos c4] at H
          have c4b0 : decide (x5_1 < (l0.length : Int)) = true := decide_eq_true c4
          clear c4
          by_cases c5 : 0 ≤ x5_1
          · rw [if_pos c5] at H
            have c5b0 : decide (0 ≤ x5_1) = true := decide_eq_true c5
            clear c5
            by_cases c6 : x5_1 < (l1.length : Int)
            · rw [if_pos c6] at H
              have c6b0 : decide (x5_1 < (l1.length : Int)) = true := decide_eq_true c6
              clear c6
              by_cases c7 : (!((((rd_T37 l0 x5_1).f0).toList) == (((rd_T37 l1 x5_1).f0).toList)) || (!(((rd_T37 l0 x5_1).f1) == ((rd_T37 l1 x5_1).f1)))) = true
              · rw [if_pos c7] at H
                have c7b0 : (!((((rd_T37 l0 x5_1).f0).toList) == (((rd_T37 l1 x5_1).f0).toList)) || (!(((rd_T37 l0 x5_1).f1) == ((rd_T37 l1 x5_1).f1)))) = true := c7
                clear c7
                obtain rfl := Option.some.inj H
                have p101 : 0 ≤ (x5_1 : Int) := of_decide_eq_true (by first | (with_reducible assumption) | assumption)
                have q101 : x5_1 < (l0.length : Int) := of_decide_eq_true (by first | (with_reducible assumption) | assumption)
                obtain ⟨ad101, e101, hx101_0, hx101_1⟩ := at_T37 HR0.out x5_1 p101 q101
                cases e101
                replace p101 := eq_true p101
                replace q101 := eq_true q101
                have p102 : 0 ≤ (x5_1 : Int) := of_decide_eq_true (by first | (with_reducible assumption) | assumption)
                have q102 : x5_1 < (l1.length : Int) := of_decide_eq_true (by first | (with_reducible assumption) | assumption)
                obtain ⟨ad102, e102, hx102_0, hx102_1⟩ := at_T37 HR1.out x5_1 p102 q102
                cases e102
                replace p102 := eq_true p102
                replace q102 := eq_true q102
                go_wp2
                repeat (go_quiet (fail); try go_wp2)
                go_ret
                exact ⟨by first | rfl | (simp; done) | (simp [*]; done), by repeat (first | exact Drawn0.refl _ | apply Drawn0.step)⟩
              · rw [if_neg c7] at H
                have c7b0 : (!((((rd_T37 l0 x5_1).f0).toList) == (((rd_T37 l1 x5_1).f0).toList)) || (!(((rd_T37 l0 x5_1).f1) == ((rd_T37 l1 x5_1).f1)))) = false := by simpa using c7
                clear c7
                have H' := Aside0.mk H
                clear H
                have p101 : 0 ≤ (x5_1 : Int) := of_decide_eq_true (by first | (with_reducible assumption) | assumption)
                have q101 : x5_1 < (l0.length : Int) := of_decide_eq_true (by first | (with_reducible assumption) | assumption)
                obtain ⟨ad101, e101, hx101_0, hx101_1⟩ := at_T37 HR0.out x5_1 p101 q101
                cases e101
                replace p101 := eq_true p101
                replace q101 := eq_true q101
                have p102 : 0 ≤ (x5_1 : Int) := of_decide_eq_true (by first | (with_reducible assumption) | assumption)
                have q102 : x5_1 < (l1.length : Int) := of_decide_eq_true (by first | (with_reducible assumption) | assumption)
                obtain ⟨ad102, e102, hx102_0, hx102_1⟩ := at_T37 HR1.out x5_1 p102 q102
                cases e102
                replace p102 := eq_true p102
                replace q102 := eq_true q102
                go_wp2
                repeat (go_quiet (fail); try go_wp2)
                go_roundg k1
                case measure => have := HK1.out; omega
                case rel => exact ⟨(wrap64 (x5_1 + 1)), (by first | rfl | (simp; done) | (simp [*]; done)), H', ⟨by have := HK1.out; omega⟩, by repeat (first | exact Drawn0.refl _ | apply Drawn0.step)⟩
            · rw [if_neg c6] at H
              exact absurd H (by simp)
          · rw [if_neg c5] at H
            exact absurd H (by simp)
        · rw [if_neg c4] at H
          have c4b0 : decide (x5_1 < (l0.length : Int)) = false := decide_eq_false c4
          clear c4
          obtain rfl := Option.some.inj H
          go_wp2
          repeat (go_quiet (fail); try go_wp2)
          go_ret
          exact ⟨by first | rfl | (simp; done) | (simp [*]; done), by repeat (first | exact Drawn0.refl _ | apply Drawn0.step)⟩
  · rw [if_neg c3] at H
    have c3b0 : ((l0.length : Int) == (l1.length : Int)) = false := beq_eq_false_iff_ne.mpr c3
    have c3b1 : ((l0.length : Int) != (l1.length : Int)) = true := bne_iff_ne.mpr c3
    have c3b2 : (l0.length == l1.length) = false := by first | simpa using c3 | (simp at c3 ⊢; omega)
    obtain rfl := Option.some.inj H
    go_enter Try.func8, Try.ntmps8
    go_wp2
    repeat (go_quiet (fail); try go_wp2)
    go_ret
    exact ⟨by first | rfl | (simp; done) | (simp [*]; done), by repeat (first | exact Drawn0.refl _ | apply Drawn0.step)⟩

end Go.Proofs.Ytkkkfgnaojhmeaa.PTb

namespace Go.Proofs.Ytkkkfgnaojhmeaa.PTb
open Go.RowKit Go.Proofs.YtkkkfgnaojhmeaaW.PrintWords Go.Proofs.YtkkkfgnaojhmeaaW.PrintLast Go.Proofs.YtkkkfgnaojhmeaaW.PrintMore Go.Proofs.Ytkkkfgnaojhmeaa.K
attribute [local go_sem] max2_int min2_int max_two min_two max_three min_three max_four min_four   -- for this text's walks alone
set_option linter.unusedVariables false
set_option linter.unusedSimpArgs false

end Go.Proofs.Ytkkkfgnaojhmeaa.PTb

namespace Go.Proofs.Ytkkkfgnaojhmeaa.K
open Go.RowKit Go.Proofs.YtkkkfgnaojhmeaaW.PrintWords Go.Proofs.YtkkkfgnaojhmeaaW.PrintLast Go.Proofs.YtkkkfgnaojhmeaaW.PrintMore Go.Proofs.Ytkkkfgnaojhmeaa
attribute [local go_sem] max2_int min2_int max_two min_two max_three min_three max_four min_four
set_option linter.unusedVariables false
set_option linter.unusedSimpArgs false
section
variable {P : Program} {src dst e : TypeId}
theorem C_runes2 (hs : P.underlying src = some (.slice e)) (he : P.underlying e = some (.int .i32)) (hd : P.underlying dst = some .string) {A : Option Addr} {c : Nat} {l : List Int} {w : World}
    (h : Kd.C (Kd.int .i32) w A l.length l) : (convert src dst (.slice A l.length c)).run P w = .ok (.string (runesBytes l)) w ∧ ∀ n, (convert src dst (.slice A l.length c)).run P (w.drewN n) = .ok (.string (runesBytes l)) (w.drewN n) :=
  ⟨C_runes hs he hd h, fun n => C_runes hs he hd (Kd.C_drewN h n)⟩
end
section
variable {α : Type} {d : Kd α} {e base t : Nat} {ok : Nat → Prop} {w w1 : World} {v : Value} {xs : List α} {g : Nat} {cs : Array Value}
theorem R_butg (h : Kd.R d e w base ok v xs) (hg : w.heap[g]? = some (.cells cs t (0, 0))) (ht : ∀ q, q ∈ e :: d.E → q ≠ t) (hk : ∀ k, k ≠ g → w1.heap[k]? = w.heap[k]?) : Kd.R d e w1 base ok v xs :=
  Kd.R_mono (Kd.R_step (Kd.R_types h hg ht) (fun k ho _ => hk k ho.2)) (fun _ h => h.1)
end
theorem far1 {w : World} {g a : Nat} {x : Value} (k : Nat) (hk : k ≠ g) : (w.setCell ⟨g, a, none⟩ x).heap[k]? = w.heap[k]? := Below.heap_setCell _ _ _ k hk
theorem far2 {w : World} {g a b : Nat} {x y : Value} (k : Nat) (hk : k ≠ g) : ((w.setCell ⟨g, a, none⟩ x).setCell ⟨g, b, none⟩ y).heap[k]? = w.heap[k]? := (far1 k hk).trans (far1 k hk)
end Go.Proofs.Ytkkkfgnaojhmeaa.K

namespace Go.Proofs.Ytkkkfgnaojhmeaa.Tab
set_option linter.unusedVariables false
set_option linter.unusedSimpArgs false
abbrev Wd := List Nat
abbrev En := Wd × Nat
/-- The slots' contents (p < N) are the list's entries, each once, each found from where its word's number says, past slots that are taken. -/
structure TI (N : Nat) (h : Wd → Nat) (ct : Nat → Option En) (L : List En) : Prop where
  sorted : L.Pairwise (fun a b => a.1 < b.1)
  mem : ∀ e, e ∈ L ↔ ∃ p, p < N ∧ ct p = some e
  uniq : ∀ p q e f, p < N → q < N → ct p = some e → ct q = some f → e.1 = f.1 → p = q
  probe : ∀ p e, p < N → ct p = some e → ∃ d, d < N ∧ (h e.1 + d) % N = p ∧ ∀ d', d' < d → ∃ f, ct ((h e.1 + d') % N) = some f
  few : L.length < N
/-- A word's count. -/
def getL (L : List En) (w : Wd) : Nat := match L.find? (fun e => e.1 == w) with | some e => e.2 | none => 0
/-- A word's count set. -/
def putL : List En → Wd → Nat → List En
  | [], w, c => [(w, c)]
  | e :: r, w, c => if w < e.1 then (w, c) :: e :: r else if e.1 = w then (w, c) :: r else e :: putL r w c
theorem lt_tri (a b : Wd) : a < b ∨ a = b ∨ b < a := by
  rcases Classical.em (a < b) with h | h
  · exact Or.inl h
  · rcases Classical.em (a = b) with h2 | h2
    · exact Or.inr (Or.inl h2)
    · right; right
      rcases List.le_iff_lt_or_eq.1 (List.not_lt.1 h) with h3 | h3
      · exact h3
      · exact absurd h3.symm h2
theorem lt_no {a b : Wd} (h : a < b) : ¬ b < a := fun k => List.lt_irrefl a (List.lt_trans h k)
theorem mem_put : ∀ (L : List En) (w : Wd) (c : Nat), L.Pairwise (fun a b => a.1 < b.1) → ∀ e, e ∈ putL L w c ↔ e = (w, c) ∨ (e ∈ L ∧ e.1 ≠ w)
  | [], w, c, _, e => by simp [putL]
  | x :: r, w, c, hs, e => by
    rw [List.pairwise_cons] at hs
    unfold putL
    by_cases h1 : w < x.1
    · rw [if_pos h1]
      have hne : ∀ y ∈ x :: r, y.1 ≠ w := fun y hy he => by
        rcases List.mem_cons.1 hy with rfl | hy
        · rw [he] at h1; exact List.lt_irrefl w h1
        · have := hs.1 y hy
          rw [he] at this
          exact lt_no h1 this
      constructor
      · intro h
        rcases List.mem_cons.1 h with rfl | h
        · exact Or.inl rfl
        · exact Or.inr ⟨h, hne e h⟩
      · rintro (rfl | ⟨h, _⟩)
        · simp
        · exact List.mem_cons_of_mem _ h
    · rw [if_neg h1]
      by_cases h2 : x.1 = w
      · rw [if_pos h2]
        have hne : ∀ y ∈ r, y.1 ≠ w := fun y hy he => by
          have := hs.1 y hy
          rw [he, h2] at this
          exact List.lt_irrefl w this
        constructor
        · intro h
          rcases List.mem_cons.1 h with rfl | h
          · exact Or.inl rfl
          · exact Or.inr ⟨List.mem_cons_of_mem _ h, hne e h⟩
        · rintro (rfl | ⟨h, h3⟩)
          · simp
          · rcases List.mem_cons.1 h with rfl | h
            · exact absurd h2 h3
            · exact List.mem_cons_of_mem _ h
      · rw [if_neg h2]
        have ih := mem_put r w c hs.2 e
        constructor
        · intro h
          rcases List.mem_cons.1 h with rfl | h
          · exact Or.inr ⟨by simp, h2⟩
          · rcases ih.1 h with h | ⟨h, h3⟩
            · exact Or.inl h
            · exact Or.inr ⟨List.mem_cons_of_mem _ h, h3⟩
        · rintro (h | ⟨h, h3⟩)
          · exact List.mem_cons_of_mem _ (ih.2 (Or.inl h))
          · rcases List.mem_cons.1 h with rfl | h
            · simp
            · exact List.mem_cons_of_mem _ (ih.2 (Or.inr ⟨h, h3⟩))
theorem sorted_put : ∀ (L : List En) (w : Wd) (c : Nat), L.Pairwise (fun a b => a.1 < b.1) → (putL L w c).Pairwise (fun a b => a.1 < b.1)
  | [], w, c, _ => by simp [putL]
  | x :: r, w, c, hs => by
    have hs0 := hs
    rw [List.pairwise_cons] at hs
    unfold putL
    by_cases h1 : w < x.1
    · rw [if_pos h1, List.pairwise_cons]
      refine ⟨fun y hy => ?_, hs0⟩
      rcases List.mem_cons.1 hy with rfl | hy
      · exact h1
      · exact List.lt_trans h1 (hs.1 y hy)
    · rw [if_neg h1]
      by_cases h2 : x.1 = w
      · rw [if_pos h2, List.pairwise_cons]
        exact ⟨fun y hy => by have := hs.1 y hy; rwa [h2] at this, hs.2⟩
      · rw [if_neg h2, List.pairwise_cons]
        refine ⟨fun y hy => ?_, sorted_put r w c hs.2⟩
        rcases (mem_put r w c hs.2 y).1 hy with rfl | ⟨hy, _⟩
        · rcases lt_tri x.1 w with h | h | h
          · exact h
          · exact absurd h h2
          · exact absurd h h1
        · exact hs.1 y hy
theorem len_put : ∀ (L : List En) (w : Wd) (c : Nat), L.Pairwise (fun a b => a.1 < b.1) → (putL L w c).length = if ∃ e ∈ L, e.1 = w then L.length else L.length + 1
  | [], w, c, _ => by simp [putL]
  | x :: r, w, c, hs => by
    rw [List.pairwise_cons] at hs
    have ih := len_put r w c hs.2
    unfold putL
    by_cases h1 : w < x.1
    · rw [if_pos h1, if_neg]
      · rfl
      · rintro ⟨e, he, rfl⟩
        rcases List.mem_cons.1 he with rfl | he
        · exact List.lt_irrefl _ h1
        · exact lt_no h1 (hs.1 e he)
    · rw [if_neg h1]
      by_cases h2 : x.1 = w
      · rw [if_pos h2, if_pos ⟨x, by simp, h2⟩]; rfl
      · rw [if_neg h2, List.length_cons, ih]
        by_cases h3 : ∃ e ∈ r, e.1 = w
        · obtain ⟨e, he, h4⟩ := h3
          rw [if_pos ⟨e, he, h4⟩, if_pos ⟨e, List.mem_cons_of_mem _ he, h4⟩]; rfl
        · rw [if_neg h3, if_neg]
          · rfl
          · rintro ⟨e, he, h4⟩
            rcases List.mem_cons.1 he with rfl | he
            · exact h2 h4
            · exact h3 ⟨e, he, h4⟩
theorem get_mem {L : List En} (hs : L.Pairwise (fun a b => a.1 < b.1)) {e : En} (h : e ∈ L) : getL L e.1 = e.2 := by
  unfold getL
  cases hf : L.find? (fun x => x.1 == e.1) with
  | none => exact absurd (List.find?_eq_none.1 hf e h) (by simp)
  | some y =>
    have h1 := List.mem_of_find?_eq_some hf
    have h2 := List.find?_some hf
    simp only [beq_iff_eq] at h2
    obtain ⟨i, hi, ei⟩ := List.getElem_of_mem h
    obtain ⟨j, hj, ej⟩ := List.getElem_of_mem h1
    have hp := List.pairwise_iff_getElem.1 hs
    have hij : i = j := by
      rcases Nat.lt_trichotomy i j with h3 | h3 | h3
      · have := hp i j hi hj h3
        rw [ei, ej, h2] at this
        exact absurd this (List.lt_irrefl _)
      · exact h3
      · have := hp j i hj hi h3
        rw [ei, ej, h2] at this
        exact absurd this (List.lt_irrefl _)
    subst hij
    rw [← ej, ei]
theorem get_none {L : List En} {w : Wd} (h : ∀ e ∈ L, e.1 ≠ w) : getL L w = 0 := by
  unfold getL
  rw [List.find?_eq_none.2 (fun e he => by simpa using h e he)]
namespace TI
variable {N : Nat} {h : Wd → Nat} {ct : Nat → Option En} {L : List En}
/-- Distinct slots hold distinct words: no more slots are taken than there are words. -/
theorem count (t : TI N h ct L) : ∀ (n : Nat), n ≤ N → (∀ p, p < n → ∃ e, ct p = some e) → n ≤ L.length := by
  intro n hn hall
  have key : ∀ n, n ≤ N → (∀ p, p < n → ∃ e, ct p = some e) → ∃ M : List En, M.length = n ∧ (∀ e ∈ M, ∃ p, p < n ∧ ct p = some e) ∧ M.Pairwise (fun a b => a.1 ≠ b.1) := by
    intro n
    induction n with
    | zero => exact fun _ _ => ⟨[], rfl, by simp, List.Pairwise.nil⟩
    | succ n ih =>
      intro hn hall
      obtain ⟨M, h1, h2, h3⟩ := ih (by omega) (fun p hp => hall p (by omega))
      obtain ⟨e, he⟩ := hall n (by omega)
      refine ⟨e :: M, by simp [h1], fun f hf => ?_, List.pairwise_cons.2 ⟨fun f hf heq => ?_, h3⟩⟩
      · rcases List.mem_cons.1 hf with rfl | hf
        · exact ⟨n, by omega, he⟩
        · obtain ⟨p, hp, e2⟩ := h2 f hf
          exact ⟨p, by omega, e2⟩
      · obtain ⟨p, hp, e2⟩ := h2 f hf
        have := t.uniq n p e f (by omega) (by omega) he e2 heq
        omega
  obtain ⟨M, h1, h2, h3⟩ := key n hn hall
  have hsub : ∀ (M K : List En), M.Pairwise (fun a b => a.1 ≠ b.1) → (∀ e ∈ M, e ∈ K) → M.length ≤ K.length := by
    intro M
    induction M with
    | nil => exact fun _ _ _ => Nat.zero_le _
    | cons a M ih =>
      intro K hp hk
      rw [List.pairwise_cons] at hp
      have ha := hk a (by simp)
      have := ih (K.erase a) hp.2 (fun e he => (List.mem_erase_of_ne (fun h => hp.1 e he (by rw [h]))).2 (hk e (by simp [he])))
      rw [List.length_erase_of_mem ha] at this
      have := List.length_pos_of_mem ha
      simp only [List.length_cons]; omega
  have := hsub M L h3 (fun e he => by
    obtain ⟨p, hp, e2⟩ := h2 e he
    exact (t.mem e).2 ⟨p, by omega, e2⟩)
  omega
/-- Somewhere a slot is free: a search ends before all have been seen. -/
theorem free (t : TI N h ct L) (a d : Nat) (hd : ∀ d', d' < d → ∃ f, ct ((a + d') % N) = some f) : d < N := by
  rcases Nat.lt_or_ge d N with h1 | h1
  · exact h1
  · exfalso
    have hN : 0 < N := by have := t.few; omega
    have := t.count N (Nat.le_refl _) (fun p hp => by
      -- p is met at (p - a) mod N
      obtain ⟨d', hd1, hd2⟩ : ∃ d', d' < N ∧ (a + d') % N = p := by
        refine ⟨(p + (N - a % N)) % N, Nat.mod_lt _ hN, ?_⟩
        rw [Nat.add_mod, Nat.mod_mod, ← Nat.add_mod]
        have h3 : a % N < N := Nat.mod_lt _ hN
        have h4 : a + (p + (N - a % N)) = p + N * (a / N + 1) := by
          have := Nat.div_add_mod a N
          rw [Nat.mul_add, Nat.mul_one]; omega
        rw [h4, Nat.add_mul_mod_self_left, Nat.mod_eq_of_lt hp]
      rw [← hd2]
      exact hd d' (by omega))
    have := t.few
    omega
/-- The search's end: the word's own slot, or a free one; then the word is nowhere. -/
theorem found (t : TI N h ct L) {p : Nat} (hp : p < N) {e : En} (he : ct p = some e) : e ∈ L := (t.mem e).2 ⟨p, hp, he⟩
theorem absent (t : TI N h ct L) (w : Wd) (d : Nat) (hd : ∀ d', d' < d → ∃ f, ct ((h w + d') % N) = some f ∧ f.1 ≠ w) (hn : ct ((h w + d) % N) = none) : ∀ e ∈ L, e.1 ≠ w := by
  intro e he hw
  obtain ⟨p, hp, hc⟩ := (t.mem e).1 he
  obtain ⟨d2, h1, h2, h3⟩ := t.probe p e hp hc
  rw [hw] at h2 h3
  rcases Nat.lt_trichotomy d2 d with h4 | h4 | h4
  · obtain ⟨f, hf, hne⟩ := hd d2 h4
    rw [h2, hc] at hf
    injection hf with hf
    exact hne (by rw [← hf, hw])
  · rw [← h4, h2, hc] at hn; cases hn
  · obtain ⟨f, hf⟩ := h3 d h4
    rw [hf] at hn; cases hn
def upd (ct : Nat → Option En) (p : Nat) (e : En) : Nat → Option En := fun q => if q = p then some e else ct q
/-- A count set, or a word put into a free slot where a search for it ends. -/
theorem put (t : TI N h ct L) {p : Nat} (hp : p < N) (w : Wd) (c : Nat) (d : Nat) (hd : ∀ d', d' < d → ∃ f, ct ((h w + d') % N) = some f ∧ f.1 ≠ w) (hpd : (h w + d) % N = p) (hc : (∃ f, ct p = some f ∧ f.1 = w) ∨ (ct p = none ∧ L.length + 1 < N)) :
    TI N h (upd ct p (w, c)) (putL L w c) := by
  have hother : ∀ q f, q < N → q ≠ p → ct q = some f → f.1 ≠ w := by
    intro q f hq hqp hf hw
    rcases hc with ⟨g, hg, hgw⟩ | ⟨hn, _⟩
    · exact hqp (t.uniq q p f g hq hp hf hg (by rw [hw, hgw]))
    · exact t.absent w d hd (by rw [hpd]; exact hn) f ((t.mem f).2 ⟨q, hq, hf⟩) hw
  refine ⟨sorted_put L w c t.sorted, fun e => ?_, fun q r e f hq hr he hf hw => ?_, fun q e hq he => ?_, ?_⟩
  · rw [mem_put L w c t.sorted e]
    constructor
    · rintro (rfl | ⟨h1, h2⟩)
      · exact ⟨p, hp, by simp [upd]⟩
      · obtain ⟨q, hq, hf⟩ := (t.mem e).1 h1
        refine ⟨q, hq, ?_⟩
        unfold upd
        rw [if_neg]
        · exact hf
        · rintro rfl
          rcases hc with ⟨g, hg, hgw⟩ | ⟨hn, _⟩
          · rw [hf] at hg; injection hg with hg; exact h2 (by rw [hg, hgw])
          · rw [hf] at hn; cases hn
    · rintro ⟨q, hq, hf⟩
      unfold upd at hf
      by_cases hqp : q = p
      · rw [if_pos hqp] at hf; injection hf with hf; exact Or.inl hf.symm
      · rw [if_neg hqp] at hf
        exact Or.inr ⟨(t.mem e).2 ⟨q, hq, hf⟩, hother q e hq hqp hf⟩
  · unfold upd at he hf
    by_cases hqp : q = p
    · by_cases hrp : r = p
      · rw [hqp, hrp]
      · rw [if_pos hqp] at he
        rw [if_neg hrp] at hf
        injection he with he
        exact absurd (by rw [← hw, ← he]) (hother r f hr hrp hf)
    · rw [if_neg hqp] at he
      by_cases hrp : r = p
      · rw [if_pos hrp] at hf
        injection hf with hf
        exact absurd (by rw [hw, ← hf]) (hother q e hq hqp he)
      · rw [if_neg hrp] at hf
        exact t.uniq q r e f hq hr he hf hw
  · have mono : ∀ a f, ct a = some f → ∃ g, upd ct p (w, c) a = some g := fun a f hf => by
      unfold upd
      split
      · exact ⟨_, rfl⟩
      · exact ⟨f, hf⟩
    by_cases hqp : q = p
    · unfold upd at he
      rw [if_pos hqp] at he
      injection he with he
      subst he
      refine ⟨d, t.free (h w) d (fun d' h1 => by obtain ⟨f, hf, _⟩ := hd d' h1; exact ⟨f, hf⟩), by rw [hqp]; exact hpd, fun d' h1 => ?_⟩
      obtain ⟨f, hf, _⟩ := hd d' h1
      exact mono _ f hf
    · have he2 : ct q = some e := by unfold upd at he; rwa [if_neg hqp] at he
      obtain ⟨d2, h1, h2, h3⟩ := t.probe q e hq he2
      exact ⟨d2, h1, h2, fun d' h4 => by obtain ⟨f, hf⟩ := h3 d' h4; exact mono _ f hf⟩
  · rw [len_put L w c t.sorted]
    rcases hc with ⟨g, hg, hgw⟩ | ⟨_, hl⟩
    · rw [if_pos ⟨g, (t.mem g).2 ⟨p, hp, hg⟩, hgw⟩]; exact t.few
    · have := t.few
      split <;> omega
theorem empty (h : Wd → Nat) {N : Nat} (hN : 0 < N) : TI N h (fun _ => none) [] :=
  ⟨List.Pairwise.nil, fun e => by simp, fun p q e f _ _ he => (by cases he), fun p e _ he => (by cases he), hN⟩
end TI
end Go.Proofs.Ytkkkfgnaojhmeaa.Tab

namespace Go.Proofs.Ytkkkfgnaojhmeaa.K
open Go.RowKit Go.Proofs.YtkkkfgnaojhmeaaW.PrintWords Go.Proofs.YtkkkfgnaojhmeaaW.PrintLast Go.Proofs.YtkkkfgnaojhmeaaW.PrintMore Go.Proofs.Ytkkkfgnaojhmeaa
attribute [local go_sem] max2_int min2_int max_two min_two max_three min_three max_four min_four
set_option linter.unusedVariables false
set_option linter.unusedSimpArgs false
open Go.Proofs.Ytkkkfgnaojhmeaa.PTb Go.Proofs.Ytkkkfgnaojhmeaa.Tab
/-- A slot: where a word stands in the arena, and its count. -/
structure Sl where
  f0 : Int
  f1 : Int
  f2 : Int
def zSl : Sl := ⟨0, 0, 0⟩
def kSl : Kd Sl := Kd.iso (Kd.pair (Kd.int .i64) (Kd.pair (Kd.int .i64) (Kd.int .u64))) (fun x : Sl => (x.f0, x.f1, x.f2))
theorem kSl_mkM (w : World) (base : Nat) (ok : Nat → Prop) (x : Sl) : kSl.M w base ok x [.int .i64 x.f0, .int .i64 x.f1, .int .u64 x.f2] := ⟨[.int .i64 x.f0], [.int .i64 x.f1, .int .u64 x.f2], rfl, rfl, ⟨[.int .i64 x.f1], [.int .u64 x.f2], rfl, rfl, rfl⟩⟩
theorem kSl_open {w : World} {x : Sl} {cs : List Value} (h : kSl.K w x cs) : cs = [.int .i64 x.f0, .int .i64 x.f1, .int .u64 x.f2] := by
  obtain ⟨_, _, rfl, rfl, ⟨_, _, rfl, rfl, rfl⟩⟩ := h
  rfl
/-- A cut of the arena. -/
def cutA (ar : List Int) (a b : Nat) : List Int := (ar.take b).drop a
set_option maxHeartbeats 4000000 in
set_option maxRecDepth 100000 in
theorem word_k (g : Nat) (c0 c1 c3 : Value) (Aa : Option Addr) (ca : Nat) (ar : List Int) (na nb : Nat) (n : Int) (w : World) (hg : w.heap[g]? = some (.cells #[c0, c1, .slice Aa ar.length ca, c3] 48 (0, 0))) (hC : Kd.C (Kd.int .u8) w Aa ar.length ar) (hca : ar.length ≤ ca) (h1 : na ≤ nb) (h2 : nb ≤ ar.length) :
    Calls Try.prog 18 #[.pointer (some ⟨g, 0, none⟩), .agg #[.int .i64 (na : Int), .int .i64 (nb : Int), .int .u64 n]] w fun e w' => e = .returned (.string (strOfNums (cutA ar na nb))) ∧ Below w.heap.size w w' := by
  have HG := Aside0.mk hg; have HC := Aside0.mk hC
  clear hg hC
  go_enter Try.func18, Try.ntmps18
  go_upto_region 1 with fail
  have n1 := heap_alloc_new w (.cells #[.int .i64 (na : Int), .int .i64 (nb : Int), .int .u64 n] 57)
  have b1 : Below w.heap.size w (w.alloc (.cells #[.int .i64 (na : Int), .int .i64 (nb : Int), .int .u64 n] 57)) := below_alloc (Below.refl _ _) _
  have HG1 := Aside0.mk (blk_below HG.out b1)
  have HC1 := Aside0.mk (Kd.C_below HC.out b1)
  have HB1 := Aside0.mk b1; have HN1 := Aside0.mk n1
  clear HG HC n1 b1
  generalize w.alloc (.cells #[.int .i64 (na : Int), .int .i64 (nb : Int), .int .u64 n] 57) = w1 at HG1 HC1 HB1 HN1 ⊢
  refine start_ (n := 11) (S := fun w' => w'.cell? ⟨g, 2, none⟩ = some (.slice Aa ar.length ca) ∧ w'.cell? ⟨w.heap.size, 0, none⟩ = some (.int .i64 (na : Int)) ∧ w'.cell? ⟨w.heap.size, 1, none⟩ = some (.int .i64 (nb : Int)) ∧ Kd.C (Kd.int .u8) w' Aa ar.length ar) (ds := []) #[false, false, false, false, false, false, false, false, false, false, false] (by kernel_rfl) rfl rfl (by exact ⟨(blk_cell (blk_drew HG1.out) 2).trans rfl, (blk_cell (blk_drew HN1.out) 0).trans rfl, (blk_cell (blk_drew HN1.out) 1).trans rfl, Kd.C_drew HC1.out⟩) (fun hHeld => ?_)
  have HB2 := Aside0.mk (below_drew HB1.out)
  clear HB1 HG1 HC1 HN1
  generalize w1.drew = w2 at HB2 hHeld ⊢
  (refine pure_ (i := 0) (N := some 5) (v := ?_) (a' := ?_) #[true, false, false, false, false, false, false, false, false, false, false] rfl rfl (by kernel_rfl) (fun _ _ _ h => h) (Or.inl ⟨by rfl, ?_⟩) ?_ ?_; rotate_left; (intro w'; go_simp; with_reducible rfl); rotate_left; (simp only [Act.put, List.setIfInBounds_toArray, List.set_cons_zero, List.set_cons_succ, i64_w, i32_w]; rfl)); (refine pure_ (i := 1) (N := some 6) (v := ?_) (a' := ?_) #[true, true, false, false, false, false, false, false, false, false, false] rfl rfl (by kernel_rfl) (fun _ _ _ h => h) (Or.inl ⟨by rfl, ?_⟩) ?_ ?_; rotate_left; (intro w'; go_simp; with_reducible rfl); rotate_left; (simp only [Act.put, List.setIfInBounds_toArray, List.set_cons_zero, List.set_cons_succ, i64_w, i32_w]; rfl)); (refine pure_ (i := 2) (N := some 7) (v := ?_) (a' := ?_) #[true, true, true, false, false, false, false, false, false, false, false] rfl rfl (by kernel_rfl) (fun _ _ _ h => h) (Or.inl ⟨by rfl, ?_⟩) ?_ ?_; rotate_left; (intro w'; go_simp; with_reducible rfl); rotate_left; (simp only [Act.put, List.setIfInBounds_toArray, List.set_cons_zero, List.set_cons_succ, i64_w, i32_w]; rfl)); (refine pure_ (i := 4) (N := some 9) (v := ?_) (a' := ?_) #[true, true, true, false, true, false, false, false, false, false, false] rfl rfl (by kernel_rfl) (fun _ _ _ h => h) (Or.inl ⟨by rfl, ?_⟩) ?_ ?_; rotate_left; (intro w'; go_simp; with_reducible rfl); rotate_left; (simp only [Act.put, List.setIfInBounds_toArray, List.set_cons_zero, List.set_cons_succ, i64_w, i32_w]; rfl)); (refine pure_ (i := 6) (N := some 11) (v := ?_) (a' := ?_) #[true, true, true, false, true, false, true, false, false, false, false] rfl rfl (by kernel_rfl) (fun _ _ _ h => h) (Or.inl ⟨by rfl, ?_⟩) ?_ ?_; rotate_left; (intro w'; go_simp; with_reducible rfl); rotate_left; (simp only [Act.put, List.setIfInBounds_toArray, List.set_cons_zero, List.set_cons_succ, i64_w, i32_w]; rfl))
  (refine take_ (i := 3) (N := some 8) (v := ?_) (a' := ?_) #[true, true, true, true, true, false, true, false, false, false, false] rfl rfl (by kernel_rfl) (fun _ _ _ h => h) (Or.inl ⟨by rfl, ?_⟩) hHeld ?_ ?_; rotate_left; (rintro w' ⟨s0, s1, s2, s3⟩; go_simp; with_reducible rfl); rotate_left; (simp only [Act.put, List.setIfInBounds_toArray, List.set_cons_zero, List.set_cons_succ, i64_w, i32_w]; rfl)); (refine take_ (i := 5) (N := some 10) (v := ?_) (a' := ?_) #[true, true, true, true, true, true, true, false, false, false, false] rfl rfl (by kernel_rfl) (fun _ _ _ h => h) (Or.inl ⟨by rfl, ?_⟩) hHeld ?_ ?_; rotate_left; (rintro w' ⟨s0, s1, s2, s3⟩; go_simp; with_reducible rfl); rotate_left; (simp only [Act.put, List.setIfInBounds_toArray, List.set_cons_zero, List.set_cons_succ, i64_w, i32_w]; rfl)); (refine take_ (i := 7) (N := some 12) (v := ?_) (a' := ?_) #[true, true, true, true, true, true, true, true, false, false, false] rfl rfl (by kernel_rfl) (fun _ _ _ h => h) (Or.inl ⟨by rfl, ?_⟩) hHeld ?_ ?_; rotate_left; (rintro w' ⟨s0, s1, s2, s3⟩; go_simp; with_reducible rfl); rotate_left; (simp only [Act.put, List.setIfInBounds_toArray, List.set_cons_zero, List.set_cons_succ, i64_w, i32_w]; rfl))
  have hz1 : (0 : Int) ≤ (na : Int) := by omega
  have hz2 : (na : Int) ≤ (nb : Int) := by omega
  have hz3 : (nb : Int) ≤ (ca : Int) := by omega
  (refine pure_ (i := 8) (N := some 13) (v := ?_) (a' := ?_) #[true, true, true, true, true, true, true, true, true, false, false] rfl rfl (by kernel_rfl) (fun _ _ _ h => h) (Or.inl ⟨by rfl, ?_⟩) ?_ ?_; rotate_left; (intro w'; go_simp; with_reducible rfl); rotate_left; (simp only [Act.put, List.setIfInBounds_toArray, List.set_cons_zero, List.set_cons_succ, i64_w, i32_w]; rfl))
  have hcut : ∀ w' : World, Kd.C (Kd.int .u8) w' Aa ar.length ar → (convert 33 9 (.slice (if ca = na then Aa else Option.map (fun x => x.add na) Aa) (nb - na) (ca - na))).run Try.prog w' = .ok (.string (strOfNums (cutA ar na nb))) w' := fun w' hC => by
    have hm := Kd.C_mid hC h1 h2 hca
    have hl : ((ar.take nb).drop na).length = nb - na := by rw [List.length_drop, List.length_take]; omega
    rw [hl] at hm
    have := Kd.C_string (P := Try.prog) (c := ca - na) Try.underlying33 Try.underlying5 Try.underlying9 hm
    have e : na * (Kd.int .u8).sz = na := Nat.mul_one _
    rw [e] at this
    exact this
  refine take_ (i := 9) (N := some 14) (v := ?_) (a' := ?_) #[true, true, true, true, true, true, true, true, true, true, false] rfl rfl (by kernel_rfl) (fun _ _ _ h => h) (Or.inl ⟨by rfl, ?_⟩) hHeld ?_ ?_
  rotate_left
  · rintro w' ⟨s0, s1, s2, s3⟩
    have hcv := hcut w' s3
    go_simp
    with_reducible rfl
  rotate_left
  · simp only [Act.put, List.setIfInBounds_toArray, List.set_cons_zero, List.set_cons_succ, i64_w, i32_w]
    rfl
  clear hcut
  skip
  (refine pure_ (i := 10) (N := some 4) (v := ?_) (a' := ?_) #[true, true, true, true, true, true, true, true, true, true, true] rfl rfl (by kernel_rfl) (fun _ _ _ h => h) (Or.inl ⟨by rfl, ?_⟩) ?_ ?_; rotate_left; (intro w'; go_simp; with_reducible rfl); rotate_left; (simp only [Act.put, List.setIfInBounds_toArray, List.set_cons_zero, List.set_cons_succ, i64_w, i32_w]; rfl))
  refine done_ (by kernel_rfl) ?_
  try go_wp2
  all_goals
    go_ret
    exact ⟨rfl, HB2.out⟩
theorem toList_inj3 {s t : ByteArray} (h : s.toList = t.toList) : s = t := by
  rw [ByteArray.toList_eq, ByteArray.toList_eq] at h
  exact ByteArray.ext (Array.toList_inj.1 h)
theorem next_mod (hv d N p : Nat) (h : (hv + d) % N = p) : ((p : Int) + 1) % (N : Int) = (((hv + (d + 1)) % N : Nat) : Int) := by
  have e : (hv + (d + 1)) % N = (p + 1) % N := by rw [← h, Nat.mod_add_mod, Nat.add_assoc]
  rw [e, Int.natCast_emod, Int.natCast_add]; rfl
theorem wrap_next {p : Nat} (h : p < 1000000) : wrap64 ((p : Int) + 1) = (p : Int) + 1 := by unfold wrap64; omega
theorem fuel_less {N d g : Nat} (h1 : N ≤ g + d) (h2 : d < N) : N - (d + 1) < g := by omega
theorem fuel_keep {N d : Nat} : N ≤ N - (d + 1) + (d + 1) := by omega
def hstep (x : Int) (c : Nat) : Int := bits BinOp.xor IntKind.u32 x ((c : Int) % 4294967296) * 16777619 % 4294967296
def hashL (l : List Nat) : Int := l.foldl hstep 2166136261
theorem hashL_range (l : List Nat) : 0 ≤ hashL l ∧ hashL l < 4294967296 := by
  have key : ∀ (l : List Nat) (x : Int), 0 ≤ x → x < 4294967296 → 0 ≤ l.foldl hstep x ∧ l.foldl hstep x < 4294967296 := by
    intro l
    induction l with
    | nil => exact fun x h0 h1 => ⟨h0, h1⟩
    | cons c l ih => exact fun x _ _ => ih _ (Int.emod_nonneg _ (by decide)) (Int.emod_lt_of_pos _ (by decide))
  exact key l _ (by decide) (by decide)
theorem hashL_step (s : ByteArray) (i : Nat) (h : i < s.size) : hashL ((Utf.nats s).take (i + 1)) = hstep (hashL ((Utf.nats s).take i)) (s[i]'h).toNat := by
  have hl : i < (Utf.nats s).length := by rw [Utf.nats_length]; exact h
  have e : (Utf.nats s)[i] = (s[i]'h).toNat := by simp [Utf.nats]; rfl
  unfold hashL
  rw [List.take_succ_eq_append_getElem hl, List.foldl_append, e]; rfl
def hashW (s : ByteArray) : Nat := (hashL (Utf.nats s)).toNat
/-- A slot's word. -/
def slotW (ar : List Int) (s : Sl) : ByteArray := strOfNums (cutA ar s.f0.toNat s.f1.toNat)
def SlOk (ar : List Int) (s : Sl) : Prop := s.f2 = 0 ∨ ∃ a b : Nat, s.f0 = (a : Int) ∧ s.f1 = (b : Int) ∧ a ≤ b ∧ b ≤ ar.length
/-- What find answers: where a search for the word ends. -/
def FindOut (ar : List Int) (sl : List Sl) (ad : Addr) (word : ByteArray) (w : World) (e : Ending) (w' : World) : Prop :=
  ∃ (p d : Nat), e = .returned (.pointer (some (ad.add (p * 3)))) ∧ p < sl.length ∧ (hashW word + d) % sl.length = p ∧ ((sl.getD p zSl).f2 = 0 ∨ slotW ar (sl.getD p zSl) = word) ∧
    (∀ d', d' < d → (sl.getD ((hashW word + d') % sl.length) zSl).f2 ≠ 0 ∧ slotW ar (sl.getD ((hashW word + d') % sl.length) zSl) ≠ word) ∧ Below w.heap.size w w'
set_option maxHeartbeats 4000000 in
set_option maxRecDepth 100000 in
theorem find_k (g : Nat) (c0 c1 : Value) (Aa : Option Addr) (ca : Nat) (ar : List Int) (ad : Addr) (cs : Nat) (sl : List Sl) (word : ByteArray) (w : World) (hg : w.heap[g]? = some (.cells #[c0, c1, .slice Aa ar.length ca, .slice (some ad) sl.length cs] 48 (0, 0)))
    (hC : Kd.C (Kd.int .u8) w Aa ar.length ar) (hca : ar.length ≤ ca) (hS : Kd.C kSl w (some ad) sl.length sl) (hok : ∀ s ∈ sl, SlOk ar s) (hN : 0 < sl.length) (hNm : sl.length ≤ 1000000) (hwz : word.size ≤ 140737488355328)
    (hfree : ∀ d, (∀ d', d' < d → (sl.getD ((hashW word + d') % sl.length) zSl).f2 ≠ 0) → d < sl.length) :
    Calls Try.prog 16 #[.pointer (some ⟨g, 0, none⟩), .string word] w (FindOut ar sl ad word w) := by
  have HG := Aside0.mk hg; have HC := Aside0.mk hC; have HS := Aside0.mk hS; have HOK := Aside0.mk hok; have HF := Aside0.mk hfree
  clear hg hC hS hok hfree
  go_enter Try.func16, Try.ntmps16
  go_upto_block 0 with fail
  go_wp2
  go_loopg [5, 11] word.size (fun gg v5 v11 wr => ∃ i : Nat, v5 = .int .u32 (hashL ((Utf.nats word).take i)) ∧ v11 = .int .i64 (i : Int) ∧ Aside0 (i ≤ word.size ∧ word.size ≤ gg + i) ∧ wr = w)
  case atStart => exact ⟨0, rfl, rfl, ⟨Nat.zero_le _, by omega⟩, rfl⟩
  case round =>
    obtain ⟨i, rfl, rfl, hi, rfl⟩ := hrel
    by_cases hc : i < word.size
    · have hcb : decide ((i : Int) < (word.size : Int)) = true := decide_eq_true (by omega)
      have HH := Aside0.mk (hashL_step word i hc)
      go_wp2
      go_roundg (word.size - (i + 1))
      case measure => have := hi.out; omega
      case rel =>
        refine ⟨i + 1, congrArg (Value.int .u32) ?_, congrArg (Value.int .i64) ?_, ⟨by have := hi.out; omega⟩, rfl⟩
        · rw [HH.out]; rfl
        · omega
    · have hcb : decide ((i : Int) < (word.size : Int)) = false := decide_eq_false (by omega)
      have hti : (Utf.nats word).take i = Utf.nats word := List.take_of_length_le (by rw [Utf.nats_length]; omega)
      rw [hti]
      have hr := hashL_range (Utf.nats word)
      obtain ⟨hv, ehv⟩ : ∃ hv : Nat, hv = hashW word := ⟨_, rfl⟩
      have ehz : hashL (Utf.nats word) = (hv : Int) := by rw [ehv]; unfold hashW; omega
      rw [ehz] at hr ⊢
      have HV := Aside0.mk ehv
      clear ehv ehz hti
      have c3 : wr.cell? ⟨g, 3, none⟩ = some (.slice (some ad) sl.length cs) := (blk_cell HG.out 3).trans rfl
      go_upto_block 2 with fail
      have hm0 : ((hv : Int) % (sl.length : Int)) = (((hv + 0) % sl.length : Nat) : Int) := by rw [Nat.add_zero]; rfl
      rw [hm0]
      clear hm0 c3
      obtain ⟨W0, hW0⟩ : ∃ W0, W0 = wr := ⟨_, rfl⟩
      rw [← hW0] at HG HC HS ⊢
      clear hW0
      go_wp2
      go_loopg [7] sl.length (fun gg v7 wx => ∃ d : Nat, v7 = .int .i64 (((hv + d) % sl.length : Nat) : Int) ∧ Aside0 (sl.length ≤ gg + d) ∧ Aside0 (∀ d', d' < d → (sl.getD ((hv + d') % sl.length) zSl).f2 ≠ 0 ∧ slotW ar (sl.getD ((hv + d') % sl.length) zSl) ≠ word) ∧ Aside0 (Below W0.heap.size W0 wx))
      case atStart => exact ⟨0, rfl, ⟨by omega⟩, ⟨fun d' h => absurd h (by omega)⟩, ⟨Below.refl _ _⟩⟩
      case round =>
        obtain ⟨d, rfl, hd, hpast, hb⟩ := hrel
        have HG1 := Aside0.mk (blk_below HG.out hb.out)
        have HC1 := Aside0.mk (Kd.C_below HC.out hb.out)
        have hdN : d < sl.length := HF.out d (fun d' h => by rw [← HV.out]; exact (hpast.out d' h).1)
        obtain ⟨p, hp⟩ : ∃ p, (hv + d) % sl.length = p := ⟨_, rfl⟩
        have hpN : p < sl.length := by rw [← hp]; exact Nat.mod_lt _ hN
        have HPP := Aside0.mk hp
        rw [hp]
        clear hp
        obtain ⟨ad2, cc, e0, _, hK, hcc⟩ := Kd.C_get (Kd.C_below HS.out hb.out) zSl (p : Int) (by omega) (by omega)
        cases e0
        rw [Int.toNat_natCast] at hK hcc
        obtain ⟨s, hs⟩ : ∃ s, sl.getD p zSl = s := ⟨_, rfl⟩
        rw [hs] at hK
        have HSS := Aside0.mk hs
        have hsok : SlOk ar s := by
          rw [← hs, List.getD_eq_getElem?_getD, List.getElem?_eq_getElem hpN]
          exact HOK.out _ (List.getElem_mem hpN)
        have HSO := Aside0.mk hsok
        clear hs hsok
        obtain rfl := kSl_open hK
        have hc : ∀ j u, ([.int .i64 s.f0, .int .i64 s.f1, .int .u64 s.f2] : List Value)[j]? = some u → wr.cell? (ad.add (p * 3 + j)) = some u := hcc
        have q0 : wr.cell? (ad.add (p * 3)) = some (.int .i64 s.f0) := hc 0 _ rfl
        have q1 : wr.cell? ⟨(ad.add (p * 3)).block, (ad.add (p * 3)).off + 1, none⟩ = some (.int .i64 s.f1) := by rw [← add_field _ _ 1 (by omega)]; exact hc 1 _ rfl
        have q2 : wr.cell? ⟨(ad.add (p * 3)).block, (ad.add (p * 3)).off + 2, none⟩ = some (.int .u64 s.f2) := by rw [← add_field _ _ 2 (by omega)]; exact hc 2 _ rfl
        have c3 : wr.cell? ⟨g, 3, none⟩ = some (.slice (some ad) sl.length cs) := (blk_cell HG1.out 3).trans rfl
        have z1 : (0 : Int) ≤ (p : Int) := by omega
        have z2 : (p : Int) < (sl.length : Int) := by omega
        clear hK hcc hc
        by_cases hz : s.f2 = 0
        · have hzb : (s.f2 == 0) = true := beq_iff_eq.2 hz
          have HZ := Aside0.mk hz
          clear hz
          go_wp2
          go_ret
          exact ⟨p, d, rfl, hpN, by rw [← HV.out]; exact HPP.out, Or.inl (by rw [HSS.out]; exact HZ.out), fun d' h => by rw [← HV.out]; exact hpast.out d' h, hb.out⟩
        · have hzb : (s.f2 == 0) = false := beq_eq_false_iff_ne.2 hz
          have HZ := Aside0.mk hz
          have hslot : ∃ a b : Nat, s.f0 = (a : Int) ∧ s.f1 = (b : Int) ∧ a ≤ b ∧ b ≤ ar.length := by
            rcases HSO.out with h | h
            · exact absurd h hz
            · exact h
          obtain ⟨a, b, ea, eb, hab, hbl⟩ := hslot
          have hsw : slotW ar s = strOfNums (cutA ar a b) := by unfold slotW; rw [ea, eb, Int.toNat_natCast, Int.toNat_natCast]
          rw [ea] at q0
          rw [eb] at q1
          have hcall := word_k g c0 c1 (.slice (some ad) sl.length cs) Aa ca ar a b s.f2 wr HG1.out HC1.out hca hab hbl
          rw [← hsw] at hcall
          have HCALL := Aside0.mk hcall
          clear hcall hz hsw ea eb
          obtain ⟨x, hxe⟩ : ∃ x, slotW ar s = x := ⟨_, rfl⟩
          rw [hxe] at HCALL
          have HXE := Aside0.mk hxe
          clear hxe
          by_cases hx : x = word
          · have hxb : (x.toList == word.toList) = true := by rw [hx]; exact beq_self_eq_true _
            have HXX := Aside0.mk hx
            clear hx
            go_wp2_with (first | (go_at_call 18; (with_reducible refine (HCALL.out).mono ?_)))
            (first | rintro e w2 rfl hb2 | rintro e w2 ⟨rfl, hb2⟩)
            have HB2 := Aside0.mk (hb.out.trans (hb2.mono hb.out.size))
            clear hb2
            go_wp2
            go_ret
            exact ⟨p, d, rfl, hpN, by rw [← HV.out]; exact HPP.out, Or.inr (by rw [HSS.out, HXE.out]; exact HXX.out), fun d' h => by rw [← HV.out]; exact hpast.out d' h, HB2.out⟩
          · have hxb : (x.toList == word.toList) = false := beq_eq_false_iff_ne.2 (fun h => hx (toList_inj3 h))
            have HXX := Aside0.mk hx
            clear hx
            have HNX := Aside0.mk (next_mod hv d sl.length p HPP.out)
            go_wp2_with (first | (go_at_call 18; (with_reducible refine (HCALL.out).mono ?_)))
            (first | rintro e w2 rfl hb2 | rintro e w2 ⟨rfl, hb2⟩)
            have HB2 := Aside0.mk (hb.out.trans (hb2.mono hb.out.size))
            have c3 : w2.cell? ⟨g, 3, none⟩ = some (.slice (some ad) sl.length cs) := (blk_cell (blk_below HG1.out hb2) 3).trans rfl
            clear hb2
            go_upto_region 8 with fail
            clear hxb hzb q0 q1 q2 hab hbl hcb hc hr hca hwz
            have hw1 : wrap64 ((p : Int) + 1) = (p : Int) + 1 := wrap_next (Nat.lt_of_lt_of_le hpN hNm)
            go_wp2
            clear hw1 c3
            go_roundg (sl.length - (d + 1))
            case measure => exact fuel_less hd.out hdN
            case rel =>
              refine ⟨d + 1, ?_, ⟨?_⟩, ⟨fun d' h => ?_⟩, HB2⟩
              · exact congrArg (Value.int .i64) HNX.out
              · exact fuel_keep
              · by_cases hdd : d' = d
                · subst hdd
                  rw [HPP.out, HSS.out]
                  exact ⟨HZ.out, by rw [HXE.out]; exact HXX.out⟩
                · exact hpast.out d' (Nat.lt_of_le_of_ne (Nat.le_of_lt_succ h) hdd)
end Go.Proofs.Ytkkkfgnaojhmeaa.K

namespace Go.Proofs.Ytkkkfgnaojhmeaa.K
open Go.RowKit Go.Proofs.YtkkkfgnaojhmeaaW.PrintWords Go.Proofs.YtkkkfgnaojhmeaaW.PrintLast Go.Proofs.YtkkkfgnaojhmeaaW.PrintMore Go.Proofs.Ytkkkfgnaojhmeaa
attribute [local go_sem] max2_int min2_int max_two min_two max_three min_three max_four min_four
set_option linter.unusedVariables false
set_option linter.unusedSimpArgs false
open Go.Proofs.Ytkkkfgnaojhmeaa.PTb Go.Proofs.Ytkkkfgnaojhmeaa.Tab
theorem nats_inj3 {s t : ByteArray} (h : Utf.nats s = Utf.nats t) : s = t := by
  unfold Utf.nats at h
  have h2 := (List.map_inj_right (f := fun b : UInt8 => b.toNat) (fun a b h => UInt8.toNat_inj.1 h)).1 h
  exact ByteArray.ext (Array.toList_inj.1 h2)
/-- What slot p holds. -/
def ctOf (ar : List Int) (sl : List Sl) (p : Nat) : Option En := if (sl.getD p zSl).f2 = 0 then none else some (Utf.nats (slotW ar (sl.getD p zSl)), (sl.getD p zSl).f2.toNat)
def hN (w : Wd) : Nat := (hashL w).toNat
/-- The table's rows and the list that it stands for. -/
structure TabR (room : Nat) (ar : List Int) (sl : List Sl) (L : List En) : Prop where
  lo : 1 ≤ room
  hi : room ≤ 65536
  len : sl.length = 2 * room
  many : L.length ≤ room
  byt : ∀ x ∈ ar, 0 ≤ x ∧ x < 256
  small : ar.length ≤ L.length * 1048576
  ok : ∀ s ∈ sl, SlOk ar s ∧ 0 ≤ s.f2 ∧ s.f2 ≤ 4611686018427387904
  ti : TI (2 * room) hN (ctOf ar sl) L
/-- A table at block g: its four cells, the arena's row and the slots' row of its own; all its blocks are F's. -/
def TabF (base g room : Nat) (F : Nat → Prop) (L : List En) (wx : World) : Prop :=
  ∃ (va vs : Value) (ar : List Int) (sl : List Sl), wx.heap[g]? = some (.cells #[.int .i64 (room : Int), .int .i64 (L.length : Int), va, vs] 48 (0, 0)) ∧ (base ≤ g ∧ F g) ∧
    Kd.R (Kd.int .u8) 5 wx base (fun k => k ≠ g ∧ F k) va ar ∧ Kd.R kSl 57 wx base (fun k => k ≠ g ∧ F k) vs sl ∧ TabR room ar sl L
abbrev TabW (base g room : Nat) (L : List En) (wx : World) : Prop := TabF base g room (fun _ => True) L wx
theorem TabF.mono {base g room : Nat} {F F' : Nat → Prop} {L : List En} {wx : World} (h : TabF base g room F L wx) (hF : ∀ k, F k → F' k) : TabF base g room F' L wx := by
  obtain ⟨va, vs, ar, sl, h1, h2, h3, h4, h5⟩ := h
  exact ⟨va, vs, ar, sl, h1, ⟨h2.1, hF _ h2.2⟩, Kd.R_mono h3 (fun k hk => ⟨hk.1, hF k hk.2⟩), Kd.R_mono h4 (fun k hk => ⟨hk.1, hF k hk.2⟩), h5⟩
theorem TabF.step {base g room : Nat} {F : Nat → Prop} {L : List En} {wx w1 : World} (h : TabF base g room F L wx) (hb : Below wx.heap.size wx w1) : TabF base g room F L w1 := by
  obtain ⟨va, vs, ar, sl, h1, h2, h3, h4, h5⟩ := h
  exact ⟨va, vs, ar, sl, blk_below h1 hb, h2, Kd.R_below h3 hb, Kd.R_below h4 hb, h5⟩
/-- All its blocks are there. -/
theorem TabF.here {base g room : Nat} {F : Nat → Prop} {L : List En} {wx : World} (h : TabF base g room F L wx) : TabF base g room (fun k => F k ∧ k < wx.heap.size) L wx := by
  obtain ⟨va, vs, ar, sl, h1, h2, h3, h4, h5⟩ := h
  exact ⟨va, vs, ar, sl, h1, ⟨h2.1, h2.2, blk_lt h1⟩, Kd.R_mono (Kd.R_bound h3) (fun k hk => ⟨hk.1.1, hk.1.2, hk.2.2.1⟩), Kd.R_mono (Kd.R_bound h4) (fun k hk => ⟨hk.1.1, hk.1.2, hk.2.2.1⟩), h5⟩
theorem tab_empty (room : Nat) (h1 : 1 ≤ room) (h2 : room ≤ 65536) : TabR room [] (List.replicate (2 * room) zSl) [] := by
  have hz : ∀ p, (List.replicate (2 * room) zSl).getD p zSl = zSl := fun p => by
    rw [List.getD_eq_getElem?_getD, List.getElem?_replicate]
    split <;> rfl
  refine ⟨h1, h2, by simp, Nat.zero_le _, by simp, Nat.zero_le _, fun s hs => ?_, ?_⟩
  · rw [(List.mem_replicate.1 hs).2]
    exact ⟨Or.inl rfl, by decide, by decide⟩
  · have e : ctOf [] (List.replicate (2 * room) zSl) = fun _ => none := by
      funext p
      unfold ctOf
      rw [hz, if_pos (by decide)]
    rw [e]
    exact TI.empty hN (by omega)
set_option maxHeartbeats 4000000 in
set_option maxRecDepth 100000 in
theorem newF (room : Nat) (h1 : 1 ≤ room) (h2 : room ≤ 65536) (w : World) : Calls Try.prog 10 #[.int .i64 (room : Int)] w fun e w' => ∃ g, e = .returned (.tuple #[.pointer (some ⟨g, 0, none⟩), .int .i64 0]) ∧ TabF w.heap.size g room (fun k => w.heap.size ≤ k) [] w' ∧ Below w.heap.size w w' := by
  have z1 : decide ((room : Int) < 1) = false := decide_eq_false (by omega)
  have z2 : decide (65536 < (room : Int)) = false := decide_eq_false (by omega)
  have z3 : decide ((room : Int) > 65536) = false := decide_eq_false (by omega)
  have hm : wrap64 (2 * (room : Int)) = ((2 * room : Nat) : Int) := by unfold wrap64; omega
  go_enter Try.func10, Try.ntmps10
  go_wp2_with ((with_reducible refine gate_dst (N := 13) rfl ?_); refine Kd.R_make kSl _ 57 rfl (N := 13) rfl 46 _ _ rfl ((2 * room : Nat) : Int) ?hx ?hy Try.underlying46 (.agg #[(.int .i64 0), (.int .i64 0), (.int .u64 0)]) 24 info57 rfl (by decide) (by omega) zSl (ok := fun _ => True) (okp := fun _ => True) (kSl_mkM _ _ _ _) (fun _ hk => hk) trivial (Int.natCast_nonneg _) (by rw [Int.toNat_natCast]; omega) (Below.refl _ _) (Nat.le_refl _) ?_; (case hx => first | rfl | (go_simp; rfl)); (case hy => first | rfl | (go_simp; rfl)); intro v1 w1 hR hb hg hat; rw [Int.toNat_natCast] at hR; obtain ⟨As, cs, e1⟩ : ∃ A c, v1 = .slice A (2 * room) c := (by obtain ⟨A, c, e⟩ := Kd.R_slice hR; exact ⟨A, c, by rw [e, List.length_replicate]⟩); subst e1; have HR := Aside0.mk hR; have HB := Aside0.mk hb; clear hR hb hg hat)
  go_ret2
  have hn := heap_alloc_new w1 (.cells #[.int .i64 (room : Int), .int .i64 (([] : List En).length : Int), .slice none 0 0, .slice As (2 * room) cs] 48)
  have hb2 : Below w1.heap.size w1 (w1.alloc (.cells #[.int .i64 (room : Int), .int .i64 (([] : List En).length : Int), .slice none 0 0, .slice As (2 * room) cs] 48)) := below_alloc (Below.refl _ _) _
  have hlt := Kd.R_lt HR.out
  refine ⟨w1.heap.size, rfl, ⟨_, _, [], List.replicate (2 * room) zSl, hn, ⟨HB.out.size, HB.out.size⟩, Kd.R_nil _ _ _ _ _, ?_, tab_empty room h1 h2⟩, HB.out.trans (hb2.mono HB.out.size)⟩
  have hbs := Kd.R_base HR.out
  exact Kd.R_reok rfl (Kd.R_below HR.out hb2) (fun k hk => ⟨fun e => by have := hlt k hk; omega, hbs k hk⟩)
theorem get_le {L : List En} {w : Wd} {c : Nat} (hs : L.Pairwise (fun a b => a.1 < b.1)) (h : (w, c) ∈ L) : getL L w = c := get_mem hs h
/-- What find's end tells of the list. -/
theorem find_get {room : Nat} {ar : List Int} {sl : List Sl} {L : List En} (h : TabR room ar sl L) (word : ByteArray) (p d : Nat) (hp : p < sl.length) (hpd : (hashW word + d) % sl.length = p) (he : (sl.getD p zSl).f2 = 0 ∨ slotW ar (sl.getD p zSl) = word)
    (hpast : ∀ d', d' < d → (sl.getD ((hashW word + d') % sl.length) zSl).f2 ≠ 0 ∧ slotW ar (sl.getD ((hashW word + d') % sl.length) zSl) ≠ word) : (sl.getD p zSl).f2 = (getL L (Utf.nats word) : Int) := by
  by_cases hz : (sl.getD p zSl).f2 = 0
  · have hab := h.ti.absent (Utf.nats word) d (fun d' h1 => by
      obtain ⟨q1, q2⟩ := hpast d' h1
      rw [h.len] at q1 q2
      refine ⟨(Utf.nats (slotW ar (sl.getD ((hashW word + d') % (2 * room)) zSl)), (sl.getD ((hashW word + d') % (2 * room)) zSl).f2.toNat), ?_, fun e => q2 (nats_inj3 e)⟩
      show ctOf ar sl ((hashW word + d') % (2 * room)) = _
      unfold ctOf
      rw [if_neg q1]) (by
      show ctOf ar sl ((hashW word + d) % (2 * room)) = none
      rw [← h.len, hpd]
      unfold ctOf
      rw [if_pos hz])
    rw [hz, get_none hab]; rfl
  · have hw : slotW ar (sl.getD p zSl) = word := by
      rcases he with h1 | h1
      · exact absurd h1 hz
      · exact h1
    have hct : ctOf ar sl p = some (Utf.nats word, (sl.getD p zSl).f2.toNat) := by
      unfold ctOf
      rw [if_neg hz, hw]
    have hm := h.ti.found (by rw [← h.len]; exact hp) hct
    rw [get_le h.ti.sorted hm]
    have hsl := (h.ok (sl.getD p zSl) (by rw [List.getD_eq_getElem?_getD, List.getElem?_eq_getElem hp]; exact List.getElem_mem hp)).2.1
    omega
theorem tab_free {room : Nat} {ar : List Int} {sl : List Sl} {L : List En} (h : TabR room ar sl L) (word : ByteArray) (d : Nat) (hd : ∀ d', d' < d → (sl.getD ((hashW word + d') % sl.length) zSl).f2 ≠ 0) : d < sl.length := by
  rw [h.len] at hd ⊢
  refine h.ti.free (hashW word) d (fun d' h1 => ⟨(Utf.nats (slotW ar (sl.getD ((hashW word + d') % (2 * room)) zSl)), (sl.getD ((hashW word + d') % (2 * room)) zSl).f2.toNat), ?_⟩)
  unfold ctOf
  rw [if_neg (hd d' h1)]
end Go.Proofs.Ytkkkfgnaojhmeaa.K

namespace Go.Proofs.Ytkkkfgnaojhmeaa.K
open Go.RowKit Go.Proofs.YtkkkfgnaojhmeaaW.PrintWords Go.Proofs.YtkkkfgnaojhmeaaW.PrintLast Go.Proofs.YtkkkfgnaojhmeaaW.PrintMore Go.Proofs.Ytkkkfgnaojhmeaa
attribute [local go_sem] max2_int min2_int max_two min_two max_three min_three max_four min_four
set_option linter.unusedVariables false
set_option linter.unusedSimpArgs false
open Go.Proofs.Ytkkkfgnaojhmeaa.PTb Go.Proofs.Ytkkkfgnaojhmeaa.Tab
theorem getD_set (sl : List Sl) (p q : Nat) (s : Sl) (hp : p < sl.length) : (sl.set p s).getD q zSl = if q = p then s else sl.getD q zSl := by
  rw [List.getD_eq_getElem?_getD, List.getD_eq_getElem?_getD, List.getElem?_set]
  by_cases h : p = q
  · subst h
    rw [if_pos rfl, if_pos hp, if_pos rfl]; rfl
  · rw [if_neg h, if_neg (fun e => h e.symm)]
theorem past_ct {room : Nat} {ar : List Int} {sl : List Sl} (hlen : sl.length = 2 * room) (word : ByteArray) (d : Nat) (hpast : ∀ d', d' < d → (sl.getD ((hashW word + d') % sl.length) zSl).f2 ≠ 0 ∧ slotW ar (sl.getD ((hashW word + d') % sl.length) zSl) ≠ word) :
    ∀ d', d' < d → ∃ f, ctOf ar sl ((hN (Utf.nats word) + d') % (2 * room)) = some f ∧ f.1 ≠ Utf.nats word := fun d' h1 => by
  obtain ⟨q1, q2⟩ := hpast d' h1
  rw [hlen] at q1 q2
  refine ⟨(Utf.nats (slotW ar (sl.getD ((hashW word + d') % (2 * room)) zSl)), (sl.getD ((hashW word + d') % (2 * room)) zSl).f2.toNat), ?_, fun e => q2 (nats_inj3 e)⟩
  show ctOf ar sl ((hashW word + d') % (2 * room)) = _
  unfold ctOf
  rw [if_neg q1]
/-- A word's count set anew. -/
theorem tabR_set {room : Nat} {ar : List Int} {sl : List Sl} {L : List En} (h : TabR room ar sl L) (word : ByteArray) (p d : Nat) (hp : p < sl.length) (hpd : (hashW word + d) % sl.length = p) (hz : (sl.getD p zSl).f2 ≠ 0) (hw : slotW ar (sl.getD p zSl) = word)
    (hpast : ∀ d', d' < d → (sl.getD ((hashW word + d') % sl.length) zSl).f2 ≠ 0 ∧ slotW ar (sl.getD ((hashW word + d') % sl.length) zSl) ≠ word) (c : Nat) (h1 : 1 ≤ c) (h2 : c ≤ 4611686018427387904) :
    TabR room ar (sl.set p ⟨(sl.getD p zSl).f0, (sl.getD p zSl).f1, (c : Int)⟩) (putL L (Utf.nats word) c) ∧ (putL L (Utf.nats word) c).length = L.length := by
  have hp2 : p < 2 * room := by rw [← h.len]; exact hp
  have hct : ctOf ar sl p = some (Utf.nats word, (sl.getD p zSl).f2.toNat) := by
    unfold ctOf
    rw [if_neg hz, hw]
  have hup : ctOf ar (sl.set p ⟨(sl.getD p zSl).f0, (sl.getD p zSl).f1, (c : Int)⟩) = TI.upd (ctOf ar sl) p (Utf.nats word, c) := by
    funext q
    unfold ctOf TI.upd
    rw [getD_set sl p q _ hp]
    by_cases hq : q = p
    · rw [if_pos hq, if_pos hq, if_neg (show (c : Int) ≠ 0 by omega)]
      have e : slotW ar ⟨(sl.getD p zSl).f0, (sl.getD p zSl).f1, (c : Int)⟩ = word := hw
      rw [e]; rfl
    · rw [if_neg hq, if_neg hq]
  have ht := h.ti.put hp2 (Utf.nats word) c d (past_ct h.len word d hpast) (by rw [← h.len]; exact hpd) (Or.inl ⟨_, hct, rfl⟩)
  have hmem := h.ti.found hp2 hct
  have hlp : (putL L (Utf.nats word) c).length = L.length := by rw [len_put L _ _ h.ti.sorted, if_pos ⟨_, hmem, rfl⟩]
  refine ⟨⟨h.lo, h.hi, by rw [List.length_set]; exact h.len, by rw [hlp]; exact h.many, h.byt, by rw [hlp]; exact h.small, fun s hs => ?_, by rw [hup]; exact ht⟩, hlp⟩
  · rcases List.mem_or_eq_of_mem_set hs with h3 | h3
    · exact h.ok s h3
    · subst h3
      have hso := h.ok (sl.getD p zSl) (by rw [List.getD_eq_getElem?_getD, List.getElem?_eq_getElem hp]; exact List.getElem_mem hp)
      refine ⟨Or.inr ?_, by show (0 : Int) ≤ (c : Int); omega, by show (c : Int) ≤ 4611686018427387904; omega⟩
      rcases hso.1 with h4 | h4
      · exact absurd h4 hz
      · exact h4

def bytesI (s : ByteArray) : List Int := (Utf.nats s).map Int.ofNat
theorem bytesI_len (s : ByteArray) : (bytesI s).length = s.size := by unfold bytesI; rw [List.length_map, Utf.nats_length]
theorem bytesI_str (s : ByteArray) : strOfNums (bytesI s) = s := by
  apply nats_inj3
  rw [nats_str]
  unfold bytesI
  rw [List.map_map]
  refine (List.map_congr_left (fun x hx => ?_)).trans (List.map_id _)
  have := Utf.nats_lt s x hx
  show (Int.ofNat x).toNat % 256 = x
  simp; omega
theorem cut_old (ar x : List Int) (a b : Nat) (h : b ≤ ar.length) : cutA (ar ++ x) a b = cutA ar a b := by
  unfold cutA
  rw [List.take_append_of_le_length h]
theorem cut_new (ar x : List Int) : cutA (ar ++ x) ar.length (ar.length + x.length) = x := by
  unfold cutA
  rw [List.take_of_length_le (by rw [List.length_append]; exact Nat.le_refl _), List.drop_left]
theorem slotW_old {ar x : List Int} {s : Sl} (h : SlOk ar s) (hz : s.f2 ≠ 0) : slotW (ar ++ x) s = slotW ar s := by
  rcases h with h | ⟨a, b, e0, e1, h1, h2⟩
  · exact absurd h hz
  · unfold slotW
    rw [e0, e1, Int.toNat_natCast, Int.toNat_natCast, cut_old ar x a b h2]
/-- A new word. -/
theorem tabR_new {room : Nat} {ar : List Int} {sl : List Sl} {L : List En} (h : TabR room ar sl L) (word : ByteArray) (p d : Nat) (hp : p < sl.length) (hpd : (hashW word + d) % sl.length = p) (hz : (sl.getD p zSl).f2 = 0)
    (hpast : ∀ d', d' < d → (sl.getD ((hashW word + d') % sl.length) zSl).f2 ≠ 0 ∧ slotW ar (sl.getD ((hashW word + d') % sl.length) zSl) ≠ word) (c : Nat) (h1 : 1 ≤ c) (h2 : c ≤ 4611686018427387904) (hroom : L.length < room) (hsm : word.size ≤ 1048576) :
    TabR room (ar ++ bytesI word) (sl.set p ⟨(ar.length : Int), ((ar.length + word.size : Nat) : Int), (c : Int)⟩) (putL L (Utf.nats word) c) ∧ (putL L (Utf.nats word) c).length = L.length + 1 := by
  have hp2 : p < 2 * room := by rw [← h.len]; exact hp
  have hct : ctOf ar sl p = none := by
    unfold ctOf
    rw [if_pos hz]
  have hslq : ∀ q, (sl.getD q zSl).f2 ≠ 0 → SlOk ar (sl.getD q zSl) := fun q hq => by
    by_cases hql : q < sl.length
    · rw [List.getD_eq_getElem?_getD, List.getElem?_eq_getElem hql]
      exact (h.ok _ (List.getElem_mem hql)).1
    · exact absurd (by rw [List.getD_eq_getElem?_getD, List.getElem?_eq_none (by omega)]; rfl) hq
  have hup : ctOf (ar ++ bytesI word) (sl.set p ⟨(ar.length : Int), ((ar.length + word.size : Nat) : Int), (c : Int)⟩) = TI.upd (ctOf ar sl) p (Utf.nats word, c) := by
    funext q
    unfold ctOf TI.upd
    rw [getD_set sl p q _ hp]
    by_cases hq : q = p
    · rw [if_pos hq, if_pos hq, if_neg (show (c : Int) ≠ 0 by omega)]
      have e : slotW (ar ++ bytesI word) ⟨(ar.length : Int), ((ar.length + word.size : Nat) : Int), (c : Int)⟩ = word := by
        unfold slotW
        show strOfNums (cutA (ar ++ bytesI word) ((ar.length : Int)).toNat (((ar.length + word.size : Nat) : Int)).toNat) = word
        rw [Int.toNat_natCast, Int.toNat_natCast, ← bytesI_len word, cut_new, bytesI_str]
      rw [e]; rfl
    · rw [if_neg hq, if_neg hq]
      show _ = if (sl.getD q zSl).f2 = 0 then none else some (Utf.nats (slotW ar (sl.getD q zSl)), (sl.getD q zSl).f2.toNat)
      by_cases hq2 : (sl.getD q zSl).f2 = 0
      · rw [if_pos hq2, if_pos hq2]
      · rw [if_neg hq2, if_neg hq2, slotW_old (hslq q hq2) hq2]
  have hpa := past_ct h.len word d hpast
  have hab := h.ti.absent (Utf.nats word) d hpa (by show ctOf ar sl ((hashW word + d) % (2 * room)) = none; rw [← h.len, hpd]; exact hct)
  have ht := h.ti.put hp2 (Utf.nats word) c d hpa (by rw [← h.len]; exact hpd) (Or.inr ⟨hct, by have := h.lo; omega⟩)
  have hlp : (putL L (Utf.nats word) c).length = L.length + 1 := by
    rw [len_put L _ _ h.ti.sorted, if_neg]
    rintro ⟨e, he, h3⟩
    exact hab e he h3
  refine ⟨⟨h.lo, h.hi, by rw [List.length_set]; exact h.len, by rw [hlp]; omega, fun x hx => ?_, by rw [List.length_append, bytesI_len, hlp]; have := h.small; omega, fun s hs => ?_, by rw [hup]; exact ht⟩, hlp⟩
  · rcases List.mem_append.1 hx with hx | hx
    · exact h.byt x hx
    · unfold bytesI at hx
      obtain ⟨n, hn, rfl⟩ := List.mem_map.1 hx
      have := Utf.nats_lt word n hn
      show 0 ≤ (n : Int) ∧ (n : Int) < 256
      omega
  · rcases List.mem_or_eq_of_mem_set hs with h3 | h3
    · obtain ⟨q1, q2, q3⟩ := h.ok s h3
      refine ⟨?_, q2, q3⟩
      rcases q1 with h4 | ⟨a, b, e0, e1, h5, h6⟩
      · exact Or.inl h4
      · exact Or.inr ⟨a, b, e0, e1, h5, by rw [List.length_append]; omega⟩
    · subst h3
      exact ⟨Or.inr ⟨ar.length, ar.length + word.size, rfl, rfl, Nat.le_add_right _ _, by rw [List.length_append, bytesI_len]; exact Nat.le_refl _⟩, by show (0 : Int) ≤ (c : Int); omega, by show (c : Int) ≤ 4611686018427387904; omega⟩
end Go.Proofs.Ytkkkfgnaojhmeaa.K

namespace Go.Proofs.Ytkkkfgnaojhmeaa.K
open Go.RowKit Go.Proofs.YtkkkfgnaojhmeaaW.PrintWords Go.Proofs.YtkkkfgnaojhmeaaW.PrintLast Go.Proofs.YtkkkfgnaojhmeaaW.PrintMore Go.Proofs.Ytkkkfgnaojhmeaa
attribute [local go_sem] max2_int min2_int max_two min_two max_three min_three max_four min_four
set_option linter.unusedVariables false
set_option linter.unusedSimpArgs false
open Go.Proofs.Ytkkkfgnaojhmeaa.PTb Go.Proofs.Ytkkkfgnaojhmeaa.Tab
/-- What Add does to the list. -/
def addL (L : List En) (room : Nat) (w : Wd) (n : Nat) : List En × Int :=
  if w = [] ∨ n = 0 then (L, 1) else if 4611686018427387904 < getL L w + n then (L, 5) else if 0 < getL L w then (putL L w (getL L w + n), 0) else if L.length = room then (L, 6) else (putL L w n, 0)
set_option maxHeartbeats 4000000 in
set_option maxRecDepth 100000 in
theorem add_none (base g room : Nat) (L : List En) (word : ByteArray) (n : Nat) (w : World) (h0 : Utf.nats word = [] ∨ n = 0) :
    Calls Try.prog 12 #[.pointer (some ⟨g, 0, none⟩), .string word, .int .u64 (n : Int)] w fun e w' => e = .returned (.int .i64 1) ∧ w' = w := by
  have hemp : Utf.nats word = [] → word.toList.isEmpty = true := fun h => by
    rw [ByteArray.toList_eq]
    unfold Utf.nats at h
    simpa using h
  by_cases he : word.toList.isEmpty = true
  · go_enter Try.func12, Try.ntmps12
    go_wp2
    go_ret
    exact ⟨rfl, rfl⟩
  · have hn : n = 0 := by
      rcases h0 with h | h
      · exact absurd (hemp h) he
      · exact h
    subst hn
    have he2 : word.toList.isEmpty = false := by simpa using he
    clear hemp h0 he
    go_enter Try.func12, Try.ntmps12
    go_wp2
    go_ret
    exact ⟨rfl, rfl⟩

theorem num_over {a n : Nat} (ha : a ≤ 4611686018427387904) (h : 4611686018427387904 < a + n) : num_Add.f (a : Int) (n : Int) = some (0, false) := by
  unfold num_Add.f
  have hw : IntKind.u64.wrap (4611686018427387904 - (a : Int)) = 4611686018427387904 - (a : Int) := by
    simp [IntKind.wrap, IntKind.signed, IntKind.bits]; omega
  rw [if_neg (by omega), hw, if_pos (by omega)]
set_option maxHeartbeats 4000000 in
set_option maxRecDepth 100000 in
theorem add_over (base g room : Nat) (F : Nat → Prop) (L : List En) (word : ByteArray) (n : Nat) (w : World) (h : TabF base g room F L w) (hwz : word.size ≤ 140737488355328) (hne : Utf.nats word ≠ []) (hn : n ≠ 0) (hov : 4611686018427387904 < getL L (Utf.nats word) + n) :
    Calls Try.prog 12 #[.pointer (some ⟨g, 0, none⟩), .string word, .int .u64 (n : Int)] w fun e w' => e = .returned (.int .i64 5) ∧ Below w.heap.size w w' := by
  obtain ⟨va, vs, ar, sl, h1, h2, h3, h4, h5⟩ := h
  have hsl : 0 < sl.length := by rw [h5.len]; have := h5.lo; omega
  have hslm : sl.length ≤ 1000000 := by rw [h5.len]; have := h5.hi; omega
  obtain ⟨Aa, ca, ea⟩ := Kd.R_slice h3
  subst ea
  obtain ⟨ad, cs, es⟩ := Kd.R_slice1 h4 hsl
  subst es
  obtain ⟨_, hca, hCa⟩ := Kd.R_reads' h3
  obtain ⟨_, hcs, hCs⟩ := Kd.R_reads' h4
  have hfind := find_k g _ _ Aa ca ar ad cs sl word w h1 hCa hca hCs (fun s hs => (h5.ok s hs).1) hsl hslm hwz (tab_free h5 word)
  have HF := Aside0.mk hfind; have HC := Aside0.mk hCs; have H5 := Aside0.mk h5
  have hemp : word.toList.isEmpty = false := by
    cases hh : word.toList with
    | nil => exact absurd (by rw [ByteArray.toList_eq] at hh; unfold Utf.nats; rw [hh]; rfl) hne
    | cons a l => rfl
  have hnb : ((n : Int) == 0) = false := beq_eq_false_iff_ne.2 (by omega)
  have HOV := Aside0.mk hov
  clear h1 h2 h3 h4 h5 hfind hCa hCs hca hcs hne hov hn
  go_enter Try.func12, Try.ntmps12
  go_wp2_with (first | (go_at_call 16; (with_reducible refine (HF.out).mono ?_)))
  rintro e w2 ⟨p, d, rfl, hp, hpd, he, hpast, hb⟩
  obtain ⟨ad2, cc, e0, _, hK, hcc⟩ := Kd.C_get (Kd.C_below HC.out hb) zSl (p : Int) (by omega) (by omega)
  cases e0
  rw [Int.toNat_natCast] at hK hcc
  have hg := find_get H5.out word p d hp hpd he hpast
  have hle := (H5.out.ok (sl.getD p zSl) (by rw [List.getD_eq_getElem?_getD, List.getElem?_eq_getElem hp]; exact List.getElem_mem hp)).2.2
  clear he hpast hpd
  generalize sl.getD p zSl = s at hK hg hle
  rw [hg] at hle
  have hadd := num_over (a := getL L (Utf.nats word)) (n := n) (by omega) HOV.out
  rw [← hg] at hadd
  have HADD := Aside0.mk hadd
  obtain rfl := kSl_open hK
  have q2 : w2.cell? ⟨(ad.add (p * 3)).block, (ad.add (p * 3)).off + 2, none⟩ = some (.int .u64 s.f2) := by rw [← add_field _ _ 2 (by omega)]; exact hcc 2 _ rfl
  have HB := Aside0.mk hb
  clear hK hcc hg hb hle hadd
  go_wp2_with (first | (go_at_call 17; (with_reducible refine (num_Add.calls s.f2 (n : Int) 0 false w2 HADD.out).mono ?_)))
  rintro e w3 ⟨rfl, hdr⟩
  have HB3 := Aside0.mk (HB.out.trans (hdr.below.mono HB.out.size))
  clear hdr
  go_wp2
  go_ret
  exact ⟨rfl, HB3.out⟩

theorem num_fits {a n : Nat} (h : a + n ≤ 4611686018427387904) : num_Add.f (a : Int) (n : Int) = some (((a + n : Nat) : Int), true) := by
  unfold num_Add.f
  have hw : IntKind.u64.wrap (4611686018427387904 - (a : Int)) = 4611686018427387904 - (a : Int) := by
    simp [IntKind.wrap, IntKind.signed, IntKind.bits]; omega
  have hw2 : IntKind.u64.wrap ((a : Int) + (n : Int)) = ((a + n : Nat) : Int) := by
    simp [IntKind.wrap, IntKind.signed, IntKind.bits]; omega
  rw [if_neg (by omega), hw, if_neg (by omega), hw2]
end Go.Proofs.Ytkkkfgnaojhmeaa.K

