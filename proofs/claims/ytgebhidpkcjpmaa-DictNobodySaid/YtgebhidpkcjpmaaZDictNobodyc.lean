/- DictNobody. (The texts that the proof is made of, one behind the other: part 3 of 18.) -/
import Derived.Test.YtgebhidpkcjpmaaProg
import Derived.KernelRfl
import Derived.Lib.DecodeNEq
import Derived.Laws.Strings
import Derived.Below
import Derived.Deep.Draws
import Derived.Deep.AppendLies
import Derived.Maps.AppendAt
import Derived.OwnWalk
import Derived.Laws.BytesArg
import Derived.Laws.MakeOwn
import Derived.Laws.OwnMore
import Derived.Deep.OwnRows
import Derived.Tactics
import Derived.Lib.ConvBytes
import Derived.Laws.Slices
import Derived.WalkKit
import Derived.RowKit3
import Derived.Deep.LoopGhost
import Derived.Deep.QuietTactic
import Derived.BigQuiet
import Derived.WideLaws
import Derived.Deep.DeepCutAuto
import Derived.Deep.CutBlock
import Derived.Deep.RegionHeld3
import Derived.Laws.Rows
import Derived.Lib.AppendStr
import Derived.ArgAppend
import Derived.Laws.IdiomCopy
import Derived.OrdersHeld
import Derived.Laws.BitsLemmas
import Derived.RowKit
import Derived.Lib.OthersKept
import Derived.WalkSmall
import Derived.Deep.RegionLaw
import Derived.BigRegion
import Derived.Laws.Cover4
import Derived.Laws.IdiomStrings
import Derived.Test.YtgebhidpkcjpmaaZDictNobodya
import Derived.Test.YtgebhidpkcjpmaaZDictNobodyb
namespace Go.Proofs.Ytgebhidpkcjpmaa.K
theorem info3 : (Try.prog.info? 3).map (fun i => (i.zero, i.size, i.bytes)) = some (some (.int .i64 0), 1, 8) := by kernel_rfl
theorem info5 : (Try.prog.info? 5).map (fun i => (i.zero, i.size, i.bytes)) = some (some (.int .u8 0), 1, 1) := by kernel_rfl
theorem info9 : (Try.prog.info? 9).map (fun i => (i.zero, i.size, i.bytes)) = some (some (.string ⟨#[]⟩), 1, 16) := by kernel_rfl
theorem info36 : (Try.prog.info? 36).map (fun i => (i.zero, i.size, i.bytes)) = some (some (.slice none 0 0), 1, 24) := by kernel_rfl
theorem info47 : (Try.prog.info? 47).map (fun i => (i.zero, i.size, i.bytes)) = some (some (.int .u64 0), 1, 8) := by kernel_rfl
theorem info49 : (Try.prog.info? 49).map (fun i => (i.zero, i.size, i.bytes)) = some (some (.agg #[(.string ⟨#[]⟩), (.int .u64 0)]), 2, 24) := by kernel_rfl
theorem info82 : (Try.prog.info? 82).map (fun i => (i.zero, i.size, i.bytes)) = some (some (.agg #[(.bool false), (.slice none 0 0)]), 2, 32) := by kernel_rfl
theorem info84 : (Try.prog.info? 84).map (fun i => (i.zero, i.size, i.bytes)) = some (some (.agg #[(.int .u8 0), (.int .i64 0)]), 2, 16) := by kernel_rfl
end Go.Proofs.Ytgebhidpkcjpmaa.K

namespace Go.Proofs.Ytgebhidpkcjpmaa.Utf
open Go
set_option linter.unusedVariables false
set_option linter.unusedSimpArgs false

/-- May b stand behind a as the second byte of a sequence of three or four? -/
def fits (a b : Nat) : Bool :=
  if a = 0xE0 then decide (0xA0 ≤ b) && decide (b ≤ 0xBF)
  else if a = 0xED then decide (0x80 ≤ b) && decide (b ≤ 0x9F)
  else if a = 0xF0 then decide (0x90 ≤ b) && decide (b ≤ 0xBF)
  else if a = 0xF4 then decide (0x80 ≤ b) && decide (b ≤ 0x8F)
  else decide (0x80 ≤ b) && decide (b ≤ 0xBF)
def cont (b : Nat) : Bool := decide (0x80 ≤ b) && decide (b ≤ 0xBF)
/-- The rune with which bytes begin, and how many bytes it has. -/
def dec : List Nat → Nat × Nat
  | [] => (65533, 1)
  | a :: t =>
    if a < 128 then (a, 1)
    else if 0xC2 ≤ a ∧ a ≤ 0xDF then
      match t with
      | b :: _ => if cont b then (a % 32 * 64 + b % 64, 2) else (65533, 1)
      | [] => (65533, 1)
    else if 0xE0 ≤ a ∧ a ≤ 0xEF then
      match t with
      | b :: c :: _ => if fits a b && cont c then (a % 16 * 4096 + b % 64 * 64 + c % 64, 3) else (65533, 1)
      | _ => (65533, 1)
    else if 0xF0 ≤ a ∧ a ≤ 0xF4 then
      match t with
      | b :: c :: d :: _ => if fits a b && cont c && cont d then (a % 8 * 262144 + b % 64 * 4096 + c % 64 * 64 + d % 64, 4) else (65533, 1)
      | _ => (65533, 1)
    else (65533, 1)
/-- Are these bytes the begin of a sequence? -/
def pend : List Nat → Bool
  | [a] => decide (0xC2 ≤ a) && decide (a ≤ 0xF4)
  | [a, b] => decide (0xE0 ≤ a) && decide (a ≤ 0xF4) && fits a b
  | [a, b, c] => decide (0xF0 ≤ a) && decide (a ≤ 0xF4) && fits a b && cont c
  | _ => false

theorem dec_pos (l : List Nat) : 1 ≤ (dec l).2 := by
  unfold dec
  repeat' split
  all_goals simp
/-- All runes of bytes. -/
def all (l : List Nat) : List Nat :=
  if h : l = [] then [] else (dec l).1 :: all (l.drop (dec l).2)
termination_by l.length
decreasing_by
  have := dec_pos l
  have : 0 < l.length := List.length_pos_iff.2 h
  simp; omega
/-- The runes ahead of what is pending, and that. -/
def feed (l : List Nat) : List Nat × List Nat :=
  if h : l = [] then ([], [])
  else if pend l then ([], l)
  else ((dec l).1 :: (feed (l.drop (dec l).2)).1, (feed (l.drop (dec l).2)).2)
termination_by l.length
decreasing_by
  all_goals
    have := dec_pos l
    have : 0 < l.length := List.length_pos_iff.2 h
    simp; omega
theorem all_nil : all [] = [] := by rw [all]; simp
theorem feed_nil : feed [] = ([], []) := by rw [feed]; simp
/-- The decoder's classes by the first byte. -/
theorem decodeN_1 (n a b c d : Nat) (h : a < 128) : Lib.decodeN n a b c d = (a, 1) := by simp [Lib.decodeN, h]
/-- The bytes of a string, as numbers. -/
def nats (s : ByteArray) : List Nat := s.data.toList.map fun b => b.toNat
theorem nats_length (s : ByteArray) : (nats s).length = s.size := by simp [nats]
theorem nats_lt (s : ByteArray) : ∀ x ∈ nats s, x < 256 := by
  intro x hx
  simp only [nats, List.mem_map] at hx
  obtain ⟨b, _, rfl⟩ := hx
  exact b.toNat_lt
/-- The runes of a string, as Go's ints. -/
def runesFrom (s : ByteArray) (pos : Nat) : List Int := (all ((nats s).drop pos)).map fun n : Nat => (n : Int)
def runesZ (s : ByteArray) : List Int := runesFrom s 0
/-- What is fed from a place on: the runes, and how many bytes are pending. -/
def fedFrom (s : ByteArray) (pos : Nat) : List Int × Nat := ((feed ((nats s).drop pos)).1.map fun n : Nat => (n : Int), (feed ((nats s).drop pos)).2.length)
def wellL (l : List Nat) : Bool := decide ((dec l).2 = l.length) && decide (1 < l.length)
def well (s : ByteArray) : Bool :=
  if s.size = 0 then false
  else decide (s.size = (Utf8.encode (Utf8.decode s 0).1).size) && (decide (1 < s.size) && (decide ((Utf8.decode s 0).1 ≠ 65533) || (s.toList == [239, 191, 189])))
theorem encode_size1 (c : Nat) (h : c < 128) : (Utf8.encode (c : Int)).size = 1 := by
  have hv : Utf8.valid (c : Int) = true := by simp [Utf8.valid]; omega
  unfold Utf8.encode
  simp only [hv, if_true, Int.toNat_natCast]
  rw [if_pos h]; rfl
theorem toList_nats (s : ByteArray) (l : List UInt8) : (s.toList == l) = (nats s == l.map fun b => b.toNat) := by
  rw [ByteArray.toList_eq, Bool.eq_iff_iff, beq_iff_eq, beq_iff_eq, nats]
  constructor
  · intro h; rw [h]
  · intro h
    exact List.map_inj_right (fun a b h => UInt8.toNat_inj.1 h) |>.1 h
def tails : List (List Nat) := [[0x80], [0x80, 0x80], [0x80, 0x80, 0x80], [0x90, 0x80, 0x80], [0xA0, 0x80], [0x90, 0x80]]
end Go.Proofs.Ytgebhidpkcjpmaa.Utf

namespace Go.Proofs.Ytgebhidpkcjpmaa.K
open Go.RowKit Go.Proofs.YtgebhidpkcjpmaaW.PrintWords Go.Proofs.YtgebhidpkcjpmaaW.PrintLast Go.Proofs.YtgebhidpkcjpmaaW.PrintMore Go.Proofs.Ytgebhidpkcjpmaa
attribute [local go_sem] max2_int min2_int max_two min_two max_three min_three max_four min_four
set_option linter.unusedVariables false
set_option linter.unusedSimpArgs false
section
variable {P : Program} {α : Type} {d : Kd α} {w : World} {base c : Nat} {ok : Nat → Prop} {A : Option Addr} {xs : List α}
theorem info_row {e : TypeId} {z : Value} {sz bytes : Nat} (h : (P.info? e).map (fun i => (i.zero, i.size, i.bytes)) = some (some z, sz, bytes)) : ∃ i, P.info? e = some i ∧ i.size = sz := by
  obtain ⟨i, hi, _, hs, _⟩ := info_parts h
  exact ⟨i, hi, hs⟩
/-- x[j:] of what came in. -/
theorem drop_came (t e : TypeId) {z : Value} {bytes : Nat} (ht : P.underlying t = some (.slice e)) (hinfo : (P.info? e).map (fun i => (i.zero, i.size, i.bytes)) = some (some z, d.sz, bytes))
    (h : d.C w A xs.length xs) (hc : xs.length ≤ c) (j : Nat) (hj : j ≤ xs.length) :
    ∃ A' D, D = xs.drop j ∧ (∀ W : World, (Instr.slice t (.slice A xs.length c) (some (.int .i64 (j : Int))) none none).run P W = .ok (.slice A' D.length (c - j)) W) ∧ d.C w A' D.length D ∧ D.length ≤ c - j := by
  obtain ⟨i, hi, hs⟩ := info_row hinfo
  have hl : (xs.drop j).length = xs.length - j := List.length_drop
  refine ⟨_, _, rfl, fun W => ?_, Kd.C_drop (c := c) h hj hc, by omega⟩
  have hr := cut_from (P := P) t e .i64 ht hi d.sz hs A xs.length c (j : Int) (by omega) (by omega) W
  rw [hl]; simpa using hr
end
theorem rd_nat (l : List Int) (k : Nat) : rd l (k : Int) = l.getD k 0 := by simp [rd]
/-- The bytes of a string that was made of bytes. -/
theorem nats_str (l : List Int) : Utf.nats (strOfNums l) = l.map fun n => n.toNat % 256 := by
  unfold Utf.nats
  rw [strOfNums_data, List.map_map]
  apply List.map_congr_left
  intro n _
  simp
end Go.Proofs.Ytgebhidpkcjpmaa.K

namespace Go.Proofs.Ytgebhidpkcjpmaa.K
open Go.RowKit Go.Proofs.YtgebhidpkcjpmaaW.PrintWords Go.Proofs.YtgebhidpkcjpmaaW.PrintLast Go.Proofs.YtgebhidpkcjpmaaW.PrintMore Go.Proofs.Ytgebhidpkcjpmaa
attribute [local go_sem] max2_int min2_int max_two min_two max_three min_three max_four min_four
set_option linter.unusedVariables false
set_option linter.unusedSimpArgs false
section
variable {P : Program} {src dst e : TypeId}
theorem own_string2 (hs : P.underlying src = some (.slice e)) (he : P.underlying e = some (.int .u8)) (hd : P.underlying dst = some .string) {w : World} {base t : Nat} {ok : Nat → Prop} {v : Value} {xs : List Int}
    (h : (Kd.int .u8).R t w base ok v xs) : (convert src dst v).run P w = .ok (.string (strOfNums xs)) w ∧ ∀ n, (convert src dst v).run P (w.drewN n) = .ok (.string (strOfNums xs)) (w.drewN n) :=
  ⟨own_string hs he hd (Kd.own_of_R h), fun n => own_string hs he hd (Kd.own_of_R (Kd.R_drewN h n))⟩
end
section
variable {P : Program} {ops : Array Oper} {rest : List Oper} {o : Oper} {a : Act} {Q : Exit → Act → World → Prop}
end
end Go.Proofs.Ytgebhidpkcjpmaa.K

namespace Go.Proofs.Ytgebhidpkcjpmaa.K
open Go.RowKit Go.Proofs.YtgebhidpkcjpmaaW.PrintWords Go.Proofs.YtgebhidpkcjpmaaW.PrintLast Go.Proofs.YtgebhidpkcjpmaaW.PrintMore Go.Proofs.Ytgebhidpkcjpmaa
attribute [local go_sem] max2_int min2_int max_two min_two max_three min_three max_four min_four
set_option linter.unusedVariables false
set_option linter.unusedSimpArgs false
section
variable {P : Program} {src dst e : TypeId}
theorem C_string2 (hs : P.underlying src = some (.slice e)) (he : P.underlying e = some (.int .u8)) (hd : P.underlying dst = some .string) {A : Option Addr} {c : Nat} {l : List Int} {w : World}
    (h : Kd.C (Kd.int .u8) w A l.length l) : (convert src dst (.slice A l.length c)).run P w = .ok (.string (strOfNums l)) w ∧ ∀ n, (convert src dst (.slice A l.length c)).run P (w.drewN n) = .ok (.string (strOfNums l)) (w.drewN n) :=
  ⟨Kd.C_string hs he hd h, fun n => Kd.C_string hs he hd (Kd.C_drewN h n)⟩
end
section
variable {α : Type} {d : Kd α} {e base t : Nat} {ok : Nat → Prop} {w w1 : World} {v : Value} {xs : List α} {g : Nat} {cs : Array Value}
end
end Go.Proofs.Ytgebhidpkcjpmaa.K

namespace Go.Proofs.Ytgebhidpkcjpmaa.Utf
set_option linter.unusedVariables false
set_option linter.unusedSimpArgs false
def okR (c : Nat) : Prop := c < 0xD800 ∨ (0xE000 ≤ c ∧ c ≤ 0x10FFFF)
def sane (r : Int) : Int := if Utf8.valid r = true then r else 65533
def code (c : Nat) : List Nat :=
  if c < 128 then [c] else if c < 2048 then [192 + c / 64, 128 + c % 64] else if c < 65536 then [224 + c / 4096, 128 + c / 64 % 64, 128 + c % 64]
  else [240 + c / 262144, 128 + c / 4096 % 64, 128 + c / 64 % 64, 128 + c % 64]
theorem code_ne (c : Nat) : code c ≠ [] := by
  unfold code
  repeat' split
  all_goals simp
theorem runesBytes_nil : runesBytes [] = ByteArray.empty := rfl
end Go.Proofs.Ytgebhidpkcjpmaa.Utf

namespace Go.Proofs.Ytgebhidpkcjpmaa.PDk
open Go.RowKit Go.Proofs.YtgebhidpkcjpmaaW.PrintWords Go.Proofs.YtgebhidpkcjpmaaW.PrintLast Go.Proofs.YtgebhidpkcjpmaaW.PrintMore Go.Proofs.Ytgebhidpkcjpmaa.K
attribute [local go_sem] max2_int min2_int max_two min_two max_three min_three max_four min_four   -- for this text's walks alone
set_option linter.unusedVariables false
set_option linter.unusedSimpArgs false



def errW : Option Int → Value
  | none => .nilIface
  | some c => .iface 0 (.int .i64 c)
theorem errW_none : errW none = .nilIface := rfl
theorem errW_some (c : Int) : errW (some c) = .iface 0 (.int .i64 c) := rfl

structure S84 where
  f0 : Int
  f1 : Int
def z84 : S84 := ⟨(0 : Int), (0 : Int)⟩
def k84 : Kd S84 := Kd.iso (Kd.pair (Kd.int .u8) (Kd.int .i64)) (fun x : S84 => (x.f0, x.f1))
theorem k84_open {w : World} {x : S84} {cs : List Value} (h : k84.K w x cs) : cs = [.int .u8 x.f0, .int .i64 x.f1] := by
  obtain ⟨_, _, rfl, rfl, rfl⟩ := h
  exact rfl
theorem k84_mkM (w : World) (base : Nat) (ok : Nat → Prop) (x : S84)  : k84.M w base ok x [.int .u8 x.f0, .int .i64 x.f1] := ⟨[.int .u8 x.f0], [.int .i64 x.f1], rfl, rfl, rfl⟩
def rd_T84 (xs : List S84) (i : Int) : S84 := xs.getD i.toNat z84
theorem at_T84 {w : World} {A : Option Addr} {n : Nat} {xs : List S84} (h : Kd.C k84 w A n xs) (i : Int) (h0 : 0 ≤ i) (h1 : i < n) : ∃ ad , A = some ad ∧ w.cell? (ad.add (i.toNat * 2)) = some (.int .u8 (rd_T84 xs i).f0) ∧ w.cell? ⟨(ad.add (i.toNat * 2)).block, (ad.add (i.toNat * 2)).off + 1, none⟩ = some (.int .i64 (rd_T84 xs i).f1) := by
  obtain ⟨ad, c, e, _, hK, hc0⟩ := Kd.C_get h z84 i h0 h1
  have hc : ∀ j u, c[j]? = some u → w.cell? (ad.add (i.toNat * 2 + j)) = some u := hc0
  obtain rfl := k84_open hK
  exact ⟨ad, e, hc 0 _ rfl, by rw [← add_field _ _ 1 (by omega)]; exact hc 1 _ rfl⟩

def rd_L5 (xs : List (List S84)) (i : Int) : (List S84) := xs.getD i.toNat ([] : List S84)
structure S82 where
  f0 : Bool
  f1 : (List S84)
def z82 : S82 := ⟨false, ([] : List S84)⟩
def k82 : Kd S82 := Kd.iso (Kd.pair Kd.bool (Kd.slice 84 k84)) (fun x : S82 => (x.f0, x.f1))
theorem k82_open {w : World} {x : S82} {cs : List Value} (h : k82.K w x cs) : ∃ A1 c1, cs = [.bool x.f0, .slice A1 x.f1.length c1] ∧ x.f1.length ≤ c1 ∧ k84.C w A1 x.f1.length x.f1 := by
  obtain ⟨_, _, rfl, rfl, ⟨A1, c1, rfl, l1, g1⟩⟩ := h
  exact ⟨A1, c1, rfl, l1, g1⟩
theorem k82_openM {w : World} {base : Nat} {ok : Nat → Prop} {x : S82} {cs : List Value} (h : k82.M w base ok x cs) : ∃ v1, cs = [.bool x.f0, v1] ∧ k84.R 84 w base ok v1 x.f1 := by
  obtain ⟨_, _, rfl, rfl, ⟨v1, rfl, g1⟩⟩ := h
  exact ⟨v1, rfl, g1⟩
theorem k82_mkM (w : World) (base : Nat) (ok : Nat → Prop) (x : S82) {v1 : Value} (g1 : k84.R 84 w base ok v1 x.f1) : k82.M w base ok x [.bool x.f0, v1] := ⟨[.bool x.f0], [v1], rfl, rfl, ⟨v1, rfl, g1⟩⟩
def rd_T82 (xs : List S82) (i : Int) : S82 := xs.getD i.toNat z82
theorem at_T82 {w : World} {A : Option Addr} {n : Nat} {xs : List S82} (h : Kd.C k82 w A n xs) (i : Int) (h0 : 0 ≤ i) (h1 : i < n) : ∃ ad A1 c1, A = some ad ∧ w.cell? (ad.add (i.toNat * 2)) = some (.bool (rd_T82 xs i).f0) ∧ w.cell? ⟨(ad.add (i.toNat * 2)).block, (ad.add (i.toNat * 2)).off + 1, none⟩ = some (.slice A1 (rd_T82 xs i).f1.length c1) ∧ (rd_T82 xs i).f1.length ≤ c1 ∧ k84.C w A1 (rd_T82 xs i).f1.length (rd_T82 xs i).f1 := by
  obtain ⟨ad, c, e, _, hK, hc0⟩ := Kd.C_get h z82 i h0 h1
  have hc : ∀ j u, c[j]? = some u → w.cell? (ad.add (i.toNat * 2 + j)) = some u := hc0
  obtain ⟨A1, c1, rfl, l1, g1⟩ := k82_open hK
  exact ⟨ad, A1, c1, e, hc 0 _ rfl, by rw [← add_field _ _ 1 (by omega)]; exact hc 1 _ rfl, l1, g1⟩

end Go.Proofs.Ytgebhidpkcjpmaa.PDk

namespace Go.Proofs.Ytgebhidpkcjpmaa.PDk
open Go.RowKit Go.Proofs.YtgebhidpkcjpmaaW.PrintWords Go.Proofs.YtgebhidpkcjpmaaW.PrintLast Go.Proofs.YtgebhidpkcjpmaaW.PrintMore Go.Proofs.Ytgebhidpkcjpmaa.K
attribute [local go_sem] max2_int min2_int max_two min_two max_three min_three max_four min_four   -- for this text's walks alone
set_option linter.unusedVariables false
set_option linter.unusedSimpArgs false

theorem eqA84 (d : Nat) (w : World) (x0 y0 : Int) (x1 y1 : Int) :
    (Op.equalIn (d + 2) 84 (.agg #[.int .u8 x0, .int .i64 x1]) (.agg #[.int .u8 y0, .int .i64 y1])).run Try.prog w = .ok (x0 == y0 && (x1 == y1)) w := by
  refine eqA_of Try.underlying84 (by kernel_rfl) ?_
  refine eqf_cons (by rfl) (by go_simp; rfl) (by go_simp; rfl) (by go_simp) ?_
  exact eqf_last (by rfl) (by go_simp; rfl) (by go_simp; rfl) (by go_simp)
end Go.Proofs.Ytgebhidpkcjpmaa.PDk

namespace Go.Proofs.Ytgebhidpkcjpmaa.PDk
open Go.RowKit Go.Proofs.YtgebhidpkcjpmaaW.PrintWords Go.Proofs.YtgebhidpkcjpmaaW.PrintLast Go.Proofs.YtgebhidpkcjpmaaW.PrintMore Go.Proofs.Ytgebhidpkcjpmaa.K
attribute [local go_sem] max2_int min2_int max_two min_two max_three min_three max_four min_four   -- for this text's walks alone
set_option linter.unusedVariables false
set_option linter.unusedSimpArgs false

def num_Put.l0 : Nat → Int → List Int → Option (List Int)
  | 0, _, _ => none
  | k + 1, x1, x5 => if x1 ≥ 128 then (if x5.length < 140737488355328 then (num_Put.l0 k (x1 / 128) (x5 ++ [Go.bits .or .u8 ((x1) % 256) 128])) else (none)) else (if x5.length < 140737488355328 then (some (x5 ++ [(x1) % 256])) else (none))
def num_Put.f (k : Nat) (l0 : List Int) (a1 : Int) : Option (List Int) := (some (([] : List Int) : List Int)).bind fun y101 => (if y101.length + l0.length < 140737488355328 then (num_Put.l0 k a1 (y101 ++ l0)) else (none))
theorem num_Put.mono_l : ∀ k, (∀ y0 y1, LeO (num_Put.l0 k y0 y1) (num_Put.l0 (k + 1) y0 y1))
  | 0 => fun _ _ r h => by simp [num_Put.l0] at h
  | k + 1 => by
    have ih0 := num_Put.mono_l k
    · intro y0 y1
      unfold num_Put.l0
      repeat' first
      | (with_reducible exact ih0 _ _)
      | (with_reducible exact LeO.refl _)
      | (with_reducible exact LeO.none _)
      | (with_reducible refine LeO.ite ?_ ?_)
      | (with_reducible refine LeO.bind ?_ (fun _ => ?_))
      | exact ih0 _ _
      | exact LeO.none _
      | refine LeO.ite ?_ ?_
      | refine LeO.bind ?_ (fun _ => ?_)
theorem num_Put.mono : ∀ a0 a1 k, LeO (num_Put.f k a0 a1) (num_Put.f (k + 1) a0 a1) := by
  intro a0 a1 k
  have ih0 := num_Put.mono_l k
  unfold num_Put.f
  repeat' first
      | (with_reducible exact ih0 _ _)
      | (with_reducible exact LeO.refl _)
      | (with_reducible exact LeO.none _)
      | (with_reducible refine LeO.ite ?_ ?_)
      | (with_reducible refine LeO.bind ?_ (fun _ => ?_))
      | exact ih0 _ _
      | exact LeO.none _
      | refine LeO.ite ?_ ?_
      | refine LeO.bind ?_ (fun _ => ?_)
set_option maxHeartbeats 8000000 in
set_option maxRecDepth 100000 in
theorem num_Put.calls (k : Nat) (A0 : Option Addr) (c0 : Nat) (l0 : List Int) (a1 : Int) (r : List Int) (w : World) (hr0 : Kd.C (Kd.int .u8) w A0 l0.length l0) (hc0 : l0.length ≤ c0) (h : num_Put.f k l0 a1 = some r) :
    Calls Try.prog 37 #[.slice A0 l0.length c0, .int .u64 a1] w fun e w' => ∃ v0_ : Value, e = .returned (v0_) ∧ Kd.R (Kd.int .u8) 5 w' w.heap.size (fun _ => True) v0_ r ∧ Below w.heap.size w w' := by
  have HR0 := Aside0.mk hr0
  have HC0 := Aside0.mk hc0
  clear hr0 hc0
  have HB := Aside0.mk (Below.refl w.heap.size w)
  have H : ((some (([] : List Int) : List Int)).bind fun y101 => (if y101.length + l0.length < 140737488355328 then (num_Put.l0 k a1 (y101 ++ l0)) else (none))) = some r := h
  clear h
  obtain ⟨y101, hy101⟩ : ∃ y_ : List Int, y_ = (([] : List Int)) := ⟨_, rfl⟩
  replace H : (if y101.length + l0.length < 140737488355328 then (num_Put.l0 k a1 (y101 ++ l0)) else (none)) = some r := by first | (rw [hy101]; with_reducible exact H) | (have H2_ := (Option.bind_some _ _).symm.trans H; rw [hy101]; with_reducible exact H2_) | (have H2_ := (Option.bind_some _ _).symm.trans H; with_reducible exact H2_) | with_reducible exact H | (rw [hy101]; exact H) | exact H
  have Ny101 := Aside0.mk hy101
  clear hy101
  by_cases c3 : y101.length + l0.length < 140737488355328
  · rw [if_pos c3] at H
    have LMc3 := Aside0.mk c3
    clear c3
    obtain ⟨y104, hy104⟩ : ∃ y_ : List Int, y_ = (y101 ++ l0) := ⟨_, rfl⟩
    replace H : (num_Put.l0 k a1 y104) = some r := by first | (rw [hy104]; with_reducible exact H) | (have H2_ := (Option.bind_some _ _).symm.trans H; rw [hy104]; with_reducible exact H2_) | (have H2_ := (Option.bind_some _ _).symm.trans H; with_reducible exact H2_) | with_reducible exact H | (rw [hy104]; exact H) | exact H
    have Ny104 := Aside0.mk hy104
    clear hy104
    have H' := Aside0.mk H
    clear H
    go_enter Try.func37, Try.ntmps37
    go_wp2_with (first | ((with_reducible refine gate_dst (N := 6) rfl ?_); refine Kd.R_lit (Kd.int .u8) _ 5 ?hg (N := 6) ?hd (xs := ([] : List Int)) (inner := []) (ok := fun _ => True) (okp := fun _ => True) ?hr ?hp (fun _ hk => hk) trivial (Below.refl _ _) (Nat.le_refl _) (by simp) ?_; (case hd => rfl); (case hg => rfl); (case hr => first | (go_simp; done) | (go_simp; rfl)); (case hp => exact (Reps.none _ _)); intro v102 w4 ho5 hb hg_ hnew_; clear hg_ hnew_; (first | rw [← Ny101.out] at ho5 | (simp only [Int.reduceToNat] at ho5; rw [← Ny101.out] at ho5)); have n0_ := Aside0.mk (Kd.R_lower ho5 (below_size (by repeat (first | (with_reducible first | exact HB.out | apply below_alloc | apply pw_below_drewN | apply below_drew1) | exact HB.out)))); have n1_ := Aside0.mk (below_step (by repeat (first | (with_reducible first | exact HB.out | apply below_alloc | apply pw_below_drewN | apply below_drew1) | exact HB.out)) hb); clear HB; have HO103 := n0_; have HB := n1_; clear n0_ n1_; clear hb ho5) | ((with_reducible refine gate_builtin (b := .append) (xs := #[.tmp 6, .tmp 7]) rfl ?_); at_builtin; refine Kd.R_append_rows (Kd.int .u8) (w0 := w) w.heap.size rfl (.tmp 6) (.tmp 7) 36 5 (.int .u8 0) 1 rfl Try.underlying36 info5 rfl (by decide) (by omega) v102 y101 l0 _ _ _ (fun _ => True) (fun _ => False) rfl rfl ?aO ?aR (fun _ _ h => h) (fun _ h => h.elim) ?aF ?aB ?aS ?aL ?_; (case aR => repeat (first | exact (Kd.C_below HR0.out HB.out) | (with_reducible refine Kd.C_alloc ?_ _) | (with_reducible refine Kd.C_drewN ?_ _) | (with_reducible refine Kd.C_drew ?_))); (case aB => exact (by repeat (first | (with_reducible first | exact HB.out | apply below_alloc | apply pw_below_drewN | apply below_drew1) | exact HB.out))); (case aF => exact (fun _ _ => trivial)); (case aO => exact (by (with_reducible repeat (first | apply Kd.R_alloc | apply Kd.R_drewN | apply Kd.R_drew)); exact HO103.out)); (case aS => exact (below_size (by repeat (first | (with_reducible first | exact HB.out | apply below_alloc | apply pw_below_drewN | apply below_drew1) | exact HB.out)))); (case aL => have := LMc3.out; omega); intro v105 w6 ho hb hg hat; rw [← Ny104.out] at ho; have n0_ := Aside0.mk (hb); have n1_ := Aside0.mk (ho); clear HB; clear HO103; have HB := n0_; have HO106 := n1_; clear n0_ n1_; clear ho hb hg hat))
    go_loopg [1, 5] k (fun kq v1 v5 w' => ∃ (x1_1 : Int) (x5_1 : List Int), v1 = .int .u64 x1_1 ∧ Aside0 (num_Put.l0 kq x1_1 x5_1 = some r) ∧ Aside0 (kq ≤ k) ∧ Aside0 (Kd.R (Kd.int .u8) 5 w' w.heap.size (fun _ => True) v5 x5_1) ∧ Aside0 (Below w.heap.size w w'))
    case atStart => exact ⟨(a1), (y104), (by first | rfl | (simp; done) | (simp [*]; done)), H', ⟨Nat.le_refl _⟩, ⟨by (with_reducible repeat (first | apply Kd.R_alloc | apply Kd.R_drewN | apply Kd.R_drew)); exact HO106.out⟩, ⟨by repeat (first | (with_reducible first | exact HB.out | apply below_alloc | apply pw_below_drewN | apply below_drew1) | exact HB.out)⟩⟩
    case round =>
      clear H'
      try clear p2
      try clear c3
      obtain ⟨x1_1, x5_1, rfl, HA, HK1, HO_5, HB⟩ := hrel
      cases gk with
      | zero => exact absurd HA.out (by simp [num_Put.l0])
      | succ k1 =>
        have H := HA.out
        clear HA
        simp only [num_Put.l0] at H
        by_cases c7 : x1_1 ≥ 128
        · rw [if_pos c7] at H
          have c7b0 : decide (128 ≤ x1_1) = true := decide_eq_true c7
          clear c7
          by_cases c8 : x5_1.length < 140737488355328
          · rw [if_pos c8] at H
            have LMc8 := Aside0.mk c8
            clear c8
            obtain ⟨y107, hy107⟩ : ∃ y_ : List Int, y_ = (x5_1 ++ [Go.bits .or .u8 ((x1_1) % 256) 128]) := ⟨_, rfl⟩
            replace H : (num_Put.l0 k1 (x1_1 / 128) y107) = some r := by first | (rw [hy107]; with_reducible exact H) | (have H2_ := (Option.bind_some _ _).symm.trans H; rw [hy107]; with_reducible exact H2_) | (have H2_ := (Option.bind_some _ _).symm.trans H; with_reducible exact H2_) | with_reducible exact H | (rw [hy107]; exact H) | exact H
            have Ny107 := Aside0.mk hy107
            clear hy107
            have H' := Aside0.mk H
            clear H
            go_wp2_with (first | ((with_reducible refine gate_builtin (b := .append) (xs := #[.tmp 11, .tmp 15]) rfl ?_); at_builtin; refine Kd.R_append (Kd.int .u8) (w0 := w) w.heap.size rfl (.tmp 11) (.tmp 15) 36 5 (.int .u8 0) 1 rfl Try.underlying36 info5 rfl (by decide) (by omega) u5 x5_1 (Go.bits .or .u8 ((x1_1) % 256) 128) [.int .u8 (Go.bits .or .u8 ((x1_1) % 256) 128)] (fun _ => True) (fun _ => False) rfl rfl ?aP (fun _ hk => hk.elim) ?aF ?aO ?aB ?aS ?aL ?_; (case aP => exact rfl); (case aB => exact (by repeat (first | (with_reducible first | exact HB.out | apply below_alloc | apply pw_below_drewN | apply below_drew1) | exact HB.out))); (case aF => exact (fun _ _ => trivial)); (case aO => exact (by (with_reducible repeat (first | apply Kd.R_alloc | apply Kd.R_drewN | apply Kd.R_drew)); exact HO_5.out)); (case aS => exact (below_size (by repeat (first | (with_reducible first | exact HB.out | apply below_alloc | apply pw_below_drewN | apply below_drew1) | exact HB.out)))); (case aL => have := LMc8.out; omega); intro v108 w9 ho hb hg hat; rw [← Ny107.out] at ho; have n0_ := Aside0.mk (hb); have n1_ := Aside0.mk (ho); clear HB; clear HO_5; have HB := n0_; have HO109 := n1_; clear n0_ n1_; clear ho hb hg hat))
            go_roundg k1
            case measure => have := HK1.out; omega
            case rel => exact ⟨(x1_1 / 128), (y107), (by first | rfl | (simp; done) | (simp [*]; done)), H', ⟨by have := HK1.out; omega⟩, ⟨by (with_reducible repeat (first | apply Kd.R_alloc | apply Kd.R_drewN | apply Kd.R_drew)); exact HO109.out⟩, ⟨by repeat (first | (with_reducible first | exact HB.out | apply below_alloc | apply pw_below_drewN | apply below_drew1) | exact HB.out)⟩⟩
          · rw [if_neg c8] at H
            exact absurd H (by simp)
        · rw [if_neg c7] at H
          have c7b0 : decide (128 ≤ x1_1) = false := decide_eq_false c7
          clear c7
          by_cases c10 : x5_1.length < 140737488355328
          · rw [if_pos c10] at H
            have LMc10 := Aside0.mk c10
            clear c10
            obtain ⟨y110, hy110⟩ : ∃ y_ : List Int, y_ = (x5_1 ++ [(x1_1) % 256]) := ⟨_, rfl⟩
            replace H : (some y110) = some r := by first | (rw [hy110]; with_reducible exact H) | (have H2_ := (Option.bind_some _ _).symm.trans H; rw [hy110]; with_reducible exact H2_) | (have H2_ := (Option.bind_some _ _).symm.trans H; with_reducible exact H2_) | with_reducible exact H | (rw [hy110]; exact H) | exact H
            have Ny110 := Aside0.mk hy110
            clear hy110
            obtain rfl := Option.some.inj H
            go_wp2_with (first | ((with_reducible refine gate_builtin (b := .append) (xs := #[.tmp 19, .tmp 22]) rfl ?_); at_builtin; refine Kd.R_append (Kd.int .u8) (w0 := w) w.heap.size rfl (.tmp 19) (.tmp 22) 36 5 (.int .u8 0) 1 rfl Try.underlying36 info5 rfl (by decide) (by omega) u5 x5_1 ((x1_1) % 256) [.int .u8 ((x1_1) % 256)] (fun _ => True) (fun _ => False) rfl rfl ?aP (fun _ hk => hk.elim) ?aF ?aO ?aB ?aS ?aL ?_; (case aP => exact rfl); (case aB => exact (by repeat (first | (with_reducible first | exact HB.out | apply below_alloc | apply pw_below_drewN | apply below_drew1) | exact HB.out))); (case aF => exact (fun _ _ => trivial)); (case aO => exact (by (with_reducible repeat (first | apply Kd.R_alloc | apply Kd.R_drewN | apply Kd.R_drew)); exact HO_5.out)); (case aS => exact (below_size (by repeat (first | (with_reducible first | exact HB.out | apply below_alloc | apply pw_below_drewN | apply below_drew1) | exact HB.out)))); (case aL => have := LMc10.out; omega); intro v111 w11 ho hb hg hat; rw [← Ny110.out] at ho; have n0_ := Aside0.mk (hb); have n1_ := Aside0.mk (ho); clear HB; clear HO_5; have HB := n0_; have HO112 := n1_; clear n0_ n1_; clear ho hb hg hat))
            go_ret
            exact ⟨_, by first | rfl | (simp [errW_none, errW_some] <;> rfl) | (simp [*, errW_none, errW_some] <;> rfl), by (with_reducible repeat (first | apply Kd.R_alloc | apply Kd.R_drewN | apply Kd.R_drew)); exact HO112.out, by repeat (first | (with_reducible first | exact HB.out | apply below_alloc | apply pw_below_drewN | apply below_drew1) | exact HB.out)⟩
          · rw [if_neg c10] at H
            exact absurd H (by simp)
  · rw [if_neg c3] at H
    exact absurd H (by simp)

mutual
def daw_key.j0 : Nat → Int → Bool → List (S84) → Option (ByteArray)
  | 0, _, _, _ => none
  | k + 1, x3, x114000, x114001 => (num_Put.f k ([] : List Int) x3).bind fun t114 => (daw_key.l0 k t114 x114001 (x114001.length : Int) 0)
def daw_key.l0 : Nat → List Int → List (S84) → Int → Int → Option (ByteArray)
  | 0, _, _, _, _ => none
  | k + 1, x4, x12, x13, x14 => if x14 < x13 then (if 0 ≤ x14 then (if x14 < (x12.length : Int) then (if x4.length < 140737488355328 then ((num_Put.f k (x4 ++ [(rd_T84 x12 x14).f0]) (IntKind.u64.wrap ((rd_T84 x12 x14).f1))).bind fun t122 => (daw_key.l0 k t122 x12 x13 (wrap64 (x14 + 1)))) else (none)) else (none)) else (none)) else (some (strOfNums x4))
end
def daw_key.f (k : Nat) (a0_0 : Bool) (l0_1 : List (S84)) : Option (ByteArray) := if a0_0 = true then (daw_key.j0 k 1 a0_0 l0_1) else (daw_key.j0 k 0 a0_0 l0_1)
def daw_key.T8 : Bool × List (List Nat × List Nat) := (true, [([], []), ([], []), ([1], [1]), ([2], [2]), ([0, 3], [0, 3]), ([], []), ([5], [5]), ([6], [6]), ([4, 7, 4], [4, 7]), ([8, 8, 0, 1, 2, 3, 4, 5, 6, 7, 8], [0, 8])])
def daw_key.B8 : List Nat := [0, 0, 2, 6, 15, 0, 32, 96, 255, 511]
theorem daw_key.tab8 : rtab .any (opsOf Try.f85 8) = daw_key.T8 := by kernel_rfl
theorem daw_key.bits8 : waitsOk daw_key.T8.2 daw_key.B8 = true := by kernel_rfl
set_option maxHeartbeats 8000000 in
set_option maxRecDepth 100000 in
theorem daw_key.calls (k : Nat) (a0_0 : Bool) (A0_1 : Option Addr) (c0_1 : Nat) (l0_1 : List (S84)) (r : ByteArray) (w : World) (hr0_1 : Kd.C k84 w A0_1 l0_1.length l0_1) (hc0_1 : l0_1.length ≤ c0_1) (h : daw_key.f k a0_0 l0_1 = some r) :
    Calls Try.prog 85 #[.agg #[.bool a0_0, .slice A0_1 l0_1.length c0_1]] w fun e w' => e = .returned (.string r) ∧ Below w.heap.size w w' := by
  have hu82 := Try.underlying82
  have hu84 := Try.underlying84
  have HR0_1 := Aside0.mk hr0_1
  have HC0_1 := Aside0.mk hc0_1
  clear hr0_1 hc0_1
  have HB := Aside0.mk (Below.refl w.heap.size w)
  have H : (if a0_0 = true then (daw_key.j0 k 1 a0_0 l0_1) else (daw_key.j0 k 0 a0_0 l0_1)) = some r := h
  clear h
  have HC2 := Aside0.mk H
  clear H
  go_enter Try.func85, Try.ntmps85
  go_upto_if 8 with (first | ((with_reducible refine gate_dst (N := 1) rfl ?_); refine box_event ?hg (N := 1) ?hd (cs := #[.bool a0_0, .slice A0_1 l0_1.length c0_1]) (t := 82) ?hr ?_; (case hd => rfl); (case hg => rfl); (case hr => first | (go_simp; done) | (go_simp; rfl)); intro gb113 hg w3 hbox hb; have n0_ := Aside0.mk (below_step (by repeat (first | (with_reducible first | exact HB.out | apply below_alloc | apply pw_below_drewN | apply below_drew1) | exact HB.out)) hb); have n1_ := Aside0.mk (hbox); have n2_ := Aside0.mk ((by rw [hg]; exact (below_size (by repeat (first | (with_reducible first | exact HB.out | apply below_alloc | apply pw_below_drewN | apply below_drew1) | exact HB.out))) : w.heap.size ≤ gb113)); have n3_ := Aside0.mk ((by rw [hg]; exact (below_size (by repeat (first | (with_reducible first | exact HB.out | apply below_alloc | apply pw_below_drewN | apply below_drew1) | exact HB.out))) : w.heap.size ≤ gb113)); clear HB; have HB := n0_; have BK113 := n1_; have GW113 := n2_; have GE113 := n3_; clear n0_ n1_ n2_ n3_; clear hb hbox hg; have hcz4_0 : w3.cell? ⟨gb113, 0, none⟩ = some (.bool a0_0) := (blk_cell BK113.out 0).trans rfl; have hcz4_1 : w3.cell? ⟨gb113, 1, none⟩ = some (.slice A0_1 l0_1.length c0_1) := (blk_cell BK113.out 1).trans rfl; have hfz4_0 := blk_frozen BK113.out 0; have hfz4_1 := blk_frozen BK113.out 1))
  (try simp only [Act.put, List.setIfInBounds_toArray, List.set_cons_zero, List.set_cons_succ])
  go_cut [3] (fun v3 wc => ∃ (kq : Nat) (x3_1 : Int), v3 = .int .u64 x3_1 ∧ Aside0 (daw_key.j0 kq x3_1 a0_0 l0_1 = some r) ∧ Aside0 (kq ≤ k) ∧ Aside0 (wc.heap[gb113]? = some (.cells #[.bool a0_0, (.slice A0_1 l0_1.length c0_1)] 82 (0, 0))) ∧ Aside0 (Below w.heap.size w wc))
  case first =>
    have H := HC2.out
    clear HC2
    by_cases c5 : a0_0 = true
    · subst c5
      have H1 : (daw_key.j0 k 1 true l0_1) = some r := by rw [if_pos rfl] at H; exact H
      clear H
      have H := H1
      clear H1
      have H' := Aside0.mk H
      clear H
      go_wp2
      go_meet
      case rel => exact ⟨_, (1), (by first | rfl | (simp; done) | (simp [*]; done)), H', ⟨by first | omega | exact Nat.le_refl _⟩, ⟨by (with_reducible repeat (first | refine blk_drewN ?_ _ | refine blk_drew ?_ | refine blk_alloc ?_ _)); exact BK113.out⟩, ⟨by repeat (first | (with_reducible first | exact HB.out | apply below_alloc | apply pw_below_drewN | apply below_drew1 | refine below_set ?_ GE113.out) | exact HB.out)⟩⟩
    · replace c5 := Bool.eq_false_iff.mpr c5
      subst c5
      have H1 : (daw_key.j0 k 0 false l0_1) = some r := by rw [if_neg (show ¬ (false = true) by decide)] at H; exact H
      clear H
      have H := H1
      clear H1
      have H' := Aside0.mk H
      clear H
      go_wp2
      go_meet
      case rel => exact ⟨_, (0), (by first | rfl | (simp; done) | (simp [*]; done)), H', ⟨by first | omega | exact Nat.le_refl _⟩, ⟨by (with_reducible repeat (first | refine blk_drewN ?_ _ | refine blk_drew ?_ | refine blk_alloc ?_ _)); exact BK113.out⟩, ⟨by repeat (first | (with_reducible first | exact HB.out | apply below_alloc | apply pw_below_drewN | apply below_drew1 | refine below_set ?_ GE113.out) | exact HB.out)⟩⟩
  case rest =>
    clear HC2
    try clear p2
    try clear c5
    try clear hcz4_0
    try clear hcz4_1
    try clear hfz4_0
    try clear hfz4_1
    obtain ⟨kq, x3_1, rfl, HA, HJ1, BK113, HB⟩ := hcut
    cases kq with
    | zero => exact absurd HA.out (by simp [daw_key.j0])
    | succ kj1 =>
      have H := HA.out
      clear HA
      simp only [daw_key.j0] at H
      replace H := Option.bind_eq_some_iff.mp H
      obtain ⟨t114, A60, H⟩ := H
      replace H : (daw_key.l0 kj1 t114 l0_1 (l0_1.length : Int) 0) = some r := H
      have A6 := Aside0.mk A60
      clear A60
      have H' := Aside0.mk H
      clear H
      go_wp2_with (first | ((with_reducible refine gate_callee (f := 37) rfl ?_); refine goesL_ (some 10) rfl rfl Try.func37 (by kernel_rfl) rfl #[.slice none 0 0, .int .u64 x3_1] rfl (by (try simp only [List.map_toArray, List.map_cons, List.map_nil]); first | done | rfl | (simp only [List.length_drop, List.length_take]; rfl)) ?_; (refine (num_Put.calls kj1 _ _ ([] : List Int) x3_1 t114 _ ?side1 ?side2 A6.out).mono ?_); (case side1 => exact Kd.C_nil _ _); (case side2 => exact Nat.le_refl _); rintro e w7 ⟨v115, rfl, ho0, hb⟩; refine ⟨_, rfl, ?_⟩; have n0_ := Aside0.mk (Kd.R_lower ho0 (below_size (by repeat (first | (with_reducible first | exact HB.out | apply below_alloc | apply pw_below_drewN | apply below_drew1 | refine below_set ?_ GE113.out) | exact HB.out)))); have n1_ := Aside0.mk (blk_below (g := gb113) (o := .cells #[.bool a0_0, .slice A0_1 l0_1.length c0_1] 82 (0, 0)) (by (with_reducible repeat (first | refine blk_drewN ?_ _ | refine blk_drew ?_ | refine blk_alloc ?_ _)); exact BK113.out) hb); have n2_ := Aside0.mk (below_step (by repeat (first | (with_reducible first | exact HB.out | apply below_alloc | apply pw_below_drewN | apply below_drew1 | refine below_set ?_ GE113.out) | exact HB.out)) hb); clear BK113; clear HB; have HO116 := n0_; have BK113 := n1_; have HB := n2_; clear n0_ n1_ n2_; (try clear hb); (try clear hb2); (try clear hk); (try clear hi); (try clear ho0); have hcz8_0 : w7.cell? ⟨gb113, 0, none⟩ = some (.bool a0_0) := (blk_cell BK113.out 0).trans rfl; have hcz8_1 : w7.cell? ⟨gb113, 1, none⟩ = some (.slice A0_1 l0_1.length c0_1) := (blk_cell BK113.out 1).trans rfl; have hfz8_0 := blk_frozen BK113.out 0; have hfz8_1 := blk_frozen BK113.out 1))
      go_loopg [4, 14] kj1 (fun kq v4 v14 w' => ∃ (x4_2 : List Int) (x14_2 : Int), v14 = .int .i64 x14_2 ∧ Aside0 (daw_key.l0 kq x4_2 l0_1 (l0_1.length : Int) x14_2 = some r) ∧ Aside0 (kq ≤ kj1) ∧ Aside0 (Kd.R (Kd.int .u8) 5 w' w.heap.size (fun _ => True) v4 x4_2) ∧ Aside0 (w'.heap[gb113]? = some (.cells #[.bool a0_0, (.slice A0_1 l0_1.length c0_1)] 82 (0, 0))) ∧ Aside0 (Below w.heap.size w w'))
      case atStart => exact ⟨(t114), (0), (by first | rfl | (simp; done) | (simp [*]; done)), H', ⟨Nat.le_refl _⟩, ⟨by (with_reducible repeat (first | apply Kd.R_alloc | apply Kd.R_drewN | apply Kd.R_drew)); exact HO116.out⟩, ⟨by (with_reducible repeat (first | refine blk_drewN ?_ _ | refine blk_drew ?_ | refine blk_alloc ?_ _)); exact BK113.out⟩, ⟨by repeat (first | (with_reducible first | exact HB.out | apply below_alloc | apply pw_below_drewN | apply below_drew1 | refine below_set ?_ GE113.out) | exact HB.out)⟩⟩
      case round =>
        clear H'
        try clear p2
        try clear c3
        try clear c5
        try clear c8
        try clear hcz4_0
        try clear hcz4_1
        try clear hcz8_0
        try clear hcz8_1
        try clear hfz4_0
        try clear hfz4_1
        try clear hfz8_0
        try clear hfz8_1
        try clear p2
        obtain ⟨x4_2, x14_2, rfl, HA, HK2, HO_4, BK113, HB⟩ := hrel
        cases gk with
        | zero => exact absurd HA.out (by simp [daw_key.l0])
        | succ k2 =>
          have H := HA.out
          clear HA
          simp only [daw_key.l0] at H
          by_cases c9 : x14_2 < (l0_1.length : Int)
          · rw [if_pos c9] at H
            have c9b0 : decide (x14_2 < (l0_1.length : Int)) = true := decide_eq_true c9
            clear c9
            by_cases c10 : 0 ≤ x14_2
            · rw [if_pos c10] at H
              have c10b0 : decide (0 ≤ x14_2) = true := decide_eq_true c10
              clear c10
              by_cases c11 : x14_2 < (l0_1.length : Int)
              · rw [if_pos c11] at H
                have c11b0 : decide (x14_2 < (l0_1.length : Int)) = true := decide_eq_true c11
                clear c11
                by_cases c12 : x4_2.length < 140737488355328
                · rw [if_pos c12] at H
                  have LMc12 := Aside0.mk c12
                  clear c12
                  obtain ⟨y119, hy119⟩ : ∃ y_ : List Int, y_ = (x4_2 ++ [(rd_T84 l0_1 x14_2).f0]) := ⟨_, rfl⟩
                  replace H : ((num_Put.f k2 y119 (IntKind.u64.wrap ((rd_T84 l0_1 x14_2).f1))).bind fun t122 => (daw_key.l0 k2 t122 l0_1 (l0_1.length : Int) (wrap64 (x14_2 + 1)))) = some r := by first | (rw [hy119]; with_reducible exact H) | (have H2_ := (Option.bind_some _ _).symm.trans H; rw [hy119]; with_reducible exact H2_) | (have H2_ := (Option.bind_some _ _).symm.trans H; with_reducible exact H2_) | with_reducible exact H | (rw [hy119]; exact H) | exact H
                  have Ny119 := Aside0.mk hy119
                  clear hy119
                  replace H := Option.bind_eq_some_iff.mp H
                  obtain ⟨t122, A130, H⟩ := H
                  replace H : (daw_key.l0 k2 t122 l0_1 (l0_1.length : Int) (wrap64 (x14_2 + 1))) = some r := H
                  have A13 := Aside0.mk A130
                  clear A130
                  have H' := Aside0.mk H
                  clear H
                  have p117 : 0 ≤ (x14_2 : Int) := of_decide_eq_true (by first | (with_reducible assumption) | assumption)
                  have q117 : x14_2 < (l0_1.length : Int) := of_decide_eq_true (by first | (with_reducible assumption) | assumption)
                  obtain ⟨ad117, e117, hx117_0, hx117_1⟩ := at_T84 HR0_1.out x14_2 p117 q117
                  cases e117
                  replace hx117_0 := (HB.out.cell (World.block_lt_of_cell? w _ hx117_0)).trans hx117_0
                  replace hx117_1 := (HB.out.cell (World.block_lt_of_cell? w _ hx117_1)).trans hx117_1
                  replace p117 := eq_true p117
                  replace q117 := eq_true q117
                  try go_wp2_with (first | ((with_reducible refine gate_dst (N := 6) rfl ?_); refine box_event ?hg (N := 6) ?hd (cs := #[.int .u8 0, .int .i64 0]) (t := 84) ?hr ?_; (case hd => rfl); (case hg => rfl); (case hr => first | (go_simp; done) | (go_simp; rfl)); intro gb118 hg w14 hbox hb; have n0_ := Aside0.mk (Kd.R_below (by (with_reducible repeat (first | apply Kd.R_alloc | apply Kd.R_drewN | apply Kd.R_drew)); exact HO_4.out) hb); have n1_ := Aside0.mk (blk_below (g := gb113) (o := .cells #[.bool a0_0, .slice (some ad117) l0_1.length c0_1] 82 (0, 0)) (by (with_reducible repeat (first | refine blk_drewN ?_ _ | refine blk_drew ?_ | refine blk_alloc ?_ _)); exact BK113.out) hb); have n2_ := Aside0.mk (below_step (by repeat (first | (with_reducible first | exact HB.out | apply below_alloc | apply pw_below_drewN | apply below_drew1 | refine below_set ?_ GE113.out) | exact HB.out)) hb); have n3_ := Aside0.mk (hbox); have n4_ := Aside0.mk ((by rw [hg]; exact (below_size (by repeat (first | (with_reducible first | exact HB.out | apply below_alloc | apply pw_below_drewN | apply below_drew1 | refine below_set ?_ GE113.out) | exact HB.out))) : w.heap.size ≤ gb118)); have n5_ := Aside0.mk ((by rw [hg]; exact (below_size (by repeat (first | (with_reducible first | exact HB.out | apply below_alloc | apply pw_below_drewN | apply below_drew1 | refine below_set ?_ GE113.out) | exact HB.out))) : w.heap.size ≤ gb118)); have n6_ := Aside0.mk ((by rw [hg]; exact Nat.ne_of_lt (blk_lt (g := gb113) (o := .cells #[.bool a0_0, .slice (some ad117) l0_1.length c0_1] 82 (0, 0)) (by (with_reducible repeat (first | refine blk_drewN ?_ _ | refine blk_drew ?_ | refine blk_alloc ?_ _)); exact BK113.out)) : gb113 ≠ gb118)); have n7_ := Aside0.mk ((by rw [hg]; exact Nat.ne_of_gt (blk_lt (g := gb113) (o := .cells #[.bool a0_0, .slice (some ad117) l0_1.length c0_1] 82 (0, 0)) (by (with_reducible repeat (first | refine blk_drewN ?_ _ | refine blk_drew ?_ | refine blk_alloc ?_ _)); exact BK113.out)) : gb118 ≠ gb113)); clear HO_4; clear BK113; clear HB; have HO_4 := n0_; have BK113 := n1_; have HB := n2_; have BK118 := n3_; have GW118 := n4_; have GE118 := n5_; have NB113_118 := n6_; have NB118_113 := n7_; clear n0_ n1_ n2_ n3_ n4_ n5_ n6_ n7_; clear hb hbox hg; have hnb15 := NB118_113.out; have hnc15 := NB113_118.out; have hcz16_0 : w14.cell? ⟨gb118, 0, none⟩ = some (.int .u8 0) := (blk_cell BK118.out 0).trans rfl; have hcz16_1 : w14.cell? ⟨gb118, 1, none⟩ = some (.int .i64 0) := (blk_cell BK118.out 1).trans rfl; have hfz16_0 := blk_frozen BK118.out 0; have hfz16_1 := blk_frozen BK118.out 1))
                  have n0_ : Aside0 (Kd.R (Kd.int .u8) 5 ((w14.setCell ⟨gb118, 0, none⟩ (.int .u8 ((rd_T84 l0_1 x14_2).f0))).setCell ⟨gb118, 1, none⟩ (.int .i64 ((rd_T84 l0_1 x14_2).f1))) w.heap.size (fun _ => True) u4 x4_2) := ⟨by (with_reducible repeat (first | apply Kd.R_alloc | apply Kd.R_drewN | apply Kd.R_drew)); exact Kd.R_mono (Kd.R_far (p := ⟨gb118, 1, none⟩) (Kd.R_far (p := ⟨gb118, 0, none⟩) (Kd.R_types HO_4.out BK118.out (by decide)) (fun _ hk => hk.2) (.int .u8 ((rd_T84 l0_1 x14_2).f0))) (fun _ hk => hk.2) (.int .i64 ((rd_T84 l0_1 x14_2).f1))) (fun _ hk => trivial)⟩
                  have n1_ : Aside0 (((w14.setCell ⟨gb118, 0, none⟩ (.int .u8 ((rd_T84 l0_1 x14_2).f0))).setCell ⟨gb118, 1, none⟩ (.int .i64 ((rd_T84 l0_1 x14_2).f1))).heap[gb113]? = some (.cells #[.bool a0_0, .slice (some ad117) l0_1.length c0_1] 82 (0, 0))) := ⟨by (with_reducible repeat (first | refine blk_drewN ?_ _ | refine blk_drew ?_ | refine blk_alloc ?_ _)); refine blk_far ?_ NB113_118.out _; (with_reducible repeat (first | refine blk_drewN ?_ _ | refine blk_drew ?_ | refine blk_alloc ?_ _)); refine blk_far ?_ NB113_118.out _; (with_reducible repeat (first | refine blk_drewN ?_ _ | refine blk_drew ?_ | refine blk_alloc ?_ _)); exact BK113.out⟩
                  have n2_ : Aside0 (((w14.setCell ⟨gb118, 0, none⟩ (.int .u8 ((rd_T84 l0_1 x14_2).f0))).setCell ⟨gb118, 1, none⟩ (.int .i64 ((rd_T84 l0_1 x14_2).f1))).heap[gb118]? = some (.cells #[.int .u8 ((rd_T84 l0_1 x14_2).f0), .int .i64 ((rd_T84 l0_1 x14_2).f1)] 84 (0, 0))) := ⟨by (with_reducible repeat (first | refine blk_drewN ?_ _ | refine blk_drew ?_ | refine blk_alloc ?_ _)); refine blk_put (cs := #[.int .u8 ((rd_T84 l0_1 x14_2).f0), .int .i64 0]) ?_ 1 _ rfl; (with_reducible repeat (first | refine blk_drewN ?_ _ | refine blk_drew ?_ | refine blk_alloc ?_ _)); refine blk_put (cs := #[.int .u8 0, .int .i64 0]) ?_ 0 _ rfl; (with_reducible repeat (first | refine blk_drewN ?_ _ | refine blk_drew ?_ | refine blk_alloc ?_ _)); exact BK118.out⟩
                  have n3_ : Aside0 (Below w.heap.size w ((w14.setCell ⟨gb118, 0, none⟩ (.int .u8 ((rd_T84 l0_1 x14_2).f0))).setCell ⟨gb118, 1, none⟩ (.int .i64 ((rd_T84 l0_1 x14_2).f1)))) := ⟨by repeat (first | (with_reducible first | exact HB.out | apply below_alloc | apply pw_below_drewN | apply below_drew1 | refine below_set ?_ GE113.out | refine below_set ?_ GE118.out) | exact HB.out)⟩
                  (try clear HO_4)
                  (try clear BK113)
                  (try clear BK118)
                  (try clear HB)
                  generalize ((w14.setCell ⟨gb118, 0, none⟩ (.int .u8 ((rd_T84 l0_1 x14_2).f0))).setCell ⟨gb118, 1, none⟩ (.int .i64 ((rd_T84 l0_1 x14_2).f1))) = w17 at n0_ n1_ n2_ n3_ ⊢
                  have HO_4 := n0_
                  have BK113 := n1_
                  have BK118 := n2_
                  have HB := n3_
                  clear n0_ n1_ n2_ n3_
                  have n0_ := Aside0.mk (Kd.R_drew HO_4.out)
                  have n1_ := Aside0.mk (blk_drew BK113.out)
                  have n2_ := Aside0.mk (blk_drew BK118.out)
                  have n3_ := Aside0.mk (below_drew1 HB.out)
                  clear HO_4
                  clear BK113
                  clear BK118
                  clear HB
                  have HO_4 := n0_
                  have BK113 := n1_
                  have BK118 := n2_
                  have HB := n3_
                  clear n0_ n1_ n2_ n3_
                  refine start_ (n := 10) (S := fun w' => w'.cell? ⟨gb118, 0, none⟩ = some (.int .u8 ((rd_T84 l0_1 x14_2).f0)) ∧ w'.cell? ⟨gb118, 1, none⟩ = some (.int .i64 ((rd_T84 l0_1 x14_2).f1))) (ds := []) #[false, false, false, false, false, false, false, false, false, false] (by kernel_rfl) rfl rfl ⟨(blk_cell BK118.out 0).trans rfl, (blk_cell BK118.out 1).trans rfl⟩ (fun hHeld => ?_); refine with_tabW daw_key.tab8 daw_key.bits8 (fun HT_ HW_ => ?_)
                  generalize w17.drew = w18 at HO_4 BK113 BK118 HB hHeld ⊢
                  refine pure_ (i := 0) (N := some 18) (v := ?_) (a' := ?_) #[true, false, false, false, false, false, false, false, false, false] rfl rfl (any_of HT_.out (by kernel_rfl)) (fun _ _ _ h => h) (Or.inl ⟨by rfl, ?_⟩) ?_ ?_
                  rotate_left
                  · intro w'
                    go_simp
                    with_reducible rfl
                  rotate_left
                  · simp only [Act.put, List.setIfInBounds_toArray, List.set_cons_zero, List.set_cons_succ, i64_w, i32_w]
                    rfl
                  refine pure_ (i := 1) (N := some 19) (v := ?_) (a' := ?_) #[true, true, false, false, false, false, false, false, false, false] rfl rfl (any_of HT_.out (by kernel_rfl)) (fun _ _ _ h => h) (Or.inl ⟨by rfl, ?_⟩) ?_ ?_
                  rotate_left
                  · intro w'
                    go_simp
                    with_reducible rfl
                  rotate_left
                  · simp only [Act.put, List.setIfInBounds_toArray, List.set_cons_zero, List.set_cons_succ, i64_w, i32_w]
                    rfl
                  refine pure_ (i := 5) (N := some 23) (v := ?_) (a' := ?_) #[true, true, false, false, false, true, false, false, false, false] rfl rfl (any_of HT_.out (by kernel_rfl)) (fun _ _ _ h => h) (Or.inl ⟨by rfl, ?_⟩) ?_ ?_
                  rotate_left
                  · intro w'
                    go_simp
                    with_reducible rfl
                  rotate_left
                  · simp only [Act.put, List.setIfInBounds_toArray, List.set_cons_zero, List.set_cons_succ, i64_w, i32_w]
                    rfl
                  refine take_ (i := 2) (N := some 20) (v := ?_) (a' := ?_) #[true, true, true, false, false, true, false, false, false, false] rfl rfl (take_ofW HT_.out HW_.out (by kernel_rfl)) (fun _ _ _ h => h) (Or.inl ⟨by rfl, ?_⟩) hHeld ?_ ?_
                  rotate_left
                  · rintro w' ⟨s0, s1⟩
                    go_simp
                    with_reducible rfl
                  rotate_left
                  · simp only [Act.put, List.setIfInBounds_toArray, List.set_cons_zero, List.set_cons_succ, i64_w, i32_w]
                    rfl
                  refine take_ (i := 6) (N := some 24) (v := ?_) (a' := ?_) #[true, true, true, false, false, true, true, false, false, false] rfl rfl (take_ofW HT_.out HW_.out (by kernel_rfl)) (fun _ _ _ h => h) (Or.inl ⟨by rfl, ?_⟩) hHeld ?_ ?_
                  rotate_left
                  · rintro w' ⟨s0, s1⟩
                    go_simp
                    with_reducible rfl
                  rotate_left
                  · simp only [Act.put, List.setIfInBounds_toArray, List.set_cons_zero, List.set_cons_succ, i64_w, i32_w]
                    rfl
                  refine pure_ (i := 7) (N := some 25) (v := ?_) (a' := ?_) #[true, true, true, false, false, true, true, true, false, false] rfl rfl (any_of HT_.out (by kernel_rfl)) (fun _ _ _ h => h) (Or.inl ⟨by rfl, ?_⟩) ?_ ?_
                  rotate_left
                  · intro w'
                    go_simp
                    with_reducible rfl
                  rotate_left
                  · simp only [Act.put, List.setIfInBounds_toArray, List.set_cons_zero, List.set_cons_succ, i64_w, i32_w]
                    rfl
                  refine one_ (i := 3) (N := some 21) #[true, true, true, true, false, true, true, true, false, false] rfl rfl (one_of HT_.out (by kernel_rfl)) (by decide) (fun K hK => ?_)
                  refine value_ (w1 := ?_) (v := ?_) (by rfl) rfl ?_ ?_
                  rotate_left 2
                  · go_simp
                    constructor
                    · rfl
                    · rfl
                  refine hK.out _ _ ⟨(blk_cell (blk_alloc BK118.out _) 0).trans rfl, (blk_cell (blk_alloc BK118.out _) 1).trans rfl⟩ (fun hHeld => ?_)
                  clear hK K
                  refine norm_ (a' := ?_) ?_ ?_
                  rotate_left
                  · show Act.put _ (some 21) _ = _
                    simp only [Act.put, List.setIfInBounds_toArray, List.set_cons_zero, List.set_cons_succ, i64_w, i32_w]
                    rfl
                  refine one_ (i := 4) (N := some 22) #[true, true, true, true, true, true, true, true, false, false] rfl rfl (one_of HT_.out (by kernel_rfl)) (by decide) (fun K hK => ?_)
                  refine Kd.R_append_step (Kd.int .u8) (w0 := w) w.heap.size (by rfl) (.tmp 18) (.tmp 21) 36 5 (.int .u8 0) 1 rfl Try.underlying36 info5 rfl (by decide) (by omega) u4 x4_2 ((rd_T84 l0_1 x14_2).f0) [.int .u8 ((rd_T84 l0_1 x14_2).f0)] (fun _ => True) (fun _ => False) rfl rfl ?aP (fun _ hk => hk.elim) ?aF ?aO ?aB ?aS ?aL ?_
                  (case aP => exact rfl)
                  (case aB => exact (by repeat (first | (with_reducible first | exact HB.out | apply below_alloc | apply pw_below_drewN | apply below_drew1 | refine below_set ?_ GE113.out | refine below_set ?_ GE118.out) | exact HB.out)))
                  (case aF => exact (fun _ _ => trivial))
                  (case aO => exact (by (with_reducible repeat (first | apply Kd.R_alloc | apply Kd.R_drewN | apply Kd.R_drew)); exact HO_4.out))
                  (case aS => exact (below_size (by repeat (first | (with_reducible first | exact HB.out | apply below_alloc | apply pw_below_drewN | apply below_drew1 | refine below_set ?_ GE113.out | refine below_set ?_ GE118.out) | exact HB.out))))
                  (case aL => have := LMc12.out; omega)
                  intro v120 w19 ho hb hg hat
                  rw [← Ny119.out] at ho
                  have n0_ := Aside0.mk (blk_grown (g := gb113) (o := .cells #[.bool a0_0, .slice (some ad117) l0_1.length c0_1] 82 (0, 0)) (by (with_reducible repeat (first | refine blk_drewN ?_ _ | refine blk_drew ?_ | refine blk_alloc ?_ _)); exact BK113.out) hg (Kd.R_ne HO_4.out BK113.out (by decide)))
                  have n1_ := Aside0.mk (blk_grown (g := gb118) (o := .cells #[.int .u8 ((rd_T84 l0_1 x14_2).f0), .int .i64 ((rd_T84 l0_1 x14_2).f1)] 84 (0, 0)) (by (with_reducible repeat (first | refine blk_drewN ?_ _ | refine blk_drew ?_ | refine blk_alloc ?_ _)); exact BK118.out) hg (Kd.R_ne HO_4.out BK118.out (by decide)))
                  have n2_ := Aside0.mk (hb)
                  have n3_ := Aside0.mk (ho)
                  clear BK113
                  clear BK118
                  clear HB
                  clear HO_4
                  have BK113 := n0_
                  have BK118 := n1_
                  have HB := n2_
                  have HO121 := n3_
                  clear n0_ n1_ n2_ n3_
                  clear ho hb hg hat
                  obtain ⟨Ao20, co20, eo20⟩ := Kd.R_slice HO121.out
                  (first | subst eo20 | (injection eo20 with f1_ f2_ f3_; have f4_ := f1_.symm; have f5_ := f3_.symm; clear f1_ f2_ f3_; subst f4_; subst f5_))
                  refine hK.out _ _ ⟨(blk_cell BK118.out 0).trans rfl, (blk_cell BK118.out 1).trans rfl⟩ (fun hHeld => ?_)
                  clear hK K
                  refine norm_ (a' := ?_) ?_ ?_
                  rotate_left
                  · show Act.put _ (some 22) _ = _
                    simp only [Act.put, List.setIfInBounds_toArray, List.set_cons_zero, List.set_cons_succ, i64_w, i32_w]
                    rfl
                  refine one_ (i := 8) (N := some 26) #[true, true, true, true, true, true, true, true, true, false] rfl rfl (one_of HT_.out (by kernel_rfl)) (by decide) (fun K hK => ?_)
                  refine goes_ Try.func37 (by kernel_rfl) rfl #[.slice Ao20 y119.length co20, .int .u64 (IntKind.u64.wrap ((rd_T84 l0_1 x14_2).f1))] (by rfl) rfl rfl (by (try simp only [List.map_toArray, List.map_cons, List.map_nil]); first | done | rfl | (simp only [List.length_drop, List.length_take]; rfl)) ?_
                  with_reducible refine (num_Put.calls k2 _ _ y119 (IntKind.u64.wrap ((rd_T84 l0_1 x14_2).f1)) t122 _ ?side1 ?side2 A13.out).mono ?_
                  (case side1 => repeat (first | exact (Kd.R_reads' HO121.out).2.2 | (with_reducible refine Kd.C_alloc ?_ _) | (with_reducible refine Kd.C_drewN ?_ _) | (with_reducible refine Kd.C_drew ?_)))
                  (case side2 => exact (Kd.R_reads' HO121.out).2.1)
                  rintro e w21 ⟨v123, rfl, ho0, hb⟩
                  refine ⟨_, rfl, ?_⟩
                  have n0_ := Aside0.mk (Kd.R_elder' (by (with_reducible repeat (first | apply Kd.R_alloc | apply Kd.R_drewN | apply Kd.R_drew)); exact HO121.out) (Kd.R_base ho0) hb)
                  have n1_ := Aside0.mk (Kd.R_lower (Kd.R_new' ho0 (Kd.R_lt (by (with_reducible repeat (first | apply Kd.R_alloc | apply Kd.R_drewN | apply Kd.R_drew)); exact HO121.out))) (below_size (by repeat (first | (with_reducible first | exact HB.out | apply below_alloc | apply pw_below_drewN | apply below_drew1 | refine below_set ?_ GE113.out | refine below_set ?_ GE118.out) | exact HB.out))))
                  have n2_ := Aside0.mk (blk_below (g := gb113) (o := .cells #[.bool a0_0, .slice (some ad117) l0_1.length c0_1] 82 (0, 0)) (by (with_reducible repeat (first | refine blk_drewN ?_ _ | refine blk_drew ?_ | refine blk_alloc ?_ _)); exact BK113.out) hb)
                  have n3_ := Aside0.mk (blk_below (g := gb118) (o := .cells #[.int .u8 ((rd_T84 l0_1 x14_2).f0), .int .i64 ((rd_T84 l0_1 x14_2).f1)] 84 (0, 0)) (by (with_reducible repeat (first | refine blk_drewN ?_ _ | refine blk_drew ?_ | refine blk_alloc ?_ _)); exact BK118.out) hb)
                  have n4_ := Aside0.mk (below_step (by repeat (first | (with_reducible first | exact HB.out | apply below_alloc | apply pw_below_drewN | apply below_drew1 | refine below_set ?_ GE113.out | refine below_set ?_ GE118.out) | exact HB.out)) hb)
                  clear HO121
                  clear BK113
                  clear BK118
                  clear HB
                  have HO121 := n0_
                  have HO124 := n1_
                  have BK113 := n2_
                  have BK118 := n3_
                  have HB := n4_
                  clear n0_ n1_ n2_ n3_ n4_
                  (try clear hb)
                  (try clear hb2)
                  (try clear hk)
                  (try clear hi)
                  (try clear ho0)
                  refine hK.out _ _ ⟨(blk_cell BK118.out 0).trans rfl, (blk_cell BK118.out 1).trans rfl⟩ (fun hHeld => ?_)
                  clear hK K
                  refine norm_ (a' := ?_) ?_ ?_
                  rotate_left
                  · show Act.put _ (some 26) _ = _
                    simp only [Act.put, List.setIfInBounds_toArray, List.set_cons_zero, List.set_cons_succ, i64_w, i32_w]
                    rfl
                  refine pure_ (i := 9) (N := some 4) (v := ?_) (a' := ?_) #[true, true, true, true, true, true, true, true, true, true] rfl rfl (any_of HT_.out (by kernel_rfl)) (fun _ _ _ h => h) (Or.inl ⟨by rfl, ?_⟩) ?_ ?_
                  rotate_left
                  · intro w'
                    go_simp
                    with_reducible rfl
                  rotate_left
                  · simp only [Act.put, List.setIfInBounds_toArray, List.set_cons_zero, List.set_cons_succ, i64_w, i32_w]
                    rfl
                  refine done_ (done_of HT_.out (by kernel_rfl)) ?_
                  try go_wp2
                  go_roundg k2
                  case measure => have := HJ1.out; have := HK2.out; omega
                  case rel => exact ⟨(t122), (wrap64 (x14_2 + 1)), (by first | rfl | (simp; done) | (simp [*]; done)), H', ⟨by have := HJ1.out; have := HK2.out; omega⟩, ⟨by (with_reducible repeat (first | apply Kd.R_alloc | apply Kd.R_drewN | apply Kd.R_drew)); exact Kd.R_mono HO124.out (fun _ hk => trivial)⟩, ⟨by (with_reducible repeat (first | refine blk_drewN ?_ _ | refine blk_drew ?_ | refine blk_alloc ?_ _)); exact BK113.out⟩, ⟨by repeat (first | (with_reducible first | exact HB.out | apply below_alloc | apply pw_below_drewN | apply below_drew1 | refine below_set ?_ GE113.out | refine below_set ?_ GE118.out) | exact HB.out)⟩⟩
                · rw [if_neg c12] at H
                  exact absurd H (by simp)
              · rw [if_neg c11] at H
                exact absurd H (by simp)
            · rw [if_neg c10] at H
              exact absurd H (by simp)
          · rw [if_neg c9] at H
            have c9b0 : decide (x14_2 < (l0_1.length : Int)) = false := decide_eq_false c9
            clear c9
            obtain rfl := Option.some.inj H
            obtain ⟨hcv22, hcvn⟩ := own_string2 (P := Try.prog) Try.underlying36 Try.underlying5 Try.underlying9 HO_4.out
            go_wp2
            go_ret
            exact ⟨by first | rfl | (simp [errW_none, errW_some] <;> rfl) | (simp [*, errW_none, errW_some] <;> rfl), by repeat (first | (with_reducible first | exact HB.out | apply below_alloc | apply pw_below_drewN | apply below_drew1 | refine below_set ?_ GE113.out) | exact HB.out)⟩

def slices_Index_string_string.l0 : Nat → List ByteArray → ByteArray → Int → Int → Option (Int)
  | 0, _, _, _, _ => none
  | k + 1, x0, x1, x7, x8 => if x8 < x7 then (if 0 ≤ x8 then (if x8 < (x0.length : Int) then (if x1.toList = (rdOf ByteArray.empty x0 x8).toList then (some x8) else (slices_Index_string_string.l0 k x0 x1 x7 (wrap64 (x8 + 1)))) else (none)) else (none)) else (some (-1))
def slices_Index_string_string.f (k : Nat) (l0 : List ByteArray) (a1 : ByteArray) : Option (Int) := slices_Index_string_string.l0 k l0 a1 (l0.length : Int) 0
set_option maxHeartbeats 8000000 in
set_option maxRecDepth 100000 in
theorem slices_Index_string_string.calls (k : Nat) (A0 : Option Addr) (c0 : Nat) (l0 : List ByteArray) (a1 : ByteArray) (r : Int) (w : World) (hr0 : Kd.C Kd.string w A0 l0.length l0) (hc0 : l0.length ≤ c0) (h : slices_Index_string_string.f k l0 a1 = some r) :
    Calls Try.prog 84 #[.slice A0 l0.length c0, .string a1] w fun e w' => e = .returned (.int .i64 r) ∧ Drawn0 w w' := by
  have HR0 := Aside0.mk hr0
  have HC0 := Aside0.mk hc0
  clear hr0 hc0
  have H : (slices_Index_string_string.l0 k l0 a1 (l0.length : Int) 0) = some r := h
  clear h
  have H' := Aside0.mk H
  clear H
  go_enter Try.func84, Try.ntmps84
  go_wp2
  go_loopg [8] k (fun kq v8 w' => ∃ (x8_1 : Int), v8 = .int .i64 x8_1 ∧ Aside0 (slices_Index_string_string.l0 kq l0 a1 (l0.length : Int) x8_1 = some r) ∧ Aside0 (kq ≤ k) ∧ Drawn0 w w')
  case atStart => exact ⟨(0), (by first | rfl | (simp; done) | (simp [*]; done)), H', ⟨Nat.le_refl _⟩, by repeat (first | exact Drawn0.refl _ | apply Drawn0.step)⟩
  case round =>
    clear H'
    try clear p2
    obtain ⟨x8_1, rfl, HA, HK1, ⟨m1, rfl⟩⟩ := hrel
    cases gk with
    | zero => exact absurd HA.out (by simp [slices_Index_string_string.l0])
    | succ k1 =>
      have H := HA.out
      clear HA
      simp only [slices_Index_string_string.l0] at H
      by_cases c3 : x8_1 < (l0.length : Int)
      · rw [if_pos c3] at H
        have c3b0 : decide (x8_1 < (l0.length : Int)) = true := decide_eq_true c3
        clear c3
        by_cases c4 : 0 ≤ x8_1
        · rw [if_pos c4] at H
          have c4b0 : decide (0 ≤ x8_1) = true := decide_eq_true c4
          clear c4
          by_cases c5 : x8_1 < (l0.length : Int)
          · rw [if_pos c5] at H
            have c5b0 : decide (x8_1 < (l0.length : Int)) = true := decide_eq_true c5
            clear c5
            by_cases c6 : a1.toList = (rdOf ByteArray.empty l0 x8_1).toList
            · rw [if_pos c6] at H
              have c6b0 : (a1.toList == (rdOf ByteArray.empty l0 x8_1).toList) = true := beq_iff_eq.mpr c6
              have c6b1 : (a1.toList != (rdOf ByteArray.empty l0 x8_1).toList) = false := bne_eq_false_iff_eq.mpr c6
              clear c6
              obtain rfl := Option.some.inj H
              have p125 : 0 ≤ (x8_1 : Int) := of_decide_eq_true (by first | (with_reducible assumption) | assumption)
              have q125 : x8_1 < (l0.length : Int) := of_decide_eq_true (by first | (with_reducible assumption) | assumption)
              obtain ⟨ad125, e125, hx125_0⟩ := Kd.at_string HR0.out x8_1 p125 q125
              cases e125
              replace p125 := eq_true p125
              replace q125 := eq_true q125
              go_wp2
              go_ret
              exact ⟨by first | rfl | (simp; done) | (simp [*]; done), by repeat (first | exact Drawn0.refl _ | apply Drawn0.step)⟩
            · rw [if_neg c6] at H
              have c6b0 : (a1.toList == (rdOf ByteArray.empty l0 x8_1).toList) = false := beq_eq_false_iff_ne.mpr c6
              have c6b1 : (a1.toList != (rdOf ByteArray.empty l0 x8_1).toList) = true := bne_iff_ne.mpr c6
              have H' := Aside0.mk H
              clear H
              have p125 : 0 ≤ (x8_1 : Int) := of_decide_eq_true (by first | (with_reducible assumption) | assumption)
              have q125 : x8_1 < (l0.length : Int) := of_decide_eq_true (by first | (with_reducible assumption) | assumption)
              obtain ⟨ad125, e125, hx125_0⟩ := Kd.at_string HR0.out x8_1 p125 q125
              cases e125
              replace p125 := eq_true p125
              replace q125 := eq_true q125
              go_wp2
              go_roundg k1
              case measure => have := HK1.out; omega
              case rel => exact ⟨(wrap64 (x8_1 + 1)), (by first | rfl | (simp; done) | (simp [*]; done)), H', ⟨by have := HK1.out; omega⟩, by repeat (first | exact Drawn0.refl _ | apply Drawn0.step)⟩
          · rw [if_neg c5] at H
            exact absurd H (by simp)
        · rw [if_neg c4] at H
          exact absurd H (by simp)
      · rw [if_neg c3] at H
        have c3b0 : decide (x8_1 < (l0.length : Int)) = false := decide_eq_false c3
        clear c3
        obtain rfl := Option.some.inj H
        go_wp2
        go_ret
        exact ⟨by first | rfl | (simp; done) | (simp [*]; done), by repeat (first | exact Drawn0.refl _ | apply Drawn0.step)⟩

def slices_Contains_string_string.f (k : Nat) (l0 : List ByteArray) (a1 : ByteArray) : Option (Bool) := (slices_Index_string_string.f k l0 a1).bind fun t126 => (some (decide (t126 ≥ 0)))
set_option maxHeartbeats 8000000 in
set_option maxRecDepth 100000 in
theorem slices_Contains_string_string.calls (k : Nat) (A0 : Option Addr) (c0 : Nat) (l0 : List ByteArray) (a1 : ByteArray) (r : Bool) (w : World) (hr0 : Kd.C Kd.string w A0 l0.length l0) (hc0 : l0.length ≤ c0) (h : slices_Contains_string_string.f k l0 a1 = some r) :
    Calls Try.prog 58 #[.slice A0 l0.length c0, .string a1] w fun e w' => e = .returned (.bool r) ∧ Drawn0 w w' := by
  have HR0 := Aside0.mk hr0
  have HC0 := Aside0.mk hc0
  clear hr0 hc0
  have H : ((slices_Index_string_string.f k l0 a1).bind fun t126 => (some (decide (t126 ≥ 0)))) = some r := h
  clear h
  replace H := Option.bind_eq_some_iff.mp H
  obtain ⟨t126, A30, H⟩ := H
  replace H : (some (decide (t126 ≥ 0))) = some r := H
  have A3 := Aside0.mk A30
  clear A30
  obtain rfl := Option.some.inj H
  go_enter Try.func58, Try.ntmps58
  go_wp2_with (first | ((with_reducible refine gate_callee (f := 84) rfl ?_); refine goesL_ (some 7) rfl rfl Try.func84 (by kernel_rfl) rfl #[.slice A0 l0.length c0, .string a1] rfl (by (try simp only [List.map_toArray, List.map_cons, List.map_nil]); first | done | rfl | (simp only [List.length_drop, List.length_take]; rfl)) ?_; (with_reducible refine (slices_Index_string_string.calls k _ _ l0 a1 t126 _ ?side1 ?side2 A3.out).mono ?_); (case side1 => repeat (first | exact HR0.out | (with_reducible refine Kd.C_alloc ?_ _) | (with_reducible refine Kd.C_drewN ?_ _) | (with_reducible refine Kd.C_drew ?_))); (case side2 => exact HC0.out); rintro e w' ⟨rfl, ⟨nd, rfl⟩⟩; refine ⟨_, rfl, ?_⟩))
  go_ret
  exact ⟨by first | rfl | (simp; done) | (simp [*]; done), by repeat (first | exact Drawn0.refl _ | apply Drawn0.step)⟩

end Go.Proofs.Ytgebhidpkcjpmaa.PDk

namespace Go.Proofs.Ytgebhidpkcjpmaa.PDk
open Go.RowKit Go.Proofs.YtgebhidpkcjpmaaW.PrintWords Go.Proofs.YtgebhidpkcjpmaaW.PrintLast Go.Proofs.YtgebhidpkcjpmaaW.PrintMore Go.Proofs.Ytgebhidpkcjpmaa.K
attribute [local go_sem] max2_int min2_int max_two min_two max_three min_three max_four min_four   -- for this text's walks alone
set_option linter.unusedVariables false
set_option linter.unusedSimpArgs false

attribute [local go_sem high] eqA84
mutual
def manteletref14_Same.l0 : Nat → List (S82) → List (S82) → Int → Option (Bool)
  | 0, _, _, _ => none
  | k + 1, x0, x1, x5 => if x5 < (x0.length : Int) then (if 0 ≤ x5 then (if x5 < (x1.length : Int) then (if (((rd_T82 x0 x5).f0) != ((rd_T82 x1 x5).f0)) = true then (manteletref14_Same.j1 k x0 x1 x5 true) else (manteletref14_Same.j1 k x0 x1 x5 ((((rd_T82 x0 x5).f1).length : Int) != (((rd_T82 x1 x5).f1).length : Int)))) else (none)) else (none)) else (some true)
def manteletref14_Same.j1 : Nat → List (S82) → List (S82) → Int → Bool → Option (Bool)
  | 0, _, _, _, _ => none
  | k + 1, x0, x1, x5, x43 => if x43 = true then (some false) else (manteletref14_Same.l1 k x0 x1 x5 0)
def manteletref14_Same.l1 : Nat → List (S82) → List (S82) → Int → Int → Option (Bool)
  | 0, _, _, _, _ => none
  | k + 1, x0, x1, x5, x6 => if 0 ≤ x5 then (if x5 < (x0.length : Int) then (if x6 < (((rd_T82 x0 x5).f1).length : Int) then (if 0 ≤ x6 then (if x5 < (x1.length : Int) then (if x6 < (((rd_T82 x1 x5).f1).length : Int) then (if (!(((rd_T84 ((rd_T82 x0 x5).f1) x6).f0) == ((rd_T84 ((rd_T82 x1 x5).f1) x6).f0)) || (!(((rd_T84 ((rd_T82 x0 x5).f1) x6).f1) == ((rd_T84 ((rd_T82 x1 x5).f1) x6).f1)))) = true then (some false) else (manteletref14_Same.l1 k x0 x1 x5 (wrap64 (x6 + 1)))) else (none)) else (none)) else (none)) else (manteletref14_Same.l0 k x0 x1 (wrap64 (x5 + 1)))) else (none)) else (none)
end
def manteletref14_Same.f (k : Nat) (l0 : List (S82)) (l1 : List (S82)) : Option (Bool) := if (l0.length : Int) = (l1.length : Int) then (manteletref14_Same.l0 k l0 l1 0) else (some false)
end Go.Proofs.Ytgebhidpkcjpmaa.PDk

namespace Go.Proofs.Ytgebhidpkcjpmaa.PDk
open Go.RowKit Go.Proofs.YtgebhidpkcjpmaaW.PrintWords Go.Proofs.YtgebhidpkcjpmaaW.PrintLast Go.Proofs.YtgebhidpkcjpmaaW.PrintMore Go.Proofs.Ytgebhidpkcjpmaa.K
attribute [local go_sem] max2_int min2_int max_two min_two max_three min_three max_four min_four   -- for this text's walks alone
set_option linter.unusedVariables false
set_option linter.unusedSimpArgs false

end Go.Proofs.Ytgebhidpkcjpmaa.PDk

namespace Go.Proofs.Ytgebhidpkcjpmaa.PDm
open Go.RowKit Go.Proofs.YtgebhidpkcjpmaaW.PrintWords Go.Proofs.YtgebhidpkcjpmaaW.PrintLast Go.Proofs.YtgebhidpkcjpmaaW.PrintMore Go.Proofs.Ytgebhidpkcjpmaa.K Go.Proofs.Ytgebhidpkcjpmaa.PDk
attribute [local go_sem] max2_int min2_int max_two min_two max_three min_three max_four min_four   -- for this text's walks alone
set_option linter.unusedVariables false
set_option linter.unusedSimpArgs false



def errW : Option Int → Value
  | none => .nilIface
  | some c => .iface 0 (.int .i64 c)
theorem errW_none : errW none = .nilIface := rfl
theorem errW_some (c : Int) : errW (some c) = .iface 0 (.int .i64 c) := rfl

def rd_L4 (xs : List (List S84)) (i : Int) : (List S84) := xs.getD i.toNat ([] : List S84)
end Go.Proofs.Ytgebhidpkcjpmaa.PDm

