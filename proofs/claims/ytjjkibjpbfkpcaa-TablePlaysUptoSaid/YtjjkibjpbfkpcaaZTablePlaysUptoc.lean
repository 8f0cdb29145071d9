/- TablePlaysUpto. (The texts that the proof is made of, one behind the other: part 3 of 7.) -/
import Derived.Test.YtjjkibjpbfkpcaaProg
import Derived.KernelRfl
import Derived.Lib.DecodeNEq
import Derived.Laws.Strings
import Derived.Below
import Derived.Deep.Draws
import Derived.Deep.AppendLies
import Derived.Maps.AppendAt
import Derived.OwnWalk
import Derived.Laws.BytesArg
import Derived.Laws.MakeOwn
import Derived.Laws.OwnMore
import Derived.Deep.OwnRows
import Derived.Tactics
import Derived.Lib.ConvBytes
import Derived.Laws.Slices
import Derived.WalkKit
import Derived.RowKit3
import Derived.Deep.LoopGhost
import Derived.Deep.QuietTactic
import Derived.BigQuiet
import Derived.WideLaws
import Derived.Deep.DeepCutAuto
import Derived.Deep.CutBlock
import Derived.Deep.RegionHeld3
import Derived.Laws.Rows
import Derived.Lib.AppendStr
import Derived.ArgAppend
import Derived.Laws.IdiomCopy
import Derived.OrdersHeld
import Derived.Laws.BitsLemmas
import Derived.RowKit
import Derived.Lib.OthersKept
import Derived.WalkSmall
import Derived.Deep.RegionLaw
import Derived.BigRegion
import Derived.Laws.Cover4
import Derived.Laws.IdiomStrings
import Derived.Test.YtjjkibjpbfkpcaaZTablePlaysUptoa
import Derived.Test.YtjjkibjpbfkpcaaZTablePlaysUptob
namespace Go.Proofs.Ytjjkibjpbfkpcaa.K
theorem info5 : (Try.prog.info? 5).map (fun i => (i.zero, i.size, i.bytes)) = some (some (.int .u8 0), 1, 1) := by kernel_rfl
theorem info35 : (Try.prog.info? 35).map (fun i => (i.zero, i.size, i.bytes)) = some (some (.agg #[(.string ⟨#[]⟩), (.int .u64 0)]), 2, 24) := by kernel_rfl
theorem info57 : (Try.prog.info? 57).map (fun i => (i.zero, i.size, i.bytes)) = some (some (.agg #[(.int .i64 0), (.int .i64 0), (.int .u64 0)]), 3, 24) := by kernel_rfl
end Go.Proofs.Ytjjkibjpbfkpcaa.K

namespace Go.Proofs.Ytjjkibjpbfkpcaa.Utf
open Go
set_option linter.unusedVariables false
set_option linter.unusedSimpArgs false

/-- May b stand behind a as the second byte of a sequence of three or four? -/
def fits (a b : Nat) : Bool :=
  if a = 0xE0 then decide (0xA0 ≤ b) && decide (b ≤ 0xBF)
  else if a = 0xED then decide (0x80 ≤ b) && decide (b ≤ 0x9F)
  else if a = 0xF0 then decide (0x90 ≤ b) && decide (b ≤ 0xBF)
  else if a = 0xF4 then decide (0x80 ≤ b) && decide (b ≤ 0x8F)
  else decide (0x80 ≤ b) && decide (b ≤ 0xBF)
def cont (b : Nat) : Bool := decide (0x80 ≤ b) && decide (b ≤ 0xBF)
/-- The rune with which bytes begin, and how many bytes it has. -/
def dec : List Nat → Nat × Nat
  | [] => (65533, 1)
  | a :: t =>
    if a < 128 then (a, 1)
    else if 0xC2 ≤ a ∧ a ≤ 0xDF then
      match t with
      | b :: _ => if cont b then (a % 32 * 64 + b % 64, 2) else (65533, 1)
      | [] => (65533, 1)
    else if 0xE0 ≤ a ∧ a ≤ 0xEF then
      match t with
      | b :: c :: _ => if fits a b && cont c then (a % 16 * 4096 + b % 64 * 64 + c % 64, 3) else (65533, 1)
      | _ => (65533, 1)
    else if 0xF0 ≤ a ∧ a ≤ 0xF4 then
      match t with
      | b :: c :: d :: _ => if fits a b && cont c && cont d then (a % 8 * 262144 + b % 64 * 4096 + c % 64 * 64 + d % 64, 4) else (65533, 1)
      | _ => (65533, 1)
    else (65533, 1)
/-- Are these bytes the begin of a sequence? -/
def pend : List Nat → Bool
  | [a] => decide (0xC2 ≤ a) && decide (a ≤ 0xF4)
  | [a, b] => decide (0xE0 ≤ a) && decide (a ≤ 0xF4) && fits a b
  | [a, b, c] => decide (0xF0 ≤ a) && decide (a ≤ 0xF4) && fits a b && cont c
  | _ => false

theorem dec_pos (l : List Nat) : 1 ≤ (dec l).2 := by
  unfold dec
  repeat' split
  all_goals simp
/-- All runes of bytes. -/
def all (l : List Nat) : List Nat :=
  if h : l = [] then [] else (dec l).1 :: all (l.drop (dec l).2)
termination_by l.length
decreasing_by
  have := dec_pos l
  have : 0 < l.length := List.length_pos_iff.2 h
  simp; omega
/-- The runes ahead of what is pending, and that. -/
def feed (l : List Nat) : List Nat × List Nat :=
  if h : l = [] then ([], [])
  else if pend l then ([], l)
  else ((dec l).1 :: (feed (l.drop (dec l).2)).1, (feed (l.drop (dec l).2)).2)
termination_by l.length
decreasing_by
  all_goals
    have := dec_pos l
    have : 0 < l.length := List.length_pos_iff.2 h
    simp; omega
theorem all_nil : all [] = [] := by rw [all]; simp
theorem feed_nil : feed [] = ([], []) := by rw [feed]; simp
/-- The decoder's classes by the first byte. -/
theorem decodeN_1 (n a b c d : Nat) (h : a < 128) : Lib.decodeN n a b c d = (a, 1) := by simp [Lib.decodeN, h]
/-- The bytes of a string, as numbers. -/
def nats (s : ByteArray) : List Nat := s.data.toList.map fun b => b.toNat
theorem nats_length (s : ByteArray) : (nats s).length = s.size := by simp [nats]
theorem nats_lt (s : ByteArray) : ∀ x ∈ nats s, x < 256 := by
  intro x hx
  simp only [nats, List.mem_map] at hx
  obtain ⟨b, _, rfl⟩ := hx
  exact b.toNat_lt
/-- The runes of a string, as Go's ints. -/
def runesFrom (s : ByteArray) (pos : Nat) : List Int := (all ((nats s).drop pos)).map fun n : Nat => (n : Int)
def runesZ (s : ByteArray) : List Int := runesFrom s 0
/-- What is fed from a place on: the runes, and how many bytes are pending. -/
def fedFrom (s : ByteArray) (pos : Nat) : List Int × Nat := ((feed ((nats s).drop pos)).1.map fun n : Nat => (n : Int), (feed ((nats s).drop pos)).2.length)
def wellL (l : List Nat) : Bool := decide ((dec l).2 = l.length) && decide (1 < l.length)
def well (s : ByteArray) : Bool :=
  if s.size = 0 then false
  else decide (s.size = (Utf8.encode (Utf8.decode s 0).1).size) && (decide (1 < s.size) && (decide ((Utf8.decode s 0).1 ≠ 65533) || (s.toList == [239, 191, 189])))
theorem encode_size1 (c : Nat) (h : c < 128) : (Utf8.encode (c : Int)).size = 1 := by
  have hv : Utf8.valid (c : Int) = true := by simp [Utf8.valid]; omega
  unfold Utf8.encode
  simp only [hv, if_true, Int.toNat_natCast]
  rw [if_pos h]; rfl
theorem toList_nats (s : ByteArray) (l : List UInt8) : (s.toList == l) = (nats s == l.map fun b => b.toNat) := by
  rw [ByteArray.toList_eq, Bool.eq_iff_iff, beq_iff_eq, beq_iff_eq, nats]
  constructor
  · intro h; rw [h]
  · intro h
    exact List.map_inj_right (fun a b h => UInt8.toNat_inj.1 h) |>.1 h
def tails : List (List Nat) := [[0x80], [0x80, 0x80], [0x80, 0x80, 0x80], [0x90, 0x80, 0x80], [0xA0, 0x80], [0x90, 0x80]]
end Go.Proofs.Ytjjkibjpbfkpcaa.Utf

namespace Go.Proofs.Ytjjkibjpbfkpcaa.K
open Go.RowKit Go.Proofs.YtjjkibjpbfkpcaaW.PrintWords Go.Proofs.YtjjkibjpbfkpcaaW.PrintLast Go.Proofs.YtjjkibjpbfkpcaaW.PrintMore Go.Proofs.Ytjjkibjpbfkpcaa
attribute [local go_sem] max2_int min2_int max_two min_two max_three min_three max_four min_four
set_option linter.unusedVariables false
set_option linter.unusedSimpArgs false
section
variable {P : Program} {α : Type} {d : Kd α} {w : World} {base c : Nat} {ok : Nat → Prop} {A : Option Addr} {xs : List α}
end
/-- The bytes of a string that was made of bytes. -/
theorem nats_str (l : List Int) : Utf.nats (strOfNums l) = l.map fun n => n.toNat % 256 := by
  unfold Utf.nats
  rw [strOfNums_data, List.map_map]
  apply List.map_congr_left
  intro n _
  simp
end Go.Proofs.Ytjjkibjpbfkpcaa.K

namespace Go.Proofs.Ytjjkibjpbfkpcaa.K
open Go.RowKit Go.Proofs.YtjjkibjpbfkpcaaW.PrintWords Go.Proofs.YtjjkibjpbfkpcaaW.PrintLast Go.Proofs.YtjjkibjpbfkpcaaW.PrintMore Go.Proofs.Ytjjkibjpbfkpcaa
attribute [local go_sem] max2_int min2_int max_two min_two max_three min_three max_four min_four
set_option linter.unusedVariables false
set_option linter.unusedSimpArgs false
section
variable {P : Program} {src dst e : TypeId}
end
section
variable {P : Program} {ops : Array Oper} {rest : List Oper} {o : Oper} {a : Act} {Q : Exit → Act → World → Prop}
end
end Go.Proofs.Ytjjkibjpbfkpcaa.K

namespace Go.Proofs.Ytjjkibjpbfkpcaa.K
open Go.RowKit Go.Proofs.YtjjkibjpbfkpcaaW.PrintWords Go.Proofs.YtjjkibjpbfkpcaaW.PrintLast Go.Proofs.YtjjkibjpbfkpcaaW.PrintMore Go.Proofs.Ytjjkibjpbfkpcaa
attribute [local go_sem] max2_int min2_int max_two min_two max_three min_three max_four min_four
set_option linter.unusedVariables false
set_option linter.unusedSimpArgs false
section
variable {P : Program} {src dst e : TypeId}
end
section
variable {α : Type} {d : Kd α} {e base t : Nat} {ok : Nat → Prop} {w w1 : World} {v : Value} {xs : List α} {g : Nat} {cs : Array Value}
theorem R_butg (h : Kd.R d e w base ok v xs) (hg : w.heap[g]? = some (.cells cs t (0, 0))) (ht : ∀ q, q ∈ e :: d.E → q ≠ t) (hk : ∀ k, k ≠ g → w1.heap[k]? = w.heap[k]?) : Kd.R d e w1 base ok v xs :=
  Kd.R_mono (Kd.R_step (Kd.R_types h hg ht) (fun k ho _ => hk k ho.2)) (fun _ h => h.1)
end
theorem far1 {w : World} {g a : Nat} {x : Value} (k : Nat) (hk : k ≠ g) : (w.setCell ⟨g, a, none⟩ x).heap[k]? = w.heap[k]? := Below.heap_setCell _ _ _ k hk
theorem far2 {w : World} {g a b : Nat} {x y : Value} (k : Nat) (hk : k ≠ g) : ((w.setCell ⟨g, a, none⟩ x).setCell ⟨g, b, none⟩ y).heap[k]? = w.heap[k]? := (far1 k hk).trans (far1 k hk)
end Go.Proofs.Ytjjkibjpbfkpcaa.K

namespace Go.Proofs.Ytjjkibjpbfkpcaa.Utf
set_option linter.unusedVariables false
set_option linter.unusedSimpArgs false
def okR (c : Nat) : Prop := c < 0xD800 ∨ (0xE000 ≤ c ∧ c ≤ 0x10FFFF)
def sane (r : Int) : Int := if Utf8.valid r = true then r else 65533
def code (c : Nat) : List Nat :=
  if c < 128 then [c] else if c < 2048 then [192 + c / 64, 128 + c % 64] else if c < 65536 then [224 + c / 4096, 128 + c / 64 % 64, 128 + c % 64]
  else [240 + c / 262144, 128 + c / 4096 % 64, 128 + c / 64 % 64, 128 + c % 64]
theorem code_ne (c : Nat) : code c ≠ [] := by
  unfold code
  repeat' split
  all_goals simp
theorem runesBytes_nil : runesBytes [] = ByteArray.empty := rfl
end Go.Proofs.Ytjjkibjpbfkpcaa.Utf

namespace Go.Proofs.Ytjjkibjpbfkpcaa.PTb
open Go.RowKit Go.Proofs.YtjjkibjpbfkpcaaW.PrintWords Go.Proofs.YtjjkibjpbfkpcaaW.PrintLast Go.Proofs.YtjjkibjpbfkpcaaW.PrintMore Go.Proofs.Ytjjkibjpbfkpcaa.K
attribute [local go_sem] max2_int min2_int max_two min_two max_three min_three max_four min_four   -- for this text's walks alone
set_option linter.unusedVariables false
set_option linter.unusedSimpArgs false



def errW : Option Int → Value
  | none => .nilIface
  | some c => .iface 0 (.int .i64 c)
theorem errW_none : errW none = .nilIface := rfl
theorem errW_some (c : Int) : errW (some c) = .iface 0 (.int .i64 c) := rfl

structure S35 where
  f0 : ByteArray
  f1 : Int
def z35 : S35 := ⟨(⟨#[]⟩ : ByteArray), (0 : Int)⟩
def k35 : Kd S35 := Kd.iso (Kd.pair Kd.string (Kd.int .u64)) (fun x : S35 => (x.f0, x.f1))
theorem k35_open {w : World} {x : S35} {cs : List Value} (h : k35.K w x cs) : cs = [.string x.f0, .int .u64 x.f1] := by
  obtain ⟨_, _, rfl, rfl, rfl⟩ := h
  exact rfl
theorem k35_openM {w : World} {base : Nat} {ok : Nat → Prop} {x : S35} {cs : List Value} (h : k35.M w base ok x cs) : cs = [.string x.f0, .int .u64 x.f1] := by
  obtain ⟨_, _, rfl, rfl, rfl⟩ := h
  exact rfl
theorem k35_mk (w : World) (x : S35)  : k35.K w x [.string x.f0, .int .u64 x.f1] := ⟨[.string x.f0], [.int .u64 x.f1], rfl, rfl, rfl⟩
theorem k35_mkM (w : World) (base : Nat) (ok : Nat → Prop) (x : S35)  : k35.M w base ok x [.string x.f0, .int .u64 x.f1] := ⟨[.string x.f0], [.int .u64 x.f1], rfl, rfl, rfl⟩
def rd_T35 (xs : List S35) (i : Int) : S35 := xs.getD i.toNat z35
theorem at_T35 {w : World} {A : Option Addr} {n : Nat} {xs : List S35} (h : Kd.C k35 w A n xs) (i : Int) (h0 : 0 ≤ i) (h1 : i < n) : ∃ ad , A = some ad ∧ w.cell? (ad.add (i.toNat * 2)) = some (.string (rd_T35 xs i).f0) ∧ w.cell? ⟨(ad.add (i.toNat * 2)).block, (ad.add (i.toNat * 2)).off + 1, none⟩ = some (.int .u64 (rd_T35 xs i).f1) := by
  obtain ⟨ad, c, e, _, hK, hc0⟩ := Kd.C_get h z35 i h0 h1
  have hc : ∀ j u, c[j]? = some u → w.cell? (ad.add (i.toNat * 2 + j)) = some u := hc0
  obtain rfl := k35_open hK
  exact ⟨ad, e, hc 0 _ rfl, by rw [← add_field _ _ 1 (by omega)]; exact hc 1 _ rfl⟩

end Go.Proofs.Ytjjkibjpbfkpcaa.PTb

namespace Go.Proofs.Ytjjkibjpbfkpcaa.PTb
open Go.RowKit Go.Proofs.YtjjkibjpbfkpcaaW.PrintWords Go.Proofs.YtjjkibjpbfkpcaaW.PrintLast Go.Proofs.YtjjkibjpbfkpcaaW.PrintMore Go.Proofs.Ytjjkibjpbfkpcaa.K
attribute [local go_sem] max2_int min2_int max_two min_two max_three min_three max_four min_four   -- for this text's walks alone
set_option linter.unusedVariables false
set_option linter.unusedSimpArgs false

theorem eqA35 (d : Nat) (w : World) (x0 y0 : ByteArray) (x1 y1 : Int) :
    (Op.equalIn (d + 2) 35 (.agg #[.string x0, .int .u64 x1]) (.agg #[.string y0, .int .u64 y1])).run Try.prog w = .ok (x0.toList == y0.toList && (x1 == y1)) w := by
  refine eqA_of Try.underlying35 (by kernel_rfl) ?_
  refine eqf_cons (by rfl) (by go_simp; rfl) (by go_simp; rfl) (by go_simp) ?_
  exact eqf_last (by rfl) (by go_simp; rfl) (by go_simp; rfl) (by go_simp)
end Go.Proofs.Ytjjkibjpbfkpcaa.PTb

