/- RankTwice. (The texts that the proof is made of, one behind the other: part 3 of 5.) -/
import Derived.Test.YtcikngokiodabaaProg
import Derived.KernelRfl
import Derived.Lib.DecodeNEq
import Derived.Laws.Strings
import Derived.Below
import Derived.Deep.Draws
import Derived.Deep.AppendLies
import Derived.Maps.AppendAt
import Derived.OwnWalk
import Derived.Laws.BytesArg
import Derived.Laws.MakeOwn
import Derived.Laws.OwnMore
import Derived.Deep.OwnRows
import Derived.Tactics
import Derived.Lib.ConvBytes
import Derived.Laws.Slices
import Derived.WalkKit
import Derived.RowKit3
import Derived.Deep.LoopGhost
import Derived.Deep.QuietTactic
import Derived.BigQuiet
import Derived.WideLaws
import Derived.Deep.DeepCutAuto
import Derived.Deep.CutBlock
import Derived.Deep.RegionHeld3
import Derived.Laws.Rows
import Derived.Lib.AppendStr
import Derived.ArgAppend
import Derived.Laws.IdiomCopy
import Derived.OrdersHeld
import Derived.Laws.BitsLemmas
import Derived.RowKit
import Derived.Lib.OthersKept
import Derived.WalkSmall
import Derived.Deep.RegionLaw
import Derived.BigRegion
import Derived.Laws.Cover4
import Derived.Laws.IdiomStrings
import Derived.RangeFuncBox
import Derived.RangeFuncLeaves
import Derived.RangeFuncGives
import Derived.RangeFuncStops
import Derived.RangeFuncNested
import Derived.RangeFuncBound
import Derived.Shelf.Abstract
import Derived.Sort.MapsRangeIn
import Derived.Sort.KeysCollected
import Derived.OwnWalkIn
import Derived.TacticsInMore
import Derived.LoopNIn
import Derived.LoopIn
import Derived.Maps.OwnIn
import Derived.Shelf.SlSortCmp.NoneTotal
import Derived.Shelf.SlLaysF
import Derived.Shelf.SlGeneric
import Derived.Ground.SlsfProg
import Derived.Maps.OwnSet
import Derived.Maps.OwnOps
import Derived.Maps.Views
import Derived.Carry
import Derived.Laws.EntriesVeiled
import Derived.Test.YtcikngokiodabaaZRankTwicea
import Derived.Test.YtcikngokiodabaaZRankTwiceb
namespace Go.Proofs.Ytcikngokiodabaa.K
theorem info3 : (Try.prog.info? 3).map (fun i => (i.zero, i.size, i.bytes)) = some (some (.int .i64 0), 1, 8) := by kernel_rfl
theorem info35 : (Try.prog.info? 35).map (fun i => (i.zero, i.size, i.bytes)) = some (some (.agg #[(.string ⟨#[]⟩), (.int .u64 0)]), 2, 24) := by kernel_rfl
end Go.Proofs.Ytcikngokiodabaa.K

namespace Go.Proofs.Ytcikngokiodabaa.Utf
open Go
set_option linter.unusedVariables false
set_option linter.unusedSimpArgs false

/-- May b stand behind a as the second byte of a sequence of three or four? -/
def fits (a b : Nat) : Bool :=
  if a = 0xE0 then decide (0xA0 ≤ b) && decide (b ≤ 0xBF)
  else if a = 0xED then decide (0x80 ≤ b) && decide (b ≤ 0x9F)
  else if a = 0xF0 then decide (0x90 ≤ b) && decide (b ≤ 0xBF)
  else if a = 0xF4 then decide (0x80 ≤ b) && decide (b ≤ 0x8F)
  else decide (0x80 ≤ b) && decide (b ≤ 0xBF)
def cont (b : Nat) : Bool := decide (0x80 ≤ b) && decide (b ≤ 0xBF)
/-- The rune with which bytes begin, and how many bytes it has. -/
def dec : List Nat → Nat × Nat
  | [] => (65533, 1)
  | a :: t =>
    if a < 128 then (a, 1)
    else if 0xC2 ≤ a ∧ a ≤ 0xDF then
      match t with
      | b :: _ => if cont b then (a % 32 * 64 + b % 64, 2) else (65533, 1)
      | [] => (65533, 1)
    else if 0xE0 ≤ a ∧ a ≤ 0xEF then
      match t with
      | b :: c :: _ => if fits a b && cont c then (a % 16 * 4096 + b % 64 * 64 + c % 64, 3) else (65533, 1)
      | _ => (65533, 1)
    else if 0xF0 ≤ a ∧ a ≤ 0xF4 then
      match t with
      | b :: c :: d :: _ => if fits a b && cont c && cont d then (a % 8 * 262144 + b % 64 * 4096 + c % 64 * 64 + d % 64, 4) else (65533, 1)
      | _ => (65533, 1)
    else (65533, 1)
/-- Are these bytes the begin of a sequence? -/
def pend : List Nat → Bool
  | [a] => decide (0xC2 ≤ a) && decide (a ≤ 0xF4)
  | [a, b] => decide (0xE0 ≤ a) && decide (a ≤ 0xF4) && fits a b
  | [a, b, c] => decide (0xF0 ≤ a) && decide (a ≤ 0xF4) && fits a b && cont c
  | _ => false

theorem dec_pos (l : List Nat) : 1 ≤ (dec l).2 := by
  unfold dec
  repeat' split
  all_goals simp
/-- All runes of bytes. -/
def all (l : List Nat) : List Nat :=
  if h : l = [] then [] else (dec l).1 :: all (l.drop (dec l).2)
termination_by l.length
decreasing_by
  have := dec_pos l
  have : 0 < l.length := List.length_pos_iff.2 h
  simp; omega
/-- The runes ahead of what is pending, and that. -/
def feed (l : List Nat) : List Nat × List Nat :=
  if h : l = [] then ([], [])
  else if pend l then ([], l)
  else ((dec l).1 :: (feed (l.drop (dec l).2)).1, (feed (l.drop (dec l).2)).2)
termination_by l.length
decreasing_by
  all_goals
    have := dec_pos l
    have : 0 < l.length := List.length_pos_iff.2 h
    simp; omega
theorem all_nil : all [] = [] := by rw [all]; simp
theorem feed_nil : feed [] = ([], []) := by rw [feed]; simp
/-- The decoder's classes by the first byte. -/
theorem decodeN_1 (n a b c d : Nat) (h : a < 128) : Lib.decodeN n a b c d = (a, 1) := by simp [Lib.decodeN, h]
/-- The bytes of a string, as numbers. -/
def nats (s : ByteArray) : List Nat := s.data.toList.map fun b => b.toNat
theorem nats_length (s : ByteArray) : (nats s).length = s.size := by simp [nats]
/-- The runes of a string, as Go's ints. -/
def runesFrom (s : ByteArray) (pos : Nat) : List Int := (all ((nats s).drop pos)).map fun n : Nat => (n : Int)
def runesZ (s : ByteArray) : List Int := runesFrom s 0
/-- What is fed from a place on: the runes, and how many bytes are pending. -/
def fedFrom (s : ByteArray) (pos : Nat) : List Int × Nat := ((feed ((nats s).drop pos)).1.map fun n : Nat => (n : Int), (feed ((nats s).drop pos)).2.length)
def wellL (l : List Nat) : Bool := decide ((dec l).2 = l.length) && decide (1 < l.length)
def well (s : ByteArray) : Bool :=
  if s.size = 0 then false
  else decide (s.size = (Utf8.encode (Utf8.decode s 0).1).size) && (decide (1 < s.size) && (decide ((Utf8.decode s 0).1 ≠ 65533) || (s.toList == [239, 191, 189])))
theorem encode_size1 (c : Nat) (h : c < 128) : (Utf8.encode (c : Int)).size = 1 := by
  have hv : Utf8.valid (c : Int) = true := by simp [Utf8.valid]; omega
  unfold Utf8.encode
  simp only [hv, if_true, Int.toNat_natCast]
  rw [if_pos h]; rfl
def tails : List (List Nat) := [[0x80], [0x80, 0x80], [0x80, 0x80, 0x80], [0x90, 0x80, 0x80], [0xA0, 0x80], [0x90, 0x80]]
end Go.Proofs.Ytcikngokiodabaa.Utf

namespace Go.Proofs.Ytcikngokiodabaa.K
open Go.RowKit Go.Proofs.YtcikngokiodabaaW.PrintWords Go.Proofs.YtcikngokiodabaaW.PrintLast Go.Proofs.YtcikngokiodabaaW.PrintMore Go.Proofs.Ytcikngokiodabaa
attribute [local go_sem] max2_int min2_int max_two min_two max_three min_three max_four min_four
set_option linter.unusedVariables false
set_option linter.unusedSimpArgs false
section
variable {P : Program} {α : Type} {d : Kd α} {w : World} {base c : Nat} {ok : Nat → Prop} {A : Option Addr} {xs : List α}
end
end Go.Proofs.Ytcikngokiodabaa.K

namespace Go.Proofs.Ytcikngokiodabaa.K
open Go.RowKit Go.Proofs.YtcikngokiodabaaW.PrintWords Go.Proofs.YtcikngokiodabaaW.PrintLast Go.Proofs.YtcikngokiodabaaW.PrintMore Go.Proofs.Ytcikngokiodabaa
attribute [local go_sem] max2_int min2_int max_two min_two max_three min_three max_four min_four
set_option linter.unusedVariables false
set_option linter.unusedSimpArgs false
section
variable {P : Program} {src dst e : TypeId}
end
section
variable {P : Program} {ops : Array Oper} {rest : List Oper} {o : Oper} {a : Act} {Q : Exit → Act → World → Prop}
end
end Go.Proofs.Ytcikngokiodabaa.K

namespace Go.Proofs.Ytcikngokiodabaa.K
open Go.RowKit Go.Proofs.YtcikngokiodabaaW.PrintWords Go.Proofs.YtcikngokiodabaaW.PrintLast Go.Proofs.YtcikngokiodabaaW.PrintMore Go.Proofs.Ytcikngokiodabaa
attribute [local go_sem] max2_int min2_int max_two min_two max_three min_three max_four min_four
set_option linter.unusedVariables false
set_option linter.unusedSimpArgs false
section
variable {P : Program} {src dst e : TypeId}
end
section
variable {α : Type} {d : Kd α} {e base t : Nat} {ok : Nat → Prop} {w w1 : World} {v : Value} {xs : List α} {g : Nat} {cs : Array Value}
end
end Go.Proofs.Ytcikngokiodabaa.K

namespace Go.Proofs.Ytcikngokiodabaa.Utf
set_option linter.unusedVariables false
set_option linter.unusedSimpArgs false
def okR (c : Nat) : Prop := c < 0xD800 ∨ (0xE000 ≤ c ∧ c ≤ 0x10FFFF)
def sane (r : Int) : Int := if Utf8.valid r = true then r else 65533
def code (c : Nat) : List Nat :=
  if c < 128 then [c] else if c < 2048 then [192 + c / 64, 128 + c % 64] else if c < 65536 then [224 + c / 4096, 128 + c / 64 % 64, 128 + c % 64]
  else [240 + c / 262144, 128 + c / 4096 % 64, 128 + c / 64 % 64, 128 + c % 64]
theorem code_ne (c : Nat) : code c ≠ [] := by
  unfold code
  repeat' split
  all_goals simp
theorem runesBytes_nil : runesBytes [] = ByteArray.empty := rfl
end Go.Proofs.Ytcikngokiodabaa.Utf

namespace Go.Proofs.Ytcikngokiodabaa.PR13
open Go.RowKit Go.Proofs.YtcikngokiodabaaW.PrintWords Go.Proofs.YtcikngokiodabaaW.PrintLast Go.Proofs.YtcikngokiodabaaW.PrintMore Go.Proofs.Ytcikngokiodabaa.K
attribute [local go_sem] max2_int min2_int max_two min_two max_three min_three max_four min_four   -- for this text's walks alone
set_option linter.unusedVariables false
set_option linter.unusedSimpArgs false



def errW : Option Int → Value
  | none => .nilIface
  | some c => .iface 0 (.int .i64 c)
theorem errW_none : errW none = .nilIface := rfl
theorem errW_some (c : Int) : errW (some c) = .iface 0 (.int .i64 c) := rfl

structure S35 where
  f0 : ByteArray
  f1 : Int
def z35 : S35 := ⟨(⟨#[]⟩ : ByteArray), (0 : Int)⟩
def k35 : Kd S35 := Kd.iso (Kd.pair Kd.string (Kd.int .u64)) (fun x : S35 => (x.f0, x.f1))
theorem k35_open {w : World} {x : S35} {cs : List Value} (h : k35.K w x cs) : cs = [.string x.f0, .int .u64 x.f1] := by
  obtain ⟨_, _, rfl, rfl, rfl⟩ := h
  exact rfl
theorem k35_openM {w : World} {base : Nat} {ok : Nat → Prop} {x : S35} {cs : List Value} (h : k35.M w base ok x cs) : cs = [.string x.f0, .int .u64 x.f1] := by
  obtain ⟨_, _, rfl, rfl, rfl⟩ := h
  exact rfl
theorem k35_mk (w : World) (x : S35)  : k35.K w x [.string x.f0, .int .u64 x.f1] := ⟨[.string x.f0], [.int .u64 x.f1], rfl, rfl, rfl⟩
theorem k35_mkM (w : World) (base : Nat) (ok : Nat → Prop) (x : S35)  : k35.M w base ok x [.string x.f0, .int .u64 x.f1] := ⟨[.string x.f0], [.int .u64 x.f1], rfl, rfl, rfl⟩
def rd_T35 (xs : List S35) (i : Int) : S35 := xs.getD i.toNat z35
theorem at_T35 {w : World} {A : Option Addr} {n : Nat} {xs : List S35} (h : Kd.C k35 w A n xs) (i : Int) (h0 : 0 ≤ i) (h1 : i < n) : ∃ ad , A = some ad ∧ w.cell? (ad.add (i.toNat * 2)) = some (.string (rd_T35 xs i).f0) ∧ w.cell? ⟨(ad.add (i.toNat * 2)).block, (ad.add (i.toNat * 2)).off + 1, none⟩ = some (.int .u64 (rd_T35 xs i).f1) := by
  obtain ⟨ad, c, e, _, hK, hc0⟩ := Kd.C_get h z35 i h0 h1
  have hc : ∀ j u, c[j]? = some u → w.cell? (ad.add (i.toNat * 2 + j)) = some u := hc0
  obtain rfl := k35_open hK
  exact ⟨ad, e, hc 0 _ rfl, by rw [← add_field _ _ 1 (by omega)]; exact hc 1 _ rfl⟩

end Go.Proofs.Ytcikngokiodabaa.PR13

namespace Go.Proofs.Ytcikngokiodabaa.PR13
open Go.RowKit Go.Proofs.YtcikngokiodabaaW.PrintWords Go.Proofs.YtcikngokiodabaaW.PrintLast Go.Proofs.YtcikngokiodabaaW.PrintMore Go.Proofs.Ytcikngokiodabaa.K
attribute [local go_sem] max2_int min2_int max_two min_two max_three min_three max_four min_four   -- for this text's walks alone
set_option linter.unusedVariables false
set_option linter.unusedSimpArgs false

theorem eqA35 (d : Nat) (w : World) (x0 y0 : ByteArray) (x1 y1 : Int) :
    (Op.equalIn (d + 2) 35 (.agg #[.string x0, .int .u64 x1]) (.agg #[.string y0, .int .u64 y1])).run Try.prog w = .ok (x0.toList == y0.toList && (x1 == y1)) w := by
  refine eqA_of Try.underlying35 (by kernel_rfl) ?_
  refine eqf_cons (by rfl) (by go_simp; rfl) (by go_simp; rfl) (by go_simp) ?_
  exact eqf_last (by rfl) (by go_simp; rfl) (by go_simp; rfl) (by go_simp)
end Go.Proofs.Ytcikngokiodabaa.PR13

namespace Go.Proofs.Ytcikngokiodabaa.PR13
open Go.RowKit Go.Proofs.YtcikngokiodabaaW.PrintWords Go.Proofs.YtcikngokiodabaaW.PrintLast Go.Proofs.YtcikngokiodabaaW.PrintMore Go.Proofs.Ytcikngokiodabaa.K
attribute [local go_sem] max2_int min2_int max_two min_two max_three min_three max_four min_four   -- for this text's walks alone
set_option linter.unusedVariables false
set_option linter.unusedSimpArgs false

attribute [local go_sem high] eqA35
def manteletref08_Same.l0 : Nat → List (S35) → List (S35) → Int → Option (Bool)
  | 0, _, _, _ => none
  | k + 1, x0, x1, x5 => if x5 < (x0.length : Int) then (if 0 ≤ x5 then (if x5 < (x1.length : Int) then (if (!((((rd_T35 x0 x5).f0).toList) == (((rd_T35 x1 x5).f0).toList)) || (!(((rd_T35 x0 x5).f1) == ((rd_T35 x1 x5).f1)))) = true then (some false) else (manteletref08_Same.l0 k x0 x1 (wrap64 (x5 + 1)))) else (none)) else (none)) else (some true)
def manteletref08_Same.f (k : Nat) (l0 : List (S35)) (l1 : List (S35)) : Option (Bool) := if (l0.length : Int) = (l1.length : Int) then (manteletref08_Same.l0 k l0 l1 0) else (some false)
set_option maxHeartbeats 8000000 in
set_option maxRecDepth 100000 in
theorem manteletref08_Same.calls (k : Nat) (A0 : Option Addr) (c0 : Nat) (l0 : List (S35)) (A1 : Option Addr) (c1 : Nat) (l1 : List (S35)) (r : Bool) (w : World) (hr0 : Kd.C k35 w A0 l0.length l0) (hc0 : l0.length ≤ c0) (hr1 : Kd.C k35 w A1 l1.length l1) (hc1 : l1.length ≤ c1) (h : manteletref08_Same.f k l0 l1 = some r) :
    Calls Try.prog 9 #[.slice A0 l0.length c0, .slice A1 l1.length c1] w fun e w' => e = .returned (.bool r) ∧ Drawn0 w w' := by
  have hu35 := Try.underlying35
  have HR0 := Aside0.mk hr0
  have HC0 := Aside0.mk hc0
  clear hr0 hc0
  have HR1 := Aside0.mk hr1
  have HC1 := Aside0.mk hc1
  clear hr1 hc1
  have H : (if (l0.length : Int) = (l1.length : Int) then (manteletref08_Same.l0 k l0 l1 0) else (some false)) = some r := h
  clear h
  by_cases c3 : (l0.length : Int) = (l1.length : Int)
  · rw [if_pos c3] at H
    have c3b0 : ((l0.length : Int) == (l1.length : Int)) = true := beq_iff_eq.mpr c3
    have c3b1 : ((l0.length : Int) != (l1.length : Int)) = false := bne_eq_false_iff_eq.mpr c3
    have c3b2 : (l0.length == l1.length) = true := by first | simpa using c3 | (simp at c3 ⊢; omega)
    clear c3
    have H' := Aside0.mk H
    clear H
    go_enter Try.func9, Try.ntmps9
    go_wp2
    repeat (go_quiet (fail); try go_wp2)
    go_loopg [5] k (fun kq v5 w' => ∃ (x5_1 : Int), v5 = .int .i64 x5_1 ∧ Aside0 (manteletref08_Same.l0 kq l0 l1 x5_1 = some r) ∧ Aside0 (kq ≤ k) ∧ Drawn0 w w')
    case atStart => exact ⟨(0), (by first | rfl | (simp; done) | (simp [*]; done)), H', ⟨Nat.le_refl _⟩, by repeat (first | exact Drawn0.refl _ | apply Drawn0.step)⟩
    case round =>
      clear H'
      try clear c1
      try clear p2
      try clear c3
      try clear c3b0
      try clear c3b1
      try clear c3b2
      obtain ⟨x5_1, rfl, HA, HK1, ⟨m1, rfl⟩⟩ := hrel
      cases gk with
      | zero => exact absurd HA.out (by simp [manteletref08_Same.l0])
      | succ k1 =>
        have H := HA.out
        clear HA
        simp only [manteletref08_Same.l0] at H
        by_cases c4 : x5_1 < (l0.length : Int)
        · rw [if_pos c4] at H
          have c4b0 : decide (x5_1 < (l0.length : Int)) = true := decide_eq_true c4
          clear c4
          by_cases c5 : 0 ≤ x5_1
          · rw [if_pos c5] at H
            have c5b0 : decide (0 ≤ x5_1) = true := decide_eq_true c5
            clear c5
            by_cases c6 : x5_1 < (l1.length : Int)
            · rw [if_pos c6] at H
              have c6b0 : decide (x5_1 < (l1.length : Int)) = true := decide_eq_true c6
              clear c6
              by_cases c7 : (!((((rd_T35 l0 x5_1).f0).toList) == (((rd_T35 l1 x5_1).f0).toList)) || (!(((rd_T35 l0 x5_1).f1) == ((rd_T35 l1 x5_1).f1)))) = true
              · rw [if_pos c7] at H
                have c7b0 : (!((((rd_T35 l0 x5_1).f0).toList) == (((rd_T35 l1 x5_1).f0).toList)) || (!(((rd_T35 l0 x5_1).f1) == ((rd_T35 l1 x5_1).f1)))) = true := c7
                clear c7
                obtain rfl := Option.some.inj H
                have p101 : 0 ≤ (x5_1 : Int) := of_decide_eq_true (by first | (with_reducible assumption) | assumption)
                have q101 : x5_1 < (l0.length : Int) := of_decide_eq_true (by first | (with_reducible assumption) | assumption)
                obtain ⟨ad101, e101, hx101_0, hx101_1⟩ := at_T35 HR0.out x5_1 p101 q101
                cases e101
                replace p101 := eq_true p101
                replace q101 := eq_true q101
                have p102 : 0 ≤ (x5_1 : Int) := of_decide_eq_true (by first | (with_reducible assumption) | assumption)
                have q102 : x5_1 < (l1.length : Int) := of_decide_eq_true (by first | (with_reducible assumption) | assumption)
                obtain ⟨ad102, e102, hx102_0, hx102_1⟩ := at_T35 HR1.out x5_1 p102 q102
                cases e102
                replace p102 := eq_true p102
                replace q102 := eq_true q102
                go_wp2
                repeat (go_quiet (fail); try go_wp2)
                go_ret
                exact ⟨by first | rfl | (simp; done) | (simp [*]; done), by repeat (first | exact Drawn0.refl _ | apply Drawn0.step)⟩
              · rw [if_neg c7] at H
                have c7b0 : (!((((rd_T35 l0 x5_1).f0).toList) == (((rd_T35 l1 x5_1).f0).toList)) || (!(((rd_T35 l0 x5_1).f1) == ((rd_T35 l1 x5_1).f1)))) = false := by simpa using c7
                clear c7
                have H' := Aside0.mk H
                clear H
                have p101 : 0 ≤ (x5_1 : Int) := of_decide_eq_true (by first | (with_reducible assumption) | assumption)
                have q101 : x5_1 < (l0.length : Int) := of_decide_eq_true (by first | (with_reducible assumption) | assumption)
                obtain ⟨ad101, e101, hx101_0, hx101_1⟩ := at_T35 HR0.out x5_1 p101 q101
                cases e101
                replace p101 := eq_true p101
                replace q101 := eq_true q101
                have p102 : 0 ≤ (x5_1 : Int) := of_decide_eq_true (by first | (with_reducible assumption) | assumption)
                have q102 : x5_1 < (l1.length : Int) := of_decide_eq_true (by first | (with_reducible assumption) | assumption)
                obtain ⟨ad102, e102, hx102_0, hx102_1⟩ := at_T35 HR1.out x5_1 p102 q102
                cases e102
                replace p102 := eq_true p102
                replace q102 := eq_true q102
                go_wp2
                repeat (go_quiet (fail); try go_wp2)
                go_roundg k1
                case measure => have := HK1.out; omega
                case rel => exact ⟨(wrap64 (x5_1 + 1)), (by first | rfl | (simp; done) | (simp [*]; done)), H', ⟨by have := HK1.out; omega⟩, by repeat (first | exact Drawn0.refl _ | apply Drawn0.step)⟩
            · rw [if_neg c6] at H
              exact absurd H (by simp)
          · rw [if_neg c5] at H
            exact absurd H (by simp)
        · rw [if_neg c4] at H
          have c4b0 : decide (x5_1 < (l0.length : Int)) = false := decide_eq_false c4
          clear c4
          obtain rfl := Option.some.inj H
          go_wp2
          repeat (go_quiet (fail); try go_wp2)
          go_ret
          exact ⟨by first | rfl | (simp; done) | (simp [*]; done), by repeat (first | exact Drawn0.refl _ | apply Drawn0.step)⟩
  · rw [if_neg c3] at H
    have c3b0 : ((l0.length : Int) == (l1.length : Int)) = false := beq_eq_false_iff_ne.mpr c3
    have c3b1 : ((l0.length : Int) != (l1.length : Int)) = true := bne_iff_ne.mpr c3
    have c3b2 : (l0.length == l1.length) = false := by first | simpa using c3 | (simp at c3 ⊢; omega)
    obtain rfl := Option.some.inj H
    go_enter Try.func9, Try.ntmps9
    go_wp2
    repeat (go_quiet (fail); try go_wp2)
    go_ret
    exact ⟨by first | rfl | (simp; done) | (simp [*]; done), by repeat (first | exact Drawn0.refl _ | apply Drawn0.step)⟩

def manteletref13_Prune.l0 : Nat → List (S35) → Int → List (S35) → Int → Option ((List (S35)))
  | 0, _, _, _, _ => none
  | k + 1, x0, x1, x5, x6 => if x6 < (x0.length : Int) then (if 0 ≤ x6 then (if ((rd_T35 x0 x6).f1) ≥ x1 then (if x5.length < 5864062014805 then (manteletref13_Prune.l0 k x0 x1 (x5 ++ [(⟨(rd_T35 x0 x6).f0, (rd_T35 x0 x6).f1⟩ : S35)]) (wrap64 (x6 + 1))) else (none)) else (manteletref13_Prune.l0 k x0 x1 x5 (wrap64 (x6 + 1)))) else (none)) else (some x5)
def manteletref13_Prune.f (k : Nat) (l0 : List (S35)) (a1 : Int) : Option ((List (S35))) := manteletref13_Prune.l0 k l0 a1 ([] : List (S35)) 0
def manteletref13_first.l0 : Nat → List (S35) → Int → Int → Option (Bool)
  | 0, _, _, _ => none
  | k + 1, x0, x1, x5 => if x5 < x1 then (if 0 ≤ x5 then (if x5 < (x0.length : Int) then (if 0 ≤ x1 then (if x1 < (x0.length : Int) then (if ((rd_T35 x0 x5).f1) = ((rd_T35 x0 x1).f1) then (some false) else (manteletref13_first.l0 k x0 x1 (wrap64 (x5 + 1)))) else (none)) else (none)) else (none)) else (none)) else (some true)
def manteletref13_first.f (k : Nat) (l0 : List (S35)) (a1 : Int) : Option (Bool) := manteletref13_first.l0 k l0 a1 0
mutual
def manteletref13_Classes.l0 : Nat → List (S35) → List Int → Int → Option (List Int)
  | 0, _, _, _ => none
  | k + 1, x0, x3, x4 => if x4 < (x0.length : Int) then (manteletref13_Classes.l1 k x0 x3 x4 0 0) else (some x3)
def manteletref13_Classes.l1 : Nat → List (S35) → List Int → Int → Int → Int → Option (List Int)
  | 0, _, _, _, _, _ => none
  | k + 1, x0, x3, x4, x5, x6 => if x6 < (x0.length : Int) then (if 0 ≤ x6 then (if 0 ≤ x4 then (if x4 < (x0.length : Int) then (if ((rd_T35 x0 x6).f1) > ((rd_T35 x0 x4).f1) then ((manteletref13_first.f k x0 x6).bind fun t112 => (if t112 = true then (manteletref13_Classes.l1 k x0 x3 x4 (wrap64 (x5 + 1)) (wrap64 (x6 + 1))) else (manteletref13_Classes.l1 k x0 x3 x4 x5 (wrap64 (x6 + 1))))) else (manteletref13_Classes.l1 k x0 x3 x4 x5 (wrap64 (x6 + 1)))) else (none)) else (none)) else (none)) else (if x3.length < 17592186044416 then (manteletref13_Classes.l0 k x0 (x3 ++ [mn x5 255]) (wrap64 (x4 + 1))) else (none))
end
def manteletref13_Classes.f (k : Nat) (l0 : List (S35)) : Option (List Int) := manteletref13_Classes.l0 k l0 ([] : List Int) 0
def manteletref13_Half.f : Nat → Int → Option (Int)
  | 0, _ => none
  | k + 1, a0 => if a0 = 0 then (some 0) else ((manteletref13_Half.f k (IntKind.u64.wrap (Int.tdiv a0 2))).bind fun t116 => (some (wrap64 (1 + t116))))
end Go.Proofs.Ytcikngokiodabaa.PR13

namespace Go.Proofs.Ytcikngokiodabaa.PR13
open Go.RowKit Go.Proofs.YtcikngokiodabaaW.PrintWords Go.Proofs.YtcikngokiodabaaW.PrintLast Go.Proofs.YtcikngokiodabaaW.PrintMore Go.Proofs.Ytcikngokiodabaa.K
attribute [local go_sem] max2_int min2_int max_two min_two max_three min_three max_four min_four   -- for this text's walks alone
set_option linter.unusedVariables false
set_option linter.unusedSimpArgs false

def manteletref13_Ints.l0 : Nat → List Int → List Int → Int → Option (Bool)
  | 0, _, _, _ => none
  | k + 1, x0, x1, x5 => if x5 < (x0.length : Int) then (if 0 ≤ x5 then (if x5 < (x1.length : Int) then (if (rd x0 x5) = (rd x1 x5) then (manteletref13_Ints.l0 k x0 x1 (wrap64 (x5 + 1))) else (some false)) else (none)) else (none)) else (some true)
def manteletref13_Ints.f (k : Nat) (l0 : List Int) (l1 : List Int) : Option (Bool) := if (l0.length : Int) = (l1.length : Int) then (manteletref13_Ints.l0 k l0 l1 0) else (some false)
set_option maxHeartbeats 8000000 in
set_option maxRecDepth 100000 in
theorem manteletref13_Ints.calls (k : Nat) (A0 : Option Addr) (c0 : Nat) (l0 : List Int) (A1 : Option Addr) (c1 : Nat) (l1 : List Int) (r : Bool) (w : World) (hr0 : Kd.C (Kd.int .i64) w A0 l0.length l0) (hc0 : l0.length ≤ c0) (hr1 : Kd.C (Kd.int .i64) w A1 l1.length l1) (hc1 : l1.length ≤ c1) (h : manteletref13_Ints.f k l0 l1 = some r) :
    Calls Try.prog 12 #[.slice A0 l0.length c0, .slice A1 l1.length c1] w fun e w' => e = .returned (.bool r) ∧ Drawn0 w w' := by
  have HR0 := Aside0.mk hr0
  have HC0 := Aside0.mk hc0
  clear hr0 hc0
  have HR1 := Aside0.mk hr1
  have HC1 := Aside0.mk hc1
  clear hr1 hc1
  have H : (if (l0.length : Int) = (l1.length : Int) then (manteletref13_Ints.l0 k l0 l1 0) else (some false)) = some r := h
  clear h
  by_cases c3 : (l0.length : Int) = (l1.length : Int)
  · rw [if_pos c3] at H
    have c3b0 : ((l0.length : Int) == (l1.length : Int)) = true := beq_iff_eq.mpr c3
    have c3b1 : ((l0.length : Int) != (l1.length : Int)) = false := bne_eq_false_iff_eq.mpr c3
    have c3b2 : (l0.length == l1.length) = true := by first | simpa using c3 | (simp at c3 ⊢; omega)
    clear c3
    have H' := Aside0.mk H
    clear H
    go_enter Try.func12, Try.ntmps12
    go_wp2
    repeat (go_quiet (fail); try go_wp2)
    go_loopg [5] k (fun kq v5 w' => ∃ (x5_1 : Int), v5 = .int .i64 x5_1 ∧ Aside0 (manteletref13_Ints.l0 kq l0 l1 x5_1 = some r) ∧ Aside0 (kq ≤ k) ∧ Drawn0 w w')
    case atStart => exact ⟨(0), (by first | rfl | (simp; done) | (simp [*]; done)), H', ⟨Nat.le_refl _⟩, by repeat (first | exact Drawn0.refl _ | apply Drawn0.step)⟩
    case round =>
      clear H'
      try clear c1
      try clear p2
      try clear c3
      try clear c3b0
      try clear c3b1
      try clear c3b2
      obtain ⟨x5_1, rfl, HA, HK1, ⟨m1, rfl⟩⟩ := hrel
      cases gk with
      | zero => exact absurd HA.out (by simp [manteletref13_Ints.l0])
      | succ k1 =>
        have H := HA.out
        clear HA
        simp only [manteletref13_Ints.l0] at H
        by_cases c4 : x5_1 < (l0.length : Int)
        · rw [if_pos c4] at H
          have c4b0 : decide (x5_1 < (l0.length : Int)) = true := decide_eq_true c4
          clear c4
          by_cases c5 : 0 ≤ x5_1
          · rw [if_pos c5] at H
            have c5b0 : decide (0 ≤ x5_1) = true := decide_eq_true c5
            clear c5
            by_cases c6 : x5_1 < (l1.length : Int)
            · rw [if_pos c6] at H
              have c6b0 : decide (x5_1 < (l1.length : Int)) = true := decide_eq_true c6
              clear c6
              by_cases c7 : (rd l0 x5_1) = (rd l1 x5_1)
              · rw [if_pos c7] at H
                have c7b0 : ((rd l0 x5_1) == (rd l1 x5_1)) = true := beq_iff_eq.mpr c7
                have c7b1 : ((rd l0 x5_1) != (rd l1 x5_1)) = false := bne_eq_false_iff_eq.mpr c7
                clear c7
                have H' := Aside0.mk H
                clear H
                have p117 : 0 ≤ (x5_1 : Int) := of_decide_eq_true (by first | (with_reducible assumption) | assumption)
                have q117 : x5_1 < (l0.length : Int) := of_decide_eq_true (by first | (with_reducible assumption) | assumption)
                obtain ⟨ad117, e117, hx117_0⟩ := Kd.at_int HR0.out x5_1 p117 q117
                cases e117
                replace p117 := eq_true p117
                replace q117 := eq_true q117
                have p118 : 0 ≤ (x5_1 : Int) := of_decide_eq_true (by first | (with_reducible assumption) | assumption)
                have q118 : x5_1 < (l1.length : Int) := of_decide_eq_true (by first | (with_reducible assumption) | assumption)
                obtain ⟨ad118, e118, hx118_0⟩ := Kd.at_int HR1.out x5_1 p118 q118
                cases e118
                replace p118 := eq_true p118
                replace q118 := eq_true q118
                go_wp2
                repeat (go_quiet (fail); try go_wp2)
                go_roundg k1
                case measure => have := HK1.out; omega
                case rel => exact ⟨(wrap64 (x5_1 + 1)), (by first | rfl | (simp; done) | (simp [*]; done)), H', ⟨by have := HK1.out; omega⟩, by repeat (first | exact Drawn0.refl _ | apply Drawn0.step)⟩
              · rw [if_neg c7] at H
                have c7b0 : ((rd l0 x5_1) == (rd l1 x5_1)) = false := beq_eq_false_iff_ne.mpr c7
                have c7b1 : ((rd l0 x5_1) != (rd l1 x5_1)) = true := bne_iff_ne.mpr c7
                obtain rfl := Option.some.inj H
                have p117 : 0 ≤ (x5_1 : Int) := of_decide_eq_true (by first | (with_reducible assumption) | assumption)
                have q117 : x5_1 < (l0.length : Int) := of_decide_eq_true (by first | (with_reducible assumption) | assumption)
                obtain ⟨ad117, e117, hx117_0⟩ := Kd.at_int HR0.out x5_1 p117 q117
                cases e117
                replace p117 := eq_true p117
                replace q117 := eq_true q117
                have p118 : 0 ≤ (x5_1 : Int) := of_decide_eq_true (by first | (with_reducible assumption) | assumption)
                have q118 : x5_1 < (l1.length : Int) := of_decide_eq_true (by first | (with_reducible assumption) | assumption)
                obtain ⟨ad118, e118, hx118_0⟩ := Kd.at_int HR1.out x5_1 p118 q118
                cases e118
                replace p118 := eq_true p118
                replace q118 := eq_true q118
                go_wp2
                repeat (go_quiet (fail); try go_wp2)
                go_ret
                exact ⟨by first | rfl | (simp; done) | (simp [*]; done), by repeat (first | exact Drawn0.refl _ | apply Drawn0.step)⟩
            · rw [if_neg c6] at H
              exact absurd H (by simp)
          · rw [if_neg c5] at H
            exact absurd H (by simp)
        · rw [if_neg c4] at H
          have c4b0 : decide (x5_1 < (l0.length : Int)) = false := decide_eq_false c4
          clear c4
          obtain rfl := Option.some.inj H
          go_wp2
          repeat (go_quiet (fail); try go_wp2)
          go_ret
          exact ⟨by first | rfl | (simp; done) | (simp [*]; done), by repeat (first | exact Drawn0.refl _ | apply Drawn0.step)⟩
  · rw [if_neg c3] at H
    have c3b0 : ((l0.length : Int) == (l1.length : Int)) = false := beq_eq_false_iff_ne.mpr c3
    have c3b1 : ((l0.length : Int) != (l1.length : Int)) = true := bne_iff_ne.mpr c3
    have c3b2 : (l0.length == l1.length) = false := by first | simpa using c3 | (simp at c3 ⊢; omega)
    obtain rfl := Option.some.inj H
    go_enter Try.func12, Try.ntmps12
    go_wp2
    repeat (go_quiet (fail); try go_wp2)
    go_ret
    exact ⟨by first | rfl | (simp; done) | (simp [*]; done), by repeat (first | exact Drawn0.refl _ | apply Drawn0.step)⟩

def rank_Half.l0 : Nat → Int → Int → Option (Int)
  | 0, _, _ => none
  | k + 1, x0, x3 => if x0 > 0 then (rank_Half.l0 k (IntKind.u64.wrap (Int.tdiv x0 2)) (wrap64 (x3 + 1))) else (some x3)
def rank_Half.f (k : Nat) (a0 : Int) : Option (Int) := rank_Half.l0 k a0 0
set_option maxHeartbeats 8000000 in
set_option maxRecDepth 100000 in
theorem rank_Half.calls (k : Nat) (a0 : Int) (r : Int) (w : World) (h : rank_Half.f k a0 = some r) :
    Calls Try.prog 15 #[.int .u64 a0] w fun e w' => e = .returned (.int .i64 r) ∧ Drawn0 w w' := by
  have H : (rank_Half.l0 k a0 0) = some r := h
  clear h
  have H' := Aside0.mk H
  clear H
  go_enter Try.func15, Try.ntmps15
  go_wp2
  go_loopg [0, 3] k (fun kq v0 v3 w' => ∃ (x0_1 : Int) (x3_1 : Int), v0 = .int .u64 x0_1 ∧ v3 = .int .i64 x3_1 ∧ Aside0 (rank_Half.l0 kq x0_1 x3_1 = some r) ∧ Aside0 (kq ≤ k) ∧ Drawn0 w w')
  case atStart => exact ⟨(a0), (0), (by first | rfl | (simp; done) | (simp [*]; done)), (by first | rfl | (simp; done) | (simp [*]; done)), H', ⟨Nat.le_refl _⟩, by repeat (first | exact Drawn0.refl _ | apply Drawn0.step)⟩
  case round =>
    clear H'
    try clear c1
    obtain ⟨x0_1, x3_1, rfl, rfl, HA, HK1, ⟨m1, rfl⟩⟩ := hrel
    cases gk with
    | zero => exact absurd HA.out (by simp [rank_Half.l0])
    | succ k1 =>
      have H := HA.out
      clear HA
      simp only [rank_Half.l0] at H
      by_cases c2 : x0_1 > 0
      · rw [if_pos c2] at H
        have c2b0 : decide (0 < x0_1) = true := decide_eq_true c2
        clear c2
        have H' := Aside0.mk H
        clear H
        go_wp2
        go_roundg k1
        case measure => have := HK1.out; omega
        case rel => exact ⟨(IntKind.u64.wrap (Int.tdiv x0_1 2)), (wrap64 (x3_1 + 1)), (by first | rfl | (simp; done) | (simp [*]; done)), (by first | rfl | (simp; done) | (simp [*]; done)), H', ⟨by have := HK1.out; omega⟩, by repeat (first | exact Drawn0.refl _ | apply Drawn0.step)⟩
      · rw [if_neg c2] at H
        have c2b0 : decide (0 < x0_1) = false := decide_eq_false c2
        clear c2
        obtain rfl := Option.some.inj H
        go_wp2
        go_ret
        exact ⟨by first | rfl | (simp; done) | (simp [*]; done), by repeat (first | exact Drawn0.refl _ | apply Drawn0.step)⟩

def manteletlaw13_counts.l0 : Nat → List Int → List (S35) → Int → Option ((List (S35)))
  | 0, _, _, _ => none
  | k + 1, x0, x3, x4 => if x4 < (x0.length : Int) then (if x4 < 400 then (if 0 ≤ x4 then (if x3.length < 5864062014805 then (manteletlaw13_counts.l0 k x0 (x3 ++ [(⟨(⟨#[97]⟩ : ByteArray), rd x0 x4⟩ : S35)]) (wrap64 (x4 + 1))) else (none)) else (none)) else (some x3)) else (some x3)
def manteletlaw13_counts.f (k : Nat) (l0 : List Int) : Option ((List (S35))) := manteletlaw13_counts.l0 k l0 ([] : List (S35)) 0
set_option maxHeartbeats 8000000 in
set_option maxRecDepth 100000 in
theorem manteletlaw13_counts.calls (k : Nat) (A0 : Option Addr) (c0 : Nat) (l0 : List Int) (r : List (S35)) (w : World) (hr0 : Kd.C (Kd.int .u64) w A0 l0.length l0) (hc0 : l0.length ≤ c0) (h : manteletlaw13_counts.f k l0 = some r) :
    Calls Try.prog 17 #[.slice A0 l0.length c0] w fun e w' => ∃ v0_ : Value, e = .returned (v0_) ∧ Kd.R k35 35 w' w.heap.size (fun _ => True) v0_ r ∧ Below w.heap.size w w' := by
  have hu35 := Try.underlying35
  have HR0 := Aside0.mk hr0
  have HC0 := Aside0.mk hc0
  clear hr0 hc0
  have HB := Aside0.mk (Below.refl w.heap.size w)
  have H : (manteletlaw13_counts.l0 k l0 ([] : List (S35)) 0) = some r := h
  clear h
  have H' := Aside0.mk H
  clear H
  go_enter Try.func17, Try.ntmps17
  go_wp2
  go_loopg [3, 4] k (fun kq v3 v4 w' => ∃ (x3_1 : List (S35)) (x4_1 : Int), v4 = .int .i64 x4_1 ∧ Aside0 (manteletlaw13_counts.l0 kq l0 x3_1 x4_1 = some r) ∧ Aside0 (kq ≤ k) ∧ Aside0 (Kd.R k35 35 w' w.heap.size (fun _ => True) v3 x3_1) ∧ Aside0 (Below w.heap.size w w'))
  case atStart => exact ⟨(([] : List (S35))), (0), (by first | rfl | (simp; done) | (simp [*]; done)), H', ⟨Nat.le_refl _⟩, ⟨by first | exact Kd.R_nil _ _ _ _ _ | exact Kd.N_nil _ _ _ _ _ | exact Kd.V_nil _ _ _ _ _ | exact Kd.Q_nil _ _ _ _ _ | exact Kd.S_nil _ _ _ _ _⟩, ⟨by repeat (first | (with_reducible first | exact HB.out | apply below_alloc | apply pw_below_drewN | apply below_drew1) | exact HB.out)⟩⟩
  case round =>
    clear H'
    try clear c1
    obtain ⟨x3_1, x4_1, rfl, HA, HK1, HO_3, HB⟩ := hrel
    cases gk with
    | zero => exact absurd HA.out (by simp [manteletlaw13_counts.l0])
    | succ k1 =>
      have H := HA.out
      clear HA
      simp only [manteletlaw13_counts.l0] at H
      by_cases c2 : x4_1 < (l0.length : Int)
      · rw [if_pos c2] at H
        have c2b0 : decide (x4_1 < (l0.length : Int)) = true := decide_eq_true c2
        clear c2
        by_cases c3 : x4_1 < 400
        · rw [if_pos c3] at H
          have c3b0 : decide (x4_1 < 400) = true := decide_eq_true c3
          clear c3
          by_cases c4 : 0 ≤ x4_1
          · rw [if_pos c4] at H
            have c4b0 : decide (0 ≤ x4_1) = true := decide_eq_true c4
            clear c4
            by_cases c5 : x3_1.length < 5864062014805
            · rw [if_pos c5] at H
              have LMc5 := Aside0.mk c5
              clear c5
              obtain ⟨y120, hy120⟩ : ∃ y_ : List (S35), y_ = (x3_1 ++ [(⟨(⟨#[97]⟩ : ByteArray), rd l0 x4_1⟩ : S35)]) := ⟨_, rfl⟩
              replace H : (manteletlaw13_counts.l0 k1 l0 y120 (wrap64 (x4_1 + 1))) = some r := by first | (rw [hy120]; with_reducible exact H) | (have H2_ := (Option.bind_some _ _).symm.trans H; rw [hy120]; with_reducible exact H2_) | (have H2_ := (Option.bind_some _ _).symm.trans H; with_reducible exact H2_) | with_reducible exact H | (rw [hy120]; exact H) | exact H
              have Ny120 := Aside0.mk hy120
              clear hy120
              have H' := Aside0.mk H
              clear H
              have p119 : 0 ≤ (x4_1 : Int) := of_decide_eq_true (by first | (with_reducible assumption) | assumption)
              have q119 : x4_1 < (l0.length : Int) := of_decide_eq_true (by first | (with_reducible assumption) | assumption)
              obtain ⟨ad119, e119, hx119_0⟩ := Kd.at_int HR0.out x4_1 p119 q119
              cases e119
              replace hx119_0 := (HB.out.cell (World.block_lt_of_cell? w _ hx119_0)).trans hx119_0
              replace p119 := eq_true p119
              replace q119 := eq_true q119
              go_wp2_with (first | ((with_reducible refine gate_builtin (b := .append) (xs := #[.tmp 15, .tmp 21]) rfl ?_); at_builtin; refine Kd.R_append k35 (w0 := w) w.heap.size rfl (.tmp 15) (.tmp 21) 22 35 (.agg #[(.string ⟨#[]⟩), (.int .u64 0)]) 24 rfl Try.underlying22 info35 rfl (by decide) (by omega) u3 x3_1 (⟨(⟨#[97]⟩ : ByteArray), rd l0 x4_1⟩ : S35) [.string (⟨#[97]⟩ : ByteArray), .int .u64 (rd l0 x4_1)] (fun _ => True) (fun _ => False) rfl rfl ?aP (fun _ hk => hk.elim) ?aF ?aO ?aB ?aS ?aL ?_; (case aP => exact k35_mkM _ _ _ (⟨(⟨#[97]⟩ : ByteArray), rd l0 x4_1⟩ : S35)); (case aB => exact (by repeat (first | (with_reducible first | exact HB.out | apply below_alloc | apply pw_below_drewN | apply below_drew1) | exact HB.out))); (case aF => exact (fun _ _ => trivial)); (case aO => exact (by (with_reducible repeat (first | apply Kd.R_alloc | apply Kd.R_drewN | apply Kd.R_drew)); exact HO_3.out)); (case aS => exact (below_size (by repeat (first | (with_reducible first | exact HB.out | apply below_alloc | apply pw_below_drewN | apply below_drew1) | exact HB.out)))); (case aL => have := LMc5.out; omega); intro v121 w6 ho hb hg hat; rw [← Ny120.out] at ho; have n0_ := Aside0.mk (hb); have n1_ := Aside0.mk (ho); clear HB; clear HO_3; have HB := n0_; have HO122 := n1_; clear n0_ n1_; clear ho hb hg hat))
              go_roundg k1
              case measure => have := HK1.out; omega
              case rel => exact ⟨(y120), (wrap64 (x4_1 + 1)), (by first | rfl | (simp; done) | (simp [*]; done)), H', ⟨by have := HK1.out; omega⟩, ⟨by (with_reducible repeat (first | apply Kd.R_alloc | apply Kd.R_drewN | apply Kd.R_drew)); exact HO122.out⟩, ⟨by repeat (first | (with_reducible first | exact HB.out | apply below_alloc | apply pw_below_drewN | apply below_drew1) | exact HB.out)⟩⟩
            · rw [if_neg c5] at H
              exact absurd H (by simp)
          · rw [if_neg c4] at H
            exact absurd H (by simp)
        · rw [if_neg c3] at H
          have c3b0 : decide (x4_1 < 400) = false := decide_eq_false c3
          clear c3
          obtain rfl := Option.some.inj H
          go_wp2
          go_ret
          exact ⟨_, by first | rfl | (simp [errW_none, errW_some] <;> rfl) | (simp [*, errW_none, errW_some] <;> rfl), by (with_reducible repeat (first | apply Kd.R_alloc | apply Kd.R_drewN | apply Kd.R_drew)); exact HO_3.out, by repeat (first | (with_reducible first | exact HB.out | apply below_alloc | apply pw_below_drewN | apply below_drew1) | exact HB.out)⟩
      · rw [if_neg c2] at H
        have c2b0 : decide (x4_1 < (l0.length : Int)) = false := decide_eq_false c2
        clear c2
        obtain rfl := Option.some.inj H
        go_wp2
        go_ret
        exact ⟨_, by first | rfl | (simp [errW_none, errW_some] <;> rfl) | (simp [*, errW_none, errW_some] <;> rfl), by (with_reducible repeat (first | apply Kd.R_alloc | apply Kd.R_drewN | apply Kd.R_drew)); exact HO_3.out, by repeat (first | (with_reducible first | exact HB.out | apply below_alloc | apply pw_below_drewN | apply below_drew1) | exact HB.out)⟩

end Go.Proofs.Ytcikngokiodabaa.PR13

namespace Go.Proofs.Ytcikngokiodabaa.PR13
open Go.RowKit Go.Proofs.YtcikngokiodabaaW.PrintWords Go.Proofs.YtcikngokiodabaaW.PrintLast Go.Proofs.YtcikngokiodabaaW.PrintMore Go.Proofs.Ytcikngokiodabaa.K
attribute [local go_sem] max2_int min2_int max_two min_two max_three min_three max_four min_four   -- for this text's walks alone
set_option linter.unusedVariables false
set_option linter.unusedSimpArgs false

end Go.Proofs.Ytcikngokiodabaa.PR13

namespace Go.Proofs.Ytcikngokiodabaa.K
open Go.RowKit Go.Proofs.YtcikngokiodabaaW.PrintWords Go.Proofs.YtcikngokiodabaaW.PrintLast Go.Proofs.YtcikngokiodabaaW.PrintMore Go.Proofs.Ytcikngokiodabaa
attribute [local go_sem] max2_int min2_int max_two min_two max_three min_three max_four min_four
set_option linter.unusedVariables false
set_option linter.unusedSimpArgs false
open Go Go.RowKit Go.Maps Go.Sort
attribute [local go_sem] Oper.semAt_some
abbrev encU : Int → Value := Value.int .u64
theorem keyOf_u64 {P : Program} {k : TypeId} (hk : P.underlying k = some (.int .u64)) {key : Value} {kl : Lit} (h : keyOf P k key = some kl) : ∃ x : Int, key = encU x ∧ kl = .int .u64 x ∧ (Lit.int .u64 x).wf = true := by
  cases key <;> simp [keyOf, hk, mapKey] at h
  rename_i q a
  obtain ⟨⟨rfl, hw⟩, rfl⟩ := h
  exact ⟨a, rfl, rfl, hw⟩
/-- What has come of the keys: each once, and just those that are no longer to come. -/
def Come {H : Type} (D0 : DataW H) (left : Lit → Bool) (ss : List Int) : Prop := ss.Nodup ∧ ∀ x, x ∈ ss ↔ (has D0 (.int .u64 x) = true ∧ left (.int .u64 x) = false)
theorem Come.start {H : Type} (D0 : DataW H) : Come D0 (has D0) [] := ⟨List.nodup_nil, fun x => by cases has D0 (.int .u64 x) <;> simp⟩
theorem Come.step {H : Type} {D0 : DataW H} {left : Lit → Bool} {ss : List Int} (h : Come D0 left ss) {x : Int} {y : DataW H} (hlk : left (.int .u64 x) = true) (hat : ∀ zd, D0.atKey (.int .u64 x) zd = y) : Come D0 (fun z => left z && !z.sameKey (.int .u64 x)) (ss ++ [x]) := by
  have hhas : has D0 (.int .u64 x) = true := has_true_of_atKey hat
  have hnew : x ∉ ss := fun hx => by
    have h2 := ((h.2 x).1 hx).2
    rw [hlk] at h2; cases h2
  refine ⟨?_, fun y => ?_⟩
  · rw [List.nodup_append]
    refine ⟨h.1, by simp, fun a ha b hb e => ?_⟩
    rw [List.mem_singleton] at hb
    exact hnew (hb ▸ e ▸ ha)
  · by_cases hy : y = x
    · subst hy; simp [hhas, Lit.sameKey]
    · simp [h.2 y, hy, Lit.sameKey]
def Keys {H : Type} (D0 : DataW H) (ss : List Int) : Prop := ss.Nodup ∧ ∀ x, x ∈ ss ↔ has D0 (.int .u64 x) = true
theorem keyedU : Keyed Try.prog 23 := int_keyed Try.underlying23

set_option maxRecDepth 100000 in
set_option maxHeartbeats 2000000 in
theorem keys1_in {H : Type} (F : Fence) (n : Nat) (hf : F.fn 30) (hro : F.round = none) (hn : 1 ≤ n) (l Bm b nn : Nat) (D0 : DataW H) (J Jx : List Int → World → Prop)
    (hY : ∀ pre x W, J pre W → pre.length < Maps.size D0 → YieldAt F (n - 1) Try.prog l #[encU x] W fun e W' =>
      (e = .returned (.bool true) ∧ J (pre ++ [x]) W' ∧ KeepsWalks W W') ∨ (e = .returned (.bool false) ∧ Jx (pre ++ [x]) W'))
    (W : World) (hJ : AbidesFrom W.heap.size J) (hm : W.cell? ⟨Bm, 0, none⟩ = some (.map (some b))) (hown : W.ownsMap Try.prog 23 (plainElem Try.prog 3) b nn D0) (h0 : J [] W) :
    CallsIn F n Try.prog 30 #[.func (.yield l) #[] #[], .pointer (some ⟨Bm, 0, none⟩)] W fun e W' => (∃ v, e = .returned v) ∧
      ((∃ ss : List Int, (Keys D0 ss ∧ ss.length ≤ Maps.size D0) ∧ J ss W') ∨ (∃ pre : List Int, True ∧ Jx pre W')) := by
  refine callsIn_of_wp Try.func30 rfl hf ?_ hro
  simp only [Try.ntmps30, List.size_toArray, List.length_cons, List.length_nil, Nat.reduceAdd, Nat.reduceSub, Array.replicate_succ, Array.replicate_zero, List.push_toArray, List.append_toArray, List.nil_append, List.cons_append]
  gi_wp2_with (first
    | (gi_at_range; refine wpListIn_range_own _ rfl _ 45 rfl 23 3 keyedU Try.underlying45 _ b nn _ rfl hown ?_; intro w0 hrg0 hg0 hs0)
    | gi_in)
  go_frame
  gi_loopw [3] (fun _ wr => ∃ (left : Lit → Bool) (cnt : Nat) (ss : List Int), wr.ranges Try.prog 23 (plainElem Try.prog 3) b W.heap.size nn D0 left cnt ∧ ss.length + cnt ≤ Maps.size D0 ∧ Come D0 left ss ∧ J ss wr)
    (fun _ wr => wr.rangeLeft b W.heap.size)
  case atStart =>
    exact ⟨_, _, [], hrg0, by simp, Come.start D0, hJ [] W w0 none h0 hg0 (fun r e => by cases e)⟩
  case round =>
    obtain ⟨left, cnt, ss, hrg, hcs, hC, hJs⟩ := hrel
    gi_wp2_with (first
      | (gi_at_next; refine wpListIn_next_ranges _ rfl _ rfl 23 keyedU (plainElem Try.prog 3) encU (Value.int .i64) (fun key kl hk => by obtain ⟨x, hx, _⟩ := keyOf_u64 Try.underlying23 hk; exact ⟨x, hx⟩) (fun v y hv => by obtain ⟨c, rfl, _⟩ := plainElem_int_inv Try.underlying3 hv; exact ⟨c, rfl⟩) b W.heap.size nn _ _ _ rfl hrg ?_ ?_)
      | gi_in)
    · intro hc0 hl0
      gi_wp2
      go_end0
      exact ⟨⟨_, rfl⟩, .inl ⟨ss, ⟨⟨hC.1, fun x => by rw [hC.2 x, hl0]; simp⟩, by omega⟩, hJs⟩⟩
    · intro x c kl yd yp w2 cnt2 hkey hlk hv hat hrg2 hlt hg2 hs2 hen
      obtain ⟨x', ex, rfl, _⟩ := keyOf_u64 Try.underlying23 hkey
      obtain rfl : x = x' := by injection ex
      have hJ2 : J ss w2 := hJ ss wr w2 (some W.heap.size) hJs hg2 (fun r e => by cases e; exact ⟨Nat.le_refl _, hrg.iter_walk⟩)
      obtain ⟨fn, tmps, assign, body, hy, hR⟩ := hY ss x w2 hJ2 (by omega)
      clear hs2
      gi_wp2
      refine hR.mono ?_
      have hC2 := hC.step hlk hat
      rintro e W3 (⟨rfl, hJ3, hk3⟩ | ⟨rfl, hJx3⟩)
      · gi_wp2
        have hrg3 := hrg2.of_walks hk3
        go_roundw
        case rel => exact ⟨_, cnt2, ss ++ [x], hrg3, by simp; omega, hC2, hJ3⟩
        case measure => rw [hrg3.left_eq, hrg.left_eq]; exact hlt
      · gi_wp2
        refine bodyPost_ret (results_none rfl _ _ _) rfl ?_
        exact ⟨⟨_, rfl⟩, .inr ⟨ss ++ [x], trivial, hJx3⟩⟩

set_option maxHeartbeats 1000000 in
theorem keys_in (F : Fence) (n : Nat) (hf : F.fn 24) (hro : F.round = none) (mb : Option Nat) (w : World) :
    CallsIn F n Try.prog 24 #[.map mb] w fun e w' => e = .returned (.func (.func 30) #[] #[.pointer (some ⟨w.heap.size, 0, none⟩)]) ∧ w' = w.alloc (.cells #[.map mb] 45) := by
  refine callsIn_of_wp Try.func24 rfl hf ?_ hro
  simp only [Try.ntmps24, List.size_toArray, List.length_cons, List.length_nil, Nat.reduceAdd, Nat.reduceSub, Array.replicate_succ, Array.replicate_zero, List.push_toArray, List.append_toArray, List.nil_append, List.cons_append]
  gi_wp2
  go_ret
  exact ⟨rfl, rfl⟩

/-- maps.Keys(m) hands back an iterator over m's keys. -/
theorem keys_stops {H : Type} (F : Fence) (n : Nat) (hf : F.fn 30) (hro : F.round = none) (hn : 1 ≤ n) (Bm b nn : Nat) (D0 : DataW H) (w : World) (hBm : Bm < w.heap.size)
    (hm : w.cell? ⟨Bm, 0, none⟩ = some (.map (some b))) (hown : w.ownsMap Try.prog 23 (plainElem Try.prog 3) b nn D0) :
    SeqStops F n Try.prog 30 #[.pointer (some ⟨Bm, 0, none⟩)] encU (fun ss => Keys D0 ss ∧ ss.length ≤ Maps.size D0) (fun _ => True) (Maps.size D0) w := fun l J Jx W hW hJ _ hY h0 => by
  have hown' : W.ownsMap Try.prog 23 (plainElem Try.prog 3) b nn D0 := by
    have hbl := hown.lt
    obtain ⟨es, clock, hb, Ft, hs, hD⟩ := hown
    exact ⟨es, clock, (hW.block b hbl).trans hb, Ft, hs, hD⟩
  exact keys1_in F n hf hro hn l Bm b nn D0 J Jx hY W hJ ((hW.cell (p := ⟨Bm, 0, none⟩) hBm).trans hm) hown' h0
end Go.Proofs.Ytcikngokiodabaa.K

namespace Go.Proofs.Ytcikngokiodabaa.K
open Go Go.Shelf
set_option linter.unusedVariables false
set_option linter.unusedSimpArgs false
def sortU_ren : Go.Shelf.Ren := ⟨fun | 6 => 29 | 15 => 33 | 14 => 32 | 28 => 42 | 29 => 43 | 20 => 34 | 21 => 35 | 22 => 36 | 23 => 37 | 24 => 38 | 25 => 39 | 26 => 40 | 27 => 41 | 46 => 44 | 47 => 45 | 48 => 46 | 49 => 47 | 50 => 48 | 57 => 49 | n => n, fun | 22 => 32 | 24 => 23 | 25 => 46 | 3 => 3 | 39 => 59 | 0 => 0 | 53 => 37 | 55 => 23 | 4 => 4 | 46 => 62 | 45 => 61 | 50 => 66 | 5 => 5 | 9 => 9 | 66 => 69 | 70 => 73 | 76 => 75 | 77 => 76 | n => n, fun | n => n⟩
theorem sortU : Go.Proofs.SlLaysF.n6 Try.prog sortU_ren := {
  mixed := by kernel_rfl
  f6 := ⟨Try.f29.name, by decide, Try.func29.trans (congrArg some (by kernel_rfl))⟩
  f14 := ⟨Try.f32.name, by decide, Try.func32.trans (congrArg some (by kernel_rfl))⟩
  f15 := Try.func33.trans (congrArg some (by kernel_rfl))
  f20 := ⟨Try.f34.name, by decide, Try.func34.trans (congrArg some (by kernel_rfl))⟩
  f21 := ⟨Try.f35.name, by decide, Try.func35.trans (congrArg some (by kernel_rfl))⟩
  f22 := ⟨Try.f36.name, by decide, Try.func36.trans (congrArg some (by kernel_rfl))⟩
  f23 := ⟨Try.f37.name, by decide, Try.func37.trans (congrArg some (by kernel_rfl))⟩
  f24 := ⟨Try.f38.name, by decide, Try.func38.trans (congrArg some (by kernel_rfl))⟩
  f25 := ⟨Try.f39.name, by decide, Try.func39.trans (congrArg some (by kernel_rfl))⟩
  f26 := ⟨Try.f40.name, by decide, Try.func40.trans (congrArg some (by kernel_rfl))⟩
  f27 := ⟨Try.f41.name, by decide, Try.func41.trans (congrArg some (by kernel_rfl))⟩
  f28 := Try.func42.trans (congrArg some (by kernel_rfl))
  f29 := Try.func43.trans (congrArg some (by kernel_rfl))
  f46 := ⟨Try.f44.name, by decide, Try.func44.trans (congrArg some (by kernel_rfl))⟩
  f47 := Try.func45.trans (congrArg some (by kernel_rfl))
  f48 := Try.func46.trans (congrArg some (by kernel_rfl))
  f49 := ⟨Try.f47.name, by decide, Try.func47.trans (congrArg some (by kernel_rfl))⟩
  f50 := ⟨Try.f48.name, by decide, Try.func48.trans (congrArg some (by kernel_rfl))⟩
  f57 := ⟨Try.f49.name, by decide, Try.func49.trans (congrArg some (by kernel_rfl))⟩
  t0 := Try.underlying0
  a0 := Try.isAgg0
  z0 := Try.sizeOf0
  v0 := Try.zeroValue0
  t3 := Try.underlying3
  a3 := Try.isAgg3
  z3 := Try.sizeOf3
  v3 := Try.zeroValue3
  t4 := Try.underlying4
  a4 := Try.isAgg4
  z4 := Try.sizeOf4
  v4 := Try.zeroValue4
  t5 := Try.underlying5
  a5 := Try.isAgg5
  z5 := Try.sizeOf5
  v5 := Try.zeroValue5
  t9 := Try.underlying9
  a9 := Try.isAgg9
  z9 := Try.sizeOf9
  v9 := Try.zeroValue9
  t22 := Try.underlying32
  a22 := Try.isAgg32
  z22 := Try.sizeOf32
  v22 := Try.zeroValue32
  a24 := Try.isAgg23
  z24 := Try.sizeOf23
  t25 := Try.underlying46
  a25 := Try.isAgg46
  z25 := Try.sizeOf46
  v25 := Try.zeroValue46
  t39 := Try.underlying59
  a39 := Try.isAgg59
  z39 := Try.sizeOf59
  v39 := Try.zeroValue59
  t45 := Try.underlying61
  a45 := Try.isAgg61
  z45 := Try.sizeOf61
  v45 := Try.zeroValue61
  t46 := Try.underlying62
  a46 := Try.isAgg62
  z46 := Try.sizeOf62
  v46 := Try.zeroValue62
  t50 := Try.underlying66
  a50 := Try.isAgg66
  z50 := Try.sizeOf66
  v50 := Try.zeroValue66
  t53 := Try.underlying37
  a53 := Try.isAgg37
  z53 := Try.sizeOf37
  v53 := Try.zeroValue37
  t55 := Try.underlying23
  a55 := Try.isAgg23
  z55 := Try.sizeOf23
  v55 := Try.zeroValue23
  t66 := Try.underlying69
  a66 := Try.isAgg69
  z66 := Try.sizeOf69
  v66 := Try.zeroValue69
  t70 := Try.underlying73
  a70 := Try.isAgg73
  z70 := Try.sizeOf73
  v70 := Try.zeroValue73
  t76 := Try.underlying75
  a76 := Try.isAgg75
  z76 := Try.sizeOf75
  v76 := Try.zeroValue75
  t77 := Try.underlying76
  a77 := Try.isAgg76
  z77 := Try.sizeOf76
  v77 := Try.zeroValue76 }
end Go.Proofs.Ytcikngokiodabaa.K

namespace Go.Proofs.Ytcikngokiodabaa.K
open Go.RowKit Go.Proofs.YtcikngokiodabaaW.PrintWords Go.Proofs.YtcikngokiodabaaW.PrintLast Go.Proofs.YtcikngokiodabaaW.PrintMore Go.Proofs.Ytcikngokiodabaa
attribute [local go_sem] max2_int min2_int max_two min_two max_three min_three max_four min_four
set_option linter.unusedVariables false
set_option linter.unusedSimpArgs false
open Go Go.RowKit Go.Maps Go.Sort
attribute [local go_sem] Oper.semAt_some
theorem infoU : (Try.prog.info? 23).map (fun i => (i.zero, i.size, i.bytes)) = some (some (.int .u64 0), 1, 8) := by kernel_rfl
set_option maxRecDepth 100000 in
set_option maxHeartbeats 4000000 in
theorem appendSeq_in (F : Fence) (n : Nat) (hf : F.fn 31) (hro : F.round = none) (hn : 2 ≤ n) (g : Nat) (lb : Array Value) (hFg : F.fn g) (eg : ∀ args w, (callFunc g args).run Try.prog w = .ok (.enter g args) w)
    (S Sp : List Int → Prop) (N : Nat) (hN : N ≤ maxLen) (hNb : N * 8 ≤ 140737488355328) (w : World) (hseq : SeqStops F (n - 1) Try.prog g lb encU S Sp N w) :
    CallsIn F n Try.prog 31 #[.slice none 0 0, .func (.func g) #[] lb] w fun e w' => ∃ (v : Value) (ss : List Int), e = .returned v ∧ S ss ∧ w'.ownsRow w.heap.size 23 1 v ss.length (ss.map encU) ∧ Below w.heap.size w w' := by
  have h1 : 1 ≤ n := by omega
  obtain ⟨i0, hi, hz0, hz1, hz2⟩ := info_parts infoU
  refine callsIn_of_wp_marks Try.func31 rfl hf ?_ hro
  simp only [Try.ntmps31, List.size_toArray, List.length_cons, List.length_nil, Nat.reduceAdd, Nat.reduceSub, Array.replicate_succ, Array.replicate_zero, List.push_toArray, List.append_toArray, List.nil_append, List.cons_append]
  gi_wp2
  have bO := Boxed.new w 32 (.slice none 0 0)
  have hB0 : Below w.heap.size w (w.alloc (.cells #[.slice none 0 0] 32)) := (Below.refl _ w).alloc (Nat.le_refl _) _
  have hsq : SeqStopsK F (n - 1) Try.prog g lb (fun x : Int => #[encU x]) KeepsWalks S Sp N w := hseq
  refine wpIn_rangeFunc_ownG (α := Int) hro h1 (gf := g) (lb := lb) rfl hFg eg
    (hsq) walksK_t walksK_b hB0 (fun _ => rfl)
    (fun (pre : List Int) W => (∃ v, Boxed W w.heap.size 32 v ∧ W.ownsRow w.heap.size 23 1 v pre.length (pre.map encU) ∧ True) ∧ Below w.heap.size w W)
    (fun _ _ _ => False)
    (OwnFrom.and (Own.from (holdsRow_own w.heap.size w.heap.size 32 23 1 (fun pre : List Int => pre.length) (fun pre : List Int => pre.map encU) (fun (pre : List Int) v => True)) _) (ownFrom_below (Nat.le_refl _) (by simp)))
    (fun _ _ _ _ _ hs _ _ => hs)
    ⟨⟨_, bO, World.ownsRow_nil _ _ _ _, trivial⟩, hB0⟩
    (fun x => { tmps := #[.slice none 0 0, .func (.func g) #[] lb, .pointer (some ⟨w.heap.size, 0, none⟩), undef, .slice none 0 0, encU x, .func (.func g) #[] lb, encU x, undef, undef, undef, undef, undef], defers := [] }) ?assign ?body ?done ?stop
  case assign =>
    intro l x W K hK
    gi_wp2
    exact hK
  case body =>
    rintro l pre x W ⟨⟨v, hv, hrow, _⟩, hB⟩ hlt
    have hc := hv.cell
    gi_wp2_with (gi_at_builtin; refine wpListIn_append_own _ rfl _ _ 32 rfl w.heap.size 23 i0 (.int .u64 0) 1 8 Try.underlying32 hi hz0 hz1 hz2 rfl (by decide) _ _ _ rfl (hrow.alloc _) ⟨W.heap.size, 0, none⟩ 1 1 [encU x] rfl rfl (cell_one_new _ _ _) (by simp [Value.oneCell']) (by omega) (by omega) (by have := hB.size; simp; omega) ?_; intro v' w1 hown' hgrow _; obtain ⟨g', cap', rfl⟩ := ownsRow_succ hown'; obtain ⟨hv1, hv2, hr2, hk2, hb2⟩ := hv.appended (by decide) hrow hB.size (Nat.le_refl _) hown' hgrow; have hc1 := hv1.cell; have hf1 := hv1.frozen)
    exact ⟨hk2.from _, hk2.walks, ⟨_, hv2, by simpa using hr2, trivial⟩, hB.trans hb2⟩
  case done =>
    rintro D ys W hD hS ⟨⟨v, hv, hrow, _⟩, hB⟩ hK
    have hc := hv.cell
    gi_wp2
    refine ⟨by simp, .inl ⟨_, _, rfl, run_takeDeferred hK, ?_⟩⟩
    exact ⟨_, results_tmp rfl _ _ _, v, ys, rfl, hS, ownsRow_putObj hrow _ hK rfl, hB.trans (belowK_b (w := w) (Nat.le_refl _) W D _ _ (by simp at hD; omega) hK rfl rfl)⟩
  case stop =>
    rintro D c pre W _ _ h _
    exact h.elim

set_option maxHeartbeats 1000000 in
theorem collect_in (F : Fence) (n : Nat) (hf : F.fn 28) (hf2 : F.fn 31) (hro : F.round = none) (hn : 3 ≤ n) (g : Nat) (lb : Array Value) (hFg : F.fn g) (eg : ∀ args w, (callFunc g args).run Try.prog w = .ok (.enter g args) w)
    (S Sp : List Int → Prop) (N : Nat) (hN : N ≤ maxLen) (hNb : N * 8 ≤ 140737488355328) (w : World) (hseq : SeqStops F (n - 1 - 1) Try.prog g lb encU S Sp N w) :
    CallsIn F n Try.prog 28 #[.func (.func g) #[] lb] w fun e w' => ∃ (v : Value) (ss : List Int), e = .returned v ∧ S ss ∧ w'.ownsRow w.heap.size 23 1 v ss.length (ss.map encU) ∧ Below w.heap.size w w' := by
  have h1 : 1 ≤ n := by omega
  refine callsIn_of_wp Try.func28 rfl hf ?_ hro
  simp only [Try.ntmps28, List.size_toArray, List.length_cons, List.length_nil, Nat.reduceAdd, Nat.reduceSub, Array.replicate_succ, Array.replicate_zero, List.push_toArray, List.append_toArray, List.nil_append, List.cons_append]
  gi_wp2_with (gi_at_call 31; refine (appendSeq_in F (n - 1) hf2 hro (by omega) g lb hFg eg S Sp N hN hNb _ hseq).mono ?_; rintro e w' ⟨v, ss, rfl, hS, hrow, hb⟩)
  go_ret
  exact ⟨v, ss, rfl, hS, hrow, hb⟩

def cmpD (x y : Int) : Int := if y < x then -1 else if x < y then 1 else 0
theorem ltOf_cmpD (x y : Int) : Go.Proofs.ltOf cmpD x y = decide (y < x) := by
  unfold Go.Proofs.ltOf cmpD
  by_cases h : y < x
  · simp [h]
  · by_cases h2 : x < y <;> simp [h, h2]
theorem swoD : Go.Sort.SWO (Go.Proofs.ltOf cmpD) where
  irrefl x := by rw [ltOf_cmpD]; simp
  trans x y z h1 h2 := by rw [ltOf_cmpD] at *; simp at *; omega
  ntrans x y z h1 h2 := by rw [ltOf_cmpD] at *; simp at *; omega
set_option maxHeartbeats 4000000 in
set_option maxRecDepth 100000 in
theorem isNaN_k (a : Int) (W : World) : Calls Try.prog 27 #[.int .u64 a] W fun e w' => e = .returned (.bool false) ∧ w' = W := by
  go_enter Try.func27, Try.ntmps27
  go_wp2
  go_ret
  exact ⟨rfl, rfl⟩
set_option maxHeartbeats 4000000 in
set_option maxRecDepth 100000 in
theorem compare_k (a b : Int) (W : World) : Calls Try.prog 22 #[.int .u64 a, .int .u64 b] W fun e w' => e = .returned (.int .i64 (cmpD b a)) ∧ w' = W := by
  have hn := isNaN_k
  go_enter Try.func22, Try.ntmps22
  by_cases h1 : a < b
  · have h1b : decide (a < b) = true := decide_eq_true h1
    have er : cmpD b a = -1 := by unfold cmpD; rw [if_pos h1]
    rw [er]
    go_wp2_with (first | (go_at_call 27; refine (hn _ _).mono ?_; rintro e w' ⟨rfl, rfl⟩))
    go_ret
    exact ⟨rfl, rfl⟩
  · have h1b : decide (a < b) = false := decide_eq_false h1
    by_cases h2 : b < a
    · have h2b : decide (b < a) = true := decide_eq_true h2
      have er : cmpD b a = 1 := by unfold cmpD; rw [if_neg h1, if_pos h2]
      rw [er]
      go_wp2_with (first | (go_at_call 27; refine (hn _ _).mono ?_; rintro e w' ⟨rfl, rfl⟩))
      go_ret
      exact ⟨rfl, rfl⟩
    · have h2b : decide (b < a) = false := decide_eq_false h2
      have er : cmpD b a = 0 := by unfold cmpD; rw [if_neg h1, if_neg h2]
      rw [er]
      go_wp2_with (first | (go_at_call 27; refine (hn _ _).mono ?_; rintro e w' ⟨rfl, rfl⟩))
      go_ret
      exact ⟨rfl, rfl⟩
set_option maxHeartbeats 4000000 in
set_option maxRecDepth 100000 in
theorem down_k (x y : Int) (W : World) : Calls Try.prog 21 (#[encU x, encU y] ++ #[]) W fun e w' => e = .returned (.int .i64 (cmpD x y)) ∧ w' = W := by
  show Calls Try.prog 21 #[.int .u64 x, .int .u64 y] W _
  have hcon := compare_k y x
  generalize cmpD x y = r at hcon ⊢
  go_enter Try.func21, Try.ntmps21
  go_wp2_with (first | (go_at_call 22; refine (hcon _).mono ?_; rintro e w' ⟨rfl, rfl⟩))
  go_ret
  exact ⟨rfl, rfl⟩
end Go.Proofs.Ytcikngokiodabaa.K

namespace Go.Proofs.Ytcikngokiodabaa.K
open Go.RowKit Go.Proofs.YtcikngokiodabaaW.PrintWords Go.Proofs.YtcikngokiodabaaW.PrintLast Go.Proofs.YtcikngokiodabaaW.PrintMore Go.Proofs.Ytcikngokiodabaa
attribute [local go_sem] max2_int min2_int max_two min_two max_three min_three max_four min_four
set_option linter.unusedVariables false
set_option linter.unusedSimpArgs false
open Go Go.RowKit Go.Maps Go.Sort
attribute [local go_sem] Oper.semAt_some
theorem oneU : Go.Proofs.OneCell encU := fun _ => rfl
theorem holdsU {w : World} {base g cap : Nat} {es : List Int} (h : w.ownsRow base 23 1 (.slice (some ⟨g, 0, none⟩) es.length cap) es.length (es.map encU)) : Go.Sort.Holds encU w g 0 es.toArray := by
  obtain ⟨_, h2⟩ := h
  rcases h2 with ⟨hv, _⟩ | ⟨g', cap', cur, hv, hb, hh, hnc, hcm, hcs, ht⟩
  · cases hv
  injection hv with ha _ hc
  injection ha with ha
  injection ha with hg
  subst hg
  intro j hj
  have hj' : j < es.length := by simpa using hj
  refine ⟨?_, by simp [World.frozen?, hh]⟩
  rw [Nat.mul_one] at ht
  have h3 : (cur.toList.take es.length)[j]? = (es.map encU)[j]? := by rw [ht]
  rw [List.getElem?_take_of_lt hj'] at h3
  simp only [World.cell?, hh, Nat.zero_add]
  simp only [Option.isSome_none, Bool.false_eq_true, if_false]
  rw [← Array.getElem?_toList, h3]
  simp [hj']
theorem sortedU {w : World} {base g cap n : Nat} {os : Array Obj} {es ts : List Int} (h : w.ownsRow base 23 1 (.slice (some ⟨g, 0, none⟩) es.length cap) es.length (es.map encU)) (hd : ts.length = es.length) :
    (Go.Proofs.sortWorld encU w g 0 n ts.toArray os).ownsRow base 23 1 (.slice (some ⟨g, 0, none⟩) es.length cap) ts.length (ts.map encU) ∧ w.grownBy (Go.Proofs.sortWorld encU w g 0 n ts.toArray os) (some g) := by
  obtain ⟨_, h2⟩ := h
  rcases h2 with ⟨hv, _⟩ | ⟨g', cap', cur, hv, hb, hh, hnc, hcm, hcs, ht⟩
  · cases hv
  injection hv with ha _ hc
  injection ha with ha
  injection ha with hg
  subst hg; subst hc
  have hgl : g < w.heap.size := (Array.getElem?_eq_some_iff.1 hh).1
  have hheap : (Go.Proofs.sortWorld encU w g 0 n ts.toArray os).heap[g]? = some (.cells (Go.Sort.putCells encU 0 ts.toArray cur) 23 (0, 0)) := by
    unfold Go.Proofs.sortWorld
    rw [Go.Sort.heap_grow_old _ _ (by simpa [Go.Sort.putRow, Go.Sort.mapBlock, Go.Sort.ahead] using hgl)]
    simp [Go.Sort.putRow, Go.Sort.mapBlock, Go.Sort.ahead, Array.getElem?_modify, hh, Go.Sort.onCells]
  have hgr : w.grownBy (Go.Proofs.sortWorld encU w g 0 n ts.toArray os) (some g) := by
    refine ⟨rfl, rfl, rfl, by simp [Go.Proofs.sortWorld, Go.Sort.grow, Go.Sort.putRow, Go.Sort.mapBlock, Go.Sort.ahead], fun k hk hne => ?_⟩
    unfold Go.Proofs.sortWorld
    rw [Go.Sort.heap_grow_old _ _ (by simpa [Go.Sort.putRow, Go.Sort.mapBlock, Go.Sort.ahead] using hk)]
    have : g ≠ k := fun e => hne (by rw [e])
    simp [Go.Sort.putRow, Go.Sort.mapBlock, Go.Sort.ahead, Array.getElem?_modify, this]
  refine ⟨⟨by simp, Or.inr ⟨g, cap, _, by rw [hd], hb, hheap, by rw [hd]; exact hnc, hcm, by simp [Go.Sort.putCells, hcs], ?_⟩⟩, hgr⟩
  have hfit : ts.length ≤ cur.size := by rw [hcs, hd]; omega
  rw [Nat.mul_one]
  apply List.ext_getElem?
  intro j
  by_cases hj : j < ts.length
  · rw [List.getElem?_take_of_lt hj, Array.getElem?_toList]
    have hj3 : j < cur.size := by omega
    simp [Go.Sort.putCells, hj, hj3]
  · rw [List.getElem?_take_eq_none (by omega), List.getElem?_eq_none (by simp; omega)]

/-- slices.SortFunc(row, down). -/
theorem sortU_k (w : World) (base : Nat) (v : Value) (es : List Int) (h : w.ownsRow base 23 1 v es.length (es.map encU)) (hsz : es.length < 4611686018427387904) :
    Calls Try.prog 29 #[v, .func (.func 21) #[] #[]] w fun e w' => e = .returned (.tuple #[]) ∧ ∃ ts : List Int, ts.Perm es ∧ ts.Pairwise (fun a b => b ≤ a) ∧ w'.ownsRow base 23 1 v ts.length (ts.map encU) ∧ w.grownBy w' v.ownBlock := by
  have h0 := h
  rcases h0.2 with ⟨rfl, hz⟩ | ⟨g, cap, cur, rfl, hbase, hgb, r1, r2, r3, r4⟩
  · have hnil : es = [] := List.length_eq_zero_iff.1 hz
    subst hnil
    have hcon := Go.Proofs.AnyF.slices_SortFunc_none (P := Try.prog) (ρ := sortU_ren) { sortU with } none 0 (.func (.func 21) #[] #[]) w
    change Calls Try.prog 29 _ _ _ at hcon
    refine hcon.mono ?_
    rintro e w' ⟨rfl, rfl⟩
    exact ⟨rfl, [], List.Perm.refl _, List.Pairwise.nil, h, ⟨rfl, rfl, rfl, Nat.le_refl _, fun _ _ _ => rfl⟩⟩
  · have hgl : g < w.heap.size := (Array.getElem?_eq_some_iff.1 hgb).1
    have eg : ∀ args w, (callFunc 21 args).run Try.prog w = .ok (.enter 21 args) w := enters_of Try.func21 (by kernel_rfl) rfl
    have hcon := Go.Proofs.Any.slices_SortFunc_total sortU encU oneU cmpD swoD 21 #[] g 0 cap es.toArray w eg (fun m os dk _ x y => (down_k x y _).mono (fun e w' hh => ⟨hh.1, 0, #[], by rw [hh.2]; simp [World.drewN]⟩)) (holdsU h) hgl (by simpa using hsz) (fun x y h1 h2 => by
      rw [ltOf_cmpD] at h1 h2; simp at h1 h2; omega)
    change Calls Try.prog 29 _ _ _ at hcon
    rw [List.size_toArray] at hcon
    refine hcon.mono ?_
    rintro e w' ⟨rfl, n, os, rfl⟩
    have hperm : (es.mergeSort (fun x y => !(Go.Proofs.ltOf cmpD) y x)).Perm es := List.mergeSort_perm _ _
    have hpw : (es.mergeSort (fun x y => !(Go.Proofs.ltOf cmpD) y x)).Pairwise (fun a b => (!(Go.Proofs.ltOf cmpD) b a) = true) := List.pairwise_mergeSort (fun a b c h1 h2 => by
      rw [ltOf_cmpD] at *; simp at *; omega) (fun a b => by rw [ltOf_cmpD, ltOf_cmpD]; simp; omega) es
    obtain ⟨hR, hgr⟩ := sortedU (n := n) (os := os) h hperm.length_eq
    refine ⟨rfl, _, hperm, hpw.imp (fun {a b} hh => by rw [ltOf_cmpD] at hh; simpa using hh), hR, hgr⟩

set_option maxHeartbeats 2000000 in
/-- slices.SortedFunc(seq, down). -/
theorem sortedFunc_k (g : Nat) (lb : Array Value) (eg : ∀ args w, (callFunc g args).run Try.prog w = .ok (.enter g args) w)
    (S Sp : List Int → Prop) (N : Nat) (hN : N ≤ maxLen) (hNb : N * 8 ≤ 140737488355328) (w : World) (hseq : SeqStops Fence.wide 2 Try.prog g lb encU (fun ss => S ss ∧ ss.length ≤ N) Sp N w) :
    Calls Try.prog 23 #[.func (.func g) #[] lb, .func (.func 21) #[] #[]] w fun e w' => ∃ (v : Value) (ss ts : List Int), e = .returned v ∧ S ss ∧ ss.length ≤ N ∧ ts.Perm ss ∧ ts.Pairwise (fun a b => b ≤ a) ∧ w'.ownsRow w.heap.size 23 1 v ts.length (ts.map encU) ∧ Below w.heap.size w w' := by
  refine (callsIn_wide (n := 5)).1 ?_
  have hcol := collect_in Fence.wide 4 trivial trivial rfl (by omega) g lb trivial eg _ Sp N hN hNb w hseq
  have hsrt := fun (W : World) (v : Value) (es : List Int) h hsz => callsIn_wide (n := 4) |>.2 (sortU_k W w.heap.size v es h hsz)
  have hfc : Fence.wide.fn 28 := trivial
  have hfs : Fence.wide.fn 29 := trivial
  refine callsIn_of_wp Try.func23 rfl trivial ?_ rfl
  simp only [Try.ntmps23, List.size_toArray, List.length_cons, List.length_nil, Nat.reduceAdd, Nat.reduceSub, Array.replicate_succ, Array.replicate_zero, List.push_toArray, List.append_toArray, List.nil_append, List.cons_append]
  gi_wp2_with (first
    | (gi_at_call 28; refine hcol.mono ?_; rintro e w' ⟨v, ss, rfl, ⟨hS, hlen⟩, hrow, hb⟩)
    | (gi_at_call 29; refine (hsrt _ _ ss hrow (by omega)).mono ?_; rintro e w'' ⟨rfl, ts, hp, hpw, hrow2, hgr⟩))
  go_ret
  exact ⟨v, ss, ts, rfl, hS, hlen, hp, hpw, hrow2, hb.grown hgr hb.size (fun k hk => own_base hrow k hk)⟩
end Go.Proofs.Ytcikngokiodabaa.K

namespace Go.Proofs.Ytcikngokiodabaa.K
open Go.RowKit Go.Proofs.YtcikngokiodabaaW.PrintWords Go.Proofs.YtcikngokiodabaaW.PrintLast Go.Proofs.YtcikngokiodabaaW.PrintMore Go.Proofs.Ytcikngokiodabaa
attribute [local go_sem] max2_int min2_int max_two min_two max_three min_three max_four min_four
set_option linter.unusedVariables false
set_option linter.unusedSimpArgs false
open Go
def dist (cs : List Int) : List Int := cs.foldl (fun acc x => if x ∈ acc then acc else acc ++ [x]) []
theorem dist_snoc (cs : List Int) (x : Int) : dist (cs ++ [x]) = if x ∈ dist cs then dist cs else dist cs ++ [x] := by
  unfold dist; rw [List.foldl_append]; rfl
theorem snoc_ind {p : List Int → Prop} (h0 : p []) (hs : ∀ l x, p l → p (l ++ [x])) (l : List Int) : p l := by
  have : ∀ r : List Int, p r.reverse := fun r => by
    induction r with
    | nil => exact h0
    | cons x r ih => rw [List.reverse_cons]; exact hs _ _ ih
  simpa using this l.reverse
theorem mem_dist (x : Int) (cs : List Int) : x ∈ dist cs ↔ x ∈ cs := by
  induction cs using snoc_ind with
  | h0 => simp [dist]
  | hs l y ih =>
    rw [dist_snoc]
    by_cases h : y ∈ dist l
    · rw [if_pos h, ih, List.mem_append, List.mem_singleton]
      constructor
      · exact Or.inl
      · rintro (h1 | rfl)
        · exact h1
        · exact ih.1 h
    · rw [if_neg h, List.mem_append, List.mem_append, ih]
theorem nodup_dist (cs : List Int) : (dist cs).Nodup := by
  induction cs using snoc_ind with
  | h0 => simp [dist]
  | hs l y ih =>
    rw [dist_snoc]
    by_cases h : y ∈ dist l
    · rw [if_pos h]; exact ih
    · rw [if_neg h, List.nodup_append]
      exact ⟨ih, by simp, fun a ha b hb e => by rw [List.mem_singleton] at hb; subst hb; subst e; exact h ha⟩
/-- How many unlike counts are greater. -/
def abv (cs : List Int) (x : Int) : Nat := (dist cs).countP (fun y => decide (x < y))
/-- A class. -/
def cls (cs : List Int) (x : Int) : Int := if 255 < (abv cs x : Int) then 255 else (abv cs x : Int)
theorem abv_of (cs ts : List Int) (hn : ts.Nodup) (hm : ∀ x, x ∈ ts ↔ x ∈ cs) (x : Int) : abv cs x = ts.countP (fun y => decide (x < y)) := by
  unfold abv
  refine List.Perm.countP_eq _ ((List.perm_ext_iff_of_nodup (nodup_dist cs) hn).2 (fun y => ?_))
  rw [mem_dist, hm]
theorem abv_idx (cs ts : List Int) (hn : ts.Nodup) (hm : ∀ x, x ∈ ts ↔ x ∈ cs) (hp : ts.Pairwise (fun a b => b ≤ a)) (i : Nat) (hi : i < ts.length) : abv cs ts[i] = i := by
  rw [abv_of cs ts hn hm]
  have hs : ts.Pairwise (fun a b => b < a) := (hp.and hn).imp (fun {a b} h => by omega)
  rw [List.pairwise_iff_getElem] at hs
  have e : ts.countP (fun y => decide (ts[i] < y)) = (ts.take i ++ ts.drop i).countP (fun y => decide (ts[i] < y)) := by rw [List.take_append_drop]
  rw [e, List.countP_append]
  have h1 : (ts.take i).countP (fun y => decide (ts[i] < y)) = (ts.take i).length := by
    rw [List.countP_eq_length]
    intro a ha
    obtain ⟨j, hj, rfl⟩ := List.mem_iff_getElem.1 ha
    rw [List.length_take] at hj
    rw [List.getElem_take]
    exact decide_eq_true (hs j i (by omega) hi (by omega))
  have h2 : (ts.drop i).countP (fun y => decide (ts[i] < y)) = 0 := by
    rw [List.countP_eq_zero]
    intro a ha
    obtain ⟨j, hj, rfl⟩ := List.mem_iff_getElem.1 ha
    rw [List.length_drop] at hj
    rw [List.getElem_drop]
    have h3 : ¬ ts[i] < ts[i + j] := by
      by_cases h : j = 0
      · subst h; simp
      · have := hs i (i + j) hi (by omega) (by omega); omega
    simpa using h3
  rw [h1, h2, List.length_take]
  omega
end Go.Proofs.Ytcikngokiodabaa.K

namespace Go.Proofs.Ytcikngokiodabaa.K
open Go.RowKit Go.Proofs.YtcikngokiodabaaW.PrintWords Go.Proofs.YtcikngokiodabaaW.PrintLast Go.Proofs.YtcikngokiodabaaW.PrintMore Go.Proofs.Ytcikngokiodabaa
attribute [local go_sem] max2_int min2_int max_two min_two max_three min_three max_four min_four
set_option linter.unusedVariables false
set_option linter.unusedSimpArgs false
open Go Go.RowKit Go.Maps Go.Proofs.Ytcikngokiodabaa.PR13
abbrev MapW (w : World) (b n : Nat) (D : DataW Nat) : Prop := w.ownsMap Try.prog 23 (plainElem Try.prog 3) b n D
theorem MapW.below {w w' : World} {b n : Nat} {D : DataW Nat} (h : MapW w b n D) (hb : Below w.heap.size w w') : MapW w' b n D := by
  have hbl := World.ownsMap.lt h
  obtain ⟨es, clock, hbk, Ft, hs, hD⟩ := h
  exact ⟨es, clock, (hb.block b hbl).trans hbk, Ft, hs, hD⟩
/-- The map's keys are just these. -/
def KeysL (D : DataW Nat) (cs : List Int) : Prop := ∀ x, has D (.int .u64 x) = true ↔ x ∈ cs
/-- The classes of the first i of ts are in the map. -/
def Given (D : DataW Nat) (ts : List Int) (i : Nat) : Prop := ∀ (j : Nat) (h : j < ts.length), j < i → ∀ zd, D.atKey (.int .u64 ts[j]) zd = .lit (.int .i64 (if 255 < (j : Int) then 255 else (j : Int)))
theorem isKeyU (x : Int) : WideAt.IsKeyLit (.int .u64 x) := by first | exact trivial | simp [WideAt.IsKeyLit]
theorem KeysL.put {D : DataW Nat} {cs : List Int} (h : KeysL D cs) (hD : IsMap D) (x : Int) (d : DataW Nat) : KeysL (D.put (.int .u64 x) d) (cs ++ [x]) := fun y => by
  by_cases hy : y = x
  · subst hy; rw [has_put_same hD (isKeyU y)]; simp
  · rw [has_put_other (by simp [hy]), h y]; simp [hy]
theorem KeysL.put_same {D : DataW Nat} {cs : List Int} (h : KeysL D cs) (hD : IsMap D) (x : Int) (hx : x ∈ cs) (d : DataW Nat) : KeysL (D.put (.int .u64 x) d) cs := fun y => by
  by_cases hy : y = x
  · subst hy; rw [has_put_same hD (isKeyU y)]; simp [hx]
  · rw [has_put_other (by simp [hy]), h y]
theorem Given.put {D : DataW Nat} {ts : List Int} {i : Nat} (h : Given D ts i) (hD : IsMap D) (hn : ts.Nodup) (hi : i < ts.length) : Given (D.put (.int .u64 ts[i]) (.lit (.int .i64 (if 255 < (i : Int) then 255 else (i : Int))))) ts (i + 1) := fun j hj hji zd => by
  by_cases e : j = i
  · subst e; exact atKey_put_same hD (isKeyU _) _ _
  · rw [atKey_put_other (by
      simp only [ne_eq, Lit.int.injEq, true_and]
      intro h2
      have h3 := List.pairwise_iff_getElem.1 hn
      rcases (show j < i ∨ i < j by omega) with h4 | h4
      · exact h3 j i hj hi h4 h2
      · exact h3 i j hi hj h4 h2.symm)]
    exact h j hj (by omega) zd
theorem rdE (l : List S35) (i : Nat) (h : i < l.length) : rd_T35 l (i : Int) = l[i] := by
  unfold rd_T35
  rw [Int.toNat_natCast, List.getD_eq_getElem?_getD, List.getElem?_eq_getElem h]; rfl
theorem take_f1 (l : List S35) (i : Nat) (h : i < l.length) : (l.take (i + 1)).map S35.f1 = (l.take i).map S35.f1 ++ [(l[i]).f1] := by
  rw [List.take_add_one, List.getElem?_eq_getElem h, List.map_append]; rfl
theorem row_slice {w : World} {base e size n : Nat} {v : Value} {xs : List Value} (h : w.ownsRow base e size v n xs) : ∃ A c, v = .slice A n c ∧ n ≤ c := by
  rcases h.2 with ⟨rfl, h0⟩ | ⟨g, cap, _, rfl, _, _, h1, _⟩
  · exact ⟨none, 0, by rw [h0], by omega⟩
  · exact ⟨_, _, rfl, h1⟩
theorem keyU {x : Int} (h : (Lit.int .u64 x).wf = true) : keyOf Try.prog 23 (.int .u64 x) = some (.int .u64 x) := by
  simp [keyOf, Try.underlying23, mapKey, h]
def classesL (l : List S35) : List Int := l.map (fun x => cls (l.map S35.f1) x.f1)

set_option maxHeartbeats 4000000 in
set_option maxRecDepth 100000 in
theorem classes_k (A : Option Addr) (c : Nat) (l : List S35) (w : World) (hC : Kd.C k35 w A l.length l) (hc : l.length ≤ c) (hl : l.length ≤ 1048576) (hw : ∀ x ∈ l, (Lit.int .u64 x.f1).wf = true) :
    Calls Try.prog 13 #[.slice A l.length c] w fun e w' => ∃ v : Value, e = .returned v ∧ Kd.R (Kd.int .i64) 3 w' w.heap.size (fun _ => True) v (classesL l) ∧ Below w.heap.size w w' := by
  have HC := Aside0.mk hC; have HW := Aside0.mk hw
  clear hC hw
  have hmx : 1048577 * 4 ≤ maxLen := by decide
  have hmm := @run_makeMap Try.prog
  have huE := Try.underlying35
  go_enter Try.func13, Try.ntmps13
  go_wp2
  have HB0 : Aside0 (Below w.heap.size w (w.alloc (.map #[] 0))) := ⟨(Below.refl _ w).alloc (Nat.le_refl _) _⟩
  have HM0 : Aside0 (MapW (w.alloc (.map #[] 0)) w.heap.size 0 (.map [])) := ⟨World.ownsMap_made w Try.prog _ _⟩
  go_loopg [15] l.length (fun gg v15 wr => ∃ (i : Nat) (D : DataW Nat), v15 = .int .i64 i ∧ Aside0 (i ≤ l.length ∧ l.length ≤ gg + i) ∧ Aside0 (MapW wr w.heap.size i D) ∧ Aside0 (KeysL D ((l.take i).map S35.f1)) ∧ Aside0 (Below w.heap.size w wr))
  case atStart => exact ⟨0, _, rfl, ⟨by omega⟩, HM0, ⟨fun x => by simp [has]⟩, HB0⟩
  case round =>
    obtain ⟨i, D, rfl, HI, HM, HK, HB⟩ := hrel
    by_cases hlt : i < l.length
    · have hcb : decide ((i : Int) < (l.length : Int)) = true := decide_eq_true (by omega)
      have q0 : (0 : Int) ≤ (i : Int) := by omega
      have q1 : (i : Int) < (l.length : Int) := by omega
      obtain ⟨ad, e0, a0, a1⟩ := at_T35 (Kd.C_below HC.out HB.out) (i : Int) q0 q1
      cases e0
      have hwf := HW.out l[i] (List.getElem_mem hlt)
      have htk := take_f1 l i hlt
      have hrd := rdE l i hlt
      rw [← hrd] at hwf htk
      generalize rd_T35 l (i : Int) = x at a0 a1 hwf htk
      have HTK := Aside0.mk htk; have HKX := Aside0.mk (keyU hwf)
      clear hrd htk hwf
      rw [Int.toNat_natCast] at a0 a1
      have hnl : i < maxLen := by omega
      go_wp2_with (first | (at_mapUpdate; refine wpList_mapUpdate_own _ rfl _ _ _ 45 rfl 23 3 keyedU Try.underlying45 _ w.heap.size i D rfl (by repeat (first | exact HM.out | apply World.ownsMap.alloc | apply World.ownsMap.drew)) hnl _ _ (.int .u64 x.f1) rfl rfl HKX.out (.lit (.int .i64 0)) [] (plainElem_int Try.underlying3 (by decide)) ?_; intro w1 hown1 hgrow1))
      have hsz := HB.out.size
      have hsz0 : w.heap.size + 1 ≤ wr.heap.size := World.ownsMap.lt HM.out
      go_roundg (l.length - (i + 1))
      case measure => have := HI.out; omega
      case rel =>
        exact ⟨i + 1, _, congrArg (Value.int .i64) (by omega), ⟨by omega⟩, ⟨hown1⟩, ⟨by rw [HTK.out]; exact HK.out.put (World.ownsMap.isMap HM.out) _ _⟩, ⟨(HB.out.alloc HB.out.size _).grown hgrow1 (by simp; omega) (fun k e => by cases e; exact Nat.le_refl _)⟩⟩
    · have hcb : decide ((i : Int) < (l.length : Int)) = false := decide_eq_false (by omega)
      have ei : i = l.length := by have := HI.out; omega
      subst ei
      have hK : KeysL D (l.map S35.f1) := by have := HK.out; rwa [List.take_length] at this
      have HK2 := Aside0.mk hK
      have hms : Maps.size D ≤ l.length := World.ownsMap.size_le HM.out
      have hMW : MapW (wr.alloc (.cells #[.map (some w.heap.size)] 45)) w.heap.size l.length D := World.ownsMap.alloc HM.out _
      have hseq := keys_stops Fence.wide 2 trivial rfl (by omega) wr.heap.size w.heap.size l.length D (wr.alloc (.cells #[.map (some w.heap.size)] 45)) (by simp) (by simp) hMW
      have cS := sortedFunc_k 30 #[.pointer (some ⟨wr.heap.size, 0, none⟩)] (enters_of Try.func30 (by kernel_rfl) rfl) (Keys D) (fun _ => True) (Maps.size D) (by omega) (by omega) _ hseq
      have cK : ∀ mb W, Calls Try.prog 24 #[.map mb] W fun e w' => e = .returned (.func (.func 30) #[] #[.pointer (some ⟨W.heap.size, 0, none⟩)]) ∧ w' = W.alloc (.cells #[.map mb] 45) := fun mb W => callsIn_wide.1 (keys_in Fence.wide 5 trivial rfl mb W)
      have CS := Aside0.mk cS
      have HMW := Aside0.mk hMW
      have hsz0 : w.heap.size < wr.heap.size := World.ownsMap.lt HM.out
      clear cS hMW hseq hK HK
      go_wp2_with (first
        | (go_at_call 24; refine (cK _ _).mono ?_; rintro e w' ⟨rfl, rfl⟩)
        | (go_at_call 23; refine CS.out.mono ?_; rintro e w2 ⟨v, ss, ts, rfl, hS, hlen, hp, hpw, hrow, hb2⟩; obtain ⟨A2, c2, rfl, hc2⟩ := row_slice hrow))
      have hR : Kd.R (Kd.int .u64) 23 w2 (w.heap.size + 1) (fun k => w.heap.size < k) (.slice A2 ts.length c2) ts := Kd.R_lower (Kd.R_of_own hrow (fun k hk => by have := own_base hrow k hk; simp at this; omega)) (by simp; omega)
      have hMW2 : MapW w2 w.heap.size l.length D := MapW.below HMW.out hb2
      have hB2 : Below w.heap.size w w2 := (HB.out.alloc HB.out.size _).trans (hb2.mono (by simp; omega))
      have hnd : ts.Nodup := hp.nodup_iff.2 hS.1
      have hmem : ∀ x, x ∈ ts ↔ x ∈ l.map S35.f1 := fun x => by rw [hp.mem_iff, hS.2 x, HK2.out x]
      have htl : ts.length ≤ l.length := by rw [hp.length_eq]; omega
      have htw : ∀ x ∈ ts, (Lit.int .u64 x).wf = true := fun x hx => by
        obtain ⟨y, hy, rfl⟩ := List.mem_map.1 ((hmem x).1 hx)
        exact HW.out y hy
      have hcl : ∀ (j : Nat) (h : j < ts.length), cls (l.map S35.f1) ts[j] = if 255 < (j : Int) then 255 else (j : Int) := fun j h => by
        unfold cls; rw [abv_idx _ ts hnd hmem hpw j h]
      have HR2 := Aside0.mk hR; have HMW2 := Aside0.mk hMW2; have HB2 := Aside0.mk hB2; have HND := Aside0.mk hnd; have HMEM := Aside0.mk hmem; have HTW := Aside0.mk htw; have HCL := Aside0.mk hcl
      clear hR hMW2 hB2 hnd hmem htw hcl hS hlen hp hpw hrow hb2 CS HMW HM HB cK
      go_loopg [28] ts.length (fun gg v28 wr2 => ∃ (j : Nat) (E : DataW Nat), v28 = .int .i64 j ∧ Aside0 (j ≤ ts.length ∧ ts.length ≤ gg + j) ∧ Aside0 (MapW wr2 w.heap.size (l.length + j) E) ∧ Aside0 (KeysL E (l.map S35.f1)) ∧ Aside0 (Given E ts j) ∧ Aside0 (Below w.heap.size w wr2) ∧ Aside0 (Kd.R (Kd.int .u64) 23 wr2 (w.heap.size + 1) (fun k => w.heap.size < k) (.slice A2 ts.length c2) ts))
      case atStart => exact ⟨0, D, rfl, ⟨by omega⟩, HMW2, HK2, ⟨fun j _ h => absurd h (by omega)⟩, HB2, HR2⟩
      case round =>
        obtain ⟨j, E, rfl, HJ, HM, HK, HG, HB, HR⟩ := hrel
        by_cases hlt2 : j < ts.length
        · have hcb2 : decide ((j : Int) < (ts.length : Int)) = true := decide_eq_true (by omega)
          have q0 : (0 : Int) ≤ (j : Int) := by omega
          have q1 : (j : Int) < (ts.length : Int) := by omega
          obtain ⟨Ax, cx, ex, hlx, hCx⟩ := Kd.R_reads HR.out
          injection ex with ex1 _ ex2
          subst ex1; subst ex2
          obtain ⟨ad2, e2, b0⟩ := Kd.at_int hCx (j : Int) q0 q1
          cases e2
          have hrd : rd ts (j : Int) = ts[j] := by unfold rd; rw [Int.toNat_natCast, List.getD_eq_getElem?_getD, List.getElem?_eq_getElem hlt2]; rfl
          have hwf := HTW.out ts[j] (List.getElem_mem hlt2)
          have hput := HG.out.put (World.ownsMap.isMap HM.out) HND.out hlt2
          have hkp := HK.out.put_same (World.ownsMap.isMap HM.out) ts[j] ((HMEM.out _).1 (List.getElem_mem hlt2)) (.lit (.int .i64 (if 255 < (j : Int) then 255 else (j : Int))))
          rw [hrd, Int.toNat_natCast] at b0
          generalize ts[j] = x at b0 hwf hput hkp
          have hkx := keyU hwf
          have HKX := Aside0.mk hkx; have HPT := Aside0.mk hput; have HKP := Aside0.mk hkp
          have hsz0 : w.heap.size < wr.heap.size := World.ownsMap.lt HM.out
          have hnl : l.length + j < maxLen := by omega
          clear hrd hwf hput hkp hkx hCx
          by_cases h255 : 255 < (j : Int)
          · have h255b : decide (255 < (j : Int)) = true := decide_eq_true h255
            rw [if_pos h255] at HPT HKP
            go_wp2_with (first | (at_mapUpdate; refine wpList_mapUpdate_own _ rfl _ _ _ 45 rfl 23 3 keyedU Try.underlying45 _ w.heap.size (l.length + j) E rfl (by repeat (first | exact HM.out | apply World.ownsMap.alloc | apply World.ownsMap.drew)) hnl _ _ (.int .u64 x) rfl rfl HKX.out (.lit (.int .i64 255)) [] (plainElem_int Try.underlying3 (by decide)) ?_; intro w1 hown1 hgrow1))
            go_roundg (ts.length - (j + 1))
            case measure => have := HJ.out; omega
            case rel =>
              exact ⟨j + 1, _, congrArg (Value.int .i64) (by omega), ⟨by omega⟩, ⟨hown1⟩, HKP, HPT, ⟨HB.out.grown hgrow1 HB.out.size (fun k e => by cases e; exact Nat.le_refl _)⟩, ⟨Kd.R_grown HR.out hgrow1 (fun k hk e => by cases e; omega)⟩⟩
          · have h255b : decide (255 < (j : Int)) = false := decide_eq_false h255
            rw [if_neg h255] at HPT HKP
            have HWJ : Aside0 ((Lit.int .i64 (j : Int)).wf = true) := ⟨by simp [Lit.wf, IntKind.min, IntKind.max, IntKind.bits, IntKind.signed]; omega⟩
            go_wp2_with (first | (at_mapUpdate; refine wpList_mapUpdate_own _ rfl _ _ _ 45 rfl 23 3 keyedU Try.underlying45 _ w.heap.size (l.length + j) E rfl (by repeat (first | exact HM.out | apply World.ownsMap.alloc | apply World.ownsMap.drew)) hnl _ _ (.int .u64 x) rfl rfl HKX.out (.lit (.int .i64 (j : Int))) [] (plainElem_int Try.underlying3 HWJ.out) ?_; intro w1 hown1 hgrow1))
            go_roundg (ts.length - (j + 1))
            case measure => have := HJ.out; omega
            case rel =>
              exact ⟨j + 1, _, congrArg (Value.int .i64) (by omega), ⟨by omega⟩, ⟨hown1⟩, HKP, HPT, ⟨HB.out.grown hgrow1 HB.out.size (fun k e => by cases e; exact Nat.le_refl _)⟩, ⟨Kd.R_grown HR.out hgrow1 (fun k hk e => by cases e; omega)⟩⟩
        · have hcb2 : decide ((j : Int) < (ts.length : Int)) = false := decide_eq_false (by omega)
          have ej : j = ts.length := by have := HJ.out; omega
          subst ej
          have hsz0 : w.heap.size < wr.heap.size := World.ownsMap.lt HM.out
          have HN : Aside0 (∀ x ∈ l, ∀ zd, E.atKey (.int .u64 x.f1) zd = .lit (.int .i64 (cls (l.map S35.f1) x.f1))) := ⟨fun x hx zd => by
            obtain ⟨t, ht, e⟩ := List.mem_iff_getElem.1 ((HMEM.out x.f1).2 (List.mem_map.2 ⟨x, hx, rfl⟩))
            rw [← e, HG.out t ht ht zd, HCL.out t ht]⟩
          clear HG HCL HMEM HTW HND HR HK hcb2
          go_wp2
          obtain ⟨nm, hnm⟩ : ∃ nm, l.length + ts.length = nm := ⟨_, rfl⟩
          rw [hnm] at HM
          clear HR2 HMW2 HB2 HK2 hnm
          obtain ⟨F, hF⟩ : ∃ F : S35 → Int, F = fun x => cls (l.map S35.f1) x.f1 := ⟨_, rfl⟩
          have HF := Aside0.mk hF
          have HN2 : Aside0 (∀ x ∈ l, ∀ zd, E.atKey (.int .u64 x.f1) zd = .lit (.int .i64 (F x))) := ⟨fun x hx zd => by rw [HF.out]; exact HN.out x hx zd⟩
          clear hF HN
          go_loopg [9, 40] l.length (fun gg v9 v40 wr3 => ∃ i : Nat, v40 = .int .i64 i ∧ Aside0 (i ≤ l.length ∧ l.length ≤ gg + i) ∧ Aside0 (MapW wr3 w.heap.size nm E) ∧ Aside0 (Kd.R (Kd.int .i64) 3 wr3 w.heap.size (fun k => k ≠ w.heap.size) v9 ((l.take i).map F)) ∧ Aside0 (Below w.heap.size w wr3))
          case atStart => exact ⟨0, rfl, ⟨by omega⟩, HM, ⟨Kd.R_nil _ _ _ _ _⟩, HB⟩
          case round =>
            obtain ⟨i, rfl, HI, HM, HR, HB⟩ := hrel
            by_cases hlt : i < l.length
            · have hcb : decide ((i : Int) < (l.length : Int)) = true := decide_eq_true (by omega)
              have q0 : (0 : Int) ≤ (i : Int) := by omega
              have q1 : (i : Int) < (l.length : Int) := by omega
              obtain ⟨ad, e0, a0, a1⟩ := at_T35 (Kd.C_below HC.out HB.out) (i : Int) q0 q1
              cases e0
              have hwf := HW.out l[i] (List.getElem_mem hlt)
              have hN := HN2.out l[i] (List.getElem_mem hlt)
              have htk : (l.take (i + 1)).map F = (l.take i).map F ++ [F l[i]] := by rw [List.take_add_one, List.getElem?_eq_getElem hlt, List.map_append]; rfl
              have hrd := rdE l i hlt
              rw [← hrd] at hwf htk hN
              generalize rd_T35 l (i : Int) = x at a0 a1 hwf htk hN
              have HTK := Aside0.mk htk; have HKX := Aside0.mk (keyU hwf); have HNX := Aside0.mk hN
              clear hrd htk hwf hN
              rw [Int.toNat_natCast] at a0 a1
              have hln : ((l.take i).map F).length + 1 ≤ 1048577 := by rw [List.length_map, List.length_take]; omega
              have HLN := Aside0.mk hln
              obtain ⟨xs, hxs⟩ : ∃ xs, (l.take i).map F = xs := ⟨_, rfl⟩
              rw [hxs] at HR HTK HLN
              clear hln hxs
              have hbz := HB.out.size
              go_upto_region 17 with fail
              have hnew : (wr.alloc (.cells #[.string x.f0, .int .u64 x.f1] 35)).cell? ⟨wr.heap.size, 1, none⟩ = some (.int .u64 x.f1) := by simp
              have hM3 : MapW (wr.alloc (.cells #[.string x.f0, .int .u64 x.f1] 35)) w.heap.size nm E := World.ownsMap.alloc HM.out _
              have hB3 : Below w.heap.size w (wr.alloc (.cells #[.string x.f0, .int .u64 x.f1] 35)) := HB.out.alloc HB.out.size _
              have hR3 : Kd.R (Kd.int .i64) 3 (wr.alloc (.cells #[.string x.f0, .int .u64 x.f1] 35)) w.heap.size (fun k => k ≠ w.heap.size) u9 xs := Kd.R_alloc HR.out _
              have hgt : w.heap.size < (wr.alloc (.cells #[.string x.f0, .int .u64 x.f1] 35)).heap.size := World.ownsMap.lt hM3
              generalize wr.alloc (.cells #[.string x.f0, .int .u64 x.f1] 35) = W at hnew hM3 hB3 hR3 hgt ⊢
              have HM3 := Aside0.mk hM3; have HB3 := Aside0.mk hB3; have HR3 := Aside0.mk hR3
              clear hM3 hB3 hR3 HM HB HR a0 a1
              go_wp2_with (first
                | (at_lookup; refine wpList_lookup_own_int _ rfl _ _ 45 rfl 23 3 .i64 keyedU Try.underlying45 Try.underlying3 (Try.zeroValue3 _) w.heap.size nm E rfl (by repeat (first | exact HM3.out | apply World.ownsMap.alloc | apply World.ownsMap.drew)) _ (.int .u64 x.f1) rfl HKX.out ?_; intro cv hat hwc; rw [HNX.out] at hat; injection hat with hat; injection hat with _ hat; subst hat)
                | ((with_reducible refine gate_builtin (b := .append) (xs := #[.tmp 44, .tmp 49]) rfl ?_); at_builtin; refine Kd.R_append (Kd.int .i64) (w0 := w) w.heap.size rfl (.tmp 44) (.tmp 49) 28 3 (.int .i64 0) 8 rfl Try.underlying28 info3 rfl (by decide) (by omega) _ xs (F x) [.int .i64 (F x)] (fun k => k ≠ w.heap.size) (fun _ => False) rfl rfl rfl (fun _ hk => hk.elim) (fun k hk => by omega) (by (with_reducible repeat (first | apply Kd.R_alloc | apply Kd.R_drewN | apply Kd.R_drew)); exact HR3.out) HB3.out (HB3.out).size (by have := HLN.out; omega) ?_); intro v1 w5 hR5 hb5 hg5 hat5)
              go_roundg (l.length - (i + 1))
              case measure => have := HI.out; omega
              case rel =>
                exact ⟨i + 1, congrArg (Value.int .i64) (by omega), ⟨by omega⟩, ⟨World.ownsMap.kept HM3.out hg5 (fun e => HR3.out.1 _ e.symm rfl)⟩, ⟨by rw [HTK.out]; exact hR5⟩, ⟨hb5⟩⟩
            · have hcb : decide ((i : Int) < (l.length : Int)) = false := decide_eq_false (by omega)
              have ei : i = l.length := by have := HI.out; omega
              subst ei
              go_wp2
              go_ret
              refine ⟨_, rfl, ?_, HB.out⟩
              have h6 := HR.out
              rw [List.take_length, HF.out] at h6
              exact Kd.R_mono h6 (fun _ _ => trivial)
end Go.Proofs.Ytcikngokiodabaa.K

