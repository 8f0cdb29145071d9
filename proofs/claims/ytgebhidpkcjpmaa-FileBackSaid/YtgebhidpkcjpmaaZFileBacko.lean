/- FileBack. (The texts that the proof is made of, one behind the other: part 15 of 18.) -/
import Derived.Laws.BitsAllLaws
import Derived.WalkMore
import Derived.Lib.SliceRun
import Derived.Test.YtgebhidpkcjpmaaProg
import Derived.Below
import Derived.Deep.Draws
import Derived.Deep.AppendLies
import Derived.Maps.AppendAt
import Derived.OwnWalk
import Derived.Laws.BytesArg
import Derived.Laws.MakeOwn
import Derived.Laws.OwnMore
import Derived.Deep.OwnRows
import Derived.Tactics
import Derived.Lib.ConvBytes
import Derived.Laws.Slices
import Derived.WalkKit
import Derived.KernelRfl
import Derived.RowKit3
import Derived.Deep.LoopGhost
import Derived.Deep.QuietTactic
import Derived.BigQuiet
import Derived.WideLaws
import Derived.Deep.DeepCutAuto
import Derived.Deep.CutBlock
import Derived.Deep.RegionHeld3
import Derived.Laws.Rows
import Derived.Lib.AppendStr
import Derived.ArgAppend
import Derived.Laws.IdiomCopy
import Derived.OrdersHeld
import Derived.Laws.BitsLemmas
import Derived.RowKit
import Derived.Lib.OthersKept
import Derived.WalkSmall
import Derived.Deep.RegionLaw
import Derived.BigRegion
import Derived.Test.YtgebhidpkcjpmaaZFileBacka
import Derived.Test.YtgebhidpkcjpmaaZFileBackb
import Derived.Test.YtgebhidpkcjpmaaZFileBackc
import Derived.Test.YtgebhidpkcjpmaaZFileBackd
import Derived.Test.YtgebhidpkcjpmaaZFileBacke
import Derived.Test.YtgebhidpkcjpmaaZFileBackf
import Derived.Test.YtgebhidpkcjpmaaZFileBackg
import Derived.Test.YtgebhidpkcjpmaaZFileBackh
import Derived.Test.YtgebhidpkcjpmaaZFileBacki
import Derived.Test.YtgebhidpkcjpmaaZFileBackj
import Derived.Test.YtgebhidpkcjpmaaZFileBackk
import Derived.Test.YtgebhidpkcjpmaaZFileBackl
import Derived.Test.YtgebhidpkcjpmaaZFileBackm
import Derived.Test.YtgebhidpkcjpmaaZFileBackn
namespace Go.Proofs.Ytgebhidpkcjpmaa.K
open Go.RowKit Go.Proofs.YtgebhidpkcjpmaaW.PrintWords Go.Proofs.YtgebhidpkcjpmaaW.PrintLast Go.Proofs.YtgebhidpkcjpmaaW.PrintMore Go.Proofs.Ytgebhidpkcjpmaa
attribute [local go_sem] max2_int min2_int max_two min_two max_three min_three max_four min_four
set_option linter.unusedVariables false
set_option linter.unusedSimpArgs false
open Go Go.Proofs.Ytgebhidpkcjpmaa.Daw Go.Proofs.Ytgebhidpkcjpmaa.Fil
/-- Where the first byte below 128 stands, from s on (none: there is no byte more; 10: there is none among ten). -/
def scn (l : List Int) : Nat → Nat → Option Nat
  | 0, s => some s
  | k + 1, s => if s = l.length then none else if rd l (s : Int) < 128 then some s else scn l k (s + 1)
/-- The value of the bytes from j on, m of them. -/
def valG (l : List Int) : Nat → Nat → Nat
  | 0, _ => 0
  | m + 1, j => (rd l (j : Int)).toNat % 128 + 128 * valG l m (j + 1)
def getG (l : List Int) : Int × Int × Int :=
  match scn l 10 0 with
  | none => (0, 0, 3)
  | some s => if s = 10 ∨ (s = 9 ∧ 1 < rd l (9 : Int)) ∨ (0 < s ∧ rd l (s : Int) = 0) then (0, 0, 2) else ((valG l (s + 1) 0 : Int), (s : Int) + 1, 0)
theorem valG_lt (l : List Int) : ∀ (m j : Nat), valG l m j < 128 ^ m
  | 0, j => by unfold valG; decide
  | m + 1, j => by
    have ih := valG_lt l m (j + 1)
    unfold valG
    rw [Nat.pow_succ]
    omega
theorem valG_top (l : List Int) : ∀ (m j : Nat), 0 ≤ rd l ((j + m : Nat) : Int) → rd l ((j + m : Nat) : Int) ≤ 1 → valG l (m + 1) j < 2 * 128 ^ m
  | 0, j, h0, h1 => by
    rw [Nat.add_zero] at h0 h1
    unfold valG valG
    omega
  | m + 1, j, h0, h1 => by
    have ih := valG_top l m (j + 1) (by rw [show j + 1 + m = j + (m + 1) by omega]; exact h0) (by rw [show j + 1 + m = j + (m + 1) by omega]; exact h1)
    unfold valG
    rw [Nat.pow_succ]
    omega
theorem val_small (l : List Int) (s : Nat) (hs : s < 10) (h : s = 9 → 0 ≤ rd l (9 : Int) ∧ rd l (9 : Int) ≤ 1) (m : Nat) (hm : 1 ≤ m) (hms : m ≤ s + 1) : valG l (s + 1 - m) m < 144115188075855872 := by
  by_cases h9 : s = 9
  · obtain ⟨h0, h1⟩ := h h9
    subst h9
    by_cases h10 : m = 10
    · subst h10; show valG l 0 10 < _; unfold valG; decide
    · have := valG_top l (9 - m) m (by rw [show m + (9 - m) = 9 by omega]; exact h0) (by rw [show m + (9 - m) = 9 by omega]; exact h1)
      rw [show 9 - m + 1 = 9 + 1 - m by omega] at this
      refine Nat.lt_of_lt_of_le this ?_
      have : (128 : Nat) ^ (9 - m) ≤ 128 ^ 8 := Nat.pow_le_pow_right (by decide) (by omega)
      omega
  · have := valG_lt l (s + 1 - m) m
    refine Nat.lt_of_lt_of_le this ?_
    have : (128 : Nat) ^ (s + 1 - m) ≤ 128 ^ 8 := Nat.pow_le_pow_right (by decide) (by omega)
    omega
theorem scn_ok (l : List Int) : ∀ (k s r : Nat), scn l k s = some r → s ≤ l.length → r = s + k ∨ (r < l.length ∧ rd l (r : Int) < 128)
  | 0, s, r, h, _ => by unfold scn at h; injection h with h; exact .inl (by omega)
  | k + 1, s, r, h, hs => by
    unfold scn at h
    by_cases h1 : s = l.length
    · rw [if_pos h1] at h; cases h
    · rw [if_neg h1] at h
      by_cases h2 : rd l (s : Int) < 128
      · rw [if_pos h2] at h
        injection h with h
        subst h
        exact .inr ⟨by omega, h2⟩
      · rw [if_neg h2] at h
        rcases scn_ok l k (s + 1) r h (by omega) with h3 | h3
        · exact .inl (by omega)
        · exact .inr h3
theorem scn_le (l : List Int) : ∀ (k s r : Nat), scn l k s = some r → r ≤ s + k
  | 0, s, r, h => by unfold scn at h; injection h with h; omega
  | k + 1, s, r, h => by
    unfold scn at h
    by_cases h1 : s = l.length
    · rw [if_pos h1] at h; cases h
    · rw [if_neg h1] at h
      by_cases h2 : rd l (s : Int) < 128
      · rw [if_pos h2] at h; injection h with h; omega
      · rw [if_neg h2] at h
        have := scn_le l k (s + 1) r h
        omega
theorem byt_rd {l : List Int} (h : byt l = true) (i : Nat) (hi : i < l.length) : 0 ≤ rd l (i : Int) ∧ rd l (i : Int) < 256 := by
  rw [rd_nat, List.getD_eq_getElem?_getD, List.getElem?_eq_getElem hi]
  exact byt_get h i hi
set_option maxRecDepth 100000 in
theorem and127 : ∀ m : Fin 256, Go.bits .and .u8 (m.val : Int) 127 = ((m.val % 128 : Nat) : Int) := by decide
theorem or7 (n b : Nat) (hn : n < 144115188075855872) (hb : b < 128) : Go.bits .or .u64 ((n * 128 : Nat) : Int) (b : Int) = ((b + 128 * n : Nat) : Int) := by
  rw [u64_or_nat _ _ (by omega) (by omega)]
  congr 1
  have := Nat.two_pow_add_eq_or_of_lt (i := 7) (b := b) (by omega) n
  rw [show (2 : Nat) ^ 7 = 128 by decide] at this
  rw [Nat.mul_comm n 128, ← this]; omega
set_option maxHeartbeats 4000000 in
set_option maxRecDepth 100000 in
theorem numGet_k (A : Option Addr) (cap : Nat) (l : List Int) (w : World) (hC : Kd.C (Kd.int .u8) w A l.length l) (hc : l.length ≤ cap) (hb : byt l = true) :
    Calls Try.prog 80 #[.slice A l.length cap] w fun e w' => e = .returned (.tuple #[.int .u64 (getG l).1, .int .i64 (getG l).2.1, .int .i64 (getG l).2.2]) ∧ Below w.heap.size w w' := by
  have HC := Aside0.mk hC; have HB := Aside0.mk hb
  have hlen : (l.length : Int) ≤ 9223372036854775807 := by have := hC.2.1; omega
  clear hC hb
  go_enter Try.func80, Try.ntmps80
  go_wp2
  go_step3
  go_wp2
  go_step3
  go_upto_block 0 with fail
  go_cut [5] from 8 to 22 (fun s5 wx => ∃ s : Nat, s5 = .int .i64 s ∧ Aside0 (scn l 10 0 = some s) ∧ wx = w)
  case first =>
    go_wp2
    go_loopg [5] 10 (fun gg v5 wr => ∃ s : Nat, v5 = .int .i64 s ∧ Aside0 (s + gg = 10 ∧ s ≤ l.length) ∧ Aside0 (scn l 10 0 = scn l gg s) ∧ wr = w)
    case atStart => exact ⟨0, rfl, ⟨rfl, Nat.zero_le _⟩, ⟨rfl⟩, rfl⟩
    case round =>
      obtain ⟨s, rfl, hs, hsc, rfl⟩ := hrel
      cases gk with
      | zero =>
        obtain rfl : s = 10 := by have := hs.out; omega
        go_wp2
        go_meet
        case rel => exact ⟨10, rfl, ⟨hsc.out⟩, rfl⟩
      | succ g =>
        have hcb : decide ((s : Int) < 10) = true := decide_eq_true (by have := hs.out; omega)
        have hcb3 : (s : Int) < 10 := by have := hs.out; omega
        by_cases he : s = l.length
        · have hcb2 : ((s : Int) == (l.length : Int)) = true := by rw [he]; exact beq_self_eq_true _
          have HR := Aside0.mk (show getG l = (0, 0, 3) by unfold getG; rw [hsc.out]; unfold scn; rw [if_pos he])
          clear he
          go_wp2
          (try simp only [Exit.noGoto])
          go_ret3
          exact ⟨by rw [HR.out]; rfl, Below.refl _ _⟩
        · have hcb2 : ((s : Int) == (l.length : Int)) = false := by rw [beq_eq_false_iff_ne]; omega
          have hlt : s < l.length := by have := hs.out; omega
          have q0 : (0 : Int) ≤ (s : Int) := by omega
          have q1 : (s : Int) < (l.length : Int) := by omega
          obtain ⟨ad, e0, a0⟩ := Kd.at_int HC.out (s : Int) q0 q1
          cases e0
          have HSL := Aside0.mk (show scn l (g + 1) s = if rd l (s : Int) < 128 then some s else scn l g (s + 1) by conv => { lhs; unfold scn }; rw [if_neg he])
          generalize rd l (s : Int) = x at a0 HSL
          rw [Int.toNat_natCast] at a0
          clear he
          by_cases hx : x < 128
          · have hd : decide (x < 128) = true := decide_eq_true hx
            go_wp2
            go_meet
            case rel => exact ⟨s, rfl, ⟨by rw [hsc.out, HSL.out, if_pos hx]⟩, rfl⟩
          · have hd : decide (x < 128) = false := decide_eq_false hx
            go_wp2
            go_roundg g
            case measure => omega
            case rel => exact ⟨s + 1, congrArg (Value.int .i64) (by omega), ⟨by have := hs.out; omega, by omega⟩, ⟨by rw [hsc.out, HSL.out, if_neg (by omega)]⟩, rfl⟩
  case rest =>
    obtain ⟨s, rfl, hsc, rfl⟩ := hcut
    have hs10 := scn_le l 10 0 s hsc.out
    have hok := scn_ok l 10 0 s hsc.out (Nat.zero_le _)
    have HG := Aside0.mk (show getG l = if s = 10 ∨ (s = 9 ∧ 1 < rd l (9 : Int)) ∨ (0 < s ∧ rd l (s : Int) = 0) then (0, 0, 2) else ((valG l (s + 1) 0 : Int), (s : Int) + 1, 0) by unfold getG; rw [hsc.out])
    by_cases c10 : s = 10
    · subst c10
      have HR := Aside0.mk (show getG l = (0, 0, 2) by rw [HG.out, if_pos (.inl rfl)])
      go_wp2
      (try simp only [Exit.noGoto])
      go_ret3
      exact ⟨by rw [HR.out]; rfl, Below.refl _ _⟩
    · have hlt : s < l.length := by rcases hok with h | h <;> omega
      have hs9 : s ≤ 9 := by omega
      obtain ⟨x0, x1⟩ := byt_rd HB.out s hlt
      have q0 : (0 : Int) ≤ (s : Int) := by omega
      have q1 : (s : Int) < (l.length : Int) := by omega
      obtain ⟨ad, e0, a0⟩ := Kd.at_int HC.out (s : Int) q0 q1
      cases e0
      have c10b : ((s : Int) == 10) = false := by rw [beq_eq_false_iff_ne]; omega
      rw [Int.toNat_natCast] at a0
      -- the tests, told ahead
      by_cases c9 : s = 9 ∧ 1 < rd l (s : Int)
      · obtain ⟨h9, h1⟩ := c9
        have HR := Aside0.mk (show getG l = (0, 0, 2) by rw [HG.out, if_pos (.inr (.inl ⟨h9, by rw [h9] at h1; exact h1⟩))])
        have e9b : ((s : Int) == 9) = true := by rw [h9]; rfl
        have hd : decide (1 < rd l (s : Int)) = true := decide_eq_true h1
        clear HG hok
        generalize rd l (s : Int) = x at a0 hd
        clear h9
        go_wp2
        (try simp only [Exit.noGoto])
        go_ret3
        exact ⟨by rw [HR.out]; rfl, Below.refl _ _⟩
      · by_cases c0 : 0 < s ∧ rd l (s : Int) = 0
        · have HR := Aside0.mk (show getG l = (0, 0, 2) by rw [HG.out, if_pos (.inr (.inr c0))])
          obtain ⟨h1, h2⟩ := c0
          rw [h2] at a0
          have hp : decide (0 < (s : Int)) = true := decide_eq_true (by omega)
          clear HG hok c9
          by_cases e9 : s = 9
          · have e9b : ((s : Int) == 9) = true := by rw [e9]; rfl
            clear e9
            go_wp2
            (try simp only [Exit.noGoto])
            go_ret3
            exact ⟨by rw [HR.out]; rfl, Below.refl _ _⟩
          · have e9b : ((s : Int) == 9) = false := by rw [beq_eq_false_iff_ne]; omega
            go_wp2
            (try simp only [Exit.noGoto])
            go_ret3
            exact ⟨by rw [HR.out]; rfl, Below.refl _ _⟩
        · have HR := Aside0.mk (show getG l = ((valG l (s + 1) 0 : Int), (s : Int) + 1, 0) by rw [HG.out, if_neg (by rintro (h | h | h); exact c10 h; exact c9 ⟨h.1, by rw [h.1]; exact h.2⟩; exact c0 h)])
          have HV := Aside0.mk (val_small l s (by omega) (fun h => by
            subst h
            exact ⟨x0, by have := fun h => c9 ⟨rfl, h⟩; show rd l ((9 : Nat) : Int) ≤ 1; exact Int.not_lt.1 this⟩))
          clear HG hok hsc
          generalize hx : rd l (s : Int) = x at a0 x0 x1 c0 c9
          clear hx
          go_upto_region 7 with fail
          go_cut [46] from 23 to 46 (fun s46 wx => s46 = .bool false ∧ wx = wc)
          case first =>
            by_cases e9 : s = 9
            · have e9b : ((s : Int) == 9) = true := by rw [e9]; rfl
              have hd : decide (1 < x) = false := decide_eq_false fun h => c9 ⟨e9, h⟩
              have hp : decide (0 < (s : Int)) = true := decide_eq_true (by omega)
              have hp2 : (0 : Int) < (s : Int) := by omega
              have hz : (x == 0) = false := by rw [beq_eq_false_iff_ne]; exact fun h => c0 ⟨by omega, h⟩
              clear e9 c9 c0
              go_wp2
              go_meet
              case rel => exact ⟨rfl, rfl⟩
            · have e9b : ((s : Int) == 9) = false := by rw [beq_eq_false_iff_ne]; omega
              by_cases hs0 : 0 < s
              · have hp : decide (0 < (s : Int)) = true := decide_eq_true (by omega)
                have hz : (x == 0) = false := by rw [beq_eq_false_iff_ne]; exact fun h => c0 ⟨by omega, h⟩
                clear c9 c0
                go_wp2
                go_meet
                case rel => exact ⟨rfl, rfl⟩
              · have hp : decide (0 < (s : Int)) = false := decide_eq_false (by omega)
                clear c9 c0
                go_wp2
                go_meet
                case rel => exact ⟨rfl, rfl⟩
          case rest =>
            obtain ⟨rfl, rfl⟩ := hcut
            clear c9 c0 a0 c10b
            go_wp2
            have HHLT := Aside0.mk hlt
            go_loopg [6, 7] (s + 1) (fun gg v6 v7 wr => ∃ m : Nat, m ≤ s + 1 ∧ v7 = .int .i64 ((m : Int) - 1) ∧ v6 = .int .u64 (valG l (s + 1 - m) m : Int) ∧ Aside0 (gg = m) ∧ wr = wc)
            case atStart => exact ⟨s + 1, Nat.le_refl _, congrArg (Value.int .i64) (by omega), by rw [Nat.sub_self]; rfl, ⟨rfl⟩, rfl⟩
            case round =>
              obtain ⟨m, hm, rfl, rfl, hg, rfl⟩ := hrel
              cases m with
              | zero =>
                have hd : decide ((0 : Int) ≤ ((0 : Nat) : Int) - 1) = false := by decide
                go_wp2
                (try simp only [Exit.noGoto])
                go_ret3
                exact ⟨by rw [HR.out]; rfl, Below.refl _ _⟩
              | succ i =>
                have e1 : (((i + 1 : Nat) : Int) - 1) = (i : Int) := by omega
                rw [e1]
                have q0 : (0 : Int) ≤ (i : Int) := by omega
                have q1 : (i : Int) < (l.length : Int) := by omega
                obtain ⟨ad, e0, a0⟩ := Kd.at_int HC.out (i : Int) q0 q1
                cases e0
                rw [Int.toNat_natCast] at a0
                obtain ⟨y0, y1⟩ := byt_rd HB.out i (by omega)
                have HVN := Aside0.mk (show valG l (s + 1 - i) i = (rd l (i : Int)).toNat % 128 + 128 * valG l (s + 1 - (i + 1)) (i + 1) by
                  rw [show s + 1 - i = (s + 1 - (i + 1)) + 1 by omega]; conv => { lhs; unfold valG })
                have hv57 := HV.out (i + 1) (by omega) hm
                generalize valG l (s + 1 - (i + 1)) (i + 1) = n at hv57 HVN
                generalize rd l (i : Int) = y at a0 y0 y1 HVN
                obtain ⟨y, rfl⟩ := Int.eq_ofNat_of_zero_le y0
                rw [Int.toNat_natCast] at HVN
                have hand := and127 ⟨y, by omega⟩
                have hor := or7 n (y % 128) hv57 (Nat.mod_lt _ (by decide))
                go_wp2
                go_roundg i
                case measure => have := hg.out; omega
                case rel =>
                  refine ⟨i, by omega, rfl, ?_, ⟨rfl⟩, rfl⟩
                  rw [HVN.out, ← hor]
                  exact congrArg (Value.int .u64) (by rw [show ((n * 128 : Nat) : Int) = (n : Int) * 128 by omega, show ((y % 128 : Nat) : Int) = (y : Int) % 128 by omega])
/-- As the printer calls it. -/
def num_Get.f (l0 : List Int) : Option (Int × Int × Int) := if byt l0 = true then some (getG l0) else none
theorem num_Get.calls (A0 : Option Addr) (c0 : Nat) (l0 : List Int) (r1 r2 r3 : Int) (w : World) (hr0 : Kd.C (Kd.int .u8) w A0 l0.length l0) (hc0 : l0.length ≤ c0) (h : num_Get.f l0 = some (r1, r2, r3)) :
    Calls Try.prog 80 #[.slice A0 l0.length c0] w fun e w' => e = .returned (.tuple #[.int .u64 r1, .int .i64 r2, .int .i64 r3]) ∧ Below w.heap.size w w' := by
  unfold num_Get.f at h
  by_cases hk : byt l0 = true
  · rw [if_pos hk] at h
    have := numGet_k A0 c0 l0 w hr0 hc0 hk
    rw [Option.some.inj h] at this
    exact this
  · rw [if_neg hk] at h; cases h
set_option maxHeartbeats 2000000 in
set_option maxRecDepth 100000 in
theorem bclone_k (A0 : Option Addr) (c0 : Nat) (l0 : List Int) (w : World) (hr0 : Kd.C (Kd.int .u8) w A0 l0.length l0) (hc0 : l0.length ≤ c0) (hlen : l0.length ≤ 140737488000000) :
    Calls Try.prog 96 #[.slice A0 l0.length c0] w fun e w' => ∃ v0_ : Value, e = .returned (v0_) ∧ Kd.R (Kd.int .u8) 5 w' w.heap.size (fun _ => True) v0_ l0 ∧ Below w.heap.size w w' := by
  have hq : ∀ (W : World) (a : Option Addr) (n c n' c' : Nat), (binOp .eql 36 (.slice a n c) (.slice none n' c')).run Try.prog W = .ok (.bool a.isNone) W := fun W a n c n' c' => Lib.run_eql_slice_nil W _ _ a n c n' c' Try.underlying36
  cases A0 with
  | none =>
    have h0 : l0 = [] := by
      cases l0 with
      | nil => rfl
      | cons x l =>
        obtain ⟨ad, e, _⟩ := Kd.at_int hr0 0 (by omega) (by simp)
        cases e
    subst h0
    go_enter Try.func96, Try.ntmps96
    go_wp2
    go_ret
    exact ⟨_, rfl, Kd.R_nil _ _ _ _ _, Below.refl _ _⟩
  | some ad =>
    have HR := Aside0.mk hr0; clear hr0
    have HL := Aside0.mk hlen; clear hlen
    go_enter Try.func96, Try.ntmps96
    go_wp2_with ((with_reducible refine gate_dst (N := 5) rfl ?_); refine Kd.R_lit (Kd.int .u8) _ 5 ?hg (N := 5) ?hd (xs := []) (inner := []) (ok := fun _ => True) (okp := fun _ => True) ?hr ?hp (fun _ hk => hk) trivial (Below.refl _ _) (Nat.le_refl _) (by simp) ?_; (case hd => rfl); (case hg => rfl); (case hr => first | (go_simp; done) | (go_simp; rfl)); (case hp => exact (Reps.none _ _)))
    intro v1 w1 hR1 hb1 hg1 n1 hn1 hle1
    have HB1 := Aside0.mk hb1
    have HR1 := Aside0.mk hR1
    have HC1 := Aside0.mk (Kd.C_below HR.out hb1)
    clear hR1 hb1 hg1 hn1 hle1 n1
    go_wp2_with ((with_reducible refine gate_builtin (b := .append) (xs := #[.tmp 5, .tmp 6]) rfl ?_); at_builtin; refine Kd.R_append_rows (Kd.int .u8) (w0 := w) w.heap.size rfl (.tmp 5) (.tmp 6) 36 5 (.int .u8 0) 1 rfl Try.underlying36 info5 rfl (by decide) (by omega) v1 [] l0 _ _ _ (fun _ => True) (fun _ => False) rfl rfl HR1.out HC1.out (fun _ _ h => h) (fun _ h => h.elim) (fun _ _ => trivial) HB1.out (HB1.out).size (by have := HL.out; simp; omega) ?_)
    intro v2 w2 hR2 hb2 hg2 hat2
    have HB2 := Aside0.mk hb2
    have HR2 := Aside0.mk hR2
    clear hR2 hb2 hg2 hat2
    go_wp2
    go_ret
    exact ⟨_, rfl, by simpa using HR2.out, HB2.out⟩
def bytes_Clone.f (l0 : List Int) : Option (List Int) := if l0.length ≤ 140737488000000 then some l0 else none
theorem bytes_Clone.calls (A0 : Option Addr) (c0 : Nat) (l0 : List Int) (r : List Int) (w : World) (hr0 : Kd.C (Kd.int .u8) w A0 l0.length l0) (hc0 : l0.length ≤ c0) (h : bytes_Clone.f l0 = some r) :
    Calls Try.prog 96 #[.slice A0 l0.length c0] w fun e w' => ∃ v0_ : Value, e = .returned (v0_) ∧ Kd.R (Kd.int .u8) 5 w' w.heap.size (fun _ => True) v0_ r ∧ Below w.heap.size w w' := by
  unfold bytes_Clone.f at h
  by_cases hk : l0.length ≤ 140737488000000
  · rw [if_pos hk] at h
    obtain rfl := Option.some.inj h
    exact bclone_k A0 c0 l0 w hr0 hc0 hk
  · rw [if_neg hk] at h; cases h
end Go.Proofs.Ytgebhidpkcjpmaa.K

namespace Go.Proofs.Ytgebhidpkcjpmaa.PFg
open Go.RowKit Go.Proofs.YtgebhidpkcjpmaaW.PrintWords Go.Proofs.YtgebhidpkcjpmaaW.PrintLast Go.Proofs.YtgebhidpkcjpmaaW.PrintMore Go.Proofs.Ytgebhidpkcjpmaa.K Go.Proofs.Ytgebhidpkcjpmaa.PDk Go.Proofs.Ytgebhidpkcjpmaa.PDm Go.Proofs.Ytgebhidpkcjpmaa.PEn Go.Proofs.Ytgebhidpkcjpmaa.PFl Go.Proofs.Ytgebhidpkcjpmaa.PIx Go.Proofs.Ytgebhidpkcjpmaa.PLg Go.Proofs.Ytgebhidpkcjpmaa.PMk Go.Proofs.Ytgebhidpkcjpmaa.PR13
attribute [local go_sem] max2_int min2_int max_two min_two max_three min_three max_four min_four   -- for this text's walks alone
set_option linter.unusedVariables false
set_option linter.unusedSimpArgs false



def errW : Option Int → Value
  | none => .nilIface
  | some c => .iface 0 (.int .i64 c)
theorem errW_none : errW none = .nilIface := rfl
theorem errW_some (c : Int) : errW (some c) = .iface 0 (.int .i64 c) := rfl

end Go.Proofs.Ytgebhidpkcjpmaa.PFg

namespace Go.Proofs.Ytgebhidpkcjpmaa.PFg
open Go.RowKit Go.Proofs.YtgebhidpkcjpmaaW.PrintWords Go.Proofs.YtgebhidpkcjpmaaW.PrintLast Go.Proofs.YtgebhidpkcjpmaaW.PrintMore Go.Proofs.Ytgebhidpkcjpmaa.K Go.Proofs.Ytgebhidpkcjpmaa.PDk Go.Proofs.Ytgebhidpkcjpmaa.PDm Go.Proofs.Ytgebhidpkcjpmaa.PEn Go.Proofs.Ytgebhidpkcjpmaa.PFl Go.Proofs.Ytgebhidpkcjpmaa.PIx Go.Proofs.Ytgebhidpkcjpmaa.PLg Go.Proofs.Ytgebhidpkcjpmaa.PMk Go.Proofs.Ytgebhidpkcjpmaa.PR13
attribute [local go_sem] max2_int min2_int max_two min_two max_three min_three max_four min_four   -- for this text's walks alone
set_option linter.unusedVariables false
set_option linter.unusedSimpArgs false

def frame_Get.f (k : Nat) (l0 : List Int) : Option (List Int × Int × Int) := (num_Get.f l0).bind fun bt101 => (if bt101.2.2 = 0 then (if bt101.1 > 1048576 then (some (([] : List Int), 0, 2)) else (if (l0.length : Int) < (wrap64 ((wrap64 (bt101.2.1 + (wrap64 (bt101.1)))) + 4)) then (some (([] : List Int), 0, 3)) else (if 0 ≤ bt101.2.1 then (if bt101.2.1 ≤ (wrap64 (bt101.2.1 + (wrap64 (bt101.1)))) then (if (wrap64 (bt101.2.1 + (wrap64 (bt101.1)))) ≤ (l0.length : Int) then ((bytes_Clone.f ((l0.take ((wrap64 (bt101.2.1 + (wrap64 (bt101.1)))) : Int).toNat).drop (bt101.2.1 : Int).toNat)).bind fun t105 => (if 0 ≤ (wrap64 (bt101.2.1 + (wrap64 (bt101.1)))) then (if (wrap64 (bt101.2.1 + (wrap64 (bt101.1)))) ≤ (wrap64 ((wrap64 (bt101.2.1 + (wrap64 (bt101.1)))) + 4)) then (if (wrap64 ((wrap64 (bt101.2.1 + (wrap64 (bt101.1)))) + 4)) ≤ (l0.length : Int) then ((frame_sum.f k t105).bind fun t109 => ((bytes_Equal.f ((l0.take ((wrap64 ((wrap64 (bt101.2.1 + (wrap64 (bt101.1)))) + 4)) : Int).toNat).drop ((wrap64 (bt101.2.1 + (wrap64 (bt101.1)))) : Int).toNat) t109).bind fun t112 => (if t112 = true then (some (t105, wrap64 ((wrap64 (bt101.2.1 + (wrap64 (bt101.1)))) + 4), 0)) else (some (([] : List Int), 0, 4))))) else (none)) else (none)) else (none))) else (none)) else (none)) else (none)))) else (some (([] : List Int), 0, bt101.2.2)))
def frame_Get.T10 : Bool × List (List Nat × List Nat) := (true, [([], []), ([], []), ([], []), ([2], [2]), ([0, 1, 3], [0, 1, 3]), ([], []), ([5], [5]), ([4, 6, 6], [4, 6]), ([7], [7])])
def frame_Get.B10 : List Nat := [0, 0, 0, 4, 15, 0, 32, 127, 255]
theorem frame_Get.tab10 : rtab .any (opsOf Try.f78 10) = frame_Get.T10 := by kernel_rfl
theorem frame_Get.bits10 : waitsOk frame_Get.T10.2 frame_Get.B10 = true := by kernel_rfl
set_option maxHeartbeats 8000000 in
set_option maxRecDepth 100000 in
theorem frame_Get.calls (k : Nat) (A0 : Option Addr) (c0 : Nat) (l0 : List Int) (r1 : List Int) (r2 : Int) (r3 : Int) (w : World) (hr0 : Kd.C (Kd.int .u8) w A0 l0.length l0) (hc0 : l0.length ≤ c0) (h : frame_Get.f k l0 = some (r1, r2, r3)) :
    Calls Try.prog 78 #[.slice A0 l0.length c0] w fun e w' => ∃ v0_ : Value, e = .returned (.tuple #[v0_, .int .i64 r2, .int .i64 r3]) ∧ Kd.R (Kd.int .u8) 5 w' w.heap.size (fun _ => True) v0_ r1 ∧ Below w.heap.size w w' := by
  have HR0 := Aside0.mk hr0
  have HC0 := Aside0.mk hc0
  clear hr0 hc0
  have HB := Aside0.mk (Below.refl w.heap.size w)
  have H : ((num_Get.f l0).bind fun bt101 => (if bt101.2.2 = 0 then (if bt101.1 > 1048576 then (some (([] : List Int), 0, 2)) else (if (l0.length : Int) < (wrap64 ((wrap64 (bt101.2.1 + (wrap64 (bt101.1)))) + 4)) then (some (([] : List Int), 0, 3)) else (if 0 ≤ bt101.2.1 then (if bt101.2.1 ≤ (wrap64 (bt101.2.1 + (wrap64 (bt101.1)))) then (if (wrap64 (bt101.2.1 + (wrap64 (bt101.1)))) ≤ (l0.length : Int) then ((bytes_Clone.f ((l0.take ((wrap64 (bt101.2.1 + (wrap64 (bt101.1)))) : Int).toNat).drop (bt101.2.1 : Int).toNat)).bind fun t105 => (if 0 ≤ (wrap64 (bt101.2.1 + (wrap64 (bt101.1)))) then (if (wrap64 (bt101.2.1 + (wrap64 (bt101.1)))) ≤ (wrap64 ((wrap64 (bt101.2.1 + (wrap64 (bt101.1)))) + 4)) then (if (wrap64 ((wrap64 (bt101.2.1 + (wrap64 (bt101.1)))) + 4)) ≤ (l0.length : Int) then ((frame_sum.f k t105).bind fun t109 => ((bytes_Equal.f ((l0.take ((wrap64 ((wrap64 (bt101.2.1 + (wrap64 (bt101.1)))) + 4)) : Int).toNat).drop ((wrap64 (bt101.2.1 + (wrap64 (bt101.1)))) : Int).toNat) t109).bind fun t112 => (if t112 = true then (some (t105, wrap64 ((wrap64 (bt101.2.1 + (wrap64 (bt101.1)))) + 4), 0)) else (some (([] : List Int), 0, 4))))) else (none)) else (none)) else (none))) else (none)) else (none)) else (none)))) else (some (([] : List Int), 0, bt101.2.2)))) = some (r1, r2, r3) := h
  clear h
  replace H := Option.bind_eq_some_iff.mp H
  obtain ⟨⟨t101, t102, t103⟩, A20, H⟩ := H
  replace H : (if t103 = 0 then (if t101 > 1048576 then (some (([] : List Int), 0, 2)) else (if (l0.length : Int) < (wrap64 ((wrap64 (t102 + (wrap64 (t101)))) + 4)) then (some (([] : List Int), 0, 3)) else (if 0 ≤ t102 then (if t102 ≤ (wrap64 (t102 + (wrap64 (t101)))) then (if (wrap64 (t102 + (wrap64 (t101)))) ≤ (l0.length : Int) then ((bytes_Clone.f ((l0.take ((wrap64 (t102 + (wrap64 (t101)))) : Int).toNat).drop (t102 : Int).toNat)).bind fun t105 => (if 0 ≤ (wrap64 (t102 + (wrap64 (t101)))) then (if (wrap64 (t102 + (wrap64 (t101)))) ≤ (wrap64 ((wrap64 (t102 + (wrap64 (t101)))) + 4)) then (if (wrap64 ((wrap64 (t102 + (wrap64 (t101)))) + 4)) ≤ (l0.length : Int) then ((frame_sum.f k t105).bind fun t109 => ((bytes_Equal.f ((l0.take ((wrap64 ((wrap64 (t102 + (wrap64 (t101)))) + 4)) : Int).toNat).drop ((wrap64 (t102 + (wrap64 (t101)))) : Int).toNat) t109).bind fun t112 => (if t112 = true then (some (t105, wrap64 ((wrap64 (t102 + (wrap64 (t101)))) + 4), 0)) else (some (([] : List Int), 0, 4))))) else (none)) else (none)) else (none))) else (none)) else (none)) else (none)))) else (some (([] : List Int), 0, t103))) = some (r1, r2, r3) := H
  have A2 := Aside0.mk A20
  clear A20
  by_cases c3 : t103 = 0
  · rw [if_pos c3] at H
    have c3b0 : (t103 == 0) = true := beq_iff_eq.mpr c3
    have c3b1 : (t103 != 0) = false := bne_eq_false_iff_eq.mpr c3
    clear c3
    by_cases c4 : t101 > 1048576
    · rw [if_pos c4] at H
      have c4b0 : decide (1048576 < t101) = true := decide_eq_true c4
      clear c4
      simp only [Option.some.injEq, Prod.mk.injEq] at H
      obtain ⟨rfl, rfl, rfl⟩ := H
      go_enter Try.func78, Try.ntmps78
      go_wp2_with (first | ((with_reducible refine gate_callee (f := 80) rfl ?_); refine goesL_ (some 12) rfl rfl Try.func80 (by kernel_rfl) rfl #[.slice A0 l0.length c0] rfl (by (try simp only [List.map_toArray, List.map_cons, List.map_nil]); first | done | rfl | (simp only [List.length_drop, List.length_take]; rfl)) ?_; (with_reducible refine (num_Get.calls _ _ l0 t101 t102 t103 _ ?side1 ?side2 A2.out).mono ?_); (case side1 => repeat (first | exact HR0.out | (with_reducible refine Kd.C_alloc ?_ _) | (with_reducible refine Kd.C_drewN ?_ _) | (with_reducible refine Kd.C_drew ?_))); (case side2 => exact HC0.out); rintro e w5 ⟨rfl, hb⟩; refine ⟨_, rfl, ?_⟩; have n0_ := Aside0.mk (below_step (by repeat (first | (with_reducible first | exact HB.out | apply below_alloc | apply pw_below_drewN | apply below_drew1) | exact HB.out)) hb); clear HB; have HB := n0_; clear n0_; (try clear hb); (try clear hb2); (try clear hk); (try clear hi)))
      go_ret3
      exact ⟨_, by first | rfl | (simp [errW_none, errW_some] <;> rfl) | (simp [*, errW_none, errW_some] <;> rfl), by first | exact Kd.R_nil _ _ _ _ _ | exact Kd.N_nil _ _ _ _ _ | exact Kd.V_nil _ _ _ _ _ | exact Kd.Q_nil _ _ _ _ _ | exact Kd.S_nil _ _ _ _ _, by repeat (first | (with_reducible first | exact HB.out | apply below_alloc | apply pw_below_drewN | apply below_drew1) | exact HB.out)⟩
    · rw [if_neg c4] at H
      have c4b0 : decide (1048576 < t101) = false := decide_eq_false c4
      clear c4
      by_cases c6 : (l0.length : Int) < (wrap64 ((wrap64 (t102 + (wrap64 (t101)))) + 4))
      · rw [if_pos c6] at H
        have c6b0 : decide ((l0.length : Int) < (wrap64 ((wrap64 (t102 + (wrap64 (t101)))) + 4))) = true := decide_eq_true c6
        clear c6
        simp only [Option.some.injEq, Prod.mk.injEq] at H
        obtain ⟨rfl, rfl, rfl⟩ := H
        go_enter Try.func78, Try.ntmps78
        go_wp2_with (first | ((with_reducible refine gate_callee (f := 80) rfl ?_); refine goesL_ (some 12) rfl rfl Try.func80 (by kernel_rfl) rfl #[.slice A0 l0.length c0] rfl (by (try simp only [List.map_toArray, List.map_cons, List.map_nil]); first | done | rfl | (simp only [List.length_drop, List.length_take]; rfl)) ?_; (with_reducible refine (num_Get.calls _ _ l0 t101 t102 t103 _ ?side1 ?side2 A2.out).mono ?_); (case side1 => repeat (first | exact HR0.out | (with_reducible refine Kd.C_alloc ?_ _) | (with_reducible refine Kd.C_drewN ?_ _) | (with_reducible refine Kd.C_drew ?_))); (case side2 => exact HC0.out); rintro e w7 ⟨rfl, hb⟩; refine ⟨_, rfl, ?_⟩; have n0_ := Aside0.mk (below_step (by repeat (first | (with_reducible first | exact HB.out | apply below_alloc | apply pw_below_drewN | apply below_drew1) | exact HB.out)) hb); clear HB; have HB := n0_; clear n0_; (try clear hb); (try clear hb2); (try clear hk); (try clear hi)))
        go_ret3
        exact ⟨_, by first | rfl | (simp [errW_none, errW_some] <;> rfl) | (simp [*, errW_none, errW_some] <;> rfl), by first | exact Kd.R_nil _ _ _ _ _ | exact Kd.N_nil _ _ _ _ _ | exact Kd.V_nil _ _ _ _ _ | exact Kd.Q_nil _ _ _ _ _ | exact Kd.S_nil _ _ _ _ _, by repeat (first | (with_reducible first | exact HB.out | apply below_alloc | apply pw_below_drewN | apply below_drew1) | exact HB.out)⟩
      · rw [if_neg c6] at H
        have c6b0 : decide ((l0.length : Int) < (wrap64 ((wrap64 (t102 + (wrap64 (t101)))) + 4))) = false := decide_eq_false c6
        clear c6
        by_cases c8 : 0 ≤ t102
        · rw [if_pos c8] at H
          have c8b0 := eq_true c8
          have c8b1 : decide (0 ≤ t102) = true := decide_eq_true c8
          clear c8
          by_cases c9 : t102 ≤ (wrap64 (t102 + (wrap64 (t101))))
          · rw [if_pos c9] at H
            have c9b0 := eq_true c9
            have c9b1 : decide (t102 ≤ (wrap64 (t102 + (wrap64 (t101))))) = true := decide_eq_true c9
            by_cases c10 : (wrap64 (t102 + (wrap64 (t101)))) ≤ (l0.length : Int)
            · rw [if_pos c10] at H
              have c10b0 := eq_true c10
              have c10b1 : decide ((wrap64 (t102 + (wrap64 (t101)))) ≤ (l0.length : Int)) = true := decide_eq_true c10
              replace H := Option.bind_eq_some_iff.mp H
              obtain ⟨t105, A110, H⟩ := H
              replace H : (if 0 ≤ (wrap64 (t102 + (wrap64 (t101)))) then (if (wrap64 (t102 + (wrap64 (t101)))) ≤ (wrap64 ((wrap64 (t102 + (wrap64 (t101)))) + 4)) then (if (wrap64 ((wrap64 (t102 + (wrap64 (t101)))) + 4)) ≤ (l0.length : Int) then ((frame_sum.f k t105).bind fun t109 => ((bytes_Equal.f ((l0.take ((wrap64 ((wrap64 (t102 + (wrap64 (t101)))) + 4)) : Int).toNat).drop ((wrap64 (t102 + (wrap64 (t101)))) : Int).toNat) t109).bind fun t112 => (if t112 = true then (some (t105, wrap64 ((wrap64 (t102 + (wrap64 (t101)))) + 4), 0)) else (some (([] : List Int), 0, 4))))) else (none)) else (none)) else (none)) = some (r1, r2, r3) := H
              have A11 := Aside0.mk A110
              clear A110
              obtain ⟨ji12, hji12⟩ : ∃ j_ : Int, (wrap64 (t102 + (wrap64 (t101)))) = j_ := ⟨_, rfl⟩
              replace H : (if 0 ≤ (ji12) then (if (ji12) ≤ (wrap64 ((ji12) + 4)) then (if (wrap64 ((ji12) + 4)) ≤ (l0.length : Int) then ((frame_sum.f k t105).bind fun t109 => ((bytes_Equal.f ((l0.take ((wrap64 ((ji12) + 4)) : Int).toNat).drop ((ji12) : Int).toNat) t109).bind fun t112 => (if t112 = true then (some (t105, wrap64 ((ji12) + 4), 0)) else (some (([] : List Int), 0, 4))))) else (none)) else (none)) else (none)) = some (r1, r2, r3) := by first | (rw [hji12] at H; exact H) | (simp only [hji12] at H ⊢; exact H)
              (try rw [hji12] at c6b0)
              (try rw [hji12] at c9b0)
              (try rw [hji12] at c9b1)
              (try rw [hji12] at c9)
              (try rw [hji12] at c10b0)
              (try rw [hji12] at c10b1)
              (try rw [hji12] at c10)
              (try rw [hji12] at A2)
              (try rw [hji12] at A11)
              have hji12w : (IntKind.i64.wrap (t102 + (wrap64 (t101)))) = ji12 := (i64_w _).trans hji12
              by_cases c13 : 0 ≤ (ji12)
              · rw [if_pos c13] at H
                have c13b0 := eq_true c13
                have c13b1 : decide (0 ≤ (ji12)) = true := decide_eq_true c13
                clear c13
                by_cases c14 : (ji12) ≤ (wrap64 ((ji12) + 4))
                · rw [if_pos c14] at H
                  have c14b0 := eq_true c14
                  have c14b1 : decide ((ji12) ≤ (wrap64 ((ji12) + 4))) = true := decide_eq_true c14
                  by_cases c15 : (wrap64 ((ji12) + 4)) ≤ (l0.length : Int)
                  · rw [if_pos c15] at H
                    have c15b0 := eq_true c15
                    have c15b1 : decide ((wrap64 ((ji12) + 4)) ≤ (l0.length : Int)) = true := decide_eq_true c15
                    replace H := Option.bind_eq_some_iff.mp H
                    obtain ⟨t109, A160, H⟩ := H
                    replace H : ((bytes_Equal.f ((l0.take ((wrap64 ((ji12) + 4)) : Int).toNat).drop ((ji12) : Int).toNat) t109).bind fun t112 => (if t112 = true then (some (t105, wrap64 ((ji12) + 4), 0)) else (some (([] : List Int), 0, 4)))) = some (r1, r2, r3) := H
                    have A16 := Aside0.mk A160
                    clear A160
                    replace H := Option.bind_eq_some_iff.mp H
                    obtain ⟨t112, A170, H⟩ := H
                    replace H : (if t112 = true then (some (t105, wrap64 ((ji12) + 4), 0)) else (some (([] : List Int), 0, 4))) = some (r1, r2, r3) := H
                    have A17 := Aside0.mk A170
                    clear A170
                    by_cases c18 : t112 = true
                    · subst c18
                      have H1 : (some (t105, wrap64 ((ji12) + 4), 0)) = some (r1, r2, r3) := by rw [if_pos rfl] at H; exact H
                      clear H
                      have H := H1
                      clear H1
                      simp only [Option.some.injEq, Prod.mk.injEq] at H
                      obtain ⟨rfl, rfl, rfl⟩ := H
                      go_enter Try.func78, Try.ntmps78
                      try go_wp2_with (first | ((with_reducible refine gate_callee (f := 80) rfl ?_); refine goesL_ (some 12) rfl rfl Try.func80 (by kernel_rfl) rfl #[.slice A0 l0.length c0] rfl (by (try simp only [List.map_toArray, List.map_cons, List.map_nil]); first | done | rfl | (simp only [List.length_drop, List.length_take]; rfl)) ?_; (with_reducible refine (num_Get.calls _ _ l0 t101 t102 t103 _ ?side1 ?side2 A2.out).mono ?_); (case side1 => repeat (first | exact HR0.out | (with_reducible refine Kd.C_alloc ?_ _) | (with_reducible refine Kd.C_drewN ?_ _) | (with_reducible refine Kd.C_drew ?_))); (case side2 => exact HC0.out); rintro e w19 ⟨rfl, hb⟩; refine ⟨_, rfl, ?_⟩; have n0_ := Aside0.mk (below_step (by repeat (first | (with_reducible first | exact HB.out | apply below_alloc | apply pw_below_drewN | apply below_drew1) | exact HB.out)) hb); clear HB; have HB := n0_; clear n0_; (try clear hb); (try clear hb2); (try clear hk); (try clear hi); obtain ⟨i020, hi020, _, hsz20, _⟩ := info_parts info5; obtain ⟨A20, hcut20, hA20, hC20⟩ := print_mid_of (P := Try.prog) (Value.int .u8) 0 36 5 .i64 .i64 Try.underlying36 hi020 hsz20 A0 c0 l0 t102 (ji12) (of_decide_eq_true (by first | (with_reducible assumption) | assumption)) (by first | omega | exact of_decide_eq_true (by first | (with_reducible assumption) | assumption)) (of_decide_eq_true (by first | (with_reducible assumption) | assumption)) HC0.out; have HR104 := Aside0.mk (Kd.C_of_reads (h1 := fun _ => rfl) (hA20 _ (Kd.reads_of_C HR0.out))); have HC104 := Aside0.mk hC20; clear hA20 hC20 hi020 hsz20) | ((with_reducible refine gate_callee (f := 96) rfl ?_); refine goesL_ (some 36) rfl rfl Try.func96 (by kernel_rfl) rfl #[.slice A20 ((l0.take ((ji12) : Int).toNat).drop (t102 : Int).toNat).length (c0 - t102.toNat)] rfl (by (try simp only [List.map_toArray, List.map_cons, List.map_nil]); first | done | (rw [show ((l0.take ((ji12) : Int).toNat).drop (t102 : Int).toNat).length = ((ji12).toNat - t102.toNat) from (by rw [List.length_drop, List.length_take]; have h_ : ((ji12) : Int) ≤ (l0.length : Int) := of_decide_eq_true (by first | (with_reducible assumption) | assumption); omega)] <;> rfl) | (simp only [hji12]; rfl) | rfl | (simp only [List.length_drop, List.length_take]; rfl)) ?_; (with_reducible refine (bytes_Clone.calls _ _ ((l0.take ((ji12) : Int).toNat).drop (t102 : Int).toNat) t105 _ ?side1 ?side2 A11.out).mono ?_); (case side1 => repeat (first | exact (Kd.C_below HR104.out HB.out) | (with_reducible refine Kd.C_alloc ?_ _) | (with_reducible refine Kd.C_drewN ?_ _) | (with_reducible refine Kd.C_drew ?_))); (case side2 => exact HC104.out); rintro e w21 ⟨v106, rfl, ho0, hb⟩; refine ⟨_, rfl, ?_⟩; have n0_ := Aside0.mk (Kd.R_lower ho0 (below_size (by repeat (first | (with_reducible first | exact HB.out | apply below_alloc | apply pw_below_drewN | apply below_drew1) | exact HB.out)))); have n1_ := Aside0.mk (below_step (by repeat (first | (with_reducible first | exact HB.out | apply below_alloc | apply pw_below_drewN | apply below_drew1) | exact HB.out)) hb); clear HB; have HO107 := n0_; have HB := n1_; clear n0_ n1_; (try clear hb); (try clear hb2); (try clear hk); (try clear hi); (try clear ho0)))
                      have n0_ := Aside0.mk (Kd.R_drew HO107.out)
                      have n1_ := Aside0.mk (below_drew1 HB.out)
                      clear HO107
                      clear HB
                      have HO107 := n0_
                      have HB := n1_
                      clear n0_ n1_
                      obtain ⟨i023, hi023, _, hsz23, _⟩ := info_parts info5
                      obtain ⟨A23, hcut23, hA23, hC23⟩ := print_mid_of (P := Try.prog) (Value.int .u8) 0 36 5 .i64 .i64 Try.underlying36 hi023 hsz23 A0 c0 l0 (ji12) (wrap64 ((ji12) + 4)) (of_decide_eq_true (by first | (with_reducible assumption) | assumption)) (by first | omega | exact of_decide_eq_true (by first | (with_reducible assumption) | assumption)) (of_decide_eq_true (by first | (with_reducible assumption) | assumption)) HC0.out
                      have HR108 := Aside0.mk (Kd.C_of_reads (h1 := fun _ => rfl) (hA23 _ (Kd.reads_of_C HR0.out)))
                      have HC108 := Aside0.mk hC23
                      clear hA23 hC23 hi023 hsz23
                      obtain ⟨Ao24, co24, eo24⟩ := Kd.R_slice HO107.out
                      (first | subst eo24 | (injection eo24 with f1_ f2_ f3_; have f4_ := f1_.symm; have f5_ := f3_.symm; clear f1_ f2_ f3_; subst f4_; subst f5_))
                      refine start_ (n := 9) (S := fun w' => True) (ds := []) #[false, false, false, false, false, false, false, false, false] (by kernel_rfl) rfl rfl trivial (fun hHeld => ?_); refine with_tabW frame_Get.tab10 frame_Get.bits10 (fun HT_ HW_ => ?_)
                      generalize w21.drew = w22 at HO107 HB HR108 hHeld ⊢
                      refine pure_ (i := 0) (N := some 37) (v := ?_) (a' := ?_) #[true, false, false, false, false, false, false, false, false] rfl rfl (any_of HT_.out (by kernel_rfl)) (fun _ _ _ h => h) (Or.inl ⟨by rfl, ?_⟩) ?_ ?_
                      rotate_left
                      · intro w'
                        go_simp
                        with_reducible rfl
                      rotate_left
                      · simp only [Act.put, List.setIfInBounds_toArray, List.set_cons_zero, List.set_cons_succ, i64_w, i32_w]
                        rfl
                      refine pure_ (i := 1) (N := some 38) (v := ?_) (a' := ?_) #[true, true, false, false, false, false, false, false, false] rfl rfl (any_of HT_.out (by kernel_rfl)) (fun _ _ _ h => h) (Or.inl ⟨by rfl, ?_⟩) ?_ ?_
                      rotate_left
                      · intro w'
                        go_simp
                        with_reducible rfl
                      rotate_left
                      · simp only [Act.put, List.setIfInBounds_toArray, List.set_cons_zero, List.set_cons_succ, i64_w, i32_w]
                        rfl
                      refine pure_ (i := 2) (N := some 39) (v := ?_) (a' := ?_) #[true, true, true, false, false, false, false, false, false] rfl rfl (any_of HT_.out (by kernel_rfl)) (fun _ _ _ h => h) (Or.inl ⟨by rfl, ?_⟩) ?_ ?_
                      rotate_left
                      · intro w'
                        go_simp
                        with_reducible rfl
                      rotate_left
                      · simp only [Act.put, List.setIfInBounds_toArray, List.set_cons_zero, List.set_cons_succ, i64_w, i32_w]
                        rfl
                      refine pure_ (i := 3) (N := some 40) (v := ?_) (a' := ?_) #[true, true, true, true, false, false, false, false, false] rfl rfl (any_of HT_.out (by kernel_rfl)) (fun _ _ _ h => h) (Or.inl ⟨by rfl, ?_⟩) ?_ ?_
                      rotate_left
                      · intro w'
                        go_simp
                        with_reducible rfl
                      rotate_left
                      · simp only [Act.put, List.setIfInBounds_toArray, List.set_cons_zero, List.set_cons_succ, i64_w, i32_w]
                        rfl
                      refine pure_ (i := 4) (N := some 41) (v := ?_) (a' := ?_) #[true, true, true, true, true, false, false, false, false] rfl rfl (any_of HT_.out (by kernel_rfl)) (fun _ _ _ h => h) (Or.inl ⟨by rfl, ?_⟩) ?_ ?_
                      rotate_left
                      · intro w'
                        go_simp
                        with_reducible rfl
                      rotate_left
                      · simp only [Act.put, List.setIfInBounds_toArray, List.set_cons_zero, List.set_cons_succ, i64_w, i32_w]
                        rfl
                      refine pure_ (i := 5) (N := some 42) (v := ?_) (a' := ?_) #[true, true, true, true, true, true, false, false, false] rfl rfl (any_of HT_.out (by kernel_rfl)) (fun _ _ _ h => h) (Or.inl ⟨by rfl, ?_⟩) ?_ ?_
                      rotate_left
                      · intro w'
                        go_simp
                        with_reducible rfl
                      rotate_left
                      · simp only [Act.put, List.setIfInBounds_toArray, List.set_cons_zero, List.set_cons_succ, i64_w, i32_w]
                        rfl
                      refine one_ (i := 6) (N := some 43) #[true, true, true, true, true, true, true, false, false] rfl rfl (one_of HT_.out (by kernel_rfl)) (by decide) (fun K hK => ?_)
                      refine goes_ Try.func74 (by kernel_rfl) rfl #[.slice Ao24 t105.length co24] (by rfl) rfl rfl (by (try simp only [List.map_toArray, List.map_cons, List.map_nil]); first | done | rfl | (simp only [List.length_drop, List.length_take]; rfl)) ?_
                      with_reducible refine (frame_sum.calls k _ _ t105 t109 _ ?side1 ?side2 A16.out).mono ?_
                      (case side1 => repeat (first | exact (Kd.R_reads' HO107.out).2.2 | (with_reducible refine Kd.C_alloc ?_ _) | (with_reducible refine Kd.C_drewN ?_ _) | (with_reducible refine Kd.C_drew ?_)))
                      (case side2 => exact (Kd.R_reads' HO107.out).2.1)
                      rintro e w25 ⟨v110, rfl, ho0, hb⟩
                      refine ⟨_, rfl, ?_⟩
                      have n0_ := Aside0.mk (Kd.R_elder' (by (with_reducible repeat (first | apply Kd.R_alloc | apply Kd.R_drewN | apply Kd.R_drew)); exact HO107.out) (Kd.R_base ho0) hb)
                      have n1_ := Aside0.mk (Kd.R_lower (Kd.R_new' ho0 (Kd.R_lt (by (with_reducible repeat (first | apply Kd.R_alloc | apply Kd.R_drewN | apply Kd.R_drew)); exact HO107.out))) (below_size (by repeat (first | (with_reducible first | exact HB.out | apply below_alloc | apply pw_below_drewN | apply below_drew1) | exact HB.out))))
                      have n2_ := Aside0.mk (below_step (by repeat (first | (with_reducible first | exact HB.out | apply below_alloc | apply pw_below_drewN | apply below_drew1) | exact HB.out)) hb)
                      clear HO107
                      clear HB
                      have HO107 := n0_
                      have HO111 := n1_
                      have HB := n2_
                      clear n0_ n1_ n2_
                      (try clear hb)
                      (try clear hb2)
                      (try clear hk)
                      (try clear hi)
                      (try clear ho0)
                      obtain ⟨Ao26, co26, eo26⟩ := Kd.R_slice HO111.out
                      (first | subst eo26 | (injection eo26 with f1_ f2_ f3_; have f4_ := f1_.symm; have f5_ := f3_.symm; clear f1_ f2_ f3_; subst f4_; subst f5_))
                      refine hK.out _ _ trivial (fun hHeld => ?_)
                      clear hK K
                      refine norm_ (a' := ?_) ?_ ?_
                      rotate_left
                      · show Act.put _ (some 43) _ = _
                        simp only [Act.put, List.setIfInBounds_toArray, List.set_cons_zero, List.set_cons_succ, i64_w, i32_w]
                        rfl
                      refine one_ (i := 7) (N := some 44) #[true, true, true, true, true, true, true, true, false] rfl rfl (one_of HT_.out (by kernel_rfl)) (by decide) (fun K hK => ?_)
                      refine goes_ Try.func51 (by kernel_rfl) rfl #[.slice A23 ((l0.take ((wrap64 ((ji12) + 4)) : Int).toNat).drop ((ji12) : Int).toNat).length (c0 - (ji12).toNat), .slice Ao26 t109.length co26] (by rfl) rfl rfl (by (try simp only [List.map_toArray, List.map_cons, List.map_nil]); first | done | (rw [show ((l0.take ((wrap64 ((ji12) + 4)) : Int).toNat).drop ((ji12) : Int).toNat).length = ((wrap64 ((ji12) + 4)).toNat - (ji12).toNat) from (by rw [List.length_drop, List.length_take]; have h_ : ((wrap64 ((ji12) + 4)) : Int) ≤ (l0.length : Int) := of_decide_eq_true (by first | (with_reducible assumption) | assumption); omega)] <;> rfl) | (simp only [hji12]; rfl) | rfl | (simp only [List.length_drop, List.length_take]; rfl)) ?_
                      with_reducible refine (bytes_Equal.calls _ _ ((l0.take ((wrap64 ((ji12) + 4)) : Int).toNat).drop ((ji12) : Int).toNat) _ _ t109 true _ ?side1 ?side2 ?side3 ?side4 A17.out).mono ?_
                      (case side1 => repeat (first | exact (Kd.C_below HR108.out HB.out) | (with_reducible refine Kd.C_alloc ?_ _) | (with_reducible refine Kd.C_drewN ?_ _) | (with_reducible refine Kd.C_drew ?_)))
                      (case side2 => exact HC108.out)
                      (case side3 => repeat (first | exact (Kd.R_reads' HO111.out).2.2 | (with_reducible refine Kd.C_alloc ?_ _) | (with_reducible refine Kd.C_drewN ?_ _) | (with_reducible refine Kd.C_drew ?_)))
                      (case side4 => exact (Kd.R_reads' HO111.out).2.1)
                      rintro e w' ⟨rfl, ⟨nd, rfl⟩⟩
                      refine ⟨_, rfl, ?_⟩
                      refine hK.out _ _ trivial (fun hHeld => ?_)
                      clear hK K
                      refine norm_ (a' := ?_) ?_ ?_
                      rotate_left
                      · show Act.put _ (some 44) _ = _
                        simp only [Act.put, List.setIfInBounds_toArray, List.set_cons_zero, List.set_cons_succ, i64_w, i32_w]
                        rfl
                      refine pure_ (i := 8) (N := some 45) (v := ?_) (a' := ?_) #[true, true, true, true, true, true, true, true, true] rfl rfl (any_of HT_.out (by kernel_rfl)) (fun _ _ _ h => h) (Or.inl ⟨by rfl, ?_⟩) ?_ ?_
                      rotate_left
                      · intro w'
                        go_simp
                        with_reducible rfl
                      rotate_left
                      · simp only [Act.put, List.setIfInBounds_toArray, List.set_cons_zero, List.set_cons_succ, i64_w, i32_w]
                        rfl
                      refine done_ (done_of HT_.out (by kernel_rfl)) ?_
                      try go_wp2
                      go_ret3
                      exact ⟨_, by first | rfl | (simp [errW_none, errW_some] <;> rfl) | (simp only [← hji12]; first | rfl | (simp [errW_none, errW_some] <;> rfl)) | (simp [*, errW_none, errW_some] <;> rfl), by (with_reducible repeat (first | apply Kd.R_alloc | apply Kd.R_drewN | apply Kd.R_drew)); exact Kd.R_mono HO107.out (fun _ hk => trivial), by repeat (first | (with_reducible first | exact HB.out | apply below_alloc | apply pw_below_drewN | apply below_drew1) | exact HB.out)⟩
                    · replace c18 := Bool.eq_false_iff.mpr c18
                      subst c18
                      have H1 : (some (([] : List Int), 0, 4)) = some (r1, r2, r3) := by rw [if_neg (show ¬ (false = true) by decide)] at H; exact H
                      clear H
                      have H := H1
                      clear H1
                      simp only [Option.some.injEq, Prod.mk.injEq] at H
                      obtain ⟨rfl, rfl, rfl⟩ := H
                      go_enter Try.func78, Try.ntmps78
                      try go_wp2_with (first | ((with_reducible refine gate_callee (f := 80) rfl ?_); refine goesL_ (some 12) rfl rfl Try.func80 (by kernel_rfl) rfl #[.slice A0 l0.length c0] rfl (by (try simp only [List.map_toArray, List.map_cons, List.map_nil]); first | done | rfl | (simp only [List.length_drop, List.length_take]; rfl)) ?_; (with_reducible refine (num_Get.calls _ _ l0 t101 t102 t103 _ ?side1 ?side2 A2.out).mono ?_); (case side1 => repeat (first | exact HR0.out | (with_reducible refine Kd.C_alloc ?_ _) | (with_reducible refine Kd.C_drewN ?_ _) | (with_reducible refine Kd.C_drew ?_))); (case side2 => exact HC0.out); rintro e w27 ⟨rfl, hb⟩; refine ⟨_, rfl, ?_⟩; have n0_ := Aside0.mk (below_step (by repeat (first | (with_reducible first | exact HB.out | apply below_alloc | apply pw_below_drewN | apply below_drew1) | exact HB.out)) hb); clear HB; have HB := n0_; clear n0_; (try clear hb); (try clear hb2); (try clear hk); (try clear hi); obtain ⟨i028, hi028, _, hsz28, _⟩ := info_parts info5; obtain ⟨A28, hcut28, hA28, hC28⟩ := print_mid_of (P := Try.prog) (Value.int .u8) 0 36 5 .i64 .i64 Try.underlying36 hi028 hsz28 A0 c0 l0 t102 (ji12) (of_decide_eq_true (by first | (with_reducible assumption) | assumption)) (by first | omega | exact of_decide_eq_true (by first | (with_reducible assumption) | assumption)) (of_decide_eq_true (by first | (with_reducible assumption) | assumption)) HC0.out; have HR104 := Aside0.mk (Kd.C_of_reads (h1 := fun _ => rfl) (hA28 _ (Kd.reads_of_C HR0.out))); have HC104 := Aside0.mk hC28; clear hA28 hC28 hi028 hsz28) | ((with_reducible refine gate_callee (f := 96) rfl ?_); refine goesL_ (some 36) rfl rfl Try.func96 (by kernel_rfl) rfl #[.slice A28 ((l0.take ((ji12) : Int).toNat).drop (t102 : Int).toNat).length (c0 - t102.toNat)] rfl (by (try simp only [List.map_toArray, List.map_cons, List.map_nil]); first | done | (rw [show ((l0.take ((ji12) : Int).toNat).drop (t102 : Int).toNat).length = ((ji12).toNat - t102.toNat) from (by rw [List.length_drop, List.length_take]; have h_ : ((ji12) : Int) ≤ (l0.length : Int) := of_decide_eq_true (by first | (with_reducible assumption) | assumption); omega)] <;> rfl) | (simp only [hji12]; rfl) | rfl | (simp only [List.length_drop, List.length_take]; rfl)) ?_; (with_reducible refine (bytes_Clone.calls _ _ ((l0.take ((ji12) : Int).toNat).drop (t102 : Int).toNat) t105 _ ?side1 ?side2 A11.out).mono ?_); (case side1 => repeat (first | exact (Kd.C_below HR104.out HB.out) | (with_reducible refine Kd.C_alloc ?_ _) | (with_reducible refine Kd.C_drewN ?_ _) | (with_reducible refine Kd.C_drew ?_))); (case side2 => exact HC104.out); rintro e w29 ⟨v106, rfl, ho0, hb⟩; refine ⟨_, rfl, ?_⟩; have n0_ := Aside0.mk (Kd.R_lower ho0 (below_size (by repeat (first | (with_reducible first | exact HB.out | apply below_alloc | apply pw_below_drewN | apply below_drew1) | exact HB.out)))); have n1_ := Aside0.mk (below_step (by repeat (first | (with_reducible first | exact HB.out | apply below_alloc | apply pw_below_drewN | apply below_drew1) | exact HB.out)) hb); clear HB; have HO107 := n0_; have HB := n1_; clear n0_ n1_; (try clear hb); (try clear hb2); (try clear hk); (try clear hi); (try clear ho0)))
                      have n0_ := Aside0.mk (Kd.R_drew HO107.out)
                      have n1_ := Aside0.mk (below_drew1 HB.out)
                      clear HO107
                      clear HB
                      have HO107 := n0_
                      have HB := n1_
                      clear n0_ n1_
                      obtain ⟨i031, hi031, _, hsz31, _⟩ := info_parts info5
                      obtain ⟨A31, hcut31, hA31, hC31⟩ := print_mid_of (P := Try.prog) (Value.int .u8) 0 36 5 .i64 .i64 Try.underlying36 hi031 hsz31 A0 c0 l0 (ji12) (wrap64 ((ji12) + 4)) (of_decide_eq_true (by first | (with_reducible assumption) | assumption)) (by first | omega | exact of_decide_eq_true (by first | (with_reducible assumption) | assumption)) (of_decide_eq_true (by first | (with_reducible assumption) | assumption)) HC0.out
                      have HR108 := Aside0.mk (Kd.C_of_reads (h1 := fun _ => rfl) (hA31 _ (Kd.reads_of_C HR0.out)))
                      have HC108 := Aside0.mk hC31
                      clear hA31 hC31 hi031 hsz31
                      obtain ⟨Ao32, co32, eo32⟩ := Kd.R_slice HO107.out
                      (first | subst eo32 | (injection eo32 with f1_ f2_ f3_; have f4_ := f1_.symm; have f5_ := f3_.symm; clear f1_ f2_ f3_; subst f4_; subst f5_))
                      refine start_ (n := 9) (S := fun w' => True) (ds := []) #[false, false, false, false, false, false, false, false, false] (by kernel_rfl) rfl rfl trivial (fun hHeld => ?_); refine with_tabW frame_Get.tab10 frame_Get.bits10 (fun HT_ HW_ => ?_)
                      generalize w29.drew = w30 at HO107 HB HR108 hHeld ⊢
                      refine pure_ (i := 0) (N := some 37) (v := ?_) (a' := ?_) #[true, false, false, false, false, false, false, false, false] rfl rfl (any_of HT_.out (by kernel_rfl)) (fun _ _ _ h => h) (Or.inl ⟨by rfl, ?_⟩) ?_ ?_
                      rotate_left
                      · intro w'
                        go_simp
                        with_reducible rfl
                      rotate_left
                      · simp only [Act.put, List.setIfInBounds_toArray, List.set_cons_zero, List.set_cons_succ, i64_w, i32_w]
                        rfl
                      refine pure_ (i := 1) (N := some 38) (v := ?_) (a' := ?_) #[true, true, false, false, false, false, false, false, false] rfl rfl (any_of HT_.out (by kernel_rfl)) (fun _ _ _ h => h) (Or.inl ⟨by rfl, ?_⟩) ?_ ?_
                      rotate_left
                      · intro w'
                        go_simp
                        with_reducible rfl
                      rotate_left
                      · simp only [Act.put, List.setIfInBounds_toArray, List.set_cons_zero, List.set_cons_succ, i64_w, i32_w]
                        rfl
                      refine pure_ (i := 2) (N := some 39) (v := ?_) (a' := ?_) #[true, true, true, false, false, false, false, false, false] rfl rfl (any_of HT_.out (by kernel_rfl)) (fun _ _ _ h => h) (Or.inl ⟨by rfl, ?_⟩) ?_ ?_
                      rotate_left
                      · intro w'
                        go_simp
                        with_reducible rfl
                      rotate_left
                      · simp only [Act.put, List.setIfInBounds_toArray, List.set_cons_zero, List.set_cons_succ, i64_w, i32_w]
                        rfl
                      refine pure_ (i := 3) (N := some 40) (v := ?_) (a' := ?_) #[true, true, true, true, false, false, false, false, false] rfl rfl (any_of HT_.out (by kernel_rfl)) (fun _ _ _ h => h) (Or.inl ⟨by rfl, ?_⟩) ?_ ?_
                      rotate_left
                      · intro w'
                        go_simp
                        with_reducible rfl
                      rotate_left
                      · simp only [Act.put, List.setIfInBounds_toArray, List.set_cons_zero, List.set_cons_succ, i64_w, i32_w]
                        rfl
                      refine pure_ (i := 4) (N := some 41) (v := ?_) (a' := ?_) #[true, true, true, true, true, false, false, false, false] rfl rfl (any_of HT_.out (by kernel_rfl)) (fun _ _ _ h => h) (Or.inl ⟨by rfl, ?_⟩) ?_ ?_
                      rotate_left
                      · intro w'
                        go_simp
                        with_reducible rfl
                      rotate_left
                      · simp only [Act.put, List.setIfInBounds_toArray, List.set_cons_zero, List.set_cons_succ, i64_w, i32_w]
                        rfl
                      refine pure_ (i := 5) (N := some 42) (v := ?_) (a' := ?_) #[true, true, true, true, true, true, false, false, false] rfl rfl (any_of HT_.out (by kernel_rfl)) (fun _ _ _ h => h) (Or.inl ⟨by rfl, ?_⟩) ?_ ?_
                      rotate_left
                      · intro w'
                        go_simp
                        with_reducible rfl
                      rotate_left
                      · simp only [Act.put, List.setIfInBounds_toArray, List.set_cons_zero, List.set_cons_succ, i64_w, i32_w]
                        rfl
                      refine one_ (i := 6) (N := some 43) #[true, true, true, true, true, true, true, false, false] rfl rfl (one_of HT_.out (by kernel_rfl)) (by decide) (fun K hK => ?_)
                      refine goes_ Try.func74 (by kernel_rfl) rfl #[.slice Ao32 t105.length co32] (by rfl) rfl rfl (by (try simp only [List.map_toArray, List.map_cons, List.map_nil]); first | done | rfl | (simp only [List.length_drop, List.length_take]; rfl)) ?_
                      with_reducible refine (frame_sum.calls k _ _ t105 t109 _ ?side1 ?side2 A16.out).mono ?_
                      (case side1 => repeat (first | exact (Kd.R_reads' HO107.out).2.2 | (with_reducible refine Kd.C_alloc ?_ _) | (with_reducible refine Kd.C_drewN ?_ _) | (with_reducible refine Kd.C_drew ?_)))
                      (case side2 => exact (Kd.R_reads' HO107.out).2.1)
                      rintro e w33 ⟨v110, rfl, ho0, hb⟩
                      refine ⟨_, rfl, ?_⟩
                      have n0_ := Aside0.mk (Kd.R_elder' (by (with_reducible repeat (first | apply Kd.R_alloc | apply Kd.R_drewN | apply Kd.R_drew)); exact HO107.out) (Kd.R_base ho0) hb)
                      have n1_ := Aside0.mk (Kd.R_lower (Kd.R_new' ho0 (Kd.R_lt (by (with_reducible repeat (first | apply Kd.R_alloc | apply Kd.R_drewN | apply Kd.R_drew)); exact HO107.out))) (below_size (by repeat (first | (with_reducible first | exact HB.out | apply below_alloc | apply pw_below_drewN | apply below_drew1) | exact HB.out))))
                      have n2_ := Aside0.mk (below_step (by repeat (first | (with_reducible first | exact HB.out | apply below_alloc | apply pw_below_drewN | apply below_drew1) | exact HB.out)) hb)
                      clear HO107
                      clear HB
                      have HO107 := n0_
                      have HO111 := n1_
                      have HB := n2_
                      clear n0_ n1_ n2_
                      (try clear hb)
                      (try clear hb2)
                      (try clear hk)
                      (try clear hi)
                      (try clear ho0)
                      obtain ⟨Ao34, co34, eo34⟩ := Kd.R_slice HO111.out
                      (first | subst eo34 | (injection eo34 with f1_ f2_ f3_; have f4_ := f1_.symm; have f5_ := f3_.symm; clear f1_ f2_ f3_; subst f4_; subst f5_))
                      refine hK.out _ _ trivial (fun hHeld => ?_)
                      clear hK K
                      refine norm_ (a' := ?_) ?_ ?_
                      rotate_left
                      · show Act.put _ (some 43) _ = _
                        simp only [Act.put, List.setIfInBounds_toArray, List.set_cons_zero, List.set_cons_succ, i64_w, i32_w]
                        rfl
                      refine one_ (i := 7) (N := some 44) #[true, true, true, true, true, true, true, true, false] rfl rfl (one_of HT_.out (by kernel_rfl)) (by decide) (fun K hK => ?_)
                      refine goes_ Try.func51 (by kernel_rfl) rfl #[.slice A31 ((l0.take ((wrap64 ((ji12) + 4)) : Int).toNat).drop ((ji12) : Int).toNat).length (c0 - (ji12).toNat), .slice Ao34 t109.length co34] (by rfl) rfl rfl (by (try simp only [List.map_toArray, List.map_cons, List.map_nil]); first | done | (rw [show ((l0.take ((wrap64 ((ji12) + 4)) : Int).toNat).drop ((ji12) : Int).toNat).length = ((wrap64 ((ji12) + 4)).toNat - (ji12).toNat) from (by rw [List.length_drop, List.length_take]; have h_ : ((wrap64 ((ji12) + 4)) : Int) ≤ (l0.length : Int) := of_decide_eq_true (by first | (with_reducible assumption) | assumption); omega)] <;> rfl) | (simp only [hji12]; rfl) | rfl | (simp only [List.length_drop, List.length_take]; rfl)) ?_
                      with_reducible refine (bytes_Equal.calls _ _ ((l0.take ((wrap64 ((ji12) + 4)) : Int).toNat).drop ((ji12) : Int).toNat) _ _ t109 false _ ?side1 ?side2 ?side3 ?side4 A17.out).mono ?_
                      (case side1 => repeat (first | exact (Kd.C_below HR108.out HB.out) | (with_reducible refine Kd.C_alloc ?_ _) | (with_reducible refine Kd.C_drewN ?_ _) | (with_reducible refine Kd.C_drew ?_)))
                      (case side2 => exact HC108.out)
                      (case side3 => repeat (first | exact (Kd.R_reads' HO111.out).2.2 | (with_reducible refine Kd.C_alloc ?_ _) | (with_reducible refine Kd.C_drewN ?_ _) | (with_reducible refine Kd.C_drew ?_)))
                      (case side4 => exact (Kd.R_reads' HO111.out).2.1)
                      rintro e w' ⟨rfl, ⟨nd, rfl⟩⟩
                      refine ⟨_, rfl, ?_⟩
                      refine hK.out _ _ trivial (fun hHeld => ?_)
                      clear hK K
                      refine norm_ (a' := ?_) ?_ ?_
                      rotate_left
                      · show Act.put _ (some 44) _ = _
                        simp only [Act.put, List.setIfInBounds_toArray, List.set_cons_zero, List.set_cons_succ, i64_w, i32_w]
                        rfl
                      refine pure_ (i := 8) (N := some 45) (v := ?_) (a' := ?_) #[true, true, true, true, true, true, true, true, true] rfl rfl (any_of HT_.out (by kernel_rfl)) (fun _ _ _ h => h) (Or.inl ⟨by rfl, ?_⟩) ?_ ?_
                      rotate_left
                      · intro w'
                        go_simp
                        with_reducible rfl
                      rotate_left
                      · simp only [Act.put, List.setIfInBounds_toArray, List.set_cons_zero, List.set_cons_succ, i64_w, i32_w]
                        rfl
                      refine done_ (done_of HT_.out (by kernel_rfl)) ?_
                      try go_wp2
                      go_ret3
                      exact ⟨_, by first | rfl | (simp [errW_none, errW_some] <;> rfl) | (simp only [← hji12]; first | rfl | (simp [errW_none, errW_some] <;> rfl)) | (simp [*, errW_none, errW_some] <;> rfl), by first | exact Kd.R_nil _ _ _ _ _ | exact Kd.N_nil _ _ _ _ _ | exact Kd.V_nil _ _ _ _ _ | exact Kd.Q_nil _ _ _ _ _ | exact Kd.S_nil _ _ _ _ _, by repeat (first | (with_reducible first | exact HB.out | apply below_alloc | apply pw_below_drewN | apply below_drew1) | exact HB.out)⟩
                  · rw [if_neg c15] at H
                    exact absurd H (by simp)
                · rw [if_neg c14] at H
                  exact absurd H (by simp)
              · rw [if_neg c13] at H
                exact absurd H (by simp)
            · rw [if_neg c10] at H
              exact absurd H (by simp)
          · rw [if_neg c9] at H
            exact absurd H (by simp)
        · rw [if_neg c8] at H
          exact absurd H (by simp)
  · rw [if_neg c3] at H
    have c3b0 : (t103 == 0) = false := beq_eq_false_iff_ne.mpr c3
    have c3b1 : (t103 != 0) = true := bne_iff_ne.mpr c3
    simp only [Option.some.injEq, Prod.mk.injEq] at H
    obtain ⟨rfl, rfl, rfl⟩ := H
    go_enter Try.func78, Try.ntmps78
    go_wp2_with (first | ((with_reducible refine gate_callee (f := 80) rfl ?_); refine goesL_ (some 12) rfl rfl Try.func80 (by kernel_rfl) rfl #[.slice A0 l0.length c0] rfl (by (try simp only [List.map_toArray, List.map_cons, List.map_nil]); first | done | rfl | (simp only [List.length_drop, List.length_take]; rfl)) ?_; (with_reducible refine (num_Get.calls _ _ l0 t101 t102 t103 _ ?side1 ?side2 A2.out).mono ?_); (case side1 => repeat (first | exact HR0.out | (with_reducible refine Kd.C_alloc ?_ _) | (with_reducible refine Kd.C_drewN ?_ _) | (with_reducible refine Kd.C_drew ?_))); (case side2 => exact HC0.out); rintro e w35 ⟨rfl, hb⟩; refine ⟨_, rfl, ?_⟩; have n0_ := Aside0.mk (below_step (by repeat (first | (with_reducible first | exact HB.out | apply below_alloc | apply pw_below_drewN | apply below_drew1) | exact HB.out)) hb); clear HB; have HB := n0_; clear n0_; (try clear hb); (try clear hb2); (try clear hk); (try clear hi)))
    go_ret3
    exact ⟨_, by first | rfl | (simp [errW_none, errW_some] <;> rfl) | (simp [*, errW_none, errW_some] <;> rfl), by first | exact Kd.R_nil _ _ _ _ _ | exact Kd.N_nil _ _ _ _ _ | exact Kd.V_nil _ _ _ _ _ | exact Kd.Q_nil _ _ _ _ _ | exact Kd.S_nil _ _ _ _ _, by repeat (first | (with_reducible first | exact HB.out | apply below_alloc | apply pw_below_drewN | apply below_drew1) | exact HB.out)⟩

def frame_Scan.l0 : Nat → List Int → List (List Int) → Int → Option ((List (List Int)) × Int)
  | 0, _, _, _ => none
  | k + 1, x0, x4, x5 => if 0 ≤ x5 then (if x5 ≤ (x0.length : Int) then ((frame_Get.f k (x0.drop (x5 : Int).toNat)).bind fun bt114 => (if bt114.2.2 = 0 then (if x4.length < 5864062014805 then (frame_Scan.l0 k x0 (x4 ++ [bt114.1]) (wrap64 (x5 + bt114.2.1))) else (none)) else (some (x4, x5)))) else (none)) else (none)
def frame_Scan.f (k : Nat) (l0 : List Int) : Option ((List (List Int)) × Int) := frame_Scan.l0 k l0 ([] : List (List Int)) 0
set_option maxHeartbeats 8000000 in
set_option maxRecDepth 100000 in
theorem frame_Scan.calls (k : Nat) (A0 : Option Addr) (c0 : Nat) (l0 : List Int) (r1 : List (List Int)) (r2 : Int) (w : World) (hr0 : Kd.C (Kd.int .u8) w A0 l0.length l0) (hc0 : l0.length ≤ c0) (h : frame_Scan.f k l0 = some (r1, r2)) :
    Calls Try.prog 46 #[.slice A0 l0.length c0] w fun e w' => ∃ v0_ : Value, e = .returned (.tuple #[v0_, .int .i64 r2]) ∧ Kd.S (Kd.slice 5 (Kd.int .u8)) 36 w' w.heap.size (fun _ => True) v0_ r1 ∧ Below w.heap.size w w' := by
  have HR0 := Aside0.mk hr0
  have HC0 := Aside0.mk hc0
  clear hr0 hc0
  have HB := Aside0.mk (Below.refl w.heap.size w)
  have H : (frame_Scan.l0 k l0 ([] : List (List Int)) 0) = some (r1, r2) := h
  clear h
  have H' := Aside0.mk H
  clear H
  go_enter Try.func46, Try.ntmps46
  go_wp2
  go_loopg [4, 5] k (fun kq v4 v5 w' => ∃ (x4_1 : List (List Int)) (x5_1 : Int), v5 = .int .i64 x5_1 ∧ Aside0 (frame_Scan.l0 kq l0 x4_1 x5_1 = some (r1, r2)) ∧ Aside0 (kq ≤ k) ∧ Aside0 (Kd.S (Kd.slice 5 (Kd.int .u8)) 36 w' w.heap.size (fun _ => True) v4 x4_1) ∧ Aside0 (Below w.heap.size w w'))
  case atStart => exact ⟨(([] : List (List Int))), (0), (by first | rfl | (simp; done) | (simp [*]; done)), H', ⟨Nat.le_refl _⟩, ⟨by first | exact Kd.S_nil _ _ _ _ _ | exact Kd.N_nil _ _ _ _ _ | exact Kd.V_nil _ _ _ _ _ | exact Kd.Q_nil _ _ _ _ _ | exact Kd.R_nil _ _ _ _ _⟩, ⟨by repeat (first | (with_reducible first | exact HB.out | apply below_alloc | apply pw_below_drewN | apply below_drew1) | exact HB.out)⟩⟩
  case round =>
    clear H'
    obtain ⟨x4_1, x5_1, rfl, HA, HK1, HO_4, HB⟩ := hrel
    cases gk with
    | zero => exact absurd HA.out (by simp [frame_Scan.l0])
    | succ k1 =>
      have H := HA.out
      clear HA
      simp only [frame_Scan.l0] at H
      by_cases c2 : 0 ≤ x5_1
      · rw [if_pos c2] at H
        have c2b0 := eq_true c2
        have c2b1 : decide (0 ≤ x5_1) = true := decide_eq_true c2
        clear c2
        by_cases c3 : x5_1 ≤ (l0.length : Int)
        · rw [if_pos c3] at H
          have c3b0 := eq_true c3
          have c3b1 : decide (x5_1 ≤ (l0.length : Int)) = true := decide_eq_true c3
          clear c3
          replace H := Option.bind_eq_some_iff.mp H
          obtain ⟨⟨t114, t115, t116⟩, A40, H⟩ := H
          replace H : (if t116 = 0 then (if x4_1.length < 5864062014805 then (frame_Scan.l0 k1 l0 (x4_1 ++ [t114]) (wrap64 (x5_1 + t115))) else (none)) else (some (x4_1, x5_1))) = some (r1, r2) := H
          have A4 := Aside0.mk A40
          clear A40
          by_cases c5 : t116 = 0
          · rw [if_pos c5] at H
            have c5b0 : (t116 == 0) = true := beq_iff_eq.mpr c5
            have c5b1 : (t116 != 0) = false := bne_eq_false_iff_eq.mpr c5
            clear c5
            by_cases c6 : x4_1.length < 5864062014805
            · rw [if_pos c6] at H
              have LMc6 := Aside0.mk c6
              clear c6
              obtain ⟨y119, hy119⟩ : ∃ y_ : List (List Int), y_ = (x4_1 ++ [t114]) := ⟨_, rfl⟩
              replace H : (frame_Scan.l0 k1 l0 y119 (wrap64 (x5_1 + t115))) = some (r1, r2) := by first | (rw [hy119]; with_reducible exact H) | (have H2_ := (Option.bind_some _ _).symm.trans H; rw [hy119]; with_reducible exact H2_) | (have H2_ := (Option.bind_some _ _).symm.trans H; with_reducible exact H2_) | with_reducible exact H | (rw [hy119]; exact H) | exact H
              have Ny119 := Aside0.mk hy119
              clear hy119
              have H' := Aside0.mk H
              clear H
              obtain ⟨i07, hi07, _, hsz7, _⟩ := info_parts info5
              obtain ⟨A7, hcut7, hA7, hC7⟩ := print_drop_of (P := Try.prog) (Value.int .u8) 0 36 5 .i64 Try.underlying36 hi07 hsz7 A0 c0 l0 x5_1 (of_decide_eq_true (by first | (with_reducible assumption) | assumption)) (of_decide_eq_true (by first | (with_reducible assumption) | assumption)) HC0.out
              have HR113 := Aside0.mk (Kd.C_of_reads (h1 := fun _ => rfl) (hA7 _ (Kd.reads_of_C HR0.out)))
              have HC113 := Aside0.mk hC7
              clear hA7 hC7 hi07 hsz7
              go_wp2_with (first | ((with_reducible refine gate_callee (f := 78) rfl ?_); refine goesL_ (some 13) rfl rfl Try.func78 (by kernel_rfl) rfl #[.slice A7 (l0.drop (x5_1 : Int).toNat).length (c0 - x5_1.toNat)] rfl (by (try simp only [List.map_toArray, List.map_cons, List.map_nil]); first | done | (rw [show (l0.drop (x5_1 : Int).toNat).length = (l0.length - x5_1.toNat) from List.length_drop] <;> rfl) | rfl | (simp only [List.length_drop, List.length_take]; rfl)) ?_; (with_reducible refine (frame_Get.calls k1 _ _ (l0.drop (x5_1 : Int).toNat) t114 t115 t116 _ ?side1 ?side2 A4.out).mono ?_); (case side1 => repeat (first | exact (Kd.C_below HR113.out HB.out) | (with_reducible refine Kd.C_alloc ?_ _) | (with_reducible refine Kd.C_drewN ?_ _) | (with_reducible refine Kd.C_drew ?_))); (case side2 => exact HC113.out); rintro e w8 ⟨v117, rfl, ho0, hb⟩; refine ⟨_, rfl, ?_⟩; have n0_ := Aside0.mk (Kd.S_elder' (by (with_reducible repeat (first | apply Kd.S_alloc | apply Kd.S_drewN | apply Kd.S_drew)); exact HO_4.out) (Kd.R_base ho0) hb); have n1_ := Aside0.mk (Kd.R_lower ho0 (below_size (by repeat (first | (with_reducible first | exact HB.out | apply below_alloc | apply pw_below_drewN | apply below_drew1) | exact HB.out)))); have n2_ := Aside0.mk (below_step (by repeat (first | (with_reducible first | exact HB.out | apply below_alloc | apply pw_below_drewN | apply below_drew1) | exact HB.out)) hb); clear HO_4; clear HB; have HO_4 := n0_; have HO118 := n1_; have HB := n2_; clear n0_ n1_ n2_; (try clear hb); (try clear hb2); (try clear hk); (try clear hi); (try clear ho0); obtain ⟨Ao10, co10, eo10⟩ := Kd.R_slice HO118.out; subst eo10) | ((with_reducible refine gate_builtin (b := .append) (xs := #[.tmp 21, .tmp 23]) rfl ?_); at_builtin; refine Kd.S_append (Kd.slice 5 (Kd.int .u8)) (w0 := w) w.heap.size rfl (.tmp 21) (.tmp 23) 75 36 (.slice none 0 0) 24 rfl Try.underlying75 info36 rfl (by decide) (by omega) u4 x4_1 t114 [.slice Ao10 t114.length co10] (fun _ => True) (fun k_ => some k_ = (.slice Ao10 t114.length co10 : Value).ownBlock) rfl rfl ?aP (fun k_ hk_ => ((Kd.R_mono (ok' := fun k_ => ((fun _ => True)) k_ ∧ some k_ ≠ (u4 : Value).ownBlock) (Kd.R_apart' (HO118.out) (Kd.S_typed HO_4.out) (by decide)) (fun k_ hk => ⟨trivial, hk.2⟩))).1 k_ hk_.symm) ?aF ?aO ?aB ?aS ?aL ?_; (case aP => exact Kd.M_row (Kd.R_mono (Kd.R_tight rfl (Kd.R_mono (ok' := fun k_ => ((fun _ => True)) k_ ∧ some k_ ≠ (u4 : Value).ownBlock) (Kd.R_apart' (HO118.out) (Kd.S_typed HO_4.out) (by decide)) (fun k_ hk => ⟨trivial, hk.2⟩))) (fun _ h_ => h_))); (case aB => exact (by repeat (first | (with_reducible first | exact HB.out | apply below_alloc | apply pw_below_drewN | apply below_drew1) | exact HB.out))); (case aF => exact (fun _ _ => trivial)); (case aO => exact (by (with_reducible repeat (first | apply Kd.S_alloc | apply Kd.S_drewN | apply Kd.S_drew)); exact Kd.S_mono HO_4.out (fun k_ hk => ⟨trivial, fun e_ => hk.2 e_⟩))); (case aS => exact (below_size (by repeat (first | (with_reducible first | exact HB.out | apply below_alloc | apply pw_below_drewN | apply below_drew1) | exact HB.out)))); (case aL => have := LMc6.out; omega); intro v120 w9 ho hb hg hat; rw [← Ny119.out] at ho; have n0_ := Aside0.mk (hb); have n1_ := Aside0.mk (ho); clear HB; clear HO_4; clear HO118; have HB := n0_; have HO121 := n1_; clear n0_ n1_; clear ho hb hg hat))
              go_roundg k1
              case measure => have := HK1.out; omega
              case rel => exact ⟨(y119), (wrap64 (x5_1 + t115)), (by first | rfl | (simp; done) | (simp [*]; done)), H', ⟨by have := HK1.out; omega⟩, ⟨by (with_reducible repeat (first | apply Kd.S_alloc | apply Kd.S_drewN | apply Kd.S_drew)); exact HO121.out⟩, ⟨by repeat (first | (with_reducible first | exact HB.out | apply below_alloc | apply pw_below_drewN | apply below_drew1) | exact HB.out)⟩⟩
            · rw [if_neg c6] at H
              exact absurd H (by simp)
          · rw [if_neg c5] at H
            have c5b0 : (t116 == 0) = false := beq_eq_false_iff_ne.mpr c5
            have c5b1 : (t116 != 0) = true := bne_iff_ne.mpr c5
            simp only [Option.some.injEq, Prod.mk.injEq] at H
            obtain ⟨rfl, rfl⟩ := H
            obtain ⟨i011, hi011, _, hsz11, _⟩ := info_parts info5
            obtain ⟨A11, hcut11, hA11, hC11⟩ := print_drop_of (P := Try.prog) (Value.int .u8) 0 36 5 .i64 Try.underlying36 hi011 hsz11 A0 c0 l0 x5_1 (of_decide_eq_true (by first | (with_reducible assumption) | assumption)) (of_decide_eq_true (by first | (with_reducible assumption) | assumption)) HC0.out
            have HR113 := Aside0.mk (Kd.C_of_reads (h1 := fun _ => rfl) (hA11 _ (Kd.reads_of_C HR0.out)))
            have HC113 := Aside0.mk hC11
            clear hA11 hC11 hi011 hsz11
            go_wp2_with (first | ((with_reducible refine gate_callee (f := 78) rfl ?_); refine goesL_ (some 13) rfl rfl Try.func78 (by kernel_rfl) rfl #[.slice A11 (l0.drop (x5_1 : Int).toNat).length (c0 - x5_1.toNat)] rfl (by (try simp only [List.map_toArray, List.map_cons, List.map_nil]); first | done | (rw [show (l0.drop (x5_1 : Int).toNat).length = (l0.length - x5_1.toNat) from List.length_drop] <;> rfl) | rfl | (simp only [List.length_drop, List.length_take]; rfl)) ?_; (with_reducible refine (frame_Get.calls k1 _ _ (l0.drop (x5_1 : Int).toNat) t114 t115 t116 _ ?side1 ?side2 A4.out).mono ?_); (case side1 => repeat (first | exact (Kd.C_below HR113.out HB.out) | (with_reducible refine Kd.C_alloc ?_ _) | (with_reducible refine Kd.C_drewN ?_ _) | (with_reducible refine Kd.C_drew ?_))); (case side2 => exact HC113.out); rintro e w12 ⟨v117, rfl, ho0, hb⟩; refine ⟨_, rfl, ?_⟩; have n0_ := Aside0.mk (Kd.S_elder' (by (with_reducible repeat (first | apply Kd.S_alloc | apply Kd.S_drewN | apply Kd.S_drew)); exact HO_4.out) (Kd.R_base ho0) hb); have n1_ := Aside0.mk (Kd.R_lower ho0 (below_size (by repeat (first | (with_reducible first | exact HB.out | apply below_alloc | apply pw_below_drewN | apply below_drew1) | exact HB.out)))); have n2_ := Aside0.mk (below_step (by repeat (first | (with_reducible first | exact HB.out | apply below_alloc | apply pw_below_drewN | apply below_drew1) | exact HB.out)) hb); clear HO_4; clear HB; have HO_4 := n0_; have HO118 := n1_; have HB := n2_; clear n0_ n1_ n2_; (try clear hb); (try clear hb2); (try clear hk); (try clear hi); (try clear ho0)))
            go_ret2
            exact ⟨_, by first | rfl | (simp [errW_none, errW_some] <;> rfl) | (simp [*, errW_none, errW_some] <;> rfl), by (with_reducible repeat (first | apply Kd.S_alloc | apply Kd.S_drewN | apply Kd.S_drew)); exact Kd.S_mono HO_4.out (fun _ hk => trivial), by repeat (first | (with_reducible first | exact HB.out | apply below_alloc | apply pw_below_drewN | apply below_drew1) | exact HB.out)⟩
        · rw [if_neg c3] at H
          exact absurd H (by simp)
      · rw [if_neg c2] at H
        exact absurd H (by simp)

end Go.Proofs.Ytgebhidpkcjpmaa.PFg

namespace Go.Proofs.Ytgebhidpkcjpmaa.PFg
open Go.RowKit Go.Proofs.YtgebhidpkcjpmaaW.PrintWords Go.Proofs.YtgebhidpkcjpmaaW.PrintLast Go.Proofs.YtgebhidpkcjpmaaW.PrintMore Go.Proofs.Ytgebhidpkcjpmaa.K Go.Proofs.Ytgebhidpkcjpmaa.PDk Go.Proofs.Ytgebhidpkcjpmaa.PDm Go.Proofs.Ytgebhidpkcjpmaa.PEn Go.Proofs.Ytgebhidpkcjpmaa.PFl Go.Proofs.Ytgebhidpkcjpmaa.PIx Go.Proofs.Ytgebhidpkcjpmaa.PLg Go.Proofs.Ytgebhidpkcjpmaa.PMk Go.Proofs.Ytgebhidpkcjpmaa.PR13
attribute [local go_sem] max2_int min2_int max_two min_two max_three min_three max_four min_four   -- for this text's walks alone
set_option linter.unusedVariables false
set_option linter.unusedSimpArgs false

end Go.Proofs.Ytgebhidpkcjpmaa.PFg

namespace Go.Proofs.Ytgebhidpkcjpmaa.K
open Go.RowKit Go.Proofs.YtgebhidpkcjpmaaW.PrintWords Go.Proofs.YtgebhidpkcjpmaaW.PrintLast Go.Proofs.YtgebhidpkcjpmaaW.PrintMore Go.Proofs.Ytgebhidpkcjpmaa
attribute [local go_sem] max2_int min2_int max_two min_two max_three min_three max_four min_four
set_option linter.unusedVariables false
set_option linter.unusedSimpArgs false
open Go Go.Proofs.Ytgebhidpkcjpmaa.PDk
/-- The reader at block g: what isn't read of the bytes, whether they were bad, and the values of its states, counts and classes. What it reads lies in the world w1, ahead of it. -/
def Rd (w1 w : World) (g : Nat) (l : List Int) (bad : Bool) (vS vC vK : Value) : Prop :=
  ∃ A c, w.heap[g]? = some (.cells #[.slice A l.length c, .bool bad, vS, vC, vK] 94 (0, 0)) ∧ Kd.C (Kd.int .u8) w1 A l.length l ∧ l.length ≤ c ∧ byt l = true ∧ w1.heap.size ≤ g ∧ Below w1.heap.size w1 w
def Only (g : Nat) (w w' : World) : Prop := w.heap.size ≤ w'.heap.size ∧ ∀ k, k < w.heap.size → k ≠ g → w'.heap[k]? = w.heap[k]?
theorem Only.refl (g : Nat) (w : World) : Only g w w := ⟨Nat.le_refl _, fun _ _ _ => rfl⟩
theorem Only.trans {g : Nat} {a b c : World} (h : Only g a b) (k : Only g b c) : Only g a c := ⟨Nat.le_trans h.1 k.1, fun n hn hg => (k.2 n (Nat.lt_of_lt_of_le hn h.1) hg).trans (h.2 n hn hg)⟩
theorem Only.below {g : Nat} {w w' : World} (h : Below w.heap.size w w') : Only g w w' := ⟨h.size, fun k hk _ => h.block k hk⟩
theorem Only.set {w : World} {g i : Nat} (v : Value) : Only g w (w.setCell ⟨g, i, none⟩ v) := ⟨Nat.le_of_eq (by simp [World.setCell]), fun k _ hk => Below.heap_setCell w ⟨g, i, none⟩ v k hk⟩
/-- A number, up to a greatest one: the number, what is left, whether the bytes were bad. -/
def numR (l : List Int) (bad : Bool) (most : Int) : Int × List Int × Bool :=
  if (getG l).2.2 ≠ 0 ∨ most < (getG l).1 then (0, l, true) else ((getG l).1, l.drop (getG l).2.1.toNat, bad)
def oneR (l : List Int) (bad : Bool) : Int × List Int × Bool := match l with
  | [] => (0, [], true)
  | c :: r => (c, r, bad)
theorem getG_ok {l : List Int} (h : (getG l).2.2 = 0) : 1 ≤ (getG l).2.1 ∧ (getG l).2.1 ≤ (l.length : Int) := by
  unfold getG at h ⊢
  cases hs : scn l 10 0 with
  | none => rw [hs] at h; cases h
  | some s =>
    rw [hs] at h
    dsimp only at h ⊢
    by_cases hc : s = 10 ∨ (s = 9 ∧ 1 < rd l (9 : Int)) ∨ (0 < s ∧ rd l (s : Int) = 0)
    · rw [if_pos hc] at h; cases h
    · rw [if_neg hc]
      dsimp only
      rcases scn_ok l 10 0 s hs (Nat.zero_le _) with h1 | h1
      · exact absurd (.inl (by omega)) hc
      · omega
theorem byt_drop {l : List Int} (h : byt l = true) (i : Nat) : byt (l.drop i) = true := List.all_eq_true.2 fun x hx => List.all_eq_true.1 h x (List.mem_of_mem_drop hx)
set_option maxHeartbeats 4000000 in
set_option maxRecDepth 100000 in
theorem rnum_k {w1 w : World} {g : Nat} {l : List Int} {bad : Bool} {vS vC vK : Value} (h : Rd w1 w g l bad vS vC vK) (most : Int) :
    Calls Try.prog 50 #[.pointer (some ⟨g, 0, none⟩), .int .u64 most] w fun e w' => e = .returned (.int .u64 (numR l bad most).1) ∧ Rd w1 w' g (numR l bad most).2.1 (numR l bad most).2.2 vS vC vK ∧ Only g w w' := by
  obtain ⟨A, c, hg, hC, hc, hb, hsz, hB⟩ := h
  have HN := Aside0.mk (numGet_k A c l w (Kd.C_below hC hB) hc hb)
  have HG := Aside0.mk hg; have HC := Aside0.mk hC; have HLC := Aside0.mk hc; have HBY := Aside0.mk hb; have HSZ := Aside0.mk hsz; have HB := Aside0.mk hB
  have hlen : (l.length : Int) ≤ 9223372036854775807 := by have := hC.2.1; omega
  clear hg hC hc hb hsz hB
  have huR := Try.underlying92
  have e0 : w.cell? ⟨g, 0, none⟩ = some (.slice A l.length c) := (blk_cell HG.out 0).trans rfl
  have e1 : w.cell? ⟨g, 1, none⟩ = some (.bool bad) := (blk_cell HG.out 1).trans rfl
  by_cases hbad : (getG l).2.2 ≠ 0 ∨ most < (getG l).1
  · have HR := Aside0.mk (show numR l bad most = (0, l, true) by unfold numR; rw [if_pos hbad])
    generalize getG l = G at HN hbad
    obtain ⟨n, k, e⟩ := G
    dsimp only at HN hbad
    go_enter Try.func50, Try.ntmps50
    go_wp2_with (first | (go_at_call 80; (with_reducible refine (HN.out).mono ?_)))
    (first | rintro x w2 rfl hb2 | rintro x w2 ⟨rfl, hb2⟩)
    have HG2 := Aside0.mk ((hb2.block g (blk_lt HG.out)).trans HG.out)
    have HB2 := Aside0.mk (HB.out.trans (hb2.mono HB.out.size))
    have HO2 := Aside0.mk (Only.below (g := g) hb2)
    clear hb2 HN e0 e1 HG
    have f1 := blk_frozen HG2.out 1
    have e1 : w2.cell? ⟨g, 1, none⟩ = some (.bool bad) := (blk_cell HG2.out 1).trans rfl
    have hfin : ∀ W, W = w2.setCell ⟨g, 1, none⟩ (.bool true) → (Rd w1 W g l true vS vC vK ∧ Only g w W) := fun W hW => by
      subst hW
      exact ⟨⟨A, c, blk_put HG2.out 1 (.bool true) rfl, HC.out, HLC.out, HBY.out, HSZ.out, HB2.out.setCell (p := ⟨g, 1, none⟩) HSZ.out (.bool true)⟩, HO2.out.trans (Only.set _)⟩
    have HFIN := Aside0.mk hfin
    clear hfin
    by_cases he : e ≠ 0
    · have hd : (e == 0) = false := by simpa using he
      clear hbad
      go_wp2
      go_ret
      rw [HR.out]
      exact ⟨rfl, HFIN.out _ rfl⟩
    · obtain rfl : e = 0 := by simpa using he
      have hd : decide (most < n) = true := decide_eq_true (by rcases hbad with h | h; exact absurd rfl h; exact h)
      clear hbad he
      go_wp2
      go_ret
      rw [HR.out]
      exact ⟨rfl, HFIN.out _ rfl⟩
  · have hne : (getG l).2.2 = 0 := Classical.byContradiction fun h => hbad (.inl h)
    have hle : ¬ most < (getG l).1 := fun h => hbad (.inr h)
    obtain ⟨k1, k2⟩ := getG_ok hne
    have HR := Aside0.mk (show numR l bad most = ((getG l).1, l.drop (getG l).2.1.toNat, bad) by unfold numR; rw [if_neg hbad])
    clear hbad
    generalize getG l = G at HN hne hle HR k1 k2
    obtain ⟨n, k, e⟩ := G
    dsimp only at HN hne hle HR k1 k2
    subst hne
    obtain ⟨k, rfl⟩ := Int.eq_ofNat_of_zero_le (show 0 ≤ k by omega)
    rw [Int.toNat_natCast] at HR
    obtain ⟨A', D, hD, hcut, hCD, hDc⟩ := drop_came (P := Try.prog) 36 5 Try.underlying36 info5 HC.out HLC.out k (by omega)
    rw [← hD] at HR
    have HCD := Aside0.mk hCD; have HDC := Aside0.mk hDc; have HBD := Aside0.mk (show byt D = true by rw [hD]; exact byt_drop HBY.out k)
    have hd : decide (most < n) = false := decide_eq_false hle
    clear hCD hDc hD hle
    go_enter Try.func50, Try.ntmps50
    go_wp2_with (first | (go_at_call 80; (with_reducible refine (HN.out).mono ?_)))
    (first | rintro x w2 rfl hb2 | rintro x w2 ⟨rfl, hb2⟩)
    have HG2 := Aside0.mk ((hb2.block g (blk_lt HG.out)).trans HG.out)
    have HB2 := Aside0.mk (HB.out.trans (hb2.mono HB.out.size))
    have HO2 := Aside0.mk (Only.below (g := g) hb2)
    clear hb2 HN e0 e1 HG
    have f0 := blk_frozen HG2.out 0
    have e0 : w2.cell? ⟨g, 0, none⟩ = some (.slice A l.length c) := (blk_cell HG2.out 0).trans rfl
    have hfin : ∀ W, W = w2.setCell ⟨g, 0, none⟩ (.slice A' D.length (c - k)) → (Rd w1 W g D bad vS vC vK ∧ Only g w W) := fun W hW => by
      subst hW
      exact ⟨⟨A', c - k, blk_put HG2.out 0 (.slice A' D.length (c - k)) rfl, HCD.out, HDC.out, HBD.out, HSZ.out, HB2.out.setCell (p := ⟨g, 0, none⟩) HSZ.out (.slice A' D.length (c - k))⟩, HO2.out.trans (Only.set _)⟩
    have HFIN := Aside0.mk hfin
    clear hfin
    go_wp2
    go_ret
    rw [HR.out]
    exact ⟨rfl, HFIN.out _ rfl⟩
set_option maxHeartbeats 4000000 in
set_option maxRecDepth 100000 in
theorem rone_k {w1 w : World} {g : Nat} {l : List Int} {bad : Bool} {vS vC vK : Value} (h : Rd w1 w g l bad vS vC vK) :
    Calls Try.prog 79 #[.pointer (some ⟨g, 0, none⟩)] w fun e w' => e = .returned (.int .u8 (oneR l bad).1) ∧ Rd w1 w' g (oneR l bad).2.1 (oneR l bad).2.2 vS vC vK ∧ Only g w w' := by
  obtain ⟨A, c, hg, hC, hc, hb, hsz, hB⟩ := h
  have HG := Aside0.mk hg; have HC := Aside0.mk hC; have HLC := Aside0.mk hc; have HBY := Aside0.mk hb; have HSZ := Aside0.mk hsz; have HB := Aside0.mk hB
  have hlen : (l.length : Int) ≤ 9223372036854775807 := by have := hC.2.1; omega
  clear hg hC hc hb hsz hB
  have huR := Try.underlying92
  cases l with
  | nil =>
    have e0 : w.cell? ⟨g, 0, none⟩ = some (.slice A 0 c) := (blk_cell HG.out 0).trans rfl
    have e1 : w.cell? ⟨g, 1, none⟩ = some (.bool bad) := (blk_cell HG.out 1).trans rfl
    have f1 := blk_frozen HG.out 1
    have hfin : ∀ W, W = w.setCell ⟨g, 1, none⟩ (.bool true) → (Rd w1 W g [] true vS vC vK ∧ Only g w W) := fun W hW => by
      subst hW
      exact ⟨⟨A, c, blk_put HG.out 1 (.bool true) rfl, HC.out, HLC.out, HBY.out, HSZ.out, HB.out.setCell (p := ⟨g, 1, none⟩) HSZ.out (.bool true)⟩, Only.set _⟩
    have HFIN := Aside0.mk hfin
    clear hfin
    go_enter Try.func79, Try.ntmps79
    go_wp2
    go_ret
    exact ⟨rfl, HFIN.out _ rfl⟩
  | cons y r =>
    obtain ⟨A', D, hD, hcut, hCD, hDc⟩ := drop_came (P := Try.prog) 36 5 Try.underlying36 info5 HC.out HLC.out 1 (by simp)
    rw [List.drop_succ_cons, List.drop_zero] at hD
    subst hD
    rw [show ((1 : Nat) : Int) = 1 from rfl] at hcut
    obtain ⟨ad, ea, a0⟩ := Kd.at_int (Kd.C_below HC.out HB.out) 0 (by omega) (by simp)
    cases ea
    rw [show rd (y :: D) 0 = y from rfl, show ad.add (Int.toNat 0) = ad by (unfold Addr.add; simp)] at a0
    have HCD := Aside0.mk hCD; have HDC := Aside0.mk hDc; have HBD := Aside0.mk (show byt D = true from byt_drop HBY.out 1)
    clear hCD hDc
    have e0 : w.cell? ⟨g, 0, none⟩ = some (.slice (some ad) (y :: D).length c) := (blk_cell HG.out 0).trans rfl
    have f0 := blk_frozen HG.out 0
    have hl1 : ((((y :: D).length : Nat) : Int) == 0) = false := by rw [beq_eq_false_iff_ne, List.length_cons]; omega
    have hl2 : (0 : Int) < (((y :: D).length : Nat) : Int) := by simp
    have hfin : ∀ W, W = w.setCell ⟨g, 0, none⟩ (.slice A' D.length (c - 1)) → (Rd w1 W g D bad vS vC vK ∧ Only g w W) := fun W hW => by
      subst hW
      exact ⟨⟨A', c - 1, blk_put HG.out 0 (.slice A' D.length (c - 1)) rfl, HCD.out, HDC.out, HBD.out, HSZ.out, HB.out.setCell (p := ⟨g, 0, none⟩) HSZ.out (.slice A' D.length (c - 1))⟩, Only.set _⟩
    have HFIN := Aside0.mk hfin
    clear hfin
    generalize (y :: D).length = n at e0 hl1 hl2 hcut hlen HG HC HLC
    go_enter Try.func79, Try.ntmps79
    go_wp2
    go_ret
    exact ⟨rfl, HFIN.out _ rfl⟩
end Go.Proofs.Ytgebhidpkcjpmaa.K

