/- DictNobody. (The texts that the proof is made of, one behind the other: part 13 of 18.) -/
import Derived.Lib.SliceRun
import Derived.Shelf.Abstract
import Derived.Test.YtgebhidpkcjpmaaProg
import Derived.Below
import Derived.Deep.Draws
import Derived.Deep.AppendLies
import Derived.Maps.AppendAt
import Derived.OwnWalk
import Derived.Laws.BytesArg
import Derived.Laws.MakeOwn
import Derived.Laws.OwnMore
import Derived.Deep.OwnRows
import Derived.Tactics
import Derived.Lib.ConvBytes
import Derived.Laws.Slices
import Derived.WalkKit
import Derived.KernelRfl
import Derived.RowKit3
import Derived.Deep.LoopGhost
import Derived.Deep.QuietTactic
import Derived.BigQuiet
import Derived.WideLaws
import Derived.Deep.DeepCutAuto
import Derived.Deep.CutBlock
import Derived.Deep.RegionHeld3
import Derived.Laws.Rows
import Derived.Lib.AppendStr
import Derived.ArgAppend
import Derived.Laws.IdiomCopy
import Derived.OrdersHeld
import Derived.Laws.BitsLemmas
import Derived.RowKit
import Derived.Lib.OthersKept
import Derived.WalkSmall
import Derived.Deep.RegionLaw
import Derived.BigRegion
import Derived.Test.YtgebhidpkcjpmaaZDictNobodya
import Derived.Test.YtgebhidpkcjpmaaZDictNobodyb
import Derived.Test.YtgebhidpkcjpmaaZDictNobodyc
import Derived.Test.YtgebhidpkcjpmaaZDictNobodyd
import Derived.Test.YtgebhidpkcjpmaaZDictNobodye
import Derived.Test.YtgebhidpkcjpmaaZDictNobodyf
import Derived.Test.YtgebhidpkcjpmaaZDictNobodyg
import Derived.Test.YtgebhidpkcjpmaaZDictNobodyh
import Derived.Test.YtgebhidpkcjpmaaZDictNobodyi
import Derived.Test.YtgebhidpkcjpmaaZDictNobodyj
import Derived.Test.YtgebhidpkcjpmaaZDictNobodyk
import Derived.Test.YtgebhidpkcjpmaaZDictNobodyl
namespace Go.Proofs.Ytgebhidpkcjpmaa.K
open Go.RowKit Go.Proofs.YtgebhidpkcjpmaaW.PrintWords Go.Proofs.YtgebhidpkcjpmaaW.PrintLast Go.Proofs.YtgebhidpkcjpmaaW.PrintMore Go.Proofs.Ytgebhidpkcjpmaa
attribute [local go_sem] max2_int min2_int max_two min_two max_three min_three max_four min_four
set_option linter.unusedVariables false
set_option linter.unusedSimpArgs false
open Go Go.Shelf Go.Proofs.Ytgebhidpkcjpmaa.PR13
theorem rdEn (l : List S49) (i : Nat) (h : i < l.length) : rd_T49 l (i : Int) = l[i] := by
  unfold rd_T49
  rw [Int.toNat_natCast, List.getD_eq_getElem?_getD, List.getElem?_eq_getElem h]; rfl
def ixE (p : S49 → Bool) (es : List S49) : Int := match es.findIdx? p with | some j => (j : Int) | none => -1
theorem ixE_step (p : S49 → Bool) (es : List S49) (i : Nat) (h : i < es.length) (hn : p es[i] = false) : (es.drop i).findIdx? p = ((es.drop (i + 1)).findIdx? p).map (· + 1) := by
  rw [List.drop_eq_getElem_cons h, List.findIdx?_cons, if_neg (by simp [hn])]
theorem ixE_hit (p : S49 → Bool) (es : List S49) (i : Nat) (h : i < es.length) (hn : p es[i] = true) : (es.drop i).findIdx? p = some 0 := by
  rw [List.drop_eq_getElem_cons h, List.findIdx?_cons, if_pos hn]
set_option maxHeartbeats 4000000 in
set_option maxRecDepth 100000 in
/-- slices.IndexFunc at edges, for whatever predicate that lays no more than blocks of its own. -/
theorem ixFuncE_k (g : Nat) (eg : ∀ args w, (callFunc g args).run Try.prog w = .ok (.enter g args) w) (lb : Array Value) (p : S49 → Bool) (A : Option Addr) (c : Nat) (es : List S49) (w : World) (hC : Kd.C k49 w A es.length es) (hc : es.length ≤ c)
    (hp : ∀ (W : World) (x : S49), Below w.heap.size w W → Calls Try.prog g (#[.agg #[.string x.f0, .int .u64 x.f1]] ++ lb) W fun e w' => e = .returned (.bool (p x)) ∧ Below w.heap.size w w') :
    Calls Try.prog 83 #[.slice A es.length c, .func (.func g) #[] lb] w fun e w' => e = .returned (.int .i64 (ixE p es)) ∧ Below w.heap.size w w' := by
  have HC := Aside0.mk hC; have HP := Aside0.mk hp
  have hlen : (es.length : Int) ≤ 9223372036854775807 := by have := hC.2.1; omega
  clear hC hp
  have huE := Try.underlying49
  go_enter Try.func83, Try.ntmps83
  go_wp2
  go_loopg [8] es.length (fun gg v8 wr => ∃ i : Nat, v8 = .int .i64 i ∧ Aside0 (i ≤ es.length ∧ es.length ≤ gg + i) ∧ Aside0 (es.findIdx? p = ((es.drop i).findIdx? p).map (· + i)) ∧ Aside0 (Below w.heap.size w wr))
  case atStart => exact ⟨0, rfl, ⟨by omega⟩, ⟨by simp⟩, ⟨Below.refl _ _⟩⟩
  case round =>
    obtain ⟨i, rfl, hi, hf, hb⟩ := hrel
    by_cases hlt : i < es.length
    · have hcb : decide ((i : Int) < (es.length : Int)) = true := decide_eq_true (by omega)
      have q0 : (0 : Int) ≤ (i : Int) := by omega
      have q1 : (i : Int) < (es.length : Int) := by omega
      obtain ⟨ad, e0, a0, a1⟩ := at_T49 (Kd.C_below HC.out hb.out) (i : Int) q0 q1
      cases e0
      have hcall := HP.out wr (rd_T49 es (i : Int)) hb.out
      have hrd := rdEn es i hlt
      generalize hx : rd_T49 es (i : Int) = x at a0 a1 hcall
      have HX : Aside0 (es[i] = x) := ⟨hrd.symm.trans hx⟩
      clear hx hrd
      rw [Int.toNat_natCast] at a0 a1
      cases hq : p x with
      | true =>
        rw [hq] at hcall
        have HQ := Aside0.mk hq; have HCL := Aside0.mk hcall
        clear hq hcall
        go_wp2
        (with_reducible refine HCL.out.mono ?_)
        (first | rintro e w' ⟨rfl, hb'⟩ | rintro e w' rfl hb')
        go_wp2
        go_ret
        refine ⟨?_, hb'⟩
        unfold ixE
        rw [hf.out, ixE_hit p es i hlt (by rw [HX.out]; exact HQ.out)]
        simp
      | false =>
        rw [hq] at hcall
        have HQ := Aside0.mk hq; have HCL := Aside0.mk hcall
        clear hq hcall
        go_wp2
        (with_reducible refine HCL.out.mono ?_)
        (first | rintro e w' ⟨rfl, hb'⟩ | rintro e w' rfl hb')
        go_wp2
        go_roundg (es.length - (i + 1))
        case measure => have := hi.out; omega
        case rel =>
          refine ⟨i + 1, congrArg (Value.int .i64) (by omega), ⟨by have := hi.out; omega⟩, ⟨?_⟩, ⟨hb'⟩⟩
          rw [hf.out, ixE_step p es i hlt (by rw [HX.out]; exact HQ.out), Option.map_map]
          congr 1
          funext n
          simp only [Function.comp]
          omega
    · have hcb : decide ((i : Int) < (es.length : Int)) = false := decide_eq_false (by omega)
      go_wp2
      go_ret
      refine ⟨?_, hb.out⟩
      unfold ixE
      rw [hf.out, List.drop_eq_nil_of_le (by omega)]
      rfl
theorem ixE_any (p : S49 → Bool) (es : List S49) : decide (0 ≤ ixE p es) = es.any p := by
  unfold ixE
  rw [← List.findIdx?_isSome]
  cases es.findIdx? p with
  | none => rfl
  | some j => exact decide_eq_true (by show (0 : Int) ≤ (j : Int); omega)
set_option maxHeartbeats 4000000 in
set_option maxRecDepth 100000 in
theorem containsE_k (g : Nat) (eg : ∀ args w, (callFunc g args).run Try.prog w = .ok (.enter g args) w) (lb : Array Value) (p : S49 → Bool) (A : Option Addr) (c : Nat) (es : List S49) (w : World) (hC : Kd.C k49 w A es.length es) (hc : es.length ≤ c)
    (hp : ∀ (W : World) (x : S49), Below w.heap.size w W → Calls Try.prog g (#[.agg #[.string x.f0, .int .u64 x.f1]] ++ lb) W fun e w' => e = .returned (.bool (p x)) ∧ Below w.heap.size w w') :
    Calls Try.prog 55 #[.slice A es.length c, .func (.func g) #[] lb] w fun e w' => e = .returned (.bool (es.any p)) ∧ Below w.heap.size w w' := by
  have hk := ixFuncE_k g eg lb p A c es w hC hc hp
  have ha := ixE_any p es
  generalize ixE p es = r at hk ha
  rw [← ha]
  clear ha hp
  go_enter Try.func55, Try.ntmps55
  go_wp2_with (first | (go_at_call 83; (with_reducible refine hk.mono ?_)))
  (first | rintro e w1 rfl hb1 | rintro e w1 ⟨rfl, hb1⟩)
  go_wp2
  go_ret
  exact ⟨rfl, hb1⟩
/-- An entry that may be. -/
def fineB (x : S49) : Bool := decide (x.f0.size ≠ 0) && decide (x.f0.size ≤ 255) && decide (1 ≤ x.f1) && decide (x.f1 ≤ 4611686018427387904)
theorem empty_iff (s : ByteArray) : decide (s.size ≠ 0) = !s.toList.isEmpty := by
  rw [Bool.eq_iff_iff, decide_eq_true_eq, Bool.not_eq_true', ByteArray.toList_eq]
  have hs : s.data.toList.length = s.size := by simp
  cases h : s.data.toList with
  | nil =>
    have : s.size = 0 := by rw [← hs, h]; rfl
    simp [this]
  | cons a l =>
    have : s.size ≠ 0 := by rw [← hs, h]; simp
    simp [this]
set_option maxHeartbeats 4000000 in
set_option maxRecDepth 100000 in
theorem fine_k (x : S49) (w : World) : Calls Try.prog 57 #[.agg #[.string x.f0, .int .u64 x.f1]] w fun e w' => e = .returned (.bool (fineB x)) ∧ Below w.heap.size w w' := by
  obtain ⟨s, n⟩ := x
  have hB : ∀ c : Array Value, Below w.heap.size w (w.alloc (.cells c 49)) := fun c => (Below.refl _ w).alloc (Nat.le_refl _) _
  unfold fineB
  dsimp only
  rw [empty_iff]
  cases he : s.toList.isEmpty with
  | false =>
    by_cases h2 : (s.size : Int) ≤ 255
    · have d2 : decide ((s.size : Int) ≤ 255) = true := decide_eq_true h2
      have d2' : decide (s.size ≤ 255) = true := decide_eq_true (by omega)
      rw [d2']
      cases d3 : decide (1 ≤ n) with
      | true =>
        cases d4 : decide (n ≤ 4611686018427387904) with
        | true =>
          go_enter Try.func57, Try.ntmps57
          go_wp2
          go_ret
          exact ⟨rfl, hB _⟩
        | false =>
          go_enter Try.func57, Try.ntmps57
          go_wp2
          go_ret
          exact ⟨rfl, hB _⟩
      | false =>
        go_enter Try.func57, Try.ntmps57
        go_wp2
        go_ret
        exact ⟨rfl, hB _⟩
    · have d2 : decide ((s.size : Int) ≤ 255) = false := decide_eq_false h2
      have d2' : decide (s.size ≤ 255) = false := decide_eq_false (by omega)
      rw [d2']
      go_enter Try.func57, Try.ntmps57
      go_wp2
      go_ret
      exact ⟨rfl, hB _⟩
  | true =>
    go_enter Try.func57, Try.ntmps57
    go_wp2
    go_ret
    exact ⟨rfl, hB _⟩
set_option maxHeartbeats 4000000 in
set_option maxRecDepth 100000 in
theorem may1_k (x : S49) (w : World) : Calls Try.prog 56 (#[.agg #[.string x.f0, .int .u64 x.f1]] ++ #[]) w fun e w' => e = .returned (.bool (!fineB x)) ∧ Below w.heap.size w w' := by
  have hk := fun W => fine_k x W
  generalize fineB x = r at hk ⊢
  obtain ⟨s, n⟩ := x
  show Calls Try.prog 56 #[.agg #[.string s, .int .u64 n]] w _
  have hB : Below w.heap.size w (w.alloc (.cells #[.string s, .int .u64 n] 49)) := (Below.refl _ w).alloc (Nat.le_refl _) _
  have huE := Try.underlying49
  go_enter Try.func56, Try.ntmps56
  go_wp2_with (first | (go_at_call 57; (with_reducible refine (hk _).mono ?_)))
  (first | rintro e w1 rfl hb1 | rintro e w1 ⟨rfl, hb1⟩)
  go_wp2
  go_ret
  exact ⟨rfl, hB.trans (hb1.mono (Nat.le_succ _))⟩
/-- Two words next to each other rise. -/
def risesB (l : List S49) : Bool := (List.range (l.length - 1)).all fun i => decide (Utf.nats (rd_T49 l (i : Int)).f0 < Utf.nats (rd_T49 l ((i + 1 : Nat) : Int)).f0)
def mayR (l : List S49) : Int := if (l.any fun x => !fineB x) = true then 1 else if risesB l = true then 0 else 9
theorem rises_true {l : List S49} (h : ∀ j, j + 1 < l.length → Utf.nats (rd_T49 l (j : Int)).f0 < Utf.nats (rd_T49 l ((j + 1 : Nat) : Int)).f0) : risesB l = true := by
  unfold risesB
  rw [List.all_eq_true]
  intro j hj
  rw [List.mem_range] at hj
  exact decide_eq_true (h j (by omega))
theorem rises_false {l : List S49} {j : Nat} (hj : j + 1 < l.length) (h : ¬ Utf.nats (rd_T49 l (j : Int)).f0 < Utf.nats (rd_T49 l ((j + 1 : Nat) : Int)).f0) : risesB l = false := by
  unfold risesB
  rw [Bool.eq_false_iff]
  intro ha
  rw [List.all_eq_true] at ha
  exact h (of_decide_eq_true (ha j (by rw [List.mem_range]; omega)))
set_option maxHeartbeats 4000000 in
set_option maxRecDepth 100000 in
theorem runMay_k (A : Option Addr) (c : Nat) (l : List S49) (w : World) (hC : Kd.C k49 w A l.length l) (hc : l.length ≤ c) :
    Calls Try.prog 31 #[.slice A l.length c] w fun e w' => e = .returned (.int .i64 (mayR l)) ∧ Below w.heap.size w w' := by
  have hk := containsE_k 56 (enters_of Try.func56 (by kernel_rfl) rfl) #[] (fun x => !fineB x) A c l w hC hc (fun W x hb => (may1_k x W).mono fun e w' h => ⟨h.1, hb.trans (h.2.mono hb.size)⟩)
  have HC := Aside0.mk hC
  have hlen : (l.length : Int) ≤ 9223372036854775807 := by have := hC.2.1; omega
  obtain ⟨r, hr⟩ : ∃ r, r = (l.any fun x => !fineB x) := ⟨_, rfl⟩
  rw [← hr] at hk
  have HM := Aside0.mk (show mayR l = if r = true then 1 else if risesB l = true then 0 else 9 by unfold mayR; rw [← hr])
  clear hr hC
  cases r with
  | true =>
    go_enter Try.func31, Try.ntmps31
    go_wp2_with (first | (go_at_call 55; (with_reducible refine hk.mono ?_)))
    (first | rintro e w1 rfl hb1 | rintro e w1 ⟨rfl, hb1⟩)
    go_wp2
    go_ret
    exact ⟨by rw [HM.out]; rfl, hb1⟩
  | false =>
    go_enter Try.func31, Try.ntmps31
    go_wp2_with (first | (go_at_call 55; (with_reducible refine hk.mono ?_)))
    (first | rintro e w1 rfl hb1 | rintro e w1 ⟨rfl, hb1⟩)
    have HB1 := Aside0.mk hb1
    clear hk hb1
    go_wp2
    go_loopg [3] l.length (fun gg v3 wr => ∃ i : Nat, v3 = .int .i64 ((i + 1 : Nat) : Int) ∧ Aside0 (l.length ≤ gg + i) ∧ Aside0 (∀ j, j < i → j + 1 < l.length → Utf.nats (rd_T49 l (j : Int)).f0 < Utf.nats (rd_T49 l ((j + 1 : Nat) : Int)).f0) ∧ Aside0 (Below w.heap.size w wr))
    case atStart => exact ⟨0, rfl, ⟨by omega⟩, ⟨fun j hj => absurd hj (by omega)⟩, HB1⟩
    case round =>
      obtain ⟨i, rfl, hi, hr, hb⟩ := hrel
      by_cases hlt : i + 1 < l.length
      · have hcb : decide (((i + 1 : Nat) : Int) < (l.length : Int)) = true := decide_eq_true (by omega)
        have hw : wrap64 (((i + 1 : Nat) : Int) - 1) = (i : Int) := by unfold wrap64; omega
        have q0 : (0 : Int) ≤ ((i + 1 : Nat) : Int) := by omega
        have q1 : ((i + 1 : Nat) : Int) < (l.length : Int) := by omega
        have p0 : (0 : Int) ≤ (i : Int) := by omega
        have p1 : (i : Int) < (l.length : Int) := by omega
        have hCb := Kd.C_below HC.out hb.out
        obtain ⟨ad, e0, a0, _⟩ := at_T49 hCb ((i + 1 : Nat) : Int) q0 q1
        cases e0
        obtain ⟨ad2, e0, b0, _⟩ := at_T49 hCb (i : Int) p0 p1
        obtain rfl : ad = ad2 := by injection e0
        have HX := Aside0.mk hr.out
        have HF := fun h => Aside0.mk (rises_false (l := l) (j := i) hlt h)
        have HT := fun (h : Utf.nats (rd_T49 l (i : Int)).f0 < Utf.nats (rd_T49 l ((i + 1 : Nat) : Int)).f0) => (fun j (hj : j < i + 1) (h2 : j + 1 < l.length) => if e : j = i then by subst e; exact h else HX.out j (by omega) h2 : ∀ j, j < i + 1 → j + 1 < l.length → Utf.nats (rd_T49 l (j : Int)).f0 < Utf.nats (rd_T49 l ((j + 1 : Nat) : Int)).f0)
        rw [Int.toNat_natCast] at a0 b0
        generalize (rd_T49 l (i : Int)).f0 = x at b0 HF HT
        generalize (rd_T49 l ((i + 1 : Nat) : Int)).f0 = y at a0 HF HT
        have hop := fun W => run_leq_str Try.prog 9 y x W
        clear hCb hr HX
        by_cases hxy : Utf.nats x < Utf.nats y
        · rw [decide_eq_true hxy] at hop
          have HT2 := Aside0.mk (HT hxy)
          clear HT HF hxy
          go_wp2
          (try go_quiet (fail)); (try go_wp2)
          go_roundg (l.length - (i + 1))
          case measure => have := hi.out; omega
          case rel => exact ⟨i + 1, congrArg (Value.int .i64) (by omega), ⟨by omega⟩, HT2, ⟨by first | exact hb.out | exact pw_below_drewN hb.out _⟩⟩
        · rw [decide_eq_false hxy] at hop
          have HF2 := HF hxy
          clear HT HF hxy
          go_wp2
          (try go_quiet (fail)); (try go_wp2)
          go_ret
          exact ⟨by rw [HM.out, HF2.out]; rfl, by first | exact hb.out | exact pw_below_drewN hb.out _⟩
      · have hcb : decide (((i + 1 : Nat) : Int) < (l.length : Int)) = false := decide_eq_false (by omega)
        have HT2 := Aside0.mk (rises_true (l := l) (fun j hj => hr.out j (by omega) hj))
        go_wp2
        go_ret
        exact ⟨by rw [HM.out, HT2.out]; rfl, hb.out⟩
/-- As the printer calls it. -/
def run_May.f (l0 : List S49) : Option Int := some (mayR l0)
theorem run_May.calls (A0 : Option Addr) (c0 : Nat) (l0 : List S49) (r : Int) (w : World) (hr0 : Kd.C k49 w A0 l0.length l0) (hc0 : l0.length ≤ c0) (h : run_May.f l0 = some r) :
    Calls Try.prog 31 #[.slice A0 l0.length c0] w fun e w' => e = .returned (.int .i64 r) ∧ Below w.heap.size w w' := by
  obtain rfl := Option.some.inj h
  exact runMay_k A0 c0 l0 w hr0 hc0
end Go.Proofs.Ytgebhidpkcjpmaa.K
namespace Go.Proofs.Ytgebhidpkcjpmaa.K
open Go.RowKit Go.Proofs.YtgebhidpkcjpmaaW.PrintWords Go.Proofs.YtgebhidpkcjpmaaW.PrintLast Go.Proofs.YtgebhidpkcjpmaaW.PrintMore Go.Proofs.Ytgebhidpkcjpmaa
attribute [local go_sem] max2_int min2_int max_two min_two max_three min_three max_four min_four
set_option linter.unusedVariables false
set_option linter.unusedSimpArgs false
open Go Go.Shelf Go.Proofs.Ytgebhidpkcjpmaa.PR13
/-- As the printer calls it. -/
def manteletref09_May.f (l0 : List S49) : Option Int := some (mayR l0)
end Go.Proofs.Ytgebhidpkcjpmaa.K

namespace Go.Proofs.Ytgebhidpkcjpmaa.PMk
open Go.RowKit Go.Proofs.YtgebhidpkcjpmaaW.PrintWords Go.Proofs.YtgebhidpkcjpmaaW.PrintLast Go.Proofs.YtgebhidpkcjpmaaW.PrintMore Go.Proofs.Ytgebhidpkcjpmaa.K Go.Proofs.Ytgebhidpkcjpmaa.PDk Go.Proofs.Ytgebhidpkcjpmaa.PDm Go.Proofs.Ytgebhidpkcjpmaa.PFl Go.Proofs.Ytgebhidpkcjpmaa.PR13
attribute [local go_sem] max2_int min2_int max_two min_two max_three min_three max_four min_four   -- for this text's walks alone
set_option linter.unusedVariables false
set_option linter.unusedSimpArgs false



def errW : Option Int → Value
  | none => .nilIface
  | some c => .iface 0 (.int .i64 c)
theorem errW_none : errW none = .nilIface := rfl
theorem errW_some (c : Int) : errW (some c) = .iface 0 (.int .i64 c) := rfl

def rd_L7 (xs : List (List S84)) (i : Int) : (List S84) := xs.getD i.toNat ([] : List S84)
end Go.Proofs.Ytgebhidpkcjpmaa.PMk

namespace Go.Proofs.Ytgebhidpkcjpmaa.PMk
open Go.RowKit Go.Proofs.YtgebhidpkcjpmaaW.PrintWords Go.Proofs.YtgebhidpkcjpmaaW.PrintLast Go.Proofs.YtgebhidpkcjpmaaW.PrintMore Go.Proofs.Ytgebhidpkcjpmaa.K Go.Proofs.Ytgebhidpkcjpmaa.PDk Go.Proofs.Ytgebhidpkcjpmaa.PDm Go.Proofs.Ytgebhidpkcjpmaa.PFl Go.Proofs.Ytgebhidpkcjpmaa.PR13
attribute [local go_sem] max2_int min2_int max_two min_two max_three min_three max_four min_four   -- for this text's walks alone
set_option linter.unusedVariables false
set_option linter.unusedSimpArgs false

def file_Make.l0 : Nat → List (S49) → List ByteArray → List (S49) → Int → Int → List Int → Option ((List (S82)) × List Int × List Int × Int)
  | 0, _, _, _, _, _, _ => none
  | k + 1, x0, x6, x15, x16, x17, x104001 => if x17 < x16 then (if 0 ≤ x17 then (if x17 < (x15.length : Int) then (if x6.length < 8796093022208 then (if x104001.length < 17592186044416 then (file_Make.l0 k x0 (x6 ++ [(rd_T49 x15 x17).f0]) x15 x16 (wrap64 (x17 + 1)) (x104001 ++ [(rd_T49 x15 x17).f1])) else (none)) else (none)) else (none)) else (none)) else ((daw_Build.f x6).bind fun bt112 => ((rank_Classes.f x0).bind fun t116 => (some (bt112.1, x104001, t116, 0))))
def file_Make.f (k : Nat) (l0 : List (S49)) : Option ((List (S82)) × List Int × List Int × Int) := (run_May.f l0).bind fun t102 => (if t102 = 0 then (file_Make.l0 k l0 ([] : List ByteArray) l0 (l0.length : Int) 0 ([] : List Int)) else (some (([] : List (S82)), ([] : List Int), ([] : List Int), t102)))
set_option maxHeartbeats 8000000 in
set_option maxRecDepth 100000 in
theorem file_Make.calls (k : Nat) (A0 : Option Addr) (c0 : Nat) (l0 : List (S49)) (r1 : List (S82)) (r2 : List Int) (r3 : List Int) (r4 : Int) (w : World) (hr0 : Kd.C k49 w A0 l0.length l0) (hc0 : l0.length ≤ c0) (h : file_Make.f k l0 = some (r1, r2, r3, r4)) :
    Calls Try.prog 14 #[.slice A0 l0.length c0] w fun e w' => ∃ v0_ v1_ v2_ : Value, e = .returned (.tuple #[.agg #[v0_, v1_, v2_], .int .i64 r4]) ∧ Kd.S k82 82 w' w.heap.size (fun _ => True) v0_ r1 ∧ Kd.R (Kd.int .u64) 47 w' w.heap.size (fun _ => True) v1_ r2 ∧ Kd.R (Kd.int .i64) 3 w' w.heap.size (fun _ => True) v2_ r3 ∧ Below w.heap.size w w' := by
  have hu29 := Try.underlying29
  have hu49 := Try.underlying49
  have HR0 := Aside0.mk hr0
  have HC0 := Aside0.mk hc0
  clear hr0 hc0
  have HB := Aside0.mk (Below.refl w.heap.size w)
  have H : ((run_May.f l0).bind fun t102 => (if t102 = 0 then (file_Make.l0 k l0 ([] : List ByteArray) l0 (l0.length : Int) 0 ([] : List Int)) else (some (([] : List (S82)), ([] : List Int), ([] : List Int), t102)))) = some (r1, r2, r3, r4) := h
  clear h
  replace H := Option.bind_eq_some_iff.mp H
  obtain ⟨t102, A20, H⟩ := H
  replace H : (if t102 = 0 then (file_Make.l0 k l0 ([] : List ByteArray) l0 (l0.length : Int) 0 ([] : List Int)) else (some (([] : List (S82)), ([] : List Int), ([] : List Int), t102))) = some (r1, r2, r3, r4) := H
  have A2 := Aside0.mk A20
  clear A20
  by_cases c3 : t102 = 0
  · rw [if_pos c3] at H
    have c3b0 : (t102 == 0) = true := beq_iff_eq.mpr c3
    have c3b1 : (t102 != 0) = false := bne_eq_false_iff_eq.mpr c3
    clear c3
    have H' := Aside0.mk H
    clear H
    go_enter Try.func14, Try.ntmps14
    go_wp2_with (first | ((with_reducible refine gate_dst (N := 2) rfl ?_); refine box_event ?hg (N := 2) ?hd (cs := #[.slice none 0 0, .slice none 0 0, .slice none 0 0]) (t := 29) ?hr ?_; (case hd => rfl); (case hg => rfl); (case hr => first | (go_simp; done) | (go_simp; rfl)); intro gb101 hg w4 hbox hb; have n0_ := Aside0.mk (below_step (by repeat (first | (with_reducible first | exact HB.out | apply below_alloc | apply pw_below_drewN | apply below_drew1) | exact HB.out)) hb); have n1_ := Aside0.mk (hbox); have n2_ := Aside0.mk ((by rw [hg]; exact (below_size (by repeat (first | (with_reducible first | exact HB.out | apply below_alloc | apply pw_below_drewN | apply below_drew1) | exact HB.out))) : w.heap.size ≤ gb101)); have n3_ := Aside0.mk ((by rw [hg]; exact (below_size (by repeat (first | (with_reducible first | exact HB.out | apply below_alloc | apply pw_below_drewN | apply below_drew1) | exact HB.out))) : w.heap.size ≤ gb101)); clear HB; have HB := n0_; have BK101 := n1_; have GW101 := n2_; have GE101 := n3_; clear n0_ n1_ n2_ n3_; clear hb hbox hg) | ((with_reducible refine gate_callee (f := 31) rfl ?_); refine goesL_ (some 10) rfl rfl Try.func31 (by kernel_rfl) rfl #[.slice A0 l0.length c0] rfl (by (try simp only [List.map_toArray, List.map_cons, List.map_nil]); first | done | rfl | (simp only [List.length_drop, List.length_take]; rfl)) ?_; (with_reducible refine (run_May.calls _ _ l0 t102 _ ?side1 ?side2 A2.out).mono ?_); (case side1 => repeat (first | exact (Kd.C_below HR0.out HB.out) | (with_reducible refine Kd.C_alloc ?_ _) | (with_reducible refine Kd.C_drewN ?_ _) | (with_reducible refine Kd.C_drew ?_))); (case side2 => exact HC0.out); rintro e w5 ⟨rfl, hb⟩; refine ⟨_, rfl, ?_⟩; have n0_ := Aside0.mk (blk_below (g := gb101) (o := .cells #[.slice none 0 0, .slice none 0 0, .slice none 0 0] 29 (0, 0)) (by (with_reducible repeat (first | refine blk_drewN ?_ _ | refine blk_drew ?_ | refine blk_alloc ?_ _)); exact BK101.out) hb); have n1_ := Aside0.mk (below_step (by repeat (first | (with_reducible first | exact HB.out | apply below_alloc | apply pw_below_drewN | apply below_drew1 | refine below_set ?_ GE101.out) | exact HB.out)) hb); clear BK101; clear HB; have BK101 := n0_; have HB := n1_; clear n0_ n1_; (try clear hb); (try clear hb2); (try clear hk); (try clear hi)) | ((with_reducible refine gate_dst (N := 5) rfl ?_); refine box_event ?hg (N := 5) ?hd (cs := #[.slice none 0 0, .slice none 0 0, .slice none 0 0]) (t := 29) ?hr ?_; (case hd => rfl); (case hg => rfl); (case hr => first | (go_simp; done) | (go_simp; rfl)); intro gb103 hg w6 hbox hb; have n0_ := Aside0.mk (blk_below (g := gb101) (o := .cells #[.slice none 0 0, .slice none 0 0, .slice none 0 0] 29 (0, 0)) (by (with_reducible repeat (first | refine blk_drewN ?_ _ | refine blk_drew ?_ | refine blk_alloc ?_ _)); exact BK101.out) hb); have n1_ := Aside0.mk (below_step (by repeat (first | (with_reducible first | exact HB.out | apply below_alloc | apply pw_below_drewN | apply below_drew1 | refine below_set ?_ GE101.out) | exact HB.out)) hb); have n2_ := Aside0.mk (hbox); have n3_ := Aside0.mk ((by rw [hg]; exact (below_size (by repeat (first | (with_reducible first | exact HB.out | apply below_alloc | apply pw_below_drewN | apply below_drew1 | refine below_set ?_ GE101.out) | exact HB.out))) : w.heap.size ≤ gb103)); have n4_ := Aside0.mk ((by rw [hg]; exact (below_size (by repeat (first | (with_reducible first | exact HB.out | apply below_alloc | apply pw_below_drewN | apply below_drew1 | refine below_set ?_ GE101.out) | exact HB.out))) : w.heap.size ≤ gb103)); have n5_ := Aside0.mk ((by rw [hg]; exact Nat.ne_of_lt (blk_lt (g := gb101) (o := .cells #[.slice none 0 0, .slice none 0 0, .slice none 0 0] 29 (0, 0)) (by (with_reducible repeat (first | refine blk_drewN ?_ _ | refine blk_drew ?_ | refine blk_alloc ?_ _)); exact BK101.out)) : gb101 ≠ gb103)); have n6_ := Aside0.mk ((by rw [hg]; exact Nat.ne_of_gt (blk_lt (g := gb101) (o := .cells #[.slice none 0 0, .slice none 0 0, .slice none 0 0] 29 (0, 0)) (by (with_reducible repeat (first | refine blk_drewN ?_ _ | refine blk_drew ?_ | refine blk_alloc ?_ _)); exact BK101.out)) : gb103 ≠ gb101)); clear BK101; clear HB; have BK101 := n0_; have HB := n1_; have BK103 := n2_; have GW103 := n3_; have GE103 := n4_; have NB101_103 := n5_; have NB103_101 := n6_; clear n0_ n1_ n2_ n3_ n4_ n5_ n6_; clear hb hbox hg))
    go_loopg [6, 17] k (fun kq v6 v17 w' => ∃ (x6_1 : List ByteArray) (x17_1 : Int) (x104001_1 : List Int) (u104001 : Value), v17 = .int .i64 x17_1 ∧ Aside0 (file_Make.l0 kq l0 x6_1 l0 (l0.length : Int) x17_1 x104001_1 = some (r1, r2, r3, r4)) ∧ Aside0 (kq ≤ k) ∧ Aside0 (Kd.R Kd.string 9 w' w.heap.size (fun _ => True) v6 x6_1) ∧ Aside0 (Kd.R (Kd.int .u64) 47 w' w.heap.size (fun _ => True) u104001 x104001_1) ∧ Aside0 (w'.heap[gb101]? = some (.cells #[(.slice none 0 0), (.slice none 0 0), (.slice none 0 0)] 29 (0, 0))) ∧ Aside0 (w'.heap[gb103]? = some (.cells #[(.slice none 0 0), u104001, (.slice none 0 0)] 29 (0, 0))) ∧ Aside0 (Below w.heap.size w w'))
    case atStart => exact ⟨(([] : List ByteArray)), (0), (([] : List Int)), (.slice none 0 0), (by first | rfl | (simp; done) | (simp [*]; done)), H', ⟨Nat.le_refl _⟩, ⟨by first | exact Kd.R_nil _ _ _ _ _ | exact Kd.N_nil _ _ _ _ _ | exact Kd.V_nil _ _ _ _ _ | exact Kd.Q_nil _ _ _ _ _ | exact Kd.S_nil _ _ _ _ _⟩, ⟨by first | exact Kd.R_nil _ _ _ _ _ | exact Kd.N_nil _ _ _ _ _ | exact Kd.V_nil _ _ _ _ _ | exact Kd.Q_nil _ _ _ _ _ | exact Kd.S_nil _ _ _ _ _⟩, ⟨by (with_reducible repeat (first | refine blk_drewN ?_ _ | refine blk_drew ?_ | refine blk_alloc ?_ _)); exact BK101.out⟩, ⟨by (with_reducible repeat (first | refine blk_drewN ?_ _ | refine blk_drew ?_ | refine blk_alloc ?_ _)); exact BK103.out⟩, ⟨by repeat (first | (with_reducible first | exact HB.out | apply below_alloc | apply pw_below_drewN | apply below_drew1 | refine below_set ?_ GE101.out | refine below_set ?_ GE103.out) | exact HB.out)⟩⟩
    case round =>
      clear H'
      try clear c1
      try clear p2
      try clear c3
      try clear c3b0
      try clear c3b1
      obtain ⟨x6_1, x17_1, x104001_1, u104001, rfl, HA, HK1, HO_6, HO_104001, BK101, BK103, HB⟩ := hrel
      cases gk with
      | zero => exact absurd HA.out (by simp [file_Make.l0])
      | succ k1 =>
        have H := HA.out
        clear HA
        simp only [file_Make.l0] at H
        by_cases c7 : x17_1 < (l0.length : Int)
        · rw [if_pos c7] at H
          have c7b0 : decide (x17_1 < (l0.length : Int)) = true := decide_eq_true c7
          clear c7
          by_cases c8 : 0 ≤ x17_1
          · rw [if_pos c8] at H
            have c8b0 : decide (0 ≤ x17_1) = true := decide_eq_true c8
            clear c8
            by_cases c9 : x17_1 < (l0.length : Int)
            · rw [if_pos c9] at H
              have c9b0 : decide (x17_1 < (l0.length : Int)) = true := decide_eq_true c9
              clear c9
              by_cases c10 : x6_1.length < 8796093022208
              · rw [if_pos c10] at H
                have LMc10 := Aside0.mk c10
                clear c10
                obtain ⟨y106, hy106⟩ : ∃ y_ : List ByteArray, y_ = (x6_1 ++ [(rd_T49 l0 x17_1).f0]) := ⟨_, rfl⟩
                replace H : (if x104001_1.length < 17592186044416 then (file_Make.l0 k1 l0 y106 l0 (l0.length : Int) (wrap64 (x17_1 + 1)) (x104001_1 ++ [(rd_T49 l0 x17_1).f1])) else (none)) = some (r1, r2, r3, r4) := by first | (rw [hy106]; with_reducible exact H) | (have H2_ := (Option.bind_some _ _).symm.trans H; rw [hy106]; with_reducible exact H2_) | (have H2_ := (Option.bind_some _ _).symm.trans H; with_reducible exact H2_) | with_reducible exact H | (rw [hy106]; exact H) | exact H
                have Ny106 := Aside0.mk hy106
                clear hy106
                by_cases c11 : x104001_1.length < 17592186044416
                · rw [if_pos c11] at H
                  have LMc11 := Aside0.mk c11
                  clear c11
                  obtain ⟨y109, hy109⟩ : ∃ y_ : List Int, y_ = (x104001_1 ++ [(rd_T49 l0 x17_1).f1]) := ⟨_, rfl⟩
                  replace H : (file_Make.l0 k1 l0 y106 l0 (l0.length : Int) (wrap64 (x17_1 + 1)) y109) = some (r1, r2, r3, r4) := by first | (rw [hy109]; with_reducible exact H) | (have H2_ := (Option.bind_some _ _).symm.trans H; rw [hy109]; with_reducible exact H2_) | (have H2_ := (Option.bind_some _ _).symm.trans H; with_reducible exact H2_) | with_reducible exact H | (rw [hy109]; exact H) | exact H
                  have Ny109 := Aside0.mk hy109
                  clear hy109
                  have H' := Aside0.mk H
                  clear H
                  have p104 : 0 ≤ (x17_1 : Int) := of_decide_eq_true (by first | (with_reducible assumption) | assumption)
                  have q104 : x17_1 < (l0.length : Int) := of_decide_eq_true (by first | (with_reducible assumption) | assumption)
                  obtain ⟨ad104, e104, hx104_0, hx104_1⟩ := at_T49 HR0.out x17_1 p104 q104
                  cases e104
                  replace hx104_0 := (HB.out.cell (World.block_lt_of_cell? w _ hx104_0)).trans hx104_0
                  replace hx104_1 := (HB.out.cell (World.block_lt_of_cell? w _ hx104_1)).trans hx104_1
                  replace p104 := eq_true p104
                  replace q104 := eq_true q104
                  go_wp2_with (first | ((with_reducible refine gate_dst (N := 8) rfl ?_); refine box_event ?hg (N := 8) ?hd (cs := #[.string (⟨#[]⟩ : ByteArray), .int .u64 0]) (t := 49) ?hr ?_; (case hd => rfl); (case hg => rfl); (case hr => first | (go_simp; done) | (go_simp; rfl)); intro gb105 hg w12 hbox hb; have n0_ := Aside0.mk (Kd.R_below (by (with_reducible repeat (first | apply Kd.R_alloc | apply Kd.R_drewN | apply Kd.R_drew)); exact HO_6.out) hb); have n1_ := Aside0.mk (Kd.R_below (by (with_reducible repeat (first | apply Kd.R_alloc | apply Kd.R_drewN | apply Kd.R_drew)); exact HO_104001.out) hb); have n2_ := Aside0.mk (blk_below (g := gb101) (o := .cells #[.slice none 0 0, .slice none 0 0, .slice none 0 0] 29 (0, 0)) (by (with_reducible repeat (first | refine blk_drewN ?_ _ | refine blk_drew ?_ | refine blk_alloc ?_ _)); exact BK101.out) hb); have n3_ := Aside0.mk (blk_below (g := gb103) (o := .cells #[.slice none 0 0, u104001, .slice none 0 0] 29 (0, 0)) (by (with_reducible repeat (first | refine blk_drewN ?_ _ | refine blk_drew ?_ | refine blk_alloc ?_ _)); exact BK103.out) hb); have n4_ := Aside0.mk (below_step (by repeat (first | (with_reducible first | exact HB.out | apply below_alloc | apply pw_below_drewN | apply below_drew1 | refine below_set ?_ GE101.out | refine below_set ?_ GE103.out) | exact HB.out)) hb); have n5_ := Aside0.mk (hbox); have n6_ := Aside0.mk ((by rw [hg]; exact (below_size (by repeat (first | (with_reducible first | exact HB.out | apply below_alloc | apply pw_below_drewN | apply below_drew1 | refine below_set ?_ GE101.out | refine below_set ?_ GE103.out) | exact HB.out))) : w.heap.size ≤ gb105)); have n7_ := Aside0.mk ((by rw [hg]; exact (below_size (by repeat (first | (with_reducible first | exact HB.out | apply below_alloc | apply pw_below_drewN | apply below_drew1 | refine below_set ?_ GE101.out | refine below_set ?_ GE103.out) | exact HB.out))) : w.heap.size ≤ gb105)); have n8_ := Aside0.mk ((by rw [hg]; exact Nat.ne_of_lt (blk_lt (g := gb101) (o := .cells #[.slice none 0 0, .slice none 0 0, .slice none 0 0] 29 (0, 0)) (by (with_reducible repeat (first | refine blk_drewN ?_ _ | refine blk_drew ?_ | refine blk_alloc ?_ _)); exact BK101.out)) : gb101 ≠ gb105)); have n9_ := Aside0.mk ((by rw [hg]; exact Nat.ne_of_gt (blk_lt (g := gb101) (o := .cells #[.slice none 0 0, .slice none 0 0, .slice none 0 0] 29 (0, 0)) (by (with_reducible repeat (first | refine blk_drewN ?_ _ | refine blk_drew ?_ | refine blk_alloc ?_ _)); exact BK101.out)) : gb105 ≠ gb101)); have n10_ := Aside0.mk ((by rw [hg]; exact Nat.ne_of_lt (blk_lt (g := gb103) (o := .cells #[.slice none 0 0, u104001, .slice none 0 0] 29 (0, 0)) (by (with_reducible repeat (first | refine blk_drewN ?_ _ | refine blk_drew ?_ | refine blk_alloc ?_ _)); exact BK103.out)) : gb103 ≠ gb105)); have n11_ := Aside0.mk ((by rw [hg]; exact Nat.ne_of_gt (blk_lt (g := gb103) (o := .cells #[.slice none 0 0, u104001, .slice none 0 0] 29 (0, 0)) (by (with_reducible repeat (first | refine blk_drewN ?_ _ | refine blk_drew ?_ | refine blk_alloc ?_ _)); exact BK103.out)) : gb105 ≠ gb103)); clear HO_6; clear HO_104001; clear BK101; clear BK103; clear HB; have HO_6 := n0_; have HO_104001 := n1_; have BK101 := n2_; have BK103 := n3_; have HB := n4_; have BK105 := n5_; have GW105 := n6_; have GE105 := n7_; have NB101_105 := n8_; have NB105_101 := n9_; have NB103_105 := n10_; have NB105_103 := n11_; clear n0_ n1_ n2_ n3_ n4_ n5_ n6_ n7_ n8_ n9_ n10_ n11_; clear hb hbox hg; have hnb13 := NB105_101.out; have hnc13 := NB101_105.out; have hnb14 := NB105_103.out; have hnc14 := NB103_105.out; have hcz15_0 : w12.cell? ⟨gb105, 0, none⟩ = some (.string (⟨#[]⟩ : ByteArray)) := (blk_cell BK105.out 0).trans rfl; have hcz15_1 : w12.cell? ⟨gb105, 1, none⟩ = some (.int .u64 0) := (blk_cell BK105.out 1).trans rfl; have hfz15_0 := blk_frozen BK105.out 0; have hfz15_1 := blk_frozen BK105.out 1) | ((with_reducible refine gate_builtin (b := .append) (xs := #[.tmp 21, .tmp 24]) rfl ?_); at_builtin; refine Kd.R_append Kd.string (w0 := w) w.heap.size rfl (.tmp 21) (.tmp 24) 66 9 (.string ⟨#[]⟩) 16 rfl Try.underlying66 info9 rfl (by decide) (by omega) u6 x6_1 ((rd_T49 l0 x17_1).f0) [.string ((rd_T49 l0 x17_1).f0)] (fun _ => True) (fun _ => False) rfl (by first | (go_simp; done) | (go_simp; rfl)) ?aP (fun _ hk => hk.elim) ?aF ?aO ?aB ?aS ?aL ?_; (case aP => exact rfl); (case aB => exact (by repeat (first | (with_reducible first | exact HB.out | apply below_alloc | apply pw_below_drewN | apply below_drew1 | refine below_set ?_ GE101.out | refine below_set ?_ GE103.out | refine below_set ?_ GE105.out) | exact HB.out))); (case aF => exact (fun _ _ => trivial)); (case aO => exact (by (with_reducible repeat (first | apply Kd.R_alloc | apply Kd.R_drewN | apply Kd.R_drew)); exact Kd.R_mono (Kd.R_far (p := ⟨gb105, 1, none⟩) (Kd.R_far (p := ⟨gb105, 0, none⟩) (Kd.R_types HO_6.out BK105.out (by decide)) (fun _ hk => hk.2) (.string ((rd_T49 l0 x17_1).f0))) (fun _ hk => hk.2) (.int .u64 ((rd_T49 l0 x17_1).f1))) (fun _ hk => trivial))); (case aS => exact (below_size (by repeat (first | (with_reducible first | exact HB.out | apply below_alloc | apply pw_below_drewN | apply below_drew1 | refine below_set ?_ GE101.out | refine below_set ?_ GE103.out | refine below_set ?_ GE105.out) | exact HB.out)))); (case aL => have := LMc10.out; omega); intro v107 w16 ho hb hg hat; rw [← Ny106.out] at ho; have n0_ := Aside0.mk (Kd.R_over' (by (with_reducible repeat (first | apply Kd.R_alloc | apply Kd.R_drewN | apply Kd.R_drew)); exact (Kd.R_mono (Kd.R_far (p := ⟨gb105, 1, none⟩) (Kd.R_far (p := ⟨gb105, 0, none⟩) (Kd.R_types HO_104001.out BK105.out (by decide)) (fun _ hk => hk.2) (.string ((rd_T49 l0 x17_1).f0))) (fun _ hk => hk.2) (.int .u64 ((rd_T49 l0 x17_1).f1))) (fun _ h_ => h_.1))) (Kd.R_typed (by (with_reducible repeat (first | apply Kd.R_alloc | apply Kd.R_drewN | apply Kd.R_drew)); exact (Kd.R_mono (Kd.R_far (p := ⟨gb105, 1, none⟩) (Kd.R_far (p := ⟨gb105, 0, none⟩) (Kd.R_types HO_6.out BK105.out (by decide)) (fun _ hk => hk.2) (.string ((rd_T49 l0 x17_1).f0))) (fun _ hk => hk.2) (.int .u64 ((rd_T49 l0 x17_1).f1))) (fun _ h_ => h_.1)))) (by decide) hg); have n1_ := Aside0.mk (blk_grown (g := gb101) (o := .cells #[.slice none 0 0, .slice none 0 0, .slice none 0 0] 29 (0, 0)) (by (with_reducible repeat (first | refine blk_drewN ?_ _ | refine blk_drew ?_ | refine blk_alloc ?_ _)); refine blk_far ?_ NB101_105.out _; (with_reducible repeat (first | refine blk_drewN ?_ _ | refine blk_drew ?_ | refine blk_alloc ?_ _)); refine blk_far ?_ NB101_105.out _; (with_reducible repeat (first | refine blk_drewN ?_ _ | refine blk_drew ?_ | refine blk_alloc ?_ _)); exact BK101.out) hg (Kd.R_ne HO_6.out BK101.out (by decide))); have n2_ := Aside0.mk (blk_grown (g := gb103) (o := .cells #[.slice none 0 0, u104001, .slice none 0 0] 29 (0, 0)) (by (with_reducible repeat (first | refine blk_drewN ?_ _ | refine blk_drew ?_ | refine blk_alloc ?_ _)); refine blk_far ?_ NB103_105.out _; (with_reducible repeat (first | refine blk_drewN ?_ _ | refine blk_drew ?_ | refine blk_alloc ?_ _)); refine blk_far ?_ NB103_105.out _; (with_reducible repeat (first | refine blk_drewN ?_ _ | refine blk_drew ?_ | refine blk_alloc ?_ _)); exact BK103.out) hg (Kd.R_ne HO_6.out BK103.out (by decide))); have n3_ := Aside0.mk (blk_grown (g := gb105) (o := .cells #[.string ((rd_T49 l0 x17_1).f0), .int .u64 ((rd_T49 l0 x17_1).f1)] 49 (0, 0)) (by (with_reducible repeat (first | refine blk_drewN ?_ _ | refine blk_drew ?_ | refine blk_alloc ?_ _)); refine blk_put (cs := #[.string ((rd_T49 l0 x17_1).f0), .int .u64 0]) ?_ 1 _ rfl; (with_reducible repeat (first | refine blk_drewN ?_ _ | refine blk_drew ?_ | refine blk_alloc ?_ _)); refine blk_put (cs := #[.string (⟨#[]⟩ : ByteArray), .int .u64 0]) ?_ 0 _ rfl; (with_reducible repeat (first | refine blk_drewN ?_ _ | refine blk_drew ?_ | refine blk_alloc ?_ _)); exact BK105.out) hg (Kd.R_ne HO_6.out BK105.out (by decide))); have n4_ := Aside0.mk (hb); have n5_ := Aside0.mk (ho); clear HO_104001; clear BK101; clear BK103; clear BK105; clear HB; clear HO_6; have HO_104001 := n0_; have BK101 := n1_; have BK103 := n2_; have BK105 := n3_; have HB := n4_; have HO108 := n5_; clear n0_ n1_ n2_ n3_ n4_ n5_; clear ho hb hg hat; have hnb17 := NB103_101.out; have hnc17 := NB101_103.out; have hcz18_0 : w16.cell? ⟨gb103, 0, none⟩ = some (.slice none 0 0) := (blk_cell BK103.out 0).trans rfl; have hcz18_1 : w16.cell? ⟨gb103, 1, none⟩ = some (u104001) := (blk_cell BK103.out 1).trans rfl; have hcz18_2 : w16.cell? ⟨gb103, 2, none⟩ = some (.slice none 0 0) := (blk_cell BK103.out 2).trans rfl; have hfz18_0 := blk_frozen BK103.out 0; have hfz18_1 := blk_frozen BK103.out 1; have hfz18_2 := blk_frozen BK103.out 2; have hcz19_0 : w16.cell? ⟨gb105, 0, none⟩ = some (.string ((rd_T49 l0 x17_1).f0)) := (blk_cell BK105.out 0).trans rfl; have hcz19_1 : w16.cell? ⟨gb105, 1, none⟩ = some (.int .u64 ((rd_T49 l0 x17_1).f1)) := (blk_cell BK105.out 1).trans rfl; have hfz19_0 := blk_frozen BK105.out 0; have hfz19_1 := blk_frozen BK105.out 1) | ((with_reducible refine gate_builtin (b := .append) (xs := #[.tmp 27, .tmp 30]) rfl ?_); at_builtin; refine Kd.R_append (Kd.int .u64) (w0 := w) w.heap.size rfl (.tmp 27) (.tmp 30) 26 47 (.int .u64 0) 8 rfl Try.underlying26 info47 rfl (by decide) (by omega) u104001 x104001_1 ((rd_T49 l0 x17_1).f1) [.int .u64 ((rd_T49 l0 x17_1).f1)] (fun _ => True) (fun _ => False) rfl rfl ?aP (fun _ hk => hk.elim) ?aF ?aO ?aB ?aS ?aL ?_; (case aP => exact rfl); (case aB => exact (by repeat (first | (with_reducible first | exact HB.out | apply below_alloc | apply pw_below_drewN | apply below_drew1 | refine below_set ?_ GE101.out | refine below_set ?_ GE103.out | refine below_set ?_ GE105.out) | exact HB.out))); (case aF => exact (fun _ _ => trivial)); (case aO => exact (by (with_reducible repeat (first | apply Kd.R_alloc | apply Kd.R_drewN | apply Kd.R_drew)); exact HO_104001.out)); (case aS => exact (below_size (by repeat (first | (with_reducible first | exact HB.out | apply below_alloc | apply pw_below_drewN | apply below_drew1 | refine below_set ?_ GE101.out | refine below_set ?_ GE103.out | refine below_set ?_ GE105.out) | exact HB.out)))); (case aL => have := LMc11.out; omega); intro v110 w20 ho hb hg hat; rw [← Ny109.out] at ho; have n0_ := Aside0.mk (blk_grown (g := gb101) (o := .cells #[.slice none 0 0, .slice none 0 0, .slice none 0 0] 29 (0, 0)) (by (with_reducible repeat (first | refine blk_drewN ?_ _ | refine blk_drew ?_ | refine blk_alloc ?_ _)); exact BK101.out) hg (Kd.R_ne HO_104001.out BK101.out (by decide))); have n1_ := Aside0.mk (blk_grown (g := gb103) (o := .cells #[.slice none 0 0, u104001, .slice none 0 0] 29 (0, 0)) (by (with_reducible repeat (first | refine blk_drewN ?_ _ | refine blk_drew ?_ | refine blk_alloc ?_ _)); exact BK103.out) hg (Kd.R_ne HO_104001.out BK103.out (by decide))); have n2_ := Aside0.mk (blk_grown (g := gb105) (o := .cells #[.string ((rd_T49 l0 x17_1).f0), .int .u64 ((rd_T49 l0 x17_1).f1)] 49 (0, 0)) (by (with_reducible repeat (first | refine blk_drewN ?_ _ | refine blk_drew ?_ | refine blk_alloc ?_ _)); exact BK105.out) hg (Kd.R_ne HO_104001.out BK105.out (by decide))); have n3_ := Aside0.mk (Kd.R_over' (by (with_reducible repeat (first | apply Kd.R_alloc | apply Kd.R_drewN | apply Kd.R_drew)); exact HO108.out) (Kd.R_typed (by (with_reducible repeat (first | apply Kd.R_alloc | apply Kd.R_drewN | apply Kd.R_drew)); exact HO_104001.out)) (by decide) hg); have n4_ := Aside0.mk (hb); have n5_ := Aside0.mk (ho); clear BK101; clear BK103; clear BK105; clear HO108; clear HB; clear HO_104001; have BK101 := n0_; have BK103 := n1_; have BK105 := n2_; have HO108 := n3_; have HB := n4_; have HO111 := n5_; clear n0_ n1_ n2_ n3_ n4_ n5_; clear ho hb hg hat; obtain ⟨Ao21, co21, eo21⟩ := Kd.R_slice HO111.out; subst eo21; have hcz22_0 : w20.cell? ⟨gb103, 0, none⟩ = some (.slice none 0 0) := (blk_cell BK103.out 0).trans rfl; have hcz22_1 : w20.cell? ⟨gb103, 1, none⟩ = some (u104001) := (blk_cell BK103.out 1).trans rfl; have hcz22_2 : w20.cell? ⟨gb103, 2, none⟩ = some (.slice none 0 0) := (blk_cell BK103.out 2).trans rfl; have hfz22_0 := blk_frozen BK103.out 0; have hfz22_1 := blk_frozen BK103.out 1; have hfz22_2 := blk_frozen BK103.out 2))
                  go_roundg k1
                  case measure => have := HK1.out; omega
                  case rel => exact ⟨(y106), (wrap64 (x17_1 + 1)), (y109), (.slice Ao21 y109.length co21), (by first | rfl | (simp; done) | (simp [*]; done)), H', ⟨by have := HK1.out; omega⟩, ⟨by (with_reducible repeat (first | apply Kd.R_alloc | apply Kd.R_drewN | apply Kd.R_drew)); exact Kd.R_mono (Kd.R_far (p := ⟨gb103, 1, none⟩) (Kd.R_types HO108.out BK103.out (by decide)) (fun _ hk => hk.2) (.slice Ao21 y109.length co21)) (fun _ hk => trivial)⟩, ⟨by (with_reducible repeat (first | apply Kd.R_alloc | apply Kd.R_drewN | apply Kd.R_drew)); exact Kd.R_mono (Kd.R_far (p := ⟨gb103, 1, none⟩) (Kd.R_types HO111.out BK103.out (by decide)) (fun _ hk => hk.2) (.slice Ao21 y109.length co21)) (fun _ hk => trivial)⟩, ⟨by (with_reducible repeat (first | refine blk_drewN ?_ _ | refine blk_drew ?_ | refine blk_alloc ?_ _)); refine blk_far ?_ NB101_103.out _; (with_reducible repeat (first | refine blk_drewN ?_ _ | refine blk_drew ?_ | refine blk_alloc ?_ _)); exact BK101.out⟩, ⟨by (with_reducible repeat (first | refine blk_drewN ?_ _ | refine blk_drew ?_ | refine blk_alloc ?_ _)); refine blk_put (cs := #[.slice none 0 0, u104001, .slice none 0 0]) ?_ 1 _ rfl; (with_reducible repeat (first | refine blk_drewN ?_ _ | refine blk_drew ?_ | refine blk_alloc ?_ _)); exact BK103.out⟩, ⟨by repeat (first | (with_reducible first | exact HB.out | apply below_alloc | apply pw_below_drewN | apply below_drew1 | refine below_set ?_ GE101.out | refine below_set ?_ GE103.out | refine below_set ?_ GE105.out) | exact HB.out)⟩⟩
                · rw [if_neg c11] at H
                  exact absurd H (by simp)
              · rw [if_neg c10] at H
                exact absurd H (by simp)
            · rw [if_neg c9] at H
              exact absurd H (by simp)
          · rw [if_neg c8] at H
            exact absurd H (by simp)
        · rw [if_neg c7] at H
          have c7b0 : decide (x17_1 < (l0.length : Int)) = false := decide_eq_false c7
          clear c7
          replace H := Option.bind_eq_some_iff.mp H
          obtain ⟨⟨t112, t113⟩, A230, H⟩ := H
          replace H : ((rank_Classes.f l0).bind fun t116 => (some (t112, x104001_1, t116, 0))) = some (r1, r2, r3, r4) := H
          have A23 := Aside0.mk A230
          clear A230
          replace H := Option.bind_eq_some_iff.mp H
          obtain ⟨t116, A240, H⟩ := H
          replace H : (some (t112, x104001_1, t116, 0)) = some (r1, r2, r3, r4) := H
          have A24 := Aside0.mk A240
          clear A240
          simp only [Option.some.injEq, Prod.mk.injEq] at H
          obtain ⟨rfl, rfl, rfl, rfl⟩ := H
          obtain ⟨Ao25, co25, eo25⟩ := Kd.R_slice HO_6.out
          subst eo25
          go_wp2_with (first | ((with_reducible refine gate_callee (f := 32) rfl ?_); refine goesL_ (some 36) rfl rfl Try.func32 (by kernel_rfl) rfl #[.slice Ao25 x6_1.length co25] rfl (by (try simp only [List.map_toArray, List.map_cons, List.map_nil]); first | done | rfl | (simp only [List.length_drop, List.length_take]; rfl)) ?_; (with_reducible refine (daw_Build.calls _ _ x6_1 t112 t113 _ ?side1 ?side2 A23.out).mono ?_); (case side1 => repeat (first | exact (Kd.R_reads' HO_6.out).2.2 | (with_reducible refine Kd.C_alloc ?_ _) | (with_reducible refine Kd.C_drewN ?_ _) | (with_reducible refine Kd.C_drew ?_))); (case side2 => exact (Kd.R_reads' HO_6.out).2.1); rintro e w26 ⟨v114, rfl, ho0, hb⟩; refine ⟨_, rfl, ?_⟩; have n0_ := Aside0.mk (Kd.R_below (by (with_reducible repeat (first | apply Kd.R_alloc | apply Kd.R_drewN | apply Kd.R_drew)); exact HO_6.out) hb); have n1_ := Aside0.mk (Kd.R_below (by (with_reducible repeat (first | apply Kd.R_alloc | apply Kd.R_drewN | apply Kd.R_drew)); exact HO_104001.out) hb); have n2_ := Aside0.mk (Kd.S_lower ho0 (below_size (by repeat (first | (with_reducible first | exact HB.out | apply below_alloc | apply pw_below_drewN | apply below_drew1 | refine below_set ?_ GE101.out | refine below_set ?_ GE103.out) | exact HB.out)))); have n3_ := Aside0.mk (blk_below (g := gb101) (o := .cells #[.slice none 0 0, .slice none 0 0, .slice none 0 0] 29 (0, 0)) (by (with_reducible repeat (first | refine blk_drewN ?_ _ | refine blk_drew ?_ | refine blk_alloc ?_ _)); exact BK101.out) hb); have n4_ := Aside0.mk (blk_below (g := gb103) (o := .cells #[.slice none 0 0, u104001, .slice none 0 0] 29 (0, 0)) (by (with_reducible repeat (first | refine blk_drewN ?_ _ | refine blk_drew ?_ | refine blk_alloc ?_ _)); exact BK103.out) hb); have n5_ := Aside0.mk (below_step (by repeat (first | (with_reducible first | exact HB.out | apply below_alloc | apply pw_below_drewN | apply below_drew1 | refine below_set ?_ GE101.out | refine below_set ?_ GE103.out) | exact HB.out)) hb); clear HO_6; clear HO_104001; clear BK101; clear BK103; clear HB; have HO_6 := n0_; have HO_104001 := n1_; have HO115 := n2_; have BK101 := n3_; have BK103 := n4_; have HB := n5_; clear n0_ n1_ n2_ n3_ n4_ n5_; (try clear hb); (try clear hb2); (try clear hk); (try clear hi); (try clear ho0); obtain ⟨Ao27, co27, eo27⟩ := Kd.S_slice HO115.out; subst eo27; have hnb28 := NB103_101.out; have hnc28 := NB101_103.out; have hcz29_0 : w26.cell? ⟨gb103, 0, none⟩ = some (.slice none 0 0) := (blk_cell BK103.out 0).trans rfl; have hcz29_1 : w26.cell? ⟨gb103, 1, none⟩ = some (u104001) := (blk_cell BK103.out 1).trans rfl; have hcz29_2 : w26.cell? ⟨gb103, 2, none⟩ = some (.slice none 0 0) := (blk_cell BK103.out 2).trans rfl; have hfz29_0 := blk_frozen BK103.out 0; have hfz29_1 := blk_frozen BK103.out 1; have hfz29_2 := blk_frozen BK103.out 2) | ((with_reducible refine gate_callee (f := 33) rfl ?_); refine goesL_ (some 41) rfl rfl Try.func33 (by kernel_rfl) rfl #[.slice A0 l0.length c0] rfl (by (try simp only [List.map_toArray, List.map_cons, List.map_nil]); first | done | rfl | (simp only [List.length_drop, List.length_take]; rfl)) ?_; (with_reducible refine (rank_Classes.calls _ _ l0 t116 _ ?side1 ?side2 A24.out).mono ?_); (case side1 => exact Kd.C_below HR0.out (by repeat (first | (with_reducible first | exact HB.out | apply below_alloc | apply pw_below_drewN | apply below_drew1 | refine below_set ?_ GE101.out | refine below_set ?_ GE103.out) | exact HB.out))); (case side2 => exact HC0.out); rintro e w30 ⟨v117, rfl, ho0, hb⟩; refine ⟨_, rfl, ?_⟩; have n0_ := Aside0.mk (Kd.R_below (by (with_reducible repeat (first | apply Kd.R_alloc | apply Kd.R_drewN | apply Kd.R_drew)); exact (Kd.R_mono (Kd.R_far (p := ⟨gb103, 0, none⟩) (Kd.R_types HO_6.out BK103.out (by decide)) (fun _ hk => hk.2) (.slice Ao27 t112.length co27)) (fun _ h_ => h_.1))) hb); have n1_ := Aside0.mk (Kd.R_below (by (with_reducible repeat (first | apply Kd.R_alloc | apply Kd.R_drewN | apply Kd.R_drew)); exact (Kd.R_mono (Kd.R_far (p := ⟨gb103, 0, none⟩) (Kd.R_types HO_104001.out BK103.out (by decide)) (fun _ hk => hk.2) (.slice Ao27 t112.length co27)) (fun _ h_ => h_.1))) hb); have n2_ := Aside0.mk (Kd.S_below (by (with_reducible repeat (first | apply Kd.S_alloc | apply Kd.S_drewN | apply Kd.S_drew)); exact (Kd.S_mono (Kd.S_far (p := ⟨gb103, 0, none⟩) (Kd.S_types HO115.out BK103.out (by decide)) (fun _ hk => hk.2) (.slice Ao27 t112.length co27)) (fun _ h_ => h_.1))) hb); have n3_ := Aside0.mk (Kd.R_lower ho0 (below_size (by repeat (first | (with_reducible first | exact HB.out | apply below_alloc | apply pw_below_drewN | apply below_drew1 | refine below_set ?_ GE101.out | refine below_set ?_ GE103.out) | exact HB.out)))); have n4_ := Aside0.mk (blk_below (g := gb101) (o := .cells #[.slice none 0 0, .slice none 0 0, .slice none 0 0] 29 (0, 0)) (by (with_reducible repeat (first | refine blk_drewN ?_ _ | refine blk_drew ?_ | refine blk_alloc ?_ _)); refine blk_far ?_ NB101_103.out _; (with_reducible repeat (first | refine blk_drewN ?_ _ | refine blk_drew ?_ | refine blk_alloc ?_ _)); exact BK101.out) hb); have n5_ := Aside0.mk (blk_below (g := gb103) (o := .cells #[.slice Ao27 t112.length co27, u104001, .slice none 0 0] 29 (0, 0)) (by (with_reducible repeat (first | refine blk_drewN ?_ _ | refine blk_drew ?_ | refine blk_alloc ?_ _)); refine blk_put (cs := #[.slice none 0 0, u104001, .slice none 0 0]) ?_ 0 _ rfl; (with_reducible repeat (first | refine blk_drewN ?_ _ | refine blk_drew ?_ | refine blk_alloc ?_ _)); exact BK103.out) hb); have n6_ := Aside0.mk (below_step (by repeat (first | (with_reducible first | exact HB.out | apply below_alloc | apply pw_below_drewN | apply below_drew1 | refine below_set ?_ GE101.out | refine below_set ?_ GE103.out) | exact HB.out)) hb); clear HO_6; clear HO_104001; clear HO115; clear BK101; clear BK103; clear HB; have HO_6 := n0_; have HO_104001 := n1_; have HO115 := n2_; have HO118 := n3_; have BK101 := n4_; have BK103 := n5_; have HB := n6_; clear n0_ n1_ n2_ n3_ n4_ n5_ n6_; (try clear hb); (try clear hb2); (try clear hk); (try clear hi); (try clear ho0); obtain ⟨Ao31, co31, eo31⟩ := Kd.R_slice HO118.out; subst eo31; have hcz32_0 : w30.cell? ⟨gb103, 0, none⟩ = some (.slice Ao27 t112.length co27) := (blk_cell BK103.out 0).trans rfl; have hcz32_1 : w30.cell? ⟨gb103, 1, none⟩ = some (u104001) := (blk_cell BK103.out 1).trans rfl; have hcz32_2 : w30.cell? ⟨gb103, 2, none⟩ = some (.slice none 0 0) := (blk_cell BK103.out 2).trans rfl; have hfz32_0 := blk_frozen BK103.out 0; have hfz32_1 := blk_frozen BK103.out 1; have hfz32_2 := blk_frozen BK103.out 2; have hcz33_0 : w30.cell? ⟨gb101, 0, none⟩ = some (.slice none 0 0) := (blk_cell BK101.out 0).trans rfl; have hcz33_1 : w30.cell? ⟨gb101, 1, none⟩ = some (.slice none 0 0) := (blk_cell BK101.out 1).trans rfl; have hcz33_2 : w30.cell? ⟨gb101, 2, none⟩ = some (.slice none 0 0) := (blk_cell BK101.out 2).trans rfl; have hfz33_0 := blk_frozen BK101.out 0; have hfz33_1 := blk_frozen BK101.out 1; have hfz33_2 := blk_frozen BK101.out 2; obtain ⟨Ao34, co34, eo34⟩ := Kd.R_slice HO_104001.out; subst eo34))
          refine bodyPost_ret (results_ct rfl _ _ gb101 29 #[.slice Ao27 t112.length co27, .slice Ao34 x104001_1.length co34, .slice Ao31 t116.length co31] (0, 0) _ rfl (by (with_reducible repeat (first | refine blk_drewN ?_ _ | refine blk_drew ?_ | refine blk_alloc ?_ _)); refine blk_put (cs := #[.slice Ao27 t112.length co27, .slice Ao34 x104001_1.length co34, .slice none 0 0]) ?_ 2 _ rfl; (with_reducible repeat (first | refine blk_drewN ?_ _ | refine blk_drew ?_ | refine blk_alloc ?_ _)); refine blk_put (cs := #[.slice Ao27 t112.length co27, .slice none 0 0, .slice none 0 0]) ?_ 1 _ rfl; (with_reducible repeat (first | refine blk_drewN ?_ _ | refine blk_drew ?_ | refine blk_alloc ?_ _)); refine blk_put (cs := #[.slice none 0 0, .slice none 0 0, .slice none 0 0]) ?_ 0 _ rfl; (with_reducible repeat (first | refine blk_drewN ?_ _ | refine blk_drew ?_ | refine blk_alloc ?_ _)); refine blk_far ?_ NB101_103.out _; (with_reducible repeat (first | refine blk_drewN ?_ _ | refine blk_drew ?_ | refine blk_alloc ?_ _)); exact BK101.out) Try.underlying29 rfl (by kernel_rfl)) rfl ?_
          exact ⟨_, _, _, by first | rfl | (simp [errW_none, errW_some] <;> rfl) | (simp [*, errW_none, errW_some] <;> rfl), by (with_reducible repeat (first | apply Kd.S_alloc | apply Kd.S_drewN | apply Kd.S_drew)); exact Kd.S_mono (Kd.S_far (p := ⟨gb101, 2, none⟩) (Kd.S_far (p := ⟨gb101, 1, none⟩) (Kd.S_far (p := ⟨gb101, 0, none⟩) (Kd.S_far (p := ⟨gb103, 2, none⟩) (Kd.S_types (Kd.S_types HO115.out BK103.out (by decide)) BK101.out (by decide)) (fun _ hk => hk.1.2) (.slice Ao31 t116.length co31)) (fun _ hk => hk.2) (.slice Ao27 t112.length co27)) (fun _ hk => hk.2) (.slice Ao34 x104001_1.length co34)) (fun _ hk => hk.2) (.slice Ao31 t116.length co31)) (fun _ hk => trivial), by (with_reducible repeat (first | apply Kd.R_alloc | apply Kd.R_drewN | apply Kd.R_drew)); exact Kd.R_mono (Kd.R_far (p := ⟨gb101, 2, none⟩) (Kd.R_far (p := ⟨gb101, 1, none⟩) (Kd.R_far (p := ⟨gb101, 0, none⟩) (Kd.R_far (p := ⟨gb103, 2, none⟩) (Kd.R_types (Kd.R_types HO_104001.out BK103.out (by decide)) BK101.out (by decide)) (fun _ hk => hk.1.2) (.slice Ao31 t116.length co31)) (fun _ hk => hk.2) (.slice Ao27 t112.length co27)) (fun _ hk => hk.2) (.slice Ao34 x104001_1.length co34)) (fun _ hk => hk.2) (.slice Ao31 t116.length co31)) (fun _ hk => trivial), by (with_reducible repeat (first | apply Kd.R_alloc | apply Kd.R_drewN | apply Kd.R_drew)); exact Kd.R_mono (Kd.R_far (p := ⟨gb101, 2, none⟩) (Kd.R_far (p := ⟨gb101, 1, none⟩) (Kd.R_far (p := ⟨gb101, 0, none⟩) (Kd.R_far (p := ⟨gb103, 2, none⟩) (Kd.R_types (Kd.R_types HO118.out BK103.out (by decide)) BK101.out (by decide)) (fun _ hk => hk.1.2) (.slice Ao31 t116.length co31)) (fun _ hk => hk.2) (.slice Ao27 t112.length co27)) (fun _ hk => hk.2) (.slice Ao34 x104001_1.length co34)) (fun _ hk => hk.2) (.slice Ao31 t116.length co31)) (fun _ hk => trivial), by repeat (first | (with_reducible first | exact HB.out | apply below_alloc | apply pw_below_drewN | apply below_drew1 | refine below_set ?_ GE101.out | refine below_set ?_ GE103.out) | exact HB.out)⟩
  · rw [if_neg c3] at H
    have c3b0 : (t102 == 0) = false := beq_eq_false_iff_ne.mpr c3
    have c3b1 : (t102 != 0) = true := bne_iff_ne.mpr c3
    simp only [Option.some.injEq, Prod.mk.injEq] at H
    obtain ⟨rfl, rfl, rfl, rfl⟩ := H
    go_enter Try.func14, Try.ntmps14
    go_wp2_with (first | ((with_reducible refine gate_dst (N := 2) rfl ?_); refine box_event ?hg (N := 2) ?hd (cs := #[.slice none 0 0, .slice none 0 0, .slice none 0 0]) (t := 29) ?hr ?_; (case hd => rfl); (case hg => rfl); (case hr => first | (go_simp; done) | (go_simp; rfl)); intro gb101 hg w35 hbox hb; have n0_ := Aside0.mk (below_step (by repeat (first | (with_reducible first | exact HB.out | apply below_alloc | apply pw_below_drewN | apply below_drew1) | exact HB.out)) hb); have n1_ := Aside0.mk (hbox); have n2_ := Aside0.mk ((by rw [hg]; exact (below_size (by repeat (first | (with_reducible first | exact HB.out | apply below_alloc | apply pw_below_drewN | apply below_drew1) | exact HB.out))) : w.heap.size ≤ gb101)); have n3_ := Aside0.mk ((by rw [hg]; exact (below_size (by repeat (first | (with_reducible first | exact HB.out | apply below_alloc | apply pw_below_drewN | apply below_drew1) | exact HB.out))) : w.heap.size ≤ gb101)); clear HB; have HB := n0_; have BK101 := n1_; have GW101 := n2_; have GE101 := n3_; clear n0_ n1_ n2_ n3_; clear hb hbox hg) | ((with_reducible refine gate_callee (f := 31) rfl ?_); refine goesL_ (some 10) rfl rfl Try.func31 (by kernel_rfl) rfl #[.slice A0 l0.length c0] rfl (by (try simp only [List.map_toArray, List.map_cons, List.map_nil]); first | done | rfl | (simp only [List.length_drop, List.length_take]; rfl)) ?_; (with_reducible refine (run_May.calls _ _ l0 t102 _ ?side1 ?side2 A2.out).mono ?_); (case side1 => repeat (first | exact (Kd.C_below HR0.out HB.out) | (with_reducible refine Kd.C_alloc ?_ _) | (with_reducible refine Kd.C_drewN ?_ _) | (with_reducible refine Kd.C_drew ?_))); (case side2 => exact HC0.out); rintro e w36 ⟨rfl, hb⟩; refine ⟨_, rfl, ?_⟩; have n0_ := Aside0.mk (blk_below (g := gb101) (o := .cells #[.slice none 0 0, .slice none 0 0, .slice none 0 0] 29 (0, 0)) (by (with_reducible repeat (first | refine blk_drewN ?_ _ | refine blk_drew ?_ | refine blk_alloc ?_ _)); exact BK101.out) hb); have n1_ := Aside0.mk (below_step (by repeat (first | (with_reducible first | exact HB.out | apply below_alloc | apply pw_below_drewN | apply below_drew1 | refine below_set ?_ GE101.out) | exact HB.out)) hb); clear BK101; clear HB; have BK101 := n0_; have HB := n1_; clear n0_ n1_; (try clear hb); (try clear hb2); (try clear hk); (try clear hi); have hcz37_0 : w36.cell? ⟨gb101, 0, none⟩ = some (.slice none 0 0) := (blk_cell BK101.out 0).trans rfl; have hcz37_1 : w36.cell? ⟨gb101, 1, none⟩ = some (.slice none 0 0) := (blk_cell BK101.out 1).trans rfl; have hcz37_2 : w36.cell? ⟨gb101, 2, none⟩ = some (.slice none 0 0) := (blk_cell BK101.out 2).trans rfl; have hfz37_0 := blk_frozen BK101.out 0; have hfz37_1 := blk_frozen BK101.out 1; have hfz37_2 := blk_frozen BK101.out 2))
    refine bodyPost_ret (results_ct rfl _ _ gb101 29 #[.slice none 0 0, .slice none 0 0, .slice none 0 0] (0, 0) _ rfl (by (with_reducible repeat (first | refine blk_drewN ?_ _ | refine blk_drew ?_ | refine blk_alloc ?_ _)); refine blk_put (cs := #[.slice none 0 0, .slice none 0 0, .slice none 0 0]) ?_ 2 _ rfl; (with_reducible repeat (first | refine blk_drewN ?_ _ | refine blk_drew ?_ | refine blk_alloc ?_ _)); refine blk_put (cs := #[.slice none 0 0, .slice none 0 0, .slice none 0 0]) ?_ 1 _ rfl; (with_reducible repeat (first | refine blk_drewN ?_ _ | refine blk_drew ?_ | refine blk_alloc ?_ _)); refine blk_put (cs := #[.slice none 0 0, .slice none 0 0, .slice none 0 0]) ?_ 0 _ rfl; (with_reducible repeat (first | refine blk_drewN ?_ _ | refine blk_drew ?_ | refine blk_alloc ?_ _)); exact BK101.out) Try.underlying29 rfl (by kernel_rfl)) rfl ?_
    exact ⟨_, _, _, by first | rfl | (simp [errW_none, errW_some] <;> rfl) | (simp [*, errW_none, errW_some] <;> rfl), by first | exact Kd.S_nil _ _ _ _ _ | exact Kd.N_nil _ _ _ _ _ | exact Kd.V_nil _ _ _ _ _ | exact Kd.Q_nil _ _ _ _ _ | exact Kd.R_nil _ _ _ _ _, by first | exact Kd.R_nil _ _ _ _ _ | exact Kd.N_nil _ _ _ _ _ | exact Kd.V_nil _ _ _ _ _ | exact Kd.Q_nil _ _ _ _ _ | exact Kd.S_nil _ _ _ _ _, by first | exact Kd.R_nil _ _ _ _ _ | exact Kd.N_nil _ _ _ _ _ | exact Kd.V_nil _ _ _ _ _ | exact Kd.Q_nil _ _ _ _ _ | exact Kd.S_nil _ _ _ _ _, by repeat (first | (with_reducible first | exact HB.out | apply below_alloc | apply pw_below_drewN | apply below_drew1 | refine below_set ?_ GE101.out) | exact HB.out)⟩

mutual
def manteletlaw16_few.l0 : Nat → List (S49) → Int → Option (Bool)
  | 0, _, _ => none
  | k + 1, x0, x3 => if x3 < (x0.length : Int) then (manteletlaw16_few.j1 k x0 x3 (decide (x3 < 61))) else (manteletlaw16_few.j1 k x0 x3 false)
def manteletlaw16_few.j1 : Nat → List (S49) → Int → Bool → Option (Bool)
  | 0, _, _, _ => none
  | k + 1, x0, x3, x11 => if x11 = true then (if 0 ≤ x3 then (if x3 < (x0.length : Int) then (if (((rd_T49 x0 x3).f0).size : Int) > 300 then (some false) else (manteletlaw16_few.l0 k x0 (wrap64 (x3 + 1)))) else (none)) else (none)) else (some (decide ((x0.length : Int) ≤ 60)))
end
def manteletlaw16_few.f (k : Nat) (l0 : List (S49)) : Option (Bool) := manteletlaw16_few.l0 k l0 0
end Go.Proofs.Ytgebhidpkcjpmaa.PMk

namespace Go.Proofs.Ytgebhidpkcjpmaa.PMk
open Go.RowKit Go.Proofs.YtgebhidpkcjpmaaW.PrintWords Go.Proofs.YtgebhidpkcjpmaaW.PrintLast Go.Proofs.YtgebhidpkcjpmaaW.PrintMore Go.Proofs.Ytgebhidpkcjpmaa.K Go.Proofs.Ytgebhidpkcjpmaa.PDk Go.Proofs.Ytgebhidpkcjpmaa.PDm Go.Proofs.Ytgebhidpkcjpmaa.PFl Go.Proofs.Ytgebhidpkcjpmaa.PR13
attribute [local go_sem] max2_int min2_int max_two min_two max_three min_three max_four min_four   -- for this text's walks alone
set_option linter.unusedVariables false
set_option linter.unusedSimpArgs false

end Go.Proofs.Ytgebhidpkcjpmaa.PMk

namespace Go.Proofs.Ytgebhidpkcjpmaa.K
open Go.RowKit Go.Proofs.YtgebhidpkcjpmaaW.PrintWords Go.Proofs.YtgebhidpkcjpmaaW.PrintLast Go.Proofs.YtgebhidpkcjpmaaW.PrintMore Go.Proofs.Ytgebhidpkcjpmaa
attribute [local go_sem] max2_int min2_int max_two min_two max_three min_three max_four min_four
set_option linter.unusedVariables false
set_option linter.unusedSimpArgs false
open Go Go.Proofs.Ytgebhidpkcjpmaa.PR13 Go.Proofs.Ytgebhidpkcjpmaa.PDk Go.Proofs.Ytgebhidpkcjpmaa.PDm Go.Proofs.Ytgebhidpkcjpmaa.PIx Go.Proofs.Ytgebhidpkcjpmaa.PFl Go.Proofs.Ytgebhidpkcjpmaa.PLg Go.Proofs.Ytgebhidpkcjpmaa.PMk Go.Proofs.Ytgebhidpkcjpmaa.Daw Go.Proofs.Ytgebhidpkcjpmaa.Fil Go.Proofs.Ytgebhidpkcjpmaa.Crc
abbrev EnS := S49
def Wl (l : List EnS) : List ByteArray := l.map fun x => x.f0
def Cl (l : List EnS) : List Int := l.map fun x => x.f1
theorem Wl_len (l : List EnS) : (Wl l).length = l.length := List.length_map ..
theorem Cl_len (l : List EnS) : (Cl l).length = l.length := List.length_map ..
/-- Entries that may be a run's, of not too many bytes. -/
structure Ents (l : List EnS) : Prop where
  fine : ∀ x ∈ l, fineB x = true
  rise : (wordsN (Wl l)).Pairwise (· < ·)
  all : bytesAll (Wl l) ≤ 1000000
theorem fineB_iff (x : EnS) : fineB x = true ↔ x.f0.size ≠ 0 ∧ x.f0.size ≤ 255 ∧ 1 ≤ x.f1 ∧ x.f1 ≤ 4611686018427387904 := by
  unfold fineB
  simp only [Bool.and_eq_true, decide_eq_true_eq]
  constructor
  · rintro ⟨⟨⟨a, b⟩, c⟩, d⟩; exact ⟨a, b, c, d⟩
  · rintro ⟨a, b, c, d⟩; exact ⟨⟨⟨a, b⟩, c⟩, d⟩
theorem nats_nil_iff (s : ByteArray) : Utf.nats s = [] ↔ s.size = 0 := by
  have : (Utf.nats s).length = s.size := by simp [Utf.nats]
  constructor
  · intro h; rw [h] at this; simpa using this.symm
  · intro h; rw [h] at this; exact List.length_eq_zero_iff.1 this
theorem pair_rises {l : List EnS} (h : (wordsN (Wl l)).Pairwise (· < ·)) : risesB l = true := by
  unfold risesB
  rw [List.all_eq_true]
  intro i hi
  rw [List.mem_range] at hi
  have hlen : (wordsN (Wl l)).length = l.length := by unfold wordsN Wl; simp
  have := List.pairwise_iff_getElem.1 h i (i + 1) (by omega) (by omega) (by omega)
  rw [rdEn l i (by omega), rdEn l (i + 1) (by omega)]
  apply decide_eq_true
  simpa [wordsN, Wl] using this
namespace Ents
variable {l : List EnS} (h : Ents l)
include h
theorem may : mayR l = 0 := by
  unfold mayR
  rw [if_neg, if_pos (pair_rises h.rise)]
  intro ha
  obtain ⟨x, hx, h2⟩ := List.any_eq_true.1 ha
  rw [h.fine x hx] at h2; cases h2
theorem ne : [] ∉ wordsN (Wl l) := by
  intro hm
  unfold wordsN Wl at hm
  rw [List.map_map] at hm
  obtain ⟨x, hx, he⟩ := List.mem_map.1 hm
  exact ((fineB_iff x).1 (h.fine x hx)).1 ((nats_nil_iff _).1 he)
theorem ws : Ws (Wl l) := ⟨h.all, h.ne, h.rise⟩
theorem n : l.length ≤ 1000000 := by have := h.ws.n; rwa [Wl_len] at this
theorem okE : okE l = true := by
  have := h.n
  unfold K.okE
  rw [Bool.and_eq_true, decide_eq_true_eq, List.all_eq_true]
  refine ⟨by omega, fun x hx => ?_⟩
  have := (fineB_iff x).1 (h.fine x hx)
  simp [Lit.wf, IntKind.min, IntKind.max, IntKind.bits, IntKind.signed]
  omega
end Ents
def bare (c : List Int) : List EnS := c.map fun n => ⟨⟨#[]⟩, n⟩
theorem entries_l0 (c : List Int) (hc : c.length ≤ 1000000000) : ∀ (d i : Nat), i + d = c.length → Ev (fun k => file_entries.l0 k (bare (c.take i)) c (c.length : Int) (i : Int)) (bare c)
  | 0, i, hi => by
    refine Ev.step (f := fun _ => some (bare c)) (fun k => ?_) (Ev.now _)
    simp only [file_entries.l0]
    rw [if_neg (by omega), List.take_of_length_le (by omega)]
  | d + 1, i, hi => by
    have hlt : i < c.length := by omega
    have ih := entries_l0 c hc d (i + 1) (by omega)
    refine Ev.step (fun k => ?_) ih
    simp only [file_entries.l0]
    rw [if_pos (by omega), if_pos (by omega), if_pos (by omega), if_pos (by unfold bare; rw [List.length_map, List.length_take]; omega), wz (by omega) (by omega)]
    have e : bare (c.take i) ++ [(⟨(⟨#[]⟩ : ByteArray), rd c (i : Int)⟩ : EnS)] = bare (c.take (i + 1)) := by
      rw [List.take_succ_eq_append_getElem hlt, rd_nat, List.getD_eq_getElem?_getD, List.getElem?_eq_getElem hlt]
      unfold bare
      rw [List.map_append]; rfl
    rw [e]; rfl
theorem entries_ev (c : List Int) (hc : c.length ≤ 1000000000) : Ev (fun k => file_entries.f k c) (bare c) := by
  unfold file_entries.f
  exact entries_l0 c hc c.length 0 (by omega)
theorem equal_l0 (a b : List Int) (hab : a.length = b.length) (ha : a.length ≤ 1000000000) : ∀ (d i : Nat), i + d = a.length → Ev (fun k => slices_Equal_int_int.l0 k a b (a.length : Int) (i : Int)) (decide (a.drop i = b.drop i))
  | 0, i, hi => by
    refine Ev.step (f := fun _ => some (decide (a.drop i = b.drop i))) (fun k => ?_) (Ev.now _)
    simp only [slices_Equal_int_int.l0]
    rw [if_neg (by omega), List.drop_eq_nil_of_le (by omega), List.drop_eq_nil_of_le (by omega)]
    rfl
  | d + 1, i, hi => by
    have hlt : i < a.length := by omega
    have hlb : i < b.length := by omega
    have ih := equal_l0 a b hab ha d (i + 1) (by omega)
    have ea : rd a (i : Int) = a[i] := by rw [rd_nat, List.getD_eq_getElem?_getD, List.getElem?_eq_getElem hlt]; rfl
    have eb : rd b (i : Int) = b[i] := by rw [rd_nat, List.getD_eq_getElem?_getD, List.getElem?_eq_getElem hlb]; rfl
    rw [List.drop_eq_getElem_cons hlt, List.drop_eq_getElem_cons hlb]
    by_cases he : a[i] = b[i]
    · have e2 : decide (a[i] :: a.drop (i + 1) = b[i] :: b.drop (i + 1)) = decide (a.drop (i + 1) = b.drop (i + 1)) := decide_eq_decide.2 ⟨fun h => (List.cons.inj h).2, fun h => by rw [he, h]⟩
      rw [e2]
      refine Ev.step (fun k => ?_) ih
      simp only [slices_Equal_int_int.l0]
      rw [if_pos (by omega), if_pos (by omega), if_pos (by omega), if_pos (by omega), ea, eb, if_pos he, wz (by omega) (by omega)]
      rfl
    · have e2 : decide (a[i] :: a.drop (i + 1) = b[i] :: b.drop (i + 1)) = false := decide_eq_false fun h => he (List.cons.inj h).1
      rw [e2]
      refine Ev.step (f := fun _ => some false) (fun k => ?_) (Ev.now _)
      simp only [slices_Equal_int_int.l0]
      rw [if_pos (by omega), if_pos (by omega), if_pos (by omega), if_pos (by omega), ea, eb, if_neg he]
theorem equal_ev (a b : List Int) (ha : a.length ≤ 1000000000) : Ev (fun k => slices_Equal_int_int.f k a b) (decide (a = b)) := by
  unfold slices_Equal_int_int.f
  by_cases hab : a.length = b.length
  · refine Ev.congr (fun k => if_pos (by omega)) ?_
    have := equal_l0 a b hab ha a.length 0 (by omega)
    simpa using this
  · have e : decide (a = b) = false := decide_eq_false (fun h => hab (by rw [h]))
    rw [e]
    exact Ev.congr (fun k => if_neg (by omega)) (Ev.now _)
theorem classes_bare (l : List EnS) : classesL (bare (Cl l)) = classesL l := by
  have e : (bare (Cl l)).map S49.f1 = l.map S49.f1 := by
    unfold bare Cl
    rw [List.map_map, List.map_map]; rfl
  unfold classesL
  rw [e]
  unfold bare Cl
  rw [List.map_map, List.map_map]
  rfl
theorem make_l0 (l : List EnS) (hl : l.length ≤ 1000000) : ∀ (d i : Nat), i + d = l.length → ∀ r, (daw_Build.f (Wl l)).bind (fun bt112 => ((rank_Classes.f l).bind fun t116 => (some (bt112.1, Cl l, t116, (0 : Int))))) = some r → Ev (fun k => file_Make.l0 k l (Wl (l.take i)) l (l.length : Int) (i : Int) (Cl (l.take i))) r
  | 0, i, hi, r, hr => by
    rw [List.take_of_length_le (by omega)]
    refine Ev.step (f := fun _ => some r) (fun k => ?_) (Ev.now _)
    simp only [file_Make.l0]
    rw [if_neg (by omega)]
    exact hr
  | d + 1, i, hi, r, hr => by
    have hlt : i < l.length := by omega
    have ih := make_l0 l hl d (i + 1) (by omega) r hr
    have e1 : Wl (l.take (i + 1)) = Wl (l.take i) ++ [l[i].f0] := by rw [List.take_succ_eq_append_getElem hlt]; unfold Wl; rw [List.map_append]; rfl
    have e2 : Cl (l.take (i + 1)) = Cl (l.take i) ++ [l[i].f1] := by rw [List.take_succ_eq_append_getElem hlt]; unfold Cl; rw [List.map_append]; rfl
    rw [e1, e2] at ih
    refine Ev.step (fun k => ?_) ih
    simp only [file_Make.l0]
    rw [if_pos (by omega), if_pos (by omega), if_pos (by omega), if_pos (by rw [Wl_len, List.length_take]; omega), if_pos (by rw [Cl_len, List.length_take]; omega), rdEn l i hlt, wz (by omega) (by omega)]
    rfl
theorem make_ev {l : List EnS} (h : Ents l) : Ev (fun k => file_Make.f k l) ((build (wordsN (Wl l))).map toS, Cl l, classesL l, 0) := by
  unfold file_Make.f run_May.f
  simp only [Option.bind_some]
  refine Ev.congr (fun k => if_pos h.may) ?_
  refine make_l0 l h.n l.length 0 (by omega) _ ?_
  unfold daw_Build.f
  rw [if_pos h.all, Option.bind_some]
  unfold rank_Classes.f
  rw [if_pos h.okE, Option.bind_some]
  unfold buildR
  rw [if_neg h.ne, if_pos h.rise]
theorem lng_built {L : List ByteArray} (h : Ws L) : ∃ lg, Lng (build (wordsN L)) lg ∧ (L ≠ [] → lg ((build (wordsN L)).length - 1) = mlen (wordsN L)) ∧ (L = [] → lg ((build (wordsN L)).length - 1) = 0) := by
  by_cases hl : L = []
  · subst hl
    rw [show wordsN [] = [] from rfl, build_nil]
    refine ⟨fun _ => 0, ⟨fun i hi e he => ?_, fun i hi => ?_, fun _ _ => Nat.zero_le _, fun i hi => ?_, by decide, by decide⟩, fun h => absurd rfl h, fun _ => rfl⟩
    all_goals
      have : i = 0 := by simpa using hi
      subst this
    · simp at he
    · rfl
    · simp
  · have hk := h.known hl
    have hs := h.small
    refine ⟨_, lng_good hk.good h.pos (by omega) hk.cnt.few, fun _ => ?_, fun h2 => absurd h2 hl⟩
    show mlen (wl _ _) = _
    rw [h.root hl]
theorem may_ev {l : List EnS} (h : Ents l) : Ev (fun k => file_may.f k ((build (wordsN (Wl l))).map toS) (Cl l) (classesL l)) true := by
  obtain ⟨cs, h1, h2, h3⟩ := h.ws.cnts
  obtain ⟨lg, g1, g2, g3⟩ := lng_built h.ws
  have hpos := h.ws.pos
  have hn := h.n
  have hcl := csL_len cs (build (wordsN (Wl l))).length
  have hlast : rd (csL cs (build (wordsN (Wl l))).length) (((build (wordsN (Wl l))).length : Int) - 1) = ((Cl l).length : Int) := by
    have := rd_csL cs (build (wordsN (Wl l))).length 0 ((build (wordsN (Wl l))).length - 1) (by omega)
    rw [show (((build (wordsN (Wl l))).length : Int) - 1) = (((build (wordsN (Wl l))).length - 1 : Nat) : Int) by omega]
    rw [Cl_len, ← Wl_len l, ← h2]
    simpa using this
  have hlg : lg ((build (wordsN (Wl l))).length - 1) ≤ 255 := by
    by_cases hl : Wl l = []
    · rw [g3 hl]; exact Nat.zero_le _
    · rw [g2 hl]
      refine mlen_le.2 fun v hv => ?_
      unfold wordsN Wl at hv
      rw [List.map_map] at hv
      obtain ⟨x, hx, rfl⟩ := List.mem_map.1 hv
      have := (fineB_iff x).1 (h.fine x hx)
      show (Utf.nats x.f0).length ≤ 255
      have e : (Utf.nats x.f0).length = x.f0.size := by simp [Utf.nats]
      omega
  have hodd : (Cl l).any oddB = false := by
    rw [Bool.eq_false_iff]
    intro ha
    obtain ⟨n, hn, ho⟩ := List.any_eq_true.1 ha
    unfold Cl at hn
    obtain ⟨x, hx, rfl⟩ := List.mem_map.1 hn
    have := (fineB_iff x).1 (h.fine x hx)
    unfold oddB at ho
    simp only [Bool.or_eq_true, decide_eq_true_eq] at ho
    omega
  have hok : okE (bare (Cl l)) = true := by
    have := h.okE
    unfold okE at this ⊢
    rw [Bool.and_eq_true, decide_eq_true_eq, List.all_eq_true] at this ⊢
    refine ⟨by unfold bare Cl; simpa using this.1, fun x hx => ?_⟩
    unfold bare Cl at hx
    rw [List.map_map] at hx
    obtain ⟨y, hy, rfl⟩ := List.mem_map.1 hx
    exact this.2 y hy
  unfold file_may.f
  refine Ev.bind h3 ?_
  refine Ev.congr (fun k => if_pos rfl) (Ev.congr (fun k => if_pos (by rw [hcl]; exact hpos)) (Ev.congr (fun k => if_pos (by rw [hcl]; exact hlast)) ?_))
  refine Ev.bind (longest_ev g1) ?_
  refine Ev.congr (fun k => if_neg (by omega)) (Ev.congr (fun k => if_neg (by rw [hodd]; decide)) ?_)
  refine Ev.bind (entries_ev (Cl l) (by rw [Cl_len]; omega)) ?_
  unfold rank_Classes.f
  rw [if_pos hok]
  simp only [Option.bind_some]
  rw [classes_bare]
  have := equal_ev (classesL l) (classesL l) (by unfold classesL; rw [List.length_map]; omega)
  rwa [decide_eq_true rfl] at this
end Go.Proofs.Ytgebhidpkcjpmaa.K

namespace Go.Proofs.Ytgebhidpkcjpmaa.Daw
set_option linter.unusedVariables false
set_option linter.unusedSimpArgs false
def edN (l : List DS) : Nat := (l.map fun s => s.2.length).sum
theorem edN_cons (s : DS) (l : List DS) : edN (s :: l) = s.2.length + edN l := by simp [edN]
theorem edN_app (a b : List DS) : edN (a ++ b) = edN a + edN b := by simp [edN]
theorem edN_rep (n : Nat) : edN (List.replicate n (false, [])) = 0 := by
  unfold edN
  rw [List.map_replicate]
  induction n with
  | zero => rfl
  | succ n ih => rw [List.replicate_succ, List.sum_cons, ih]; rfl
theorem num_ed (left : List DS) (s : DS) : edN (num left s).1 ≤ edN left + s.2.length := by
  unfold num
  split
  · exact Nat.le_add_right _ _
  · rw [edN_app, edN_cons]; simp [edN]
theorem leave_ed (w : List Nat) (n : Nat) : ∀ (k : Nat) (left path : List DS), path.length = k → edN (leave w n left path).1 + edN (leave w n left path).2 + (leave w n left path).2.length ≤ edN left + edN path + path.length ∧ (path ≠ [] → (leave w n left path).2 ≠ []) := by
  intro k
  induction k with
  | zero =>
    intro left path hp
    rw [List.length_eq_zero_iff.1 hp]
    unfold leave
    exact ⟨Nat.le_refl _, fun h => absurd rfl h⟩
  | succ k ih =>
    intro left path hp
    match path, hp with
    | [s], _ => unfold leave; exact ⟨Nat.le_refl _, fun _ => by simp⟩
    | s :: u :: r, hp =>
      unfold leave
      by_cases hn : n < r.length + 1
      · rw [if_pos hn]
        have h1 := ih (num left s).1 ((u.1, u.2 ++ [(w.getD r.length 0, (num left s).2)]) :: r) (by simpa using hp)
        have h2 := num_ed left s
        refine ⟨Nat.le_trans h1.1 ?_, fun _ => h1.2 (by simp)⟩
        rw [edN_cons, edN_cons, edN_cons]
        simp only [List.length_append, List.length_cons, List.length_nil]
        omega
      · rw [if_neg hn]
        exact ⟨Nat.le_refl _, fun _ => by simp⟩
theorem ends_ed : ∀ p : List DS, edN (ends p) = edN p ∧ (ends p).length = p.length
  | [] => ⟨rfl, rfl⟩
  | s :: r => ⟨by unfold ends; rw [edN_cons, edN_cons], rfl⟩
def phi (x : B) : Nat := edN x.left + edN x.path + x.path.length
theorem add_phi (x : B) (w : List Nat) (hp : x.path ≠ []) : phi (add x w) ≤ phi x + w.length ∧ (add x w).path ≠ [] := by
  obtain ⟨h1, h2⟩ := leave_ed x.word (common w x.word) x.path.length x.left x.path rfl
  have h3 := h2 hp
  unfold phi add
  dsimp only
  generalize leave x.word (common w x.word) x.left x.path = y at h1 h3 ⊢
  have hl : 0 < y.2.length := List.length_pos_iff.2 h3
  obtain ⟨e1, e2⟩ := ends_ed (List.replicate (w.length + 1 - y.2.length) (false, []) ++ y.2)
  rw [e1, e2, edN_app, edN_rep, List.length_append, List.length_replicate]
  refine ⟨by omega, fun he => ?_⟩
  rw [he] at e2
  rw [List.length_append, List.length_replicate] at e2
  simp only [List.length_nil] at e2
  omega
theorem adds_phi : ∀ (l : List (List Nat)) (x : B), x.path ≠ [] → phi (l.foldl add x) ≤ phi x + (l.map List.length).sum ∧ (l.foldl add x).path ≠ []
  | [], x, h => ⟨by simp, h⟩
  | w :: l, x, h => by
    obtain ⟨h1, h2⟩ := add_phi x w h
    obtain ⟨h3, h4⟩ := adds_phi l (add x w) h2
    rw [List.foldl_cons]
    refine ⟨?_, h4⟩
    simp only [List.map_cons, List.sum_cons]
    omega
theorem build_ed (l : List (List Nat)) : edN (build l) ≤ 1 + (l.map List.length).sum := by
  obtain ⟨h1, h2⟩ := adds_phi l start (by decide)
  have h0 : phi start = 1 := rfl
  rw [h0] at h1
  unfold phi at h1
  generalize hx : l.foldl add start = x at h1 h2
  unfold build finish
  rw [hx]
  obtain ⟨h3, h4⟩ := leave_ed x.word 0 x.path.length x.left x.path rfl
  generalize leave x.word 0 x.left x.path = y at h3 h4
  obtain ⟨yl, yp⟩ := y
  match yp, h3, h4 with
  | [], _, h4 => exact absurd rfl (h4 h2)
  | s :: r, h3, _ =>
    have h5 := num_ed yl s
    show edN (num yl s).1 ≤ _
    rw [edN_cons] at h3
    simp only [List.length_cons] at h3
    omega
end Go.Proofs.Ytgebhidpkcjpmaa.Daw
namespace Go.Proofs.Ytgebhidpkcjpmaa.Fil
open Go.Proofs.Ytgebhidpkcjpmaa.Daw
/-- The states' bytes, at most. -/
theorem put_small {n : Nat} (h : n < 2097152) : (put n).length ≤ 3 := by
  rw [put]
  split
  · simp
  · rw [put]
    split
    · simp
    · rw [put_low (by omega)]; simp
theorem stsB_len : ∀ (b : List DS) (i : Nat), i + b.length < 2097152 → (∀ s ∈ b, s.2.length < 1000000) → (stsB i b).length ≤ 3 * b.length + 4 * edN b
  | [], i, _, _ => by simp [stsB]
  | s :: b, i, hi, hs => by
    have ih := stsB_len b (i + 1) (by simp only [List.length_cons] at hi; omega) (fun t ht => hs t (by simp [ht]))
    have h1 : (put (hdN s)).length ≤ 3 := put_small (by have := hs s (by simp); unfold hdN; split <;> omega)
    have h2 : ∀ es : List DE, (es.flatMap (edB i)).length ≤ 4 * es.length := fun es => by
      induction es with
      | nil => simp
      | cons e es ih =>
        rw [List.flatMap_cons, List.length_append, List.length_cons]
        have : (edB i e).length ≤ 4 := by
          unfold edB
          have := put_small (n := i - e.2) (by omega)
          simp only [List.length_cons]; omega
        omega
    unfold stsB stB
    rw [edN_cons, List.length_append, List.length_append, List.length_cons]
    have := h2 s.2
    omega
theorem statesB_len (b : List DS) (hb : b.length < 2097152) (hs : ∀ s ∈ b, s.2.length < 1000000) : (statesB b).length ≤ 3 + 3 * b.length + 4 * edN b := by
  unfold statesB
  rw [List.length_append]
  have := put_small hb
  have := stsB_len b 0 (by omega) hs
  omega
end Go.Proofs.Ytgebhidpkcjpmaa.Fil

namespace Go.Proofs.Ytgebhidpkcjpmaa.PEn
open Go.RowKit Go.Proofs.YtgebhidpkcjpmaaW.PrintWords Go.Proofs.YtgebhidpkcjpmaaW.PrintLast Go.Proofs.YtgebhidpkcjpmaaW.PrintMore Go.Proofs.Ytgebhidpkcjpmaa.K Go.Proofs.Ytgebhidpkcjpmaa.PDk Go.Proofs.Ytgebhidpkcjpmaa.PDm Go.Proofs.Ytgebhidpkcjpmaa.PFl Go.Proofs.Ytgebhidpkcjpmaa.PIx Go.Proofs.Ytgebhidpkcjpmaa.PLg Go.Proofs.Ytgebhidpkcjpmaa.PR13
attribute [local go_sem] max2_int min2_int max_two min_two max_three min_three max_four min_four   -- for this text's walks alone
set_option linter.unusedVariables false
set_option linter.unusedSimpArgs false



def errW : Option Int → Value
  | none => .nilIface
  | some c => .iface 0 (.int .i64 c)
theorem errW_none : errW none = .nilIface := rfl
theorem errW_some (c : Int) : errW (some c) = .iface 0 (.int .i64 c) := rfl

def rd_L1 (xs : List (List Int)) (i : Int) : (List Int) := xs.getD i.toNat ([] : List Int)
theorem at_L1 {w : World} {A : Option Addr} {n : Nat} {xs : List (List Int)} (h : Kd.C (Kd.slice 5 (Kd.int .u8)) w A n xs) (i : Int) (h0 : 0 ≤ i) (h1 : i < n) : ∃ ad A0 c0, A = some ad ∧ w.cell? (ad.add i.toNat) = some (.slice A0 (rd_L1 xs i).length c0) ∧ (rd_L1 xs i).length ≤ c0 ∧ (Kd.int .u8).C w A0 (rd_L1 xs i).length (rd_L1 xs i) := by
  obtain ⟨ad, c, e, _, hK, hc0⟩ := Kd.C_get h ([] : List Int) i h0 h1
  have hc : ∀ j u, c[j]? = some u → w.cell? (ad.add (i.toNat * 1 + j)) = some u := hc0
  obtain ⟨A0, c0, rfl, l0, g0⟩ := hK
  exact ⟨ad, A0, c0, e, by have hq := hc 0 _ rfl; rwa [Nat.mul_one, Nat.add_zero] at hq, l0, g0⟩

end Go.Proofs.Ytgebhidpkcjpmaa.PEn

