/- IndexTells. (The texts that the proof is made of, one behind the other: part 9 of 15.) -/
import Derived.Test.YtebdcblchjhmpaaProg
import Derived.Below
import Derived.Deep.Draws
import Derived.Deep.AppendLies
import Derived.Maps.AppendAt
import Derived.OwnWalk
import Derived.Laws.BytesArg
import Derived.Laws.MakeOwn
import Derived.Laws.OwnMore
import Derived.Deep.OwnRows
import Derived.Tactics
import Derived.Lib.ConvBytes
import Derived.Laws.Slices
import Derived.WalkKit
import Derived.KernelRfl
import Derived.RowKit3
import Derived.Deep.LoopGhost
import Derived.Deep.QuietTactic
import Derived.BigQuiet
import Derived.WideLaws
import Derived.Deep.DeepCutAuto
import Derived.Deep.CutBlock
import Derived.Deep.RegionHeld3
import Derived.Laws.Rows
import Derived.Lib.AppendStr
import Derived.ArgAppend
import Derived.Laws.IdiomCopy
import Derived.OrdersHeld
import Derived.Laws.BitsLemmas
import Derived.RowKit
import Derived.Lib.OthersKept
import Derived.WalkSmall
import Derived.Deep.RegionLaw
import Derived.BigRegion
import Derived.Test.YtebdcblchjhmpaaZIndexTellsa
import Derived.Test.YtebdcblchjhmpaaZIndexTellsb
import Derived.Test.YtebdcblchjhmpaaZIndexTellsc
import Derived.Test.YtebdcblchjhmpaaZIndexTellsd
import Derived.Test.YtebdcblchjhmpaaZIndexTellse
import Derived.Test.YtebdcblchjhmpaaZIndexTellsf
import Derived.Test.YtebdcblchjhmpaaZIndexTellsg
import Derived.Test.YtebdcblchjhmpaaZIndexTellsh
namespace Go.Proofs.Ytebdcblchjhmpaa.K
open Go.RowKit Go.Proofs.YtebdcblchjhmpaaW.PrintWords Go.Proofs.YtebdcblchjhmpaaW.PrintLast Go.Proofs.YtebdcblchjhmpaaW.PrintMore Go.Proofs.Ytebdcblchjhmpaa
attribute [local go_sem] max2_int min2_int max_two min_two max_three min_three max_four min_four
set_option linter.unusedVariables false
set_option linter.unusedSimpArgs false
open Go.Proofs.Ytebdcblchjhmpaa.PDk Go.Proofs.Ytebdcblchjhmpaa.PR14 Go.Proofs.Ytebdcblchjhmpaa.Daw
/-- How many states, and rests, leave leaves at most. -/
def szW (l : List (List Nat)) : Nat := (l.map List.length).sum
theorem grp_sz : ∀ l : List (List Nat), ((grp l).map fun g => 1 + szW g.2).sum ≤ szW l
  | [] => Nat.le_refl _
  | [] :: r => by rw [show grp ([] :: r) = grp r from rfl]; have := grp_sz r; simpa [szW] using this
  | (c :: v) :: r => by
    have h := grp_sz r
    rw [grp_cons]
    cases hg : grp r with
    | nil => simp [szW]; omega
    | cons y g =>
      obtain ⟨d, m⟩ := y
      rw [hg] at h
      dsimp only
      split <;> simp only [szW, List.map_cons, List.sum_cons, List.length_cons, List.map_nil, List.sum_nil] at h ⊢ <;> omega
theorem refE_cnt (f : RS → List (List Nat) → RS × Nat) (hf : ∀ x r, (f x r).1.1.length ≤ x.1.length + 1 + szW r ∧ (f x r).1.2.length ≤ x.2.length + 1 + szW r) : ∀ (gs : List (Nat × List (List Nat))) (x : RS),
    (refE f x gs).1.1.length ≤ x.1.length + (gs.map fun g => 1 + szW g.2).sum ∧ (refE f x gs).1.2.length ≤ x.2.length + (gs.map fun g => 1 + szW g.2).sum
  | [], x => ⟨Nat.le_refl _, Nat.le_refl _⟩
  | g :: gs, x => by
    have h1 := hf x g.2
    have h2 := refE_cnt f hf gs (f x g.2).1
    rw [refE, List.map_cons, List.sum_cons]
    constructor <;> simp only <;> omega
theorem refLeave_cnt : ∀ (k : Nat) (x : RS) (r : List (List Nat)), (refLeave k x r).1.1.length ≤ x.1.length + 1 + szW r ∧ (refLeave k x r).1.2.length ≤ x.2.length + 1 + szW r
  | 0, x, r => ⟨by show x.1.length ≤ _; omega, by show x.2.length ≤ _; omega⟩
  | k + 1, x, r => by
    have h1 := refE_cnt (refLeave k) (refLeave_cnt k) (grp r) x
    have h2 := grp_sz r
    rw [refLeave]
    unfold rfind
    split
    · simp only; omega
    · simp only [List.length_append, List.length_singleton]; omega
theorem szW_bytes : ∀ (l : List ByteArray), szW (wordsN l) + l.length + 1 ≤ bytesAll l
  | [] => by simp [szW, wordsN, bytesAll]
  | x :: l => by
    have := szW_bytes l
    have h2 := nats_len x
    simp only [szW, wordsN, bytesAll, List.map_cons, List.sum_cons, List.length_cons] at this ⊢
    omega
def refStates (l : List ByteArray) : List DS := (refLeave (bytesAll l + 1) ([], []) (wordsN l)).1.1
def refR (l : List ByteArray) : List S31 × Int :=
  if [] ∈ wordsN l then ([], 1) else if (wordsN l).Pairwise (· < ·) then ((refStates l).map toS, 0) else ([], 9)
def manteletref14_Build.f (l : List ByteArray) : Option (List S31 × Int) := if bytesAll l ≤ 1000000 then some (refR l) else none
theorem run_geq_str (P : Program) (ty : TypeId) (s t : ByteArray) (W : World) : (binOp .geq ty (.string s) (.string t)).run P W = .ok (.bool (!decide (Utf.nats s < Utf.nats t))) W := by
  have e : Op.bytesLess s.toList t.toList = decide (Utf.nats s < Utf.nats t) := by
    rw [less_str]
  simp [binOp, Op.stringOp, e]
theorem bytes_mem {l : List ByteArray} {x : ByteArray} (h : x ∈ l) : x.size < bytesAll l + 1 := by
  obtain ⟨i, hi, rfl⟩ := List.getElem_of_mem h
  have := size_bytesAll l i hi
  omega
set_option maxHeartbeats 4000000 in
set_option maxRecDepth 100000 in
theorem manteletref14_Build.calls (A0 : Option Addr) (c0 : Nat) (l0 : List ByteArray) (r1 : List S31) (r2 : Int) (w : World) (hr0 : Kd.C Kd.string w A0 l0.length l0) (hc0 : l0.length ≤ c0) (h : manteletref14_Build.f l0 = some (r1, r2)) :
    Calls Try.prog 20 #[.slice A0 l0.length c0] w fun e w' => ∃ v0_ : Value, e = .returned (.tuple #[v0_, .int .i64 r2]) ∧ Kd.V k31 31 w' w.heap.size (fun k_ => w.heap.size ≤ k_) v0_ r1 ∧ Below w.heap.size w w' := by
  have hB : bytesAll l0 ≤ 1000000 := by
    unfold manteletref14_Build.f at h; split at h
    · assumption
    · cases h
  have hr : refR l0 = (r1, r2) := by
    unfold manteletref14_Build.f at h; rw [if_pos hB] at h; exact Option.some.inj h
  clear h
  have hlen : l0.length ≤ 1000000 := by have := len_bytesAll l0; omega
  have HC := Aside0.mk hr0; have HL := Aside0.mk hc0; have HB := Aside0.mk hB; have HR := Aside0.mk hr; have HLEN := Aside0.mk hlen
  clear hr0 hc0 hB hr
  have huR := Try.underlying74
  go_enter Try.func20, Try.ntmps20
  go_upto_block 0 with fail
  go_wp2
  go_loopg [4] l0.length (fun gg v4 wr => ∃ i : Nat, v4 = .int .i64 (i : Int) ∧ Aside0 (i ≤ l0.length ∧ l0.length ≤ gg + i) ∧ Aside0 (∀ j (h : j < l0.length), j < i → Utf.nats l0[j] ≠ []) ∧ Aside0 (Drawn0 w wr))
  case atStart => exact ⟨0, rfl, ⟨Nat.zero_le _, by omega⟩, ⟨fun j h h1 => absurd h1 (by omega)⟩, ⟨Drawn0.refl _⟩⟩
  case round =>
    obtain ⟨i, rfl, hi, hno, hw⟩ := hrel
    by_cases hc : i < l0.length
    · have hcb : decide ((i : Int) < (l0.length : Int)) = true := decide_eq_true (by omega)
      have q0 : (0 : Int) ≤ (i : Int) := by omega
      have q1 : (i : Int) < (l0.length : Int) := by omega
      obtain ⟨ad, ead, hx0⟩ := Kd.at_string (Kd.C_below HC.out hw.out.below) (i : Int) q0 q1
      cases ead
      rw [Int.toNat_natCast] at hx0
      have hrd : rdOf ByteArray.empty l0 (i : Int) = l0[i] := by
        unfold rdOf
        rw [Int.toNat_natCast, List.getD_eq_getElem?_getD, List.getElem?_eq_getElem hc]; rfl
      rw [hrd] at hx0
      obtain ⟨x, hx⟩ : ∃ x, l0[i] = x := ⟨_, rfl⟩
      rw [hx] at hx0
      have HX := Aside0.mk hx
      clear hrd hx
      have hse := str_empty x
      by_cases hem : Utf.nats x = []
      · rw [decide_eq_true hem] at hse
        have HE := Aside0.mk hem
        clear hem
        go_wp2
        go_ret2
        have hr := HR.out
        unfold refR at hr
        rw [if_pos (by unfold wordsN; rw [← HE.out, ← HX.out]; exact List.mem_map_of_mem (List.getElem_mem hc))] at hr
        injection hr with h1 h2
        subst h1; subst h2
        exact ⟨_, rfl, Kd.V_nil _ _ _ _ _, hw.out.below⟩
      · rw [decide_eq_false hem] at hse
        have HE := Aside0.mk hem
        clear hem
        go_wp2
        go_roundg (l0.length - (i + 1))
        case measure => have := hi.out; omega
        case rel =>
          refine ⟨i + 1, congrArg (Value.int .i64) (by omega), ⟨by have := hi.out; omega⟩, ⟨fun j h h1 => ?_⟩, hw⟩
          by_cases hji : j = i
          · subst hji; rw [HX.out]; exact HE.out
          · exact hno.out j h (by omega)
    · have hcb : decide ((i : Int) < (l0.length : Int)) = false := decide_eq_false (by omega)
      have hemp : [] ∉ wordsN l0 := by
        intro hm
        obtain ⟨y, hy, e⟩ := List.mem_map.1 hm
        obtain ⟨j, hj, e2⟩ := List.getElem_of_mem hy
        exact hno.out j hj (by omega) (by rw [e2]; exact e)
      have HE := Aside0.mk hemp
      clear hemp hno hi
      go_upto_block 2 with fail
      go_wp2
      go_loopg [5] l0.length (fun gg v5 wr => ∃ i : Nat, v5 = .int .i64 (i : Int) ∧ Aside0 (1 ≤ i ∧ (i ≤ l0.length ∨ i = 1) ∧ l0.length ≤ gg + i) ∧ Aside0 (((wordsN l0).take i).Pairwise (· < ·)) ∧ Aside0 (Drawn0 w wr))
      case atStart =>
        refine ⟨1, rfl, ⟨Nat.le_refl _, Or.inr rfl, by omega⟩, ⟨?_⟩, hw⟩
        cases wordsN l0 with
        | nil => simp
        | cons a l => simp
      case round =>
        clear hw
        obtain ⟨i, rfl, hi, hri, hw⟩ := hrel
        obtain ⟨W1, hW1⟩ : ∃ W1, W1 = wr := ⟨_, rfl⟩
        rw [← hW1] at hw ⊢
        clear hW1
        by_cases hc : i < l0.length
        · have hcb : decide ((i : Int) < (l0.length : Int)) = true := decide_eq_true (by omega)
          have hi1 := hi.out.1
          have hwi : wrap64 ((i : Int) - 1) = ((i - 1 : Nat) : Int) := by unfold wrap64; omega
          obtain ⟨ad, ead, hx0⟩ := Kd.at_string (Kd.C_below HC.out hw.out.below) (i : Int) (by omega) (by omega)
          cases ead
          rw [Int.toNat_natCast] at hx0
          obtain ⟨ad2, ead, hx1⟩ := Kd.at_string (Kd.C_below HC.out hw.out.below) ((i - 1 : Nat) : Int) (by omega) (by omega)
          cases ead
          rw [Int.toNat_natCast] at hx1
          have hrd : rdOf ByteArray.empty l0 (i : Int) = l0[i] := by
            unfold rdOf
            rw [Int.toNat_natCast, List.getD_eq_getElem?_getD, List.getElem?_eq_getElem hc]; rfl
          have hrd1 : rdOf ByteArray.empty l0 ((i - 1 : Nat) : Int) = l0.getD (i - 1) ⟨#[]⟩ := by
            unfold rdOf
            rw [Int.toNat_natCast]; rfl
          rw [hrd] at hx0
          rw [hrd1] at hx1
          have q0 : (0 : Int) ≤ (i : Int) := by omega
          have q1 : (i : Int) < (l0.length : Int) := by omega
          have q2 : (0 : Int) ≤ ((i - 1 : Nat) : Int) := by omega
          have q3 : ((i - 1 : Nat) : Int) < (l0.length : Int) := by omega
          obtain ⟨new, hnew⟩ : ∃ x, l0[i] = x := ⟨_, rfl⟩
          obtain ⟨prev, hprev⟩ : ∃ x, l0.getD (i - 1) ⟨#[]⟩ = x := ⟨_, rfl⟩
          rw [hnew] at hx0
          rw [hprev] at hx1
          have HN := Aside0.mk hnew; have HP := Aside0.mk hprev
          clear hrd hrd1 hnew hprev
          have hbo := run_geq_str Try.prog 9 prev new
          by_cases hlt : Utf.nats prev < Utf.nats new
          · have hb3 : (!decide (Utf.nats prev < Utf.nats new)) = false := by simp [hlt]
            have HLT := Aside0.mk hlt
            clear hlt
            rw [hb3] at hbo
            go_wp2
            go_quiet (fail)
            go_wp2
            go_roundg (l0.length - (i + 1))
            case measure => have := hi.out; omega
            case rel =>
              refine ⟨i + 1, congrArg (Value.int .i64) (by omega), ⟨by have := hi.out; omega⟩, ⟨rise_next l0 i hc hri.out (fun _ => by rw [HP.out, HN.out]; exact HLT.out)⟩, ⟨hw.out.step _⟩⟩
          · have hb3 : (!decide (Utf.nats prev < Utf.nats new)) = true := by simp [hlt]
            have HLT := Aside0.mk hlt
            clear hlt
            rw [hb3] at hbo
            go_wp2
            go_quiet (fail)
            go_wp2
            go_ret2
            have hr := HR.out
            unfold refR at hr
            rw [if_neg HE.out, if_neg (rise_not l0 i hc (by omega) (by rw [HP.out, HN.out]; exact HLT.out))] at hr
            injection hr with h1 h2
            subst h1; subst h2
            exact ⟨_, rfl, Kd.V_nil _ _ _ _ _, (hw.out.step _).below⟩
        · have hcb : decide ((i : Int) < (l0.length : Int)) = false := decide_eq_false (by omega)
          have hso : (wordsN l0).Pairwise (· < ·) := by
            have h := hri.out
            rwa [List.take_of_length_le (by unfold wordsN; rw [List.length_map]; omega)] at h
          have hr := HR.out
          unfold refR at hr
          rw [if_neg HE.out, if_pos hso] at hr
          injection hr with h1 h2
          have hcnt := refLeave_cnt (bytesAll l0 + 1) ([], []) (wordsN l0)
          have hszb := szW_bytes l0
          have hlv := rleave_k (bytesAll l0 + 1) (fun _ => False) (fun k => k < w.heap.size) none none A0 0 0 c0 [] [] l0 W1 (Kd.F_nil _ _ _) (Nat.le_refl _) (Kd.F_nil _ _ _) (Nat.le_refl _) (Kd.F_below (Kd.C_F Kd.heap_string HC.out) hw.out.below) HL.out hso (fun x hx => bytes_mem hx) (Nat.succ_pos _) (Nat.le_trans hcnt.1 (show 0 + 1 + szW (wordsN l0) ≤ 1000000 by have := HB.out; omega)) (Nat.le_trans hcnt.2 (show 0 + 1 + szW (wordsN l0) ≤ 1000000 by have := HB.out; omega)) hlen
          rw [List.length_nil, List.length_nil] at hlv
          have HLV := Aside0.mk hlv
          clear hlv hcnt hszb hso
          subst h1; subst h2
          go_wp2_with (first | (go_at_call 37; (with_reducible refine (HLV.out).mono ?_)))
          rintro e w2 ⟨A2, B2, cA2, cB2, Rs2, rfl, hRs2, hS2, hR2, hlA2, hlB2, hb2⟩
          have HS2 := Aside0.mk hS2; have HB2 := Aside0.mk hb2; have HLA := Aside0.mk hlA2
          clear hS2 hR2 hlB2 hb2 hRs2 hlA2
          go_upto_region 12 with fail
          have hb3 : Below w2.heap.size w2 (w2.alloc (.cells #[.slice A2 (refLeave (bytesAll l0 + 1) ([], []) (wordsN l0)).1.1.length cA2, .slice B2 Rs2.length cB2] 74)) := below_alloc (Below.refl _ _) _
          have n10 := heap_alloc_new w2 (.cells #[.slice A2 (refLeave (bytesAll l0 + 1) ([], []) (wordsN l0)).1.1.length cA2, .slice B2 Rs2.length cB2] 74)
          have hle : w.heap.size ≤ W1.heap.size := hw.out.below.size
          have hle2 : W1.heap.size ≤ w2.heap.size := HB2.out.size
          have HV : Aside0 (Kd.V k31 31 (w2.alloc (.cells #[.slice A2 (refLeave (bytesAll l0 + 1) ([], []) (wordsN l0)).1.1.length cA2, .slice B2 Rs2.length cB2] 74)) w.heap.size (fun k_ => w.heap.size ≤ k_) (.slice A2 (refLeave (bytesAll l0 + 1) ([], []) (wordsN l0)).1.1.length cA2) ((refStates l0).map toS)) := by
            refine ⟨A2, cA2, by rw [List.length_map]; rfl, by rw [List.length_map]; exact HLA.out, ?_⟩
            rw [List.length_map]
            refine Kd.F_mono (Kd.F_below HS2.out hb3) (fun k hk => ?_)
            rcases hk with hk | hk
            · exact hk.elim
            · omega
          have HBB := Aside0.mk ((hw.out.below.trans (HB2.out.mono hle)).trans (hb3.mono (Nat.le_trans hle hle2)))
          clear HS2 HB2 HLA hb3 hle hle2
          go_wp2
          go_ret2
          exact ⟨_, rfl, HV.out, HBB.out⟩
end Go.Proofs.Ytebdcblchjhmpaa.K

namespace Go.Proofs.Ytebdcblchjhmpaa.PIx
open Go.RowKit Go.Proofs.YtebdcblchjhmpaaW.PrintWords Go.Proofs.YtebdcblchjhmpaaW.PrintLast Go.Proofs.YtebdcblchjhmpaaW.PrintMore Go.Proofs.Ytebdcblchjhmpaa.K Go.Proofs.Ytebdcblchjhmpaa.PDk Go.Proofs.Ytebdcblchjhmpaa.PDm
attribute [local go_sem] max2_int min2_int max_two min_two max_three min_three max_four min_four   -- for this text's walks alone
set_option linter.unusedVariables false
set_option linter.unusedSimpArgs false



def errW : Option Int → Value
  | none => .nilIface
  | some c => .iface 0 (.int .i64 c)
theorem errW_none : errW none = .nilIface := rfl
theorem errW_some (c : Int) : errW (some c) = .iface 0 (.int .i64 c) := rfl

end Go.Proofs.Ytebdcblchjhmpaa.PIx

