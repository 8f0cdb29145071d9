/- Arguments laid open: rows of rows of whole numbers, rows of strings, as the contracts read them. -/
import Derived.Deep.Matrix
import Derived.SliceStrings
import Derived.Test.YtebdcblchjhmpaaProg
import Derived.Below
import Derived.Deep.Draws
import Derived.Deep.AppendLies
import Derived.Maps.AppendAt
import Derived.OwnWalk
import Derived.Laws.BytesArg
import Derived.Laws.MakeOwn
import Derived.Laws.OwnMore
import Derived.Deep.OwnRows
import Derived.Tactics
import Derived.Lib.ConvBytes
import Derived.Laws.Slices
import Derived.WalkKit
import Derived.KernelRfl
import Derived.RowKit3
import Derived.Deep.LoopGhost
import Derived.Deep.QuietTactic
import Derived.BigQuiet
import Derived.WideLaws
import Derived.Deep.DeepCutAuto
import Derived.Deep.CutBlock
import Derived.Deep.RegionHeld3
import Derived.Laws.Rows
import Derived.Lib.AppendStr
import Derived.ArgAppend
import Derived.Laws.IdiomCopy
import Derived.OrdersHeld
import Derived.Laws.BitsLemmas
import Derived.RowKit
import Derived.Lib.OthersKept
import Derived.WalkSmall
import Derived.Deep.RegionLaw
import Derived.BigRegion
import Derived.Test.YtebdcblchjhmpaaWWords
import Derived.Test.YtebdcblchjhmpaaWLast
import Derived.Test.YtebdcblchjhmpaaWTab
import Derived.Test.YtebdcblchjhmpaaWFour
import Derived.Test.YtebdcblchjhmpaaWQPut
import Derived.Test.YtebdcblchjhmpaaWApart
import Derived.Test.YtebdcblchjhmpaaWArr
import Derived.Test.YtebdcblchjhmpaaWZeros
import Derived.Test.YtebdcblchjhmpaaWFoot
import Derived.Test.YtebdcblchjhmpaaWKept
import Derived.Test.YtebdcblchjhmpaaWShare
import Derived.Test.YtebdcblchjhmpaaWN
import Derived.Test.YtebdcblchjhmpaaWFootNe
import Derived.Test.YtebdcblchjhmpaaWAt
import Derived.Test.YtebdcblchjhmpaaWEqStruct
import Derived.Test.YtebdcblchjhmpaaWRepsOne
import Derived.Test.YtebdcblchjhmpaaWInv
import Derived.Test.YtebdcblchjhmpaaWInvWords
import Derived.Test.YtebdcblchjhmpaaWGuard
import Derived.Test.YtebdcblchjhmpaaWNEv
import Derived.Test.YtebdcblchjhmpaaWMore
import Derived.Test.YtebdcblchjhmpaaInfo
import Derived.Test.YtebdcblchjhmpaaUtf
import Derived.Test.YtebdcblchjhmpaaHelp
namespace Go.Proofs.Ytebdcblchjhmpaa.K
open Go.RowKit Go.Proofs.YtebdcblchjhmpaaW.PrintWords Go.Proofs.YtebdcblchjhmpaaW.PrintLast Go.Proofs.YtebdcblchjhmpaaW.PrintMore Go.Proofs.Ytebdcblchjhmpaa
attribute [local go_sem] max2_int min2_int max_two min_two max_three min_three max_four min_four
set_option linter.unusedVariables false
set_option linter.unusedSimpArgs false
theorem C_int_rows {k : IntKind} {w : World} {q : Nat} {a : Addr} {len cap : Nat} {A : Nat → Option Addr} {L C : Nat → Nat} {Z : Nat → List Int} (hl : len ≤ cap) (hm : cap ≤ maxLen)
    (hx : ∀ r, r < cap → w.cell? (a.add r) = some (.slice (A r) (L r) (C r)) ∧ L r ≤ C r ∧ C r ≤ maxLen ∧ (Z r).length = C r ∧ (∀ n ∈ Z r, (Lit.int k n).wf = true) ∧ (A r = none → C r = 0) ∧
        ∀ a', A r = some a' → (∀ c, c < C r → w.cell? (a'.add c) = some (.int k ((Z r).getD c 0)))) :
    Kd.C (Kd.slice q (Kd.int k)) w (some a) ((List.range len).map fun r => (Z r).take (L r)).length ((List.range len).map fun r => (Z r).take (L r)) := by
  have hlen : ((List.range len).map fun r => (Z r).take (L r)).length = len := by simp
  refine ⟨rfl, by rw [hlen]; unfold maxLen at hm; omega, fun _ => ⟨a, rfl, fun j p hj => ?_⟩⟩
  obtain ⟨hjl, hp⟩ := List.getElem?_eq_some_iff.1 hj
  rw [hlen] at hjl
  obtain ⟨hc, h1, h2, h3, h4, h5, h6⟩ := hx j (by omega)
  have hp' : p = (Z j).take (L j) := by rw [← hp]; simp
  have hpl : p.length = L j := by rw [hp', List.length_take]; omega
  refine ⟨[.slice (A j) (L j) (C j)], rfl, ⟨A j, C j, by rw [hpl], by omega, ?_⟩, fun i u hu => ?_⟩
  · refine Kd.C_of_reads (d := (0 : Int)) (h1 := fun _ => rfl) ⟨rfl, by unfold maxLen at h2; omega, fun hpos => ?_⟩
    cases hA : A j with
    | none => have := h5 hA; omega
    | some a' =>
      refine ⟨a', rfl, fun c hcl => ?_⟩
      rw [h6 a' hA c (by omega)]
      congr 2
      rw [hp', List.getD_eq_getElem?_getD, List.getD_eq_getElem?_getD, List.getElem?_take, if_pos (by omega)]
  · match i with
    | 0 =>
      simp at hu
      rw [← hu, Nat.add_zero]
      have : (Kd.slice q (Kd.int k)).sz = 1 := rfl
      rw [this, Nat.mul_one]; exact hc
    | i + 1 => simp at hu
theorem open_rowsC {H : Type} {enc : TypeId × Value → H} {P : Program} {w : World} {base : Nat} {held : Bool} {t e q : TypeId} {k : IntKind} {a : Option Addr} {len cap : Nat} {d : DataW H} {ps : List MemPlace}
    (ht : P.underlying t = some (.slice e)) (he : P.underlying e = some (.slice q)) (hq : P.underlying q = some (.int k)) (ce : P.cellsOf e = 1) (cq : P.cellsOf q = 1)
    (h : DataW.Trod enc P w base (fun _ => true) held t (.slice a len cap) d ps) :
    ∃ l : List (List Int), len = l.length ∧ l.length ≤ cap ∧ l.length ≤ maxLen ∧ Kd.C (Kd.slice q (Kd.int k)) w a l.length l ∧ ∀ x ∈ l, x.length ≤ maxLen ∧ ∀ n ∈ x, (Lit.int k n).wf = true := by
  obtain ⟨fuel, hf⟩ := h
  rcases Go.Deep.open_int_rows ht he hq ce cq hf with ⟨hcs, _⟩ | ⟨a', len', cap', A, L, C, Z, hcs, hb, hl, hm, _, hx⟩
  · simp [Value.cells] at hcs
    obtain ⟨rfl, rfl, rfl⟩ := hcs
    exact ⟨[], rfl, Nat.le_refl _, Nat.zero_le _, ⟨rfl, Nat.zero_le _, fun h => absurd h (by simp)⟩, by simp⟩
  · simp [Value.cells] at hcs
    obtain ⟨rfl, rfl, rfl⟩ := hcs
    refine ⟨(List.range len).map fun r => (Z r).take (L r), by simp, by simpa using hl, by simp; omega, C_int_rows (A := A) (L := L) (C := C) (Z := Z) hl hm (fun r hr => ?_), ?_⟩
    · obtain ⟨h1, h2, h3, h4, h5, h6, h7⟩ := hx r hr
      exact ⟨h1, h2, h3, h4, h5, h6, fun a' ha => (h7 a' ha).2⟩
    · intro x hxm
      obtain ⟨r, hr, rfl⟩ := List.mem_map.1 hxm
      obtain ⟨h1, h2, h3, h4, h5, _, _⟩ := hx r (by have := List.mem_range.1 hr; omega)
      exact ⟨by rw [List.length_take]; omega, fun n hn => h5 n (List.mem_of_mem_take hn)⟩
theorem open_strsC {H : Type} {enc : TypeId × Value → H} {P : Program} {w : World} {base : Nat} {held : Bool} {t e : TypeId} {a : Option Addr} {len cap : Nat} {d : DataW H} {ps : List MemPlace}
    (ht : P.underlying t = some (.slice e)) (he : P.underlying e = some .string) (ce : P.cellsOf e = 1)
    (h : DataW.Trod enc P w base (fun _ => true) held t (.slice a len cap) d ps) :
    ∃ l : List ByteArray, len = l.length ∧ l.length ≤ cap ∧ l.length ≤ maxLen ∧ Kd.C Kd.string w a l.length l ∧ ∀ x ∈ l, x.size ≤ maxLen := by
  obtain ⟨fuel, hf⟩ := h
  rcases Go.ChangeShapes.open_strings ht he ce hf with ⟨hcs, _⟩ | ⟨a', len', cap', ss, hcs, hb, hl, hm, hsl, _, hx, hs⟩
  · simp [Value.cells] at hcs
    obtain ⟨rfl, rfl, rfl⟩ := hcs
    exact ⟨[], rfl, Nat.le_refl _, Nat.zero_le _, ⟨rfl, Nat.zero_le _, fun h => absurd h (by simp)⟩, by simp⟩
  · simp [Value.cells] at hcs
    obtain ⟨rfl, rfl, rfl⟩ := hcs
    simp only [if_true] at hsl
    have hlen : (ss.take len).length = len := by rw [List.length_take]; omega
    refine ⟨ss.take len, hlen.symm, by omega, by omega, ?_, fun x hx => hs x (List.mem_of_mem_take hx)⟩
    refine Kd.C_of_reads (d := ByteArray.empty) (h1 := fun _ => rfl) ⟨rfl, by rw [hlen]; unfold maxLen at hm; omega, fun _ => ⟨a', rfl, fun j hj => ?_⟩⟩
    rw [hlen] at hj
    rw [hx j (by omega)]
    congr 2
    rw [List.getD_eq_getElem?_getD, List.getD_eq_getElem?_getD, List.getElem?_take, if_pos hj]
end Go.Proofs.Ytebdcblchjhmpaa.K
