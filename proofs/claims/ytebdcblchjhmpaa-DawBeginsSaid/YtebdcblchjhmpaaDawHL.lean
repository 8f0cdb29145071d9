/- What daw.Has tells of what was built. -/
import Derived.Test.YtebdcblchjhmpaaDawL
import Derived.Test.YtebdcblchjhmpaaDawH
import Derived.Test.YtebdcblchjhmpaaProg
import Derived.Below
import Derived.Deep.Draws
import Derived.Deep.AppendLies
import Derived.Maps.AppendAt
import Derived.OwnWalk
import Derived.Laws.BytesArg
import Derived.Laws.MakeOwn
import Derived.Laws.OwnMore
import Derived.Deep.OwnRows
import Derived.Tactics
import Derived.Lib.ConvBytes
import Derived.Laws.Slices
import Derived.WalkKit
import Derived.KernelRfl
import Derived.RowKit3
import Derived.Deep.LoopGhost
import Derived.Deep.QuietTactic
import Derived.BigQuiet
import Derived.WideLaws
import Derived.Deep.DeepCutAuto
import Derived.Deep.CutBlock
import Derived.Deep.RegionHeld3
import Derived.Laws.Rows
import Derived.Lib.AppendStr
import Derived.ArgAppend
import Derived.Laws.IdiomCopy
import Derived.OrdersHeld
import Derived.Laws.BitsLemmas
import Derived.RowKit
import Derived.Lib.OthersKept
import Derived.WalkSmall
import Derived.Deep.RegionLaw
import Derived.BigRegion
import Derived.Test.YtebdcblchjhmpaaWWords
import Derived.Test.YtebdcblchjhmpaaWLast
import Derived.Test.YtebdcblchjhmpaaWTab
import Derived.Test.YtebdcblchjhmpaaWFour
import Derived.Test.YtebdcblchjhmpaaWQPut
import Derived.Test.YtebdcblchjhmpaaWApart
import Derived.Test.YtebdcblchjhmpaaWArr
import Derived.Test.YtebdcblchjhmpaaWZeros
import Derived.Test.YtebdcblchjhmpaaWFoot
import Derived.Test.YtebdcblchjhmpaaWKept
import Derived.Test.YtebdcblchjhmpaaWShare
import Derived.Test.YtebdcblchjhmpaaWN
import Derived.Test.YtebdcblchjhmpaaWFootNe
import Derived.Test.YtebdcblchjhmpaaWAt
import Derived.Test.YtebdcblchjhmpaaWEqStruct
import Derived.Test.YtebdcblchjhmpaaWRepsOne
import Derived.Test.YtebdcblchjhmpaaWInv
import Derived.Test.YtebdcblchjhmpaaWInvWords
import Derived.Test.YtebdcblchjhmpaaWGuard
import Derived.Test.YtebdcblchjhmpaaWNEv
import Derived.Test.YtebdcblchjhmpaaWMore
import Derived.Test.YtebdcblchjhmpaaInfo
import Derived.Test.YtebdcblchjhmpaaUtf
import Derived.Test.YtebdcblchjhmpaaHelp
import Derived.Test.YtebdcblchjhmpaaHelp2
import Derived.Test.YtebdcblchjhmpaaHelp5
import Derived.Test.YtebdcblchjhmpaaUtfE
import Derived.Test.YtebdcblchjhmpaaPDkx
import Derived.Test.YtebdcblchjhmpaaPSh14x
namespace Go.Proofs.Ytebdcblchjhmpaa.K
open Go.RowKit Go.Proofs.YtebdcblchjhmpaaW.PrintWords Go.Proofs.YtebdcblchjhmpaaW.PrintLast Go.Proofs.YtebdcblchjhmpaaW.PrintMore Go.Proofs.Ytebdcblchjhmpaa
attribute [local go_sem] max2_int min2_int max_two min_two max_three min_three max_four min_four
set_option linter.unusedVariables false
set_option linter.unusedSimpArgs false
open Go.Proofs.Ytebdcblchjhmpaa.PDk Go.Proofs.Ytebdcblchjhmpaa.PSh14 Go.Proofs.Ytebdcblchjhmpaa.Daw
open Classical
theorem fnd_idx (es : List DE) (c : Nat) : match (es.map toE).findIdx? (fun e => e.f0 == (c : Int)) with
    | some k => ∃ h : k < es.length, es.find? (fun e => e.1 == c) = some es[k]
    | none => es.find? (fun e => e.1 == c) = none := by
  induction es with
  | nil => rfl
  | cons e r ih =>
    rw [List.map_cons, List.findIdx?_cons, List.find?_cons]
    have hb : ((toE e).f0 == (c : Int)) = (e.1 == c) := by
      rw [Bool.eq_iff_iff, beq_iff_eq, beq_iff_eq]; show (e.1 : Int) = (c : Int) ↔ _; omega
    rw [hb]
    by_cases h : (e.1 == c) = true
    · rw [if_pos h, h]; exact ⟨by simp, rfl⟩
    · rw [if_neg h]
      have h2 : (e.1 == c) = false := by simpa using h
      rw [h2]
      cases hf : (r.map toE).findIdx? (fun e => e.f0 == (c : Int)) with
      | none => rw [hf] at ih; exact ih
      | some k =>
        rw [hf] at ih
        obtain ⟨hk, hq⟩ := ih
        exact ⟨by simpa using hk, by simpa using hq⟩
theorem has_acc {b : List DS} (hg : ∀ (i : Nat) (s : DS), b[i]? = some s → ∀ e ∈ s.2, e.2 < b.length) : ∀ (v : List Nat) (i : Nat), i < b.length → hasFrom (b.map toS) (i : Int) v = acc b i v
  | [], i, h => by
    have hl : i < (b.map toS).length := by rw [List.length_map]; exact h
    rw [hasFrom, acc, rd31 _ i hl, List.getElem_map, List.getElem?_eq_getElem h, decide_eq_true (by omega), decide_eq_true (by omega)]
    rfl
  | c :: v, i, h => by
    have hl : i < (b.map toS).length := by rw [List.length_map]; exact h
    have hgi := hg i _ (List.getElem?_eq_getElem h)
    have hfi := fnd_idx b[i].2 c
    rw [hasFrom, acc, if_neg (by omega), rd31 _ i hl, List.getElem_map, List.getElem?_eq_getElem h]
    show (match ((b[i].2.map toE).findIdx? fun e => e.f0 == (c : Int)) with | some k => _ | none => false) = match fnd b[i] c with | some e => acc b e.2 v | none => false
    unfold fnd
    cases hf : (b[i].2.map toE).findIdx? (fun e => e.f0 == (c : Int)) with
    | none => rw [hf] at hfi; rw [hfi]
    | some k =>
      rw [hf] at hfi
      obtain ⟨hk, hq⟩ := hfi
      have hkl : k < (toS b[i]).f1.length := by simpa [toS] using hk
      rw [hq]
      show hasFrom (b.map toS) (rd_T33 (toS b[i]).f1 (k : Int)).f1 v = acc b (b[i].2[k]).2 v
      rw [rd33 _ k hkl]
      have e : ((toS b[i]).f1[k]).f1 = (((b[i].2[k]).2 : Nat) : Int) := by simp [toS, toE]
      rw [e]
      exact has_acc hg v _ (hgi _ (List.getElem_mem hk))
/-- What was built takes just its words. -/
theorem has_built (l : List ByteArray) (h0 : [] ∉ wordsN l) (h : (wordsN l).Pairwise (· < ·)) (hs : (l.map ByteArray.size).sum ≤ 1000000) (v : ByteArray) (hv : v.size ≤ 140737488355328) :
    daw_Has.f ((build (wordsN l)).map toS) v = some (decide (Utf.nats v ∈ wordsN l)) := by
  obtain ⟨g1, g2, g3, g4⟩ := build_good l h0 h
  unfold daw_Has.f
  rw [if_pos ⟨by rw [List.length_map]; omega, hv⟩, List.length_map]
  have hg : ∀ (i : Nat) (s : DS), (build (wordsN l))[i]? = some s → ∀ e ∈ s.2, e.2 < (build (wordsN l)).length := fun i s hs e he => by
    have := (g2 i s hs).1.1 e he
    have := (List.getElem?_eq_some_iff.1 hs).1
    omega
  have e1 : (((build (wordsN l)).length : Nat) : Int) - 1 = (((build (wordsN l)).length - 1 : Nat) : Int) := by omega
  rw [e1, has_acc hg _ _ (by omega)]
  by_cases hl : l = []
  · subst hl
    have hw : wordsN [] = [] := rfl
    rw [hw, build_nil]
    cases hv : Utf.nats v with
    | nil => rfl
    | cons c t => rfl
  · have hne : wordsN l ≠ [] := by unfold wordsN; simpa using hl
    obtain ⟨a, s, hb, _, hacc⟩ := build_takes (wordsN l) (words_rise h0 h) hne
    have e2 : (build (wordsN l)).length - 1 = a.length := by rw [hb]; simp
    rw [e2, hacc]
theorem str_eq (a b : ByteArray) : (a.toList == b.toList) = decide (Utf.nats a = Utf.nats b) := by
  rw [Utf.toList_nats]
  have e : b.toList.map (fun b => b.toNat) = Utf.nats b := by rw [ByteArray.toList_eq]; rfl
  rw [e, Bool.eq_iff_iff, beq_iff_eq, decide_eq_true_eq]
theorem mem_take (l : List ByteArray) (i : Nat) (h : i < l.length) (v : List Nat) : decide (v ∈ wordsN (l.take (i + 1))) = (decide (v ∈ wordsN (l.take i)) || decide (Utf.nats l[i] = v)) := by
  rw [List.take_succ_eq_append_getElem h, Bool.eq_iff_iff, Bool.or_eq_true, decide_eq_true_eq, decide_eq_true_eq, decide_eq_true_eq]
  unfold wordsN
  rw [List.map_append, List.mem_append, List.map_cons, List.map_nil, List.mem_singleton]
  constructor
  · rintro (h | h)
    · exact Or.inl h
    · exact Or.inr h.symm
  · rintro (h | h)
    · exact Or.inl h
    · exact Or.inr h.symm
end Go.Proofs.Ytebdcblchjhmpaa.K
