/- What the laws on folding lean on: the examples hold; the document's Text is the program's. -/
import Derived.Test.YthpemcchgebecaaProg
import Derived.Below
import Derived.Deep.Draws
import Derived.Deep.AppendLies
import Derived.Maps.AppendAt
import Derived.OwnWalk
import Derived.Laws.BytesArg
import Derived.Laws.MakeOwn
import Derived.Laws.OwnMore
import Derived.Deep.OwnRows
import Derived.Tactics
import Derived.Lib.ConvBytes
import Derived.Laws.Slices
import Derived.WalkKit
import Derived.KernelRfl
import Derived.RowKit3
import Derived.Deep.LoopGhost
import Derived.Deep.QuietTactic
import Derived.BigQuiet
import Derived.WideLaws
import Derived.Deep.DeepCutAuto
import Derived.Deep.CutBlock
import Derived.Deep.RegionHeld3
import Derived.Laws.Rows
import Derived.Lib.AppendStr
import Derived.ArgAppend
import Derived.Laws.IdiomCopy
import Derived.OrdersHeld
import Derived.Laws.BitsLemmas
import Derived.RowKit
import Derived.Lib.OthersKept
import Derived.WalkSmall
import Derived.Deep.RegionLaw
import Derived.BigRegion
import Derived.Test.YthpemcchgebecaaWWords
import Derived.Test.YthpemcchgebecaaWLast
import Derived.Test.YthpemcchgebecaaWTab
import Derived.Test.YthpemcchgebecaaWFour
import Derived.Test.YthpemcchgebecaaWQPut
import Derived.Test.YthpemcchgebecaaWApart
import Derived.Test.YthpemcchgebecaaWArr
import Derived.Test.YthpemcchgebecaaWZeros
import Derived.Test.YthpemcchgebecaaWFoot
import Derived.Test.YthpemcchgebecaaWKept
import Derived.Test.YthpemcchgebecaaWShare
import Derived.Test.YthpemcchgebecaaWN
import Derived.Test.YthpemcchgebecaaWFootNe
import Derived.Test.YthpemcchgebecaaWAt
import Derived.Test.YthpemcchgebecaaWEqStruct
import Derived.Test.YthpemcchgebecaaWRepsOne
import Derived.Test.YthpemcchgebecaaWInv
import Derived.Test.YthpemcchgebecaaWInvWords
import Derived.Test.YthpemcchgebecaaWGuard
import Derived.Test.YthpemcchgebecaaWNEv
import Derived.Test.YthpemcchgebecaaWMore
import Derived.Test.YthpemcchgebecaaInfo
import Derived.Test.YthpemcchgebecaaUtf
import Derived.Test.YthpemcchgebecaaHelp
import Derived.Test.YthpemcchgebecaaHelp2
import Derived.Test.YthpemcchgebecaaUtfE
import Derived.Test.YthpemcchgebecaaPFoldx
import Derived.Test.YthpemcchgebecaaFoldK
import Derived.Test.YthpemcchgebecaaFoldP
import Derived.Test.YthpemcchgebecaaFoldB
import Derived.Test.YthpemcchgebecaaFoldT
import Derived.Test.YthpemcchgebecaaPSh05x
namespace Go.Proofs.Ythpemcchgebecaa.K
open Go.RowKit Go.Proofs.YthpemcchgebecaaW.PrintWords Go.Proofs.YthpemcchgebecaaW.PrintLast Go.Proofs.YthpemcchgebecaaW.PrintMore Go.Proofs.Ythpemcchgebecaa
attribute [local go_sem] max2_int min2_int max_two min_two max_three min_three max_four min_four
set_option linter.unusedVariables false
set_option linter.unusedSimpArgs false
open Go.Proofs.Ythpemcchgebecaa.PFold Go.Proofs.Ythpemcchgebecaa.PSh05
theorem text_of (s : ByteArray) (h : s.size ≤ 35184372088832) : fold_Text.f s = some (runesBytes ((Utf.runesZ s).map foldZ)) := if_pos h
theorem text_runes (l : List Int) (h : l.length ≤ 8000000000000) : fold_Text.f (runesBytes l) = some (runesBytes ((l.map Utf.sane).map foldZ)) := by
  rw [text_of _ (by have := Utf.size_bytes l; omega), Utf.runesZ_bytes]
theorem shown_true (k : Nat) (hk : 14 < k) : manteletlaw05_shown.f k = some true := by
  unfold manteletlaw05_shown.f
  have e1 : (⟨#[195, 132, 206, 163]⟩ : ByteArray) = runesBytes [196, 931] := by kernel_rfl
  have e2 : runesBytes (([196, 931].map Utf.sane).map foldZ) = (⟨#[195, 164, 207, 131]⟩ : ByteArray) := by kernel_rfl
  have e3 : foldZ 376 = 255 := by kernel_rfl
  have e4 : fold_Letter.f 122 = some true := by kernel_rfl
  have e5 : fold_Mark.f 8217 = some true := by kernel_rfl
  rw [fold_Fold_eq k hk, e3, e1, text_runes _ (by decide), e2, e4, e5]
  simp only [Option.bind_some, if_true]
  rw [if_pos]
  rw [← beq_iff_eq, Utf.toList_nats]
  kernel_rfl
theorem ref_Fold_at (c : Int) : ∀ k, manteletref05_Fold.f (k + 6) c = some (foldZ c)
  | 0 => ref_Fold_eq c
  | k + 1 => manteletref05_Fold.mono c (k + 6) _ (ref_Fold_at c k)
theorem refText_l0 (l : List Int) (hl : l.length < 1000000000) : ∀ (d i k : Nat), d + i = l.length → manteletref05_Text.l0 (k + 7 + d) l ((l.take i).map foldZ) (i : Int) = some (runesBytes (l.map foldZ)) := by
  intro d
  induction d with
  | zero =>
    intro i k hi
    rw [manteletref05_Text.l0, if_neg (by omega), List.take_of_length_le (by omega)]
  | succ d ih =>
    intro i k hi
    have hlt : i < l.length := by omega
    rw [show k + 7 + (d + 1) = (k + 7 + d) + 1 by omega, manteletref05_Text.l0, if_pos (by omega), if_pos (by omega)]
    rw [show k + 7 + d = (k + 1 + d) + 6 by omega, ref_Fold_at]
    simp only [Option.bind_some]
    rw [if_pos (by simp; omega)]
    have e2 : rd l (i : Int) = l[i] := by rw [rd_nat, List.getD_eq_getElem?_getD, List.getElem?_eq_getElem hlt]; rfl
    have e3 : (l.take i).map foldZ ++ [foldZ l[i]] = (l.take (i + 1)).map foldZ := by
      rw [List.take_succ_eq_append_getElem hlt, List.map_append]; rfl
    rw [e2, e3, show wrap64 ((i : Int) + 1) = ((i + 1 : Nat) : Int) by unfold wrap64; omega, show k + 1 + d + 6 = k + 7 + d by omega]
    exact ih (i + 1) k (by omega)
theorem refText_eq (s : ByteArray) (h : s.size ≤ 100000000) (k : Nat) : manteletref05_Text.f (k + 7 + (Utf.runesZ s).length) s = some (runesBytes ((Utf.runesZ s).map foldZ)) := by
  unfold manteletref05_Text.f
  rw [if_pos (by omega)]
  exact refText_l0 _ (by have := runesZ_length s; omega) _ 0 k (by omega)
theorem mark_same (c : Int) : manteletref05_Mark.f c = fold_Mark.f c := rfl
theorem mark_of (c : Int) : fold_Mark.f c = some (decide (c = 39 ∨ c = 8217)) := by
  unfold fold_Mark.f
  by_cases h : c = 39
  · rw [if_pos h]; simp [h]
  · rw [if_neg h]; simp [h]; by_cases h2 : c = 8217 <;> simp [h2]
end Go.Proofs.Ythpemcchgebecaa.K
