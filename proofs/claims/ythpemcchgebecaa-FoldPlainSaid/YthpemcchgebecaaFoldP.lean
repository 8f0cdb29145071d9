/- Plain: what fold.Fold, fold.Letter and the document's functions tell of a code point. -/
import Derived.Test.YthpemcchgebecaaProg
import Derived.Below
import Derived.Deep.Draws
import Derived.Deep.AppendLies
import Derived.Maps.AppendAt
import Derived.OwnWalk
import Derived.Laws.BytesArg
import Derived.Laws.MakeOwn
import Derived.Laws.OwnMore
import Derived.Deep.OwnRows
import Derived.Tactics
import Derived.Lib.ConvBytes
import Derived.Laws.Slices
import Derived.WalkKit
import Derived.KernelRfl
import Derived.RowKit3
import Derived.Deep.LoopGhost
import Derived.Deep.QuietTactic
import Derived.BigQuiet
import Derived.WideLaws
import Derived.Deep.DeepCutAuto
import Derived.Deep.CutBlock
import Derived.Deep.RegionHeld3
import Derived.Laws.Rows
import Derived.Lib.AppendStr
import Derived.ArgAppend
import Derived.Laws.IdiomCopy
import Derived.OrdersHeld
import Derived.Laws.BitsLemmas
import Derived.RowKit
import Derived.Lib.OthersKept
import Derived.WalkSmall
import Derived.Deep.RegionLaw
import Derived.BigRegion
import Derived.Test.YthpemcchgebecaaWWords
import Derived.Test.YthpemcchgebecaaWLast
import Derived.Test.YthpemcchgebecaaWTab
import Derived.Test.YthpemcchgebecaaWFour
import Derived.Test.YthpemcchgebecaaWQPut
import Derived.Test.YthpemcchgebecaaWApart
import Derived.Test.YthpemcchgebecaaWArr
import Derived.Test.YthpemcchgebecaaWZeros
import Derived.Test.YthpemcchgebecaaWFoot
import Derived.Test.YthpemcchgebecaaWKept
import Derived.Test.YthpemcchgebecaaWShare
import Derived.Test.YthpemcchgebecaaWN
import Derived.Test.YthpemcchgebecaaWFootNe
import Derived.Test.YthpemcchgebecaaWAt
import Derived.Test.YthpemcchgebecaaWEqStruct
import Derived.Test.YthpemcchgebecaaWRepsOne
import Derived.Test.YthpemcchgebecaaWInv
import Derived.Test.YthpemcchgebecaaWInvWords
import Derived.Test.YthpemcchgebecaaWGuard
import Derived.Test.YthpemcchgebecaaWNEv
import Derived.Test.YthpemcchgebecaaWMore
import Derived.Test.YthpemcchgebecaaInfo
import Derived.Test.YthpemcchgebecaaUtf
import Derived.Test.YthpemcchgebecaaHelp
import Derived.Test.YthpemcchgebecaaHelp2
import Derived.Test.YthpemcchgebecaaUtfE
import Derived.Test.YthpemcchgebecaaPFoldx
import Derived.Test.YthpemcchgebecaaFoldK
namespace Go.Proofs.Ythpemcchgebecaa.K
open Go.RowKit Go.Proofs.YthpemcchgebecaaW.PrintWords Go.Proofs.YthpemcchgebecaaW.PrintLast Go.Proofs.YthpemcchgebecaaW.PrintMore Go.Proofs.Ythpemcchgebecaa
attribute [local go_sem] max2_int min2_int max_two min_two max_three min_three max_four min_four
set_option linter.unusedVariables false
set_option linter.unusedSimpArgs false
open Go.Proofs.Ythpemcchgebecaa.PFold
def foldL : List S45 := [(⟨65, 90, 1, 32⟩ : S45), (⟨192, 214, 1, 32⟩ : S45), (⟨216, 222, 1, 32⟩ : S45), (⟨256, 302, 2, 1⟩ : S45), (⟨306, 310, 2, 1⟩ : S45), (⟨313, 327, 2, 1⟩ : S45), (⟨330, 374, 2, 1⟩ : S45), (⟨376, 376, 1, (-121)⟩ : S45), (⟨377, 381, 2, 1⟩ : S45), (⟨913, 929, 1, 32⟩ : S45), (⟨931, 939, 1, 32⟩ : S45), (⟨962, 962, 1, 1⟩ : S45), (⟨1024, 1039, 1, 80⟩ : S45), (⟨1040, 1071, 1, 32⟩ : S45)]
def hasB (s : S45) (c : Int) : Bool := decide (s.f0 ≤ c) && (decide (c ≤ s.f1) && (Int.tmod (wrap32 (c - s.f0)) s.f2 == 0))
def foldAux : List S45 → Int → Int
  | [], c => c
  | s :: t, c => if hasB s c = true then wrap32 (c + s.f3) else foldAux t c
def foldZ (c : Int) : Int := foldAux foldL c
theorem has_B (s : S45) (c : Int) (h : s.f2 ≠ 0) : fold_span_has.f s.f0 s.f1 s.f2 s.f3 c = some (hasB s c) := by
  unfold fold_span_has.f hasB
  by_cases h1 : s.f0 ≤ c <;> by_cases h2 : c ≤ s.f1 <;> simp [h1, h2, h]
theorem l0_aux (c : Int) (L : List S45) (hL : ∀ s ∈ L, s.f2 ≠ 0) (hlen : L.length < 1000) : ∀ (k i : Nat), i ≤ L.length → L.length < i + k → fold_Fold.l0 k c L (L.length : Int) (i : Int) = some (foldAux (L.drop i) c)
  | 0, i, hi, h => by omega
  | k + 1, i, hle, h => by
    unfold fold_Fold.l0
    by_cases hi : i < L.length
    · rw [if_pos (by omega), if_pos (by omega), if_pos (by omega)]
      have e : rd_T45 L (i : Int) = L[i] := by simp [rd_T45, hi]
      have hd : L.drop i = L[i] :: L.drop (i + 1) := List.drop_eq_getElem_cons hi
      rw [e, has_B _ c (hL _ (List.getElem_mem hi)), hd]
      have hw : wrap64 ((i : Int) + 1) = ((i + 1 : Nat) : Int) := by unfold wrap64; omega
      rw [hw, l0_aux c L hL hlen k (i + 1) (by omega) (by omega)]
      simp only [Option.bind_some, foldAux]
      by_cases hb : hasB L[i] c = true
      · rw [if_pos hb, if_pos hb]
      · rw [if_neg hb, if_neg hb]
    · rw [if_neg (by omega), List.drop_eq_nil_of_le (by omega)]
      rfl
theorem fold_Fold_eq (k : Nat) (hk : 14 < k) (c : Int) : fold_Fold.f k c = some (foldZ c) := by
  show fold_Fold.l0 k c foldL (foldL.length : Int) ((0 : Nat) : Int) = _
  exact l0_aux c foldL (by decide) (by decide) k 0 (by omega) (by simp [foldL]; omega)
/-- Beyond the last span, and below the first, nothing is folded and nothing is a letter. -/
theorem fold_far (c : Int) (h : c < 0 ∨ 1200 ≤ c) : foldZ c = c := by
  have hn : ∀ s ∈ foldL, hasB s c = false := by
    intro s hs
    have hb : 0 ≤ s.f0 ∧ s.f1 < 1200 := by
      simp only [foldL, List.mem_cons, List.not_mem_nil, or_false] at hs
      rcases hs with rfl | rfl | rfl | rfl | rfl | rfl | rfl | rfl | rfl | rfl | rfl | rfl | rfl | rfl <;> decide
    unfold hasB
    rcases h with h | h
    · rw [decide_eq_false (show ¬ s.f0 ≤ c by omega)]; rfl
    · rw [decide_eq_false (show ¬ c ≤ s.f1 by omega)]; simp
  unfold foldZ
  generalize foldL = L at hn
  induction L with
  | nil => rfl
  | cons s t ih => rw [foldAux, if_neg (by rw [hn s (by simp)]; simp), ih (fun x hx => hn x (by simp [hx]))]
theorem letter_far (c : Int) (h : c < 0 ∨ 1200 ≤ c) : isLetter c = false := by
  unfold isLetter letterL inSpan
  simp only [List.any_cons, List.any_nil, Bool.or_false]
  rcases h with h | h <;> simp <;> omega
def near (p : Int → Bool) : Bool := (List.range 1200).all fun n => p (n : Int)
theorem near_all {p : Int → Bool} (h : near p = true) (c : Int) (h0 : 0 ≤ c) (h1 : c < 1200) : p c = true := by
  have := List.all_eq_true.1 h c.toNat (by simp; omega)
  rwa [Int.toNat_of_nonneg h0] at this
theorem ref_near : near (fun c => manteletref05_Fold.f 6 c == some (foldZ c) && (manteletref05_Letter.f c == some (isLetter c))) = true := by kernel_rfl
theorem ref_far (c : Int) (h : c < 0 ∨ 1200 ≤ c) : manteletref05_Fold.f 6 c = some c ∧ manteletref05_Letter.f c = some false := by
  rcases h with h | h
  · have h65 : ¬ 65 ≤ c := by omega
    have h97 : ¬ 97 ≤ c := by omega
    have h192 : ¬ 192 ≤ c := by omega
    have h256 : ¬ 256 ≤ c := by omega
    have h306 : ¬ 306 ≤ c := by omega
    have h313 : ¬ 313 ≤ c := by omega
    have h330 : ¬ 330 ≤ c := by omega
    have h377 : ¬ 377 ≤ c := by omega
    have h913 : ¬ 913 ≤ c := by omega
    have h1024 : ¬ 1024 ≤ c := by omega
    have h1040 : ¬ 1040 ≤ c := by omega
    have h376 : ¬ c = 376 := by omega
    have h962 : (c == 962) = false := by simp; omega
    simp [manteletref05_Fold.f, manteletref05_Fold.j0, manteletref05_Fold.j1, manteletref05_Fold.j2, manteletref05_Fold.j3, manteletref05_Letter.f, *]
  · have h65 : 65 ≤ c := by omega
    have h90 : ¬ c ≤ 90 := by omega
    have h97 : 97 ≤ c := by omega
    have h122 : ¬ c ≤ 122 := by omega
    have h192 : 192 ≤ c := by omega
    have h222 : ¬ c ≤ 222 := by omega
    have h256 : 256 ≤ c := by omega
    have h302 : ¬ c ≤ 302 := by omega
    have h306 : 306 ≤ c := by omega
    have h310 : ¬ c ≤ 310 := by omega
    have h313 : 313 ≤ c := by omega
    have h327 : ¬ c ≤ 327 := by omega
    have h330 : 330 ≤ c := by omega
    have h374 : ¬ c ≤ 374 := by omega
    have h377 : 377 ≤ c := by omega
    have h381 : ¬ c ≤ 381 := by omega
    have h383 : ¬ c ≤ 383 := by omega
    have h913 : 913 ≤ c := by omega
    have h939 : ¬ c ≤ 939 := by omega
    have h974 : ¬ c ≤ 974 := by omega
    have h1024 : 1024 ≤ c := by omega
    have h1039 : ¬ c ≤ 1039 := by omega
    have h1119 : ¬ c ≤ 1119 := by omega
    have h1040 : 1040 ≤ c := by omega
    have h1071 : ¬ c ≤ 1071 := by omega
    have h376 : ¬ c = 376 := by omega
    have h962 : (c == 962) = false := by simp; omega
    simp [manteletref05_Fold.f, manteletref05_Fold.j0, manteletref05_Fold.j1, manteletref05_Fold.j2, manteletref05_Fold.j3, manteletref05_Letter.f, *]
theorem ref_Fold_eq (c : Int) : manteletref05_Fold.f 6 c = some (foldZ c) := by
  by_cases h : c < 0 ∨ 1200 ≤ c
  · rw [(ref_far c h).1, fold_far c h]
  · have := near_all ref_near c (by omega) (by omega)
    simp only [Bool.and_eq_true, beq_iff_eq] at this
    exact this.1
theorem ref_Letter_eq (c : Int) : manteletref05_Letter.f c = some (isLetter c) := by
  by_cases h : c < 0 ∨ 1200 ≤ c
  · rw [(ref_far c h).2, letter_far c h]
  · have := near_all ref_near c (by omega) (by omega)
    simp only [Bool.and_eq_true, beq_iff_eq] at this
    exact this.2
theorem fold_near : near (fun c => decide (0 ≤ foldZ c) && (decide (foldZ c < 1200) && ((foldZ (foldZ c) == foldZ c) && ((isLetter (foldZ c) == isLetter c) && ((isLetter c || (foldZ c == c)) && (!(isLetter c && (c == 39)) && (decide (128 ≤ c) || decide (foldZ c = if 65 ≤ c ∧ c ≤ 90 then c + 32 else c)))))))) = true := by kernel_rfl
theorem fold_facts (c : Int) (h0 : 0 ≤ c) (h1 : c < 1200) : (0 ≤ foldZ c ∧ foldZ c < 1200) ∧ foldZ (foldZ c) = foldZ c ∧ isLetter (foldZ c) = isLetter c ∧ (isLetter c = true ∨ foldZ c = c) ∧ ¬ (isLetter c = true ∧ c = 39) ∧ (c < 128 → foldZ c = if 65 ≤ c ∧ c ≤ 90 then c + 32 else c) := by
  have := near_all fold_near c h0 h1
  simp only [Bool.and_eq_true, decide_eq_true_eq, beq_iff_eq, Bool.or_eq_true, Bool.not_eq_true', Bool.and_eq_false_iff] at this
  obtain ⟨a, b, c1, d, e, f, g⟩ := this
  refine ⟨⟨a, b⟩, c1, d, e, fun ⟨h, h2⟩ => ?_, fun h => ?_⟩
  · rcases f with f | f
    · rw [h] at f; cases f
    · subst h2; cases f
  · rcases g with g | g
    · omega
    · exact g
theorem fold_twice (c : Int) : foldZ (foldZ c) = foldZ c := by
  by_cases h : c < 0 ∨ 1200 ≤ c
  · rw [fold_far c h, fold_far c h]
  · exact (fold_facts c (by omega) (by omega)).2.1
theorem fold_letter (c : Int) : isLetter (foldZ c) = isLetter c := by
  by_cases h : c < 0 ∨ 1200 ≤ c
  · rw [fold_far c h]
  · exact (fold_facts c (by omega) (by omega)).2.2.1
theorem fold_other (c : Int) : isLetter c = true ∨ foldZ c = c := by
  by_cases h : c < 0 ∨ 1200 ≤ c
  · exact Or.inr (fold_far c h)
  · exact (fold_facts c (by omega) (by omega)).2.2.2.1
theorem fold_mark (c : Int) (h : c = 39 ∨ c = 8217) : isLetter c = false := by
  rcases h with rfl | rfl <;> kernel_rfl
theorem fold_range (c : Int) (h0 : 0 ≤ c) (h1 : c ≤ 0x10FFFF) : 0 ≤ foldZ c ∧ foldZ c ≤ 0x10FFFF := by
  by_cases h : c < 0 ∨ 1200 ≤ c
  · rw [fold_far c h]; exact ⟨h0, h1⟩
  · have := (fold_facts c (by omega) (by omega)).1; omega
theorem sane_fold (c : Int) : Utf.sane (foldZ (Utf.sane c)) = foldZ (Utf.sane c) := by
  obtain ⟨h0, h⟩ := Utf.sane_ok c
  generalize Utf.sane c = x at h0 h
  by_cases hf : x < 0 ∨ 1200 ≤ x
  · rw [fold_far x hf]
    obtain ⟨n, rfl⟩ := Int.eq_ofNat_of_zero_le h0
    exact Utf.sane_of n (by simpa using h)
  · have := (fold_facts x (by omega) (by omega)).1
    generalize foldZ x = y at this
    obtain ⟨n, rfl⟩ := Int.eq_ofNat_of_zero_le this.1
    exact Utf.sane_of n (Or.inl (by omega))
end Go.Proofs.Ythpemcchgebecaa.K
