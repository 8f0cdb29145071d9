/- TokenAll: whatever bytes (5000 at most): the words told are the document's. (The texts that the proof is made of, one behind the other: part 7 of 13.) -/
import Derived.Shelf.SlicesQ.IndexFunc
import Derived.Test.YthpemcchgebecaaProg
import Derived.Below
import Derived.Deep.Draws
import Derived.Deep.AppendLies
import Derived.Maps.AppendAt
import Derived.OwnWalk
import Derived.Laws.BytesArg
import Derived.Laws.MakeOwn
import Derived.Laws.OwnMore
import Derived.Deep.OwnRows
import Derived.Tactics
import Derived.Lib.ConvBytes
import Derived.Laws.Slices
import Derived.WalkKit
import Derived.KernelRfl
import Derived.RowKit3
import Derived.Deep.LoopGhost
import Derived.Deep.QuietTactic
import Derived.BigQuiet
import Derived.WideLaws
import Derived.Deep.DeepCutAuto
import Derived.Deep.CutBlock
import Derived.Deep.RegionHeld3
import Derived.Laws.Rows
import Derived.Lib.AppendStr
import Derived.ArgAppend
import Derived.Laws.IdiomCopy
import Derived.OrdersHeld
import Derived.Laws.BitsLemmas
import Derived.RowKit
import Derived.Lib.OthersKept
import Derived.WalkSmall
import Derived.Deep.RegionLaw
import Derived.BigRegion
import Derived.Shelf.Strings.BuilderRune
import Derived.Lib.SliceRun
import Derived.Test.YthpemcchgebecaaZTokenAlla
import Derived.Test.YthpemcchgebecaaZTokenAllb
import Derived.Test.YthpemcchgebecaaZTokenAllc
import Derived.Test.YthpemcchgebecaaZTokenAlld
import Derived.Test.YthpemcchgebecaaZTokenAlle
import Derived.Test.YthpemcchgebecaaZTokenAllf
namespace Go.Proofs.Ythpemcchgebecaa.K
open Go.RowKit Go.Proofs.YthpemcchgebecaaW.PrintWords Go.Proofs.YthpemcchgebecaaW.PrintLast Go.Proofs.YthpemcchgebecaaW.PrintMore Go.Proofs.Ythpemcchgebecaa
attribute [local go_sem] max2_int min2_int max_two min_two max_three min_three max_four min_four
set_option linter.unusedVariables false
set_option linter.unusedSimpArgs false
open Go.Shelf Go.Proofs.Ythpemcchgebecaa.PFold
def renC : Go.Shelf.Ren := ⟨fun | 8 => 26 | 6 => 39 | n => n, fun | 22 => 46 | 23 => 45 | 25 => 48 | 4 => 4 | 3 => 3 | 0 => 0 | n => n, fun | n => n⟩
theorem laysC : Go.Proofs.SlLaysH0.n8 Try.prog renC := {
  mixed := by kernel_rfl
  f6 := ⟨Try.f39.name, by decide, Try.func39.trans (congrArg some (by kernel_rfl))⟩
  f8 := ⟨Try.f26.name, by decide, Try.func26.trans (congrArg some (by kernel_rfl))⟩
  t0 := Try.underlying0
  a0 := Try.isAgg0
  z0 := Try.sizeOf0
  v0 := Try.zeroValue0
  t3 := Try.underlying3
  a3 := Try.isAgg3
  z3 := Try.sizeOf3
  v3 := Try.zeroValue3
  t4 := Try.underlying4
  a4 := Try.isAgg4
  z4 := Try.sizeOf4
  v4 := Try.zeroValue4
  t22 := Try.underlying46
  a22 := Try.isAgg46
  z22 := Try.sizeOf46
  v22 := Try.zeroValue46
  t25 := Try.underlying48
  a25 := Try.isAgg48
  z25 := Try.sizeOf48
  v25 := Try.zeroValue48 }
def encSp (x : Int × Int) : List Value := [.int .i32 x.1, .int .i32 x.2, .int .i32 1, .int .i32 0]
def inSpan (c : Int) (x : Int × Int) : Bool := decide (x.1 ≤ c) && decide (c ≤ x.2)
def letterL : List (Int × Int) := [(65, 90), (97, 122), (192, 214), (216, 246), (248, 383), (913, 929), (931, 974), (1024, 1119)]
def isLetter (c : Int) : Bool := letterL.any (inSpan c)
theorem has_span (a b c : Int) : fold_span_has.f a b 1 0 c = some (inSpan c (a, b)) := by
  unfold fold_span_has.f inSpan
  by_cases h1 : a ≤ c <;> by_cases h2 : c ≤ b <;> simp [h1, h2]
set_option maxHeartbeats 1000000 in
set_option maxRecDepth 100000 in
theorem letter_pred (c : Int) (B : Nat) (w : World) (hB : B < w.heap.size) (hcell : w.cell? ⟨B, 0, none⟩ = some (.int .i32 c)) :
    PredBelow Try.prog 27 #[.pointer (some ⟨B, 0, none⟩)] (fun x => .agg (encSp x).toArray) (inSpan c) w := fun W x hb => by
  have hc : W.cell? ⟨B, 0, none⟩ = some (.int .i32 c) := (hb.cell (p := ⟨B, 0, none⟩) hB).trans hcell
  have hBW : B < W.heap.size := Nat.lt_of_lt_of_le hB hb.size
  obtain ⟨a, b⟩ := x
  have hs := has_span a b c
  generalize inSpan c (a, b) = r at hs ⊢
  show Calls Try.prog 27 #[.agg #[.int .i32 a, .int .i32 b, .int .i32 1, .int .i32 0], .pointer (some ⟨B, 0, none⟩)] W _
  go_enter Try.func27, Try.ntmps27
  go_wp2_with (first | ((with_reducible refine gate_dst (N := 2) rfl ?_); refine box_event ?hg (N := 2) ?hd (cs := #[.int .i32 a, .int .i32 b, .int .i32 1, .int .i32 0]) (t := 45) ?hr ?_; (case hd => rfl); (case hg => rfl); (case hr => first | (go_simp; done) | (go_simp; rfl)); intro g hg w1 hbox hb1; have hc1 := Aside0.mk ((hb1.cell (p := ⟨B, 0, none⟩) hBW).trans hc); have BX := Aside0.mk hbox; have HB1 := Aside0.mk (hb.trans (hb1.mono hb.size)); clear hc hBW hb hbox hb1 hg; have hc := hc1.out; have z0 : w1.cell? ⟨g, 0, none⟩ = some (.int .i32 a) := (blk_cell BX.out 0).trans rfl; have z1 : w1.cell? ⟨g, 1, none⟩ = some (.int .i32 b) := (blk_cell BX.out 1).trans rfl; have z2 : w1.cell? ⟨g, 2, none⟩ = some (.int .i32 1) := (blk_cell BX.out 2).trans rfl; have z3 : w1.cell? ⟨g, 3, none⟩ = some (.int .i32 0) := (blk_cell BX.out 3).trans rfl) | (go_at_call 28; (with_reducible refine (fold_span_has.calls a b 1 0 c r _ hs).mono ?_); rintro e w' ⟨rfl, hb2⟩; have n0 := Aside0.mk (HB1.out.trans (hb2.mono HB1.out.size)); clear hb2))
  go_ret
  exact ⟨rfl, n0.out⟩
def fold_Letter.f (a0 : Int) : Option Bool := some (isLetter a0)
theorem eg1 : ∀ args w, (callFunc 27 args).run Try.prog w = .ok (.enter 27 args) w := enters_of Try.func27 (by kernel_rfl) rfl
theorem letter_cells {w : World} {e base : Nat} {ok : Nat → Prop} {v : Value} (h : Kd.R k45 e w base ok v ([(⟨65, 90, 1, 0⟩ : S45), (⟨97, 122, 1, 0⟩ : S45), (⟨192, 214, 1, 0⟩ : S45), (⟨216, 246, 1, 0⟩ : S45), (⟨248, 383, 1, 0⟩ : S45), (⟨913, 929, 1, 0⟩ : S45), (⟨931, 974, 1, 0⟩ : S45), (⟨1024, 1119, 1, 0⟩ : S45)] : List S45)) : ∃ b c, v = .slice (some ⟨b, 0, none⟩) 8 c ∧ b < w.heap.size ∧ ∀ j, j < letterL.length → ∀ i v, (encSp letterL[j]!)[i]? = some v → w.cell? ⟨b, 0 + j * 4 + i, none⟩ = some v := by
  have hb := (Kd.R_bound h).1
  obtain ⟨A, cap0, rfl⟩ := Kd.R_slice h
  have hC := (Kd.R_reads' h).2.2
  obtain ⟨_, inner, ho, _⟩ := h
  rcases ho.2 with ⟨_, h0⟩ | ⟨g, cap, cells, hv, _⟩
  · exact absurd h0 (by simp)
  · obtain ⟨rfl, _, rfl⟩ := Value.slice.inj hv
    refine ⟨g, _, rfl, (hb g rfl).2.2.1, ?_⟩
    intro j hj i v hi
    have hj8 : j < 8 := hj
    obtain ⟨ad, e0, a0, a1, a2, a3⟩ := at_T45 hC (j : Int) (by omega) (by show (j : Int) < 8; omega)
    cases e0
    have hi4 : i < 4 := by
      have := (List.getElem?_eq_some_iff.1 hi).1
      simpa [encSp] using this
    have key : ∀ j : Nat, j < 8 → ∀ i : Nat, i < 4 → (encSp letterL[j]!)[i]? = some ((match i with | 0 => Value.int .i32 (rd_T45 [(⟨65, 90, 1, 0⟩ : S45), (⟨97, 122, 1, 0⟩ : S45), (⟨192, 214, 1, 0⟩ : S45), (⟨216, 246, 1, 0⟩ : S45), (⟨248, 383, 1, 0⟩ : S45), (⟨913, 929, 1, 0⟩ : S45), (⟨931, 974, 1, 0⟩ : S45), (⟨1024, 1119, 1, 0⟩ : S45)] (j : Int)).f0 | 1 => Value.int .i32 (rd_T45 [(⟨65, 90, 1, 0⟩ : S45), (⟨97, 122, 1, 0⟩ : S45), (⟨192, 214, 1, 0⟩ : S45), (⟨216, 246, 1, 0⟩ : S45), (⟨248, 383, 1, 0⟩ : S45), (⟨913, 929, 1, 0⟩ : S45), (⟨931, 974, 1, 0⟩ : S45), (⟨1024, 1119, 1, 0⟩ : S45)] (j : Int)).f1 | 2 => Value.int .i32 (rd_T45 [(⟨65, 90, 1, 0⟩ : S45), (⟨97, 122, 1, 0⟩ : S45), (⟨192, 214, 1, 0⟩ : S45), (⟨216, 246, 1, 0⟩ : S45), (⟨248, 383, 1, 0⟩ : S45), (⟨913, 929, 1, 0⟩ : S45), (⟨931, 974, 1, 0⟩ : S45), (⟨1024, 1119, 1, 0⟩ : S45)] (j : Int)).f2 | _ => Value.int .i32 (rd_T45 [(⟨65, 90, 1, 0⟩ : S45), (⟨97, 122, 1, 0⟩ : S45), (⟨192, 214, 1, 0⟩ : S45), (⟨216, 246, 1, 0⟩ : S45), (⟨248, 383, 1, 0⟩ : S45), (⟨913, 929, 1, 0⟩ : S45), (⟨931, 974, 1, 0⟩ : S45), (⟨1024, 1119, 1, 0⟩ : S45)] (j : Int)).f3)) := by
      intro j hj i hi
      have hj' : j = 0 ∨ j = 1 ∨ j = 2 ∨ j = 3 ∨ j = 4 ∨ j = 5 ∨ j = 6 ∨ j = 7 := by omega
      have hi' : i = 0 ∨ i = 1 ∨ i = 2 ∨ i = 3 := by omega
      rcases hj' with rfl | rfl | rfl | rfl | rfl | rfl | rfl | rfl <;> rcases hi' with rfl | rfl | rfl | rfl <;> rfl
    have hk := (hi.symm.trans (key j hj8 i hi4))
    obtain rfl := Option.some.inj hk
    have : i = 0 ∨ i = 1 ∨ i = 2 ∨ i = 3 := by omega
    rcases this with rfl | rfl | rfl | rfl
    all_goals rw [Addr.add_lit] at a0 a1 a2 a3; first | simpa using a0 | simpa using a1 | simpa using a2 | simpa using a3
set_option maxHeartbeats 4000000 in
set_option maxRecDepth 100000 in
theorem fold_Letter.calls (a0 : Int) (r : Bool) (w : World) (h : fold_Letter.f a0 = some r) :
    Calls Try.prog 12 #[.int .i32 a0] w fun e w' => e = .returned (.bool r) ∧ Below w.heap.size w w' := by
  obtain rfl : isLetter a0 = r := Option.some.inj h
  have hcon : ∀ (b c : Nat) (W : World), Below w.heap.size w W → W.cell? ⟨w.heap.size, 0, none⟩ = some (.int .i32 a0) → w.heap.size < W.heap.size → b < W.heap.size → (∀ j, j < letterL.length → ∀ i v, (encSp letterL[j]!)[i]? = some v → W.cell? ⟨b, 0 + j * 4 + i, none⟩ = some v) →
      Calls Try.prog 26 #[.slice (some ⟨b, 0, none⟩) 8 c, .func (.func 27) #[] #[.pointer (some ⟨w.heap.size, 0, none⟩)]] W fun e w' => e = .returned (.bool (isLetter a0)) ∧ Below w.heap.size w w' := by
    intro b c W hb hc hs hbs hcs
    have := AnyQ.slices_ContainsFunc laysC 4 Try.isAgg45 Try.sizeOf45 encSp (fun _ => rfl) (inSpan a0) 27 #[.pointer (some ⟨w.heap.size, 0, none⟩)] eg1 b 0 8 c letterL W
      (letter_pred a0 w.heap.size W hs hc) (by decide) (by decide) hbs hcs
    exact this.mono fun e w' ⟨he, hw⟩ => ⟨he, hb.trans (hw.mono hb.size)⟩
  generalize isLetter a0 = r at hcon ⊢
  go_enter Try.func12, Try.ntmps12
  go_wp2_with (first | ((with_reducible refine gate_dst (N := 12) rfl ?_); refine Kd.R_lit k45 _ 45 ?hg (N := 12) ?hd (xs := ([(⟨65, 90, 1, 0⟩ : S45), (⟨97, 122, 1, 0⟩ : S45), (⟨192, 214, 1, 0⟩ : S45), (⟨216, 246, 1, 0⟩ : S45), (⟨248, 383, 1, 0⟩ : S45), (⟨913, 929, 1, 0⟩ : S45), (⟨931, 974, 1, 0⟩ : S45), (⟨1024, 1119, 1, 0⟩ : S45)] : List S45)) (inner := [.int .i32 65, .int .i32 90, .int .i32 1, .int .i32 0, .int .i32 97, .int .i32 122, .int .i32 1, .int .i32 0, .int .i32 192, .int .i32 214, .int .i32 1, .int .i32 0, .int .i32 216, .int .i32 246, .int .i32 1, .int .i32 0, .int .i32 248, .int .i32 383, .int .i32 1, .int .i32 0, .int .i32 913, .int .i32 929, .int .i32 1, .int .i32 0, .int .i32 931, .int .i32 974, .int .i32 1, .int .i32 0, .int .i32 1024, .int .i32 1119, .int .i32 1, .int .i32 0]) (ok := fun _ => True) (okp := fun _ => True) ?hr ?hp (fun _ hk => hk) trivial (Below.refl _ _) (Nat.le_refl _) (by simp) ?_; (case hd => rfl); (case hg => rfl); (case hr => first | (go_simp; done) | (go_simp; rfl)); (case hp => exact (Reps.c4 (show Kd.M k45 _ _ _ (⟨65, 90, 1, 0⟩ : S45) [.int .i32 65, .int .i32 90, .int .i32 1, .int .i32 0] from (k45_mkM _ _ _ (⟨65, 90, 1, 0⟩ : S45) )) (Reps.c4 (show Kd.M k45 _ _ _ (⟨97, 122, 1, 0⟩ : S45) [.int .i32 97, .int .i32 122, .int .i32 1, .int .i32 0] from (k45_mkM _ _ _ (⟨97, 122, 1, 0⟩ : S45) )) (Reps.c4 (show Kd.M k45 _ _ _ (⟨192, 214, 1, 0⟩ : S45) [.int .i32 192, .int .i32 214, .int .i32 1, .int .i32 0] from (k45_mkM _ _ _ (⟨192, 214, 1, 0⟩ : S45) )) (Reps.c4 (show Kd.M k45 _ _ _ (⟨216, 246, 1, 0⟩ : S45) [.int .i32 216, .int .i32 246, .int .i32 1, .int .i32 0] from (k45_mkM _ _ _ (⟨216, 246, 1, 0⟩ : S45) )) (Reps.c4 (show Kd.M k45 _ _ _ (⟨248, 383, 1, 0⟩ : S45) [.int .i32 248, .int .i32 383, .int .i32 1, .int .i32 0] from (k45_mkM _ _ _ (⟨248, 383, 1, 0⟩ : S45) )) (Reps.c4 (show Kd.M k45 _ _ _ (⟨913, 929, 1, 0⟩ : S45) [.int .i32 913, .int .i32 929, .int .i32 1, .int .i32 0] from (k45_mkM _ _ _ (⟨913, 929, 1, 0⟩ : S45) )) (Reps.c4 (show Kd.M k45 _ _ _ (⟨931, 974, 1, 0⟩ : S45) [.int .i32 931, .int .i32 974, .int .i32 1, .int .i32 0] from (k45_mkM _ _ _ (⟨931, 974, 1, 0⟩ : S45) )) (Reps.c4 (show Kd.M k45 _ _ _ (⟨1024, 1119, 1, 0⟩ : S45) [.int .i32 1024, .int .i32 1119, .int .i32 1, .int .i32 0] from (k45_mkM _ _ _ (⟨1024, 1119, 1, 0⟩ : S45) )) (Reps.none _ _)))))))))); intro v103 w2 ho3 hb hg_ hnew_; clear hg_ hnew_; obtain ⟨b, cc, rfl, hbs, hcs⟩ := letter_cells ho3; have hcell : w2.cell? ⟨w.heap.size, 0, none⟩ = some (.int .i32 a0) := (hb.cell (p := ⟨w.heap.size, 0, none⟩) (by simp)).trans (by simp); have hsz := hb.size; have hcc := hcon b cc w2 ((below_alloc (Below.refl _ _) _).trans (hb.mono (by simp))) hcell (by simp at hsz; omega) hbs hcs; clear hcon hcs hbs ho3 hb hsz hcell) | (go_at_call 26; (with_reducible refine hcc.mono ?_); rintro e w' ⟨rfl, hb2⟩; have n0 := Aside0.mk hb2; clear hb2))
  go_ret
  exact ⟨rfl, n0.out⟩
end Go.Proofs.Ythpemcchgebecaa.K

namespace Go.Proofs.Ythpemcchgebecaa.K
open Go.RowKit Go.Proofs.YthpemcchgebecaaW.PrintWords Go.Proofs.YthpemcchgebecaaW.PrintLast Go.Proofs.YthpemcchgebecaaW.PrintMore Go.Proofs.Ythpemcchgebecaa
attribute [local go_sem] max2_int min2_int max_two min_two max_three min_three max_four min_four
set_option linter.unusedVariables false
set_option linter.unusedSimpArgs false
open Go.Proofs.Ythpemcchgebecaa.PFold
def foldL : List S45 := [(⟨65, 90, 1, 32⟩ : S45), (⟨192, 214, 1, 32⟩ : S45), (⟨216, 222, 1, 32⟩ : S45), (⟨256, 302, 2, 1⟩ : S45), (⟨306, 310, 2, 1⟩ : S45), (⟨313, 327, 2, 1⟩ : S45), (⟨330, 374, 2, 1⟩ : S45), (⟨376, 376, 1, (-121)⟩ : S45), (⟨377, 381, 2, 1⟩ : S45), (⟨913, 929, 1, 32⟩ : S45), (⟨931, 939, 1, 32⟩ : S45), (⟨962, 962, 1, 1⟩ : S45), (⟨1024, 1039, 1, 80⟩ : S45), (⟨1040, 1071, 1, 32⟩ : S45)]
def hasB (s : S45) (c : Int) : Bool := decide (s.f0 ≤ c) && (decide (c ≤ s.f1) && (Int.tmod (wrap32 (c - s.f0)) s.f2 == 0))
def foldAux : List S45 → Int → Int
  | [], c => c
  | s :: t, c => if hasB s c = true then wrap32 (c + s.f3) else foldAux t c
def foldZ (c : Int) : Int := foldAux foldL c
theorem has_B (s : S45) (c : Int) (h : s.f2 ≠ 0) : fold_span_has.f s.f0 s.f1 s.f2 s.f3 c = some (hasB s c) := by
  unfold fold_span_has.f hasB
  by_cases h1 : s.f0 ≤ c <;> by_cases h2 : c ≤ s.f1 <;> simp [h1, h2, h]
theorem l0_aux (c : Int) (L : List S45) (hL : ∀ s ∈ L, s.f2 ≠ 0) (hlen : L.length < 1000) : ∀ (k i : Nat), i ≤ L.length → L.length < i + k → fold_Fold.l0 k c L (L.length : Int) (i : Int) = some (foldAux (L.drop i) c)
  | 0, i, hi, h => by omega
  | k + 1, i, hle, h => by
    unfold fold_Fold.l0
    by_cases hi : i < L.length
    · rw [if_pos (by omega), if_pos (by omega), if_pos (by omega)]
      have e : rd_T45 L (i : Int) = L[i] := by simp [rd_T45, hi]
      have hd : L.drop i = L[i] :: L.drop (i + 1) := List.drop_eq_getElem_cons hi
      rw [e, has_B _ c (hL _ (List.getElem_mem hi)), hd]
      have hw : wrap64 ((i : Int) + 1) = ((i + 1 : Nat) : Int) := by unfold wrap64; omega
      rw [hw, l0_aux c L hL hlen k (i + 1) (by omega) (by omega)]
      simp only [Option.bind_some, foldAux]
      by_cases hb : hasB L[i] c = true
      · rw [if_pos hb, if_pos hb]
      · rw [if_neg hb, if_neg hb]
    · rw [if_neg (by omega), List.drop_eq_nil_of_le (by omega)]
      rfl
theorem fold_Fold_eq (k : Nat) (hk : 14 < k) (c : Int) : fold_Fold.f k c = some (foldZ c) := by
  show fold_Fold.l0 k c foldL (foldL.length : Int) ((0 : Nat) : Int) = _
  exact l0_aux c foldL (by decide) (by decide) k 0 (by omega) (by simp [foldL]; omega)
/-- Beyond the last span, and below the first, nothing is folded and nothing is a letter. -/
theorem fold_far (c : Int) (h : c < 0 ∨ 1200 ≤ c) : foldZ c = c := by
  have hn : ∀ s ∈ foldL, hasB s c = false := by
    intro s hs
    have hb : 0 ≤ s.f0 ∧ s.f1 < 1200 := by
      simp only [foldL, List.mem_cons, List.not_mem_nil, or_false] at hs
      rcases hs with rfl | rfl | rfl | rfl | rfl | rfl | rfl | rfl | rfl | rfl | rfl | rfl | rfl | rfl <;> decide
    unfold hasB
    rcases h with h | h
    · rw [decide_eq_false (show ¬ s.f0 ≤ c by omega)]; rfl
    · rw [decide_eq_false (show ¬ c ≤ s.f1 by omega)]; simp
  unfold foldZ
  generalize foldL = L at hn
  induction L with
  | nil => rfl
  | cons s t ih => rw [foldAux, if_neg (by rw [hn s (by simp)]; simp), ih (fun x hx => hn x (by simp [hx]))]
theorem letter_far (c : Int) (h : c < 0 ∨ 1200 ≤ c) : isLetter c = false := by
  unfold isLetter letterL inSpan
  simp only [List.any_cons, List.any_nil, Bool.or_false]
  rcases h with h | h <;> simp <;> omega
def near (p : Int → Bool) : Bool := (List.range 1200).all fun n => p (n : Int)
theorem near_all {p : Int → Bool} (h : near p = true) (c : Int) (h0 : 0 ≤ c) (h1 : c < 1200) : p c = true := by
  have := List.all_eq_true.1 h c.toNat (by simp; omega)
  rwa [Int.toNat_of_nonneg h0] at this
theorem ref_near : near (fun c => manteletref05_Fold.f 6 c == some (foldZ c) && (manteletref05_Letter.f c == some (isLetter c))) = true := by kernel_rfl
theorem ref_far (c : Int) (h : c < 0 ∨ 1200 ≤ c) : manteletref05_Fold.f 6 c = some c ∧ manteletref05_Letter.f c = some false := by
  rcases h with h | h
  · have h65 : ¬ 65 ≤ c := by omega
    have h97 : ¬ 97 ≤ c := by omega
    have h192 : ¬ 192 ≤ c := by omega
    have h256 : ¬ 256 ≤ c := by omega
    have h306 : ¬ 306 ≤ c := by omega
    have h313 : ¬ 313 ≤ c := by omega
    have h330 : ¬ 330 ≤ c := by omega
    have h377 : ¬ 377 ≤ c := by omega
    have h913 : ¬ 913 ≤ c := by omega
    have h1024 : ¬ 1024 ≤ c := by omega
    have h1040 : ¬ 1040 ≤ c := by omega
    have h376 : ¬ c = 376 := by omega
    have h962 : (c == 962) = false := by simp; omega
    simp [manteletref05_Fold.f, manteletref05_Fold.j0, manteletref05_Fold.j1, manteletref05_Fold.j2, manteletref05_Fold.j3, manteletref05_Letter.f, *]
  · have h65 : 65 ≤ c := by omega
    have h90 : ¬ c ≤ 90 := by omega
    have h97 : 97 ≤ c := by omega
    have h122 : ¬ c ≤ 122 := by omega
    have h192 : 192 ≤ c := by omega
    have h222 : ¬ c ≤ 222 := by omega
    have h256 : 256 ≤ c := by omega
    have h302 : ¬ c ≤ 302 := by omega
    have h306 : 306 ≤ c := by omega
    have h310 : ¬ c ≤ 310 := by omega
    have h313 : 313 ≤ c := by omega
    have h327 : ¬ c ≤ 327 := by omega
    have h330 : 330 ≤ c := by omega
    have h374 : ¬ c ≤ 374 := by omega
    have h377 : 377 ≤ c := by omega
    have h381 : ¬ c ≤ 381 := by omega
    have h383 : ¬ c ≤ 383 := by omega
    have h913 : 913 ≤ c := by omega
    have h939 : ¬ c ≤ 939 := by omega
    have h974 : ¬ c ≤ 974 := by omega
    have h1024 : 1024 ≤ c := by omega
    have h1039 : ¬ c ≤ 1039 := by omega
    have h1119 : ¬ c ≤ 1119 := by omega
    have h1040 : 1040 ≤ c := by omega
    have h1071 : ¬ c ≤ 1071 := by omega
    have h376 : ¬ c = 376 := by omega
    have h962 : (c == 962) = false := by simp; omega
    simp [manteletref05_Fold.f, manteletref05_Fold.j0, manteletref05_Fold.j1, manteletref05_Fold.j2, manteletref05_Fold.j3, manteletref05_Letter.f, *]
theorem ref_Fold_eq (c : Int) : manteletref05_Fold.f 6 c = some (foldZ c) := by
  by_cases h : c < 0 ∨ 1200 ≤ c
  · rw [(ref_far c h).1, fold_far c h]
  · have := near_all ref_near c (by omega) (by omega)
    simp only [Bool.and_eq_true, beq_iff_eq] at this
    exact this.1
theorem ref_Letter_eq (c : Int) : manteletref05_Letter.f c = some (isLetter c) := by
  by_cases h : c < 0 ∨ 1200 ≤ c
  · rw [(ref_far c h).2, letter_far c h]
  · have := near_all ref_near c (by omega) (by omega)
    simp only [Bool.and_eq_true, beq_iff_eq] at this
    exact this.2
end Go.Proofs.Ythpemcchgebecaa.K

namespace Go.Proofs.Ythpemcchgebecaa.K
open Go.RowKit Go.Proofs.YthpemcchgebecaaW.PrintWords Go.Proofs.YthpemcchgebecaaW.PrintLast Go.Proofs.YthpemcchgebecaaW.PrintMore Go.Proofs.Ythpemcchgebecaa
attribute [local go_sem] max2_int min2_int max_two min_two max_three min_three max_four min_four
set_option linter.unusedVariables false
set_option linter.unusedSimpArgs false
open Go.Shelf
def renS : Go.Shelf.Ren := ⟨fun | 169 => 30 | n => n, fun | 70 => 49 | 9 => 9 | 0 => 0 | 72 => 51 | 37 => 31 | 127 => 66 | 3 => 3 | 5 => 5 | n => n, fun | n => n⟩
def renA : Go.Shelf.Ren := ⟨fun | 242 => 41 | 278 => 52 | n => n, fun | 37 => 31 | 21 => 21 | 51 => 76 | 4 => 4 | 5 => 5 | 46 => 80 | 72 => 51 | n => n, fun | n => n⟩
end Go.Proofs.Ythpemcchgebecaa.K

namespace Go.Proofs.Ythpemcchgebecaa.K
open Go.RowKit Go.Proofs.YthpemcchgebecaaW.PrintWords Go.Proofs.YthpemcchgebecaaW.PrintLast Go.Proofs.YthpemcchgebecaaW.PrintMore Go.Proofs.Ythpemcchgebecaa
attribute [local go_sem] max2_int min2_int max_two min_two max_three min_three max_four min_four
set_option linter.unusedVariables false
set_option linter.unusedSimpArgs false
open Go.Proofs.Ythpemcchgebecaa.PFold
def fold_Text.f (a0 : ByteArray) : Option ByteArray := if a0.size ≤ 35184372088832 then some (runesBytes ((Utf.runesZ a0).map foldZ)) else none
end Go.Proofs.Ythpemcchgebecaa.K

namespace Go.Proofs.Ythpemcchgebecaa.K
open Go.RowKit Go.Proofs.YthpemcchgebecaaW.PrintWords Go.Proofs.YthpemcchgebecaaW.PrintLast Go.Proofs.YthpemcchgebecaaW.PrintMore Go.Proofs.Ythpemcchgebecaa
attribute [local go_sem] max2_int min2_int max_two min_two max_three min_three max_four min_four
set_option linter.unusedVariables false
set_option linter.unusedSimpArgs false
def slices_Clone_rune_rune.f (l0 : List Int) : Option (List Int) := if l0.length < 35184372088832 then some l0 else none
set_option maxHeartbeats 2000000 in
set_option maxRecDepth 100000 in
theorem slices_Clone_rune_rune.calls (A0 : Option Addr) (c0 : Nat) (l0 : List Int) (r : List Int) (w : World) (hr0 : Kd.C (Kd.int .i32) w A0 l0.length l0) (hc0 : l0.length ≤ c0) (h : slices_Clone_rune_rune.f l0 = some r) :
    Calls Try.prog 48 #[.slice A0 l0.length c0] w fun e w' => ∃ v0_ : Value, e = .returned (v0_) ∧ Kd.R (Kd.int .i32) 21 w' w.heap.size (fun _ => True) v0_ r ∧ Below w.heap.size w w' := by
  have hlen : l0.length < 35184372088832 := by
    unfold slices_Clone_rune_rune.f at h; split at h
    · assumption
    · cases h
  have hr : l0 = r := by
    unfold slices_Clone_rune_rune.f at h; rw [if_pos hlen] at h; exact Option.some.inj h
  clear h
  subst hr
  have hq : ∀ (W : World) (a : Option Addr) (n c n' c' : Nat), (binOp .eql 29 (.slice a n c) (.slice none n' c')).run Try.prog W = .ok (.bool a.isNone) W := fun W a n c n' c' => Lib.run_eql_slice_nil W _ _ a n c n' c' Try.underlying29
  cases A0 with
  | none =>
    have h0 : l0 = [] := by
      cases l0 with
      | nil => rfl
      | cons x l =>
        obtain ⟨ad, _, e, _⟩ := Kd.C_get hr0 (0 : Int) 0 (by omega) (by simp)
        cases e
    subst h0
    go_enter Try.func48, Try.ntmps48
    go_wp2
    go_ret
    exact ⟨_, rfl, Kd.R_nil _ _ _ _ _, Below.refl _ _⟩
  | some ad =>
    have HR := Aside0.mk hr0; clear hr0
    have HL := Aside0.mk hlen; clear hlen
    go_enter Try.func48, Try.ntmps48
    go_wp2_with ((with_reducible refine gate_dst (N := 5) rfl ?_); refine Kd.R_lit (Kd.int .i32) _ 21 ?hg (N := 5) ?hd (xs := []) (inner := []) (ok := fun _ => True) (okp := fun _ => True) ?hr ?hp (fun _ hk => hk) trivial (Below.refl _ _) (Nat.le_refl _) (by simp) ?_; (case hd => rfl); (case hg => rfl); (case hr => first | (go_simp; done) | (go_simp; rfl)); (case hp => exact (Reps.none _ _)))
    intro v1 w1 hR1 hb1 hg1 n1 hn1 hle1
    have HB1 := Aside0.mk hb1
    have HR1 := Aside0.mk hR1
    have HC1 := Aside0.mk (Kd.C_below HR.out hb1)
    clear hR1 hb1 hg1 hn1 hle1 n1
    go_wp2_with ((with_reducible refine gate_builtin (b := .append) (xs := #[.tmp 5, .tmp 6]) rfl ?_); at_builtin; refine Kd.R_append_rows (Kd.int .i32) (w0 := w) w.heap.size rfl (.tmp 5) (.tmp 6) 29 21 (.int .i32 0) 4 rfl Try.underlying29 info21 rfl (by decide) (by omega) v1 [] l0 _ _ _ (fun _ => True) (fun _ => False) rfl rfl HR1.out HC1.out (fun _ _ h => h) (fun _ h => h.elim) (fun _ _ => trivial) HB1.out (HB1.out).size (by have := HL.out; simp; omega) ?_)
    intro v2 w2 hR2 hb2 hg2 hat2
    have HB2 := Aside0.mk hb2
    have HR2 := Aside0.mk hR2
    clear hR2 hb2 hg2 hat2
    go_wp2
    go_ret
    exact ⟨_, rfl, by simpa using HR2.out, HB2.out⟩
end Go.Proofs.Ythpemcchgebecaa.K

namespace Go.Proofs.Ythpemcchgebecaa.PRf04
open Go.RowKit Go.Proofs.YthpemcchgebecaaW.PrintWords Go.Proofs.YthpemcchgebecaaW.PrintLast Go.Proofs.YthpemcchgebecaaW.PrintMore Go.Proofs.Ythpemcchgebecaa.K
attribute [local go_sem] max2_int min2_int max_two min_two max_three min_three max_four min_four   -- for this text's walks alone
set_option linter.unusedVariables false
set_option linter.unusedSimpArgs false



def errW : Option Int → Value
  | none => .nilIface
  | some c => .iface 0 (.int .i64 c)
theorem errW_none : errW none = .nilIface := rfl
theorem errW_some (c : Int) : errW (some c) = .iface 0 (.int .i64 c) := rfl

end Go.Proofs.Ythpemcchgebecaa.PRf04

namespace Go.Proofs.Ythpemcchgebecaa.PRf04
open Go.RowKit Go.Proofs.YthpemcchgebecaaW.PrintWords Go.Proofs.YthpemcchgebecaaW.PrintLast Go.Proofs.YthpemcchgebecaaW.PrintMore Go.Proofs.Ythpemcchgebecaa.K
attribute [local go_sem] max2_int min2_int max_two min_two max_three min_three max_four min_four   -- for this text's walks alone
set_option linter.unusedVariables false
set_option linter.unusedSimpArgs false

mutual
def manteletref04_Size.j0 : Nat → Int → Bool → Option (Int)
  | 0, _, _ => none
  | k + 1, x0, x10 => if x10 = true then (some 2) else (if x0 ≥ 224 then (manteletref04_Size.j1 k x0 (decide (x0 ≤ 239))) else (manteletref04_Size.j1 k x0 false))
def manteletref04_Size.j1 : Nat → Int → Bool → Option (Int)
  | 0, _, _ => none
  | k + 1, x0, x16 => if x16 = true then (some 3) else (if x0 ≥ 240 then (if x0 ≤ 244 then (some 4) else (some 0)) else (some 0))
end
def manteletref04_Size.f (k : Nat) (a0 : Int) : Option (Int) := if a0 < 128 then (some 1) else (if a0 ≥ 194 then (manteletref04_Size.j0 k a0 (decide (a0 ≤ 223))) else (manteletref04_Size.j0 k a0 false))
set_option maxHeartbeats 8000000 in
set_option maxRecDepth 100000 in
theorem manteletref04_Size.calls (k : Nat) (a0 : Int) (r : Int) (w : World) (h : manteletref04_Size.f k a0 = some r) :
    Calls Try.prog 53 #[.int .u8 a0] w fun e w' => e = .returned (.int .i64 r) ∧ Drawn0 w w' := by
  have H : (if a0 < 128 then (some 1) else (if a0 ≥ 194 then (manteletref04_Size.j0 k a0 (decide (a0 ≤ 223))) else (manteletref04_Size.j0 k a0 false))) = some r := h
  clear h
  by_cases c2 : a0 < 128
  · rw [if_pos c2] at H
    have c2b0 : decide (a0 < 128) = true := decide_eq_true c2
    clear c2
    obtain rfl := Option.some.inj H
    go_enter Try.func53, Try.ntmps53
    go_wp2
    go_ret
    exact ⟨by first | rfl | (simp; done) | (simp [*]; done), by repeat (first | exact Drawn0.refl _ | apply Drawn0.step)⟩
  · rw [if_neg c2] at H
    have c2b0 : decide (a0 < 128) = false := decide_eq_false c2
    clear c2
    have HC3 := Aside0.mk H
    clear H
    go_enter Try.func53, Try.ntmps53
    go_upto_region 3 with (fail)
    go_cut [10] (fun v10 wc => ∃ (kq : Nat) (x10_2 : Bool), v10 = .bool x10_2 ∧ Aside0 (manteletref04_Size.j0 kq a0 x10_2 = some r) ∧ Aside0 (kq ≤ k) ∧ Drawn0 w wc)
    case first =>
      have H := HC3.out
      clear HC3
      by_cases c4 : a0 ≥ 194
      · rw [if_pos c4] at H
        have c4b0 : decide (194 ≤ a0) = true := decide_eq_true c4
        clear c4
        (first | rw [c4b0] | (simp only [i64_w, i32_w]; rw [c4b0]) | skip)
        have H' := Aside0.mk H
        clear H
        go_wp2
        go_meet
        case rel => exact ⟨_, (decide (a0 ≤ 223)), (by first | rfl | (simp; done) | (simp [*]; done)), H', ⟨by first | omega | exact Nat.le_refl _⟩, by repeat (first | exact Drawn0.refl _ | apply Drawn0.step)⟩
      · rw [if_neg c4] at H
        have c4b0 : decide (194 ≤ a0) = false := decide_eq_false c4
        clear c4
        (first | rw [c4b0] | (simp only [i64_w, i32_w]; rw [c4b0]) | skip)
        have H' := Aside0.mk H
        clear H
        go_wp2
        go_meet
        case rel => exact ⟨_, (false), (by first | rfl | (simp; done) | (simp [*]; done)), H', ⟨by first | omega | exact Nat.le_refl _⟩, by repeat (first | exact Drawn0.refl _ | apply Drawn0.step)⟩
    case rest =>
      clear HC3
      try clear c2
      try clear c2b0
      try clear p2
      try clear c4
      try clear c4b0
      obtain ⟨kq, x10_2, rfl, HA, HJ2, ⟨mc2, rfl⟩⟩ := hcut
      cases kq with
      | zero => exact absurd HA.out (by simp [manteletref04_Size.j0])
      | succ kj2 =>
        have H := HA.out
        clear HA
        simp only [manteletref04_Size.j0] at H
        by_cases c5 : x10_2 = true
        · subst c5
          have H1 : (some 2) = some r := by rw [if_pos rfl] at H; exact H
          clear H
          have H := H1
          clear H1
          obtain rfl := Option.some.inj H
          go_wp2
          go_ret
          exact ⟨by first | rfl | (simp; done) | (simp [*]; done), by repeat (first | exact Drawn0.refl _ | apply Drawn0.step)⟩
        · replace c5 := Bool.eq_false_iff.mpr c5
          subst c5
          have H1 : (if a0 ≥ 224 then (manteletref04_Size.j1 kj2 a0 (decide (a0 ≤ 239))) else (manteletref04_Size.j1 kj2 a0 false)) = some r := by rw [if_neg (show ¬ (false = true) by decide)] at H; exact H
          clear H
          have H := H1
          clear H1
          have HC6 := Aside0.mk H
          clear H
          go_upto_region 5 with (fail)
          go_cut [16] (fun v16 wc => ∃ (kq : Nat) (x16_5 : Bool), v16 = .bool x16_5 ∧ Aside0 (manteletref04_Size.j1 kq a0 x16_5 = some r) ∧ Aside0 (kq ≤ kj2) ∧ Drawn0 w wc)
          case first =>
            have H := HC6.out
            clear HC6
            by_cases c7 : a0 ≥ 224
            · rw [if_pos c7] at H
              have c7b0 : decide (224 ≤ a0) = true := decide_eq_true c7
              clear c7
              (first | rw [c7b0] | (simp only [i64_w, i32_w]; rw [c7b0]) | skip)
              have H' := Aside0.mk H
              clear H
              go_wp2
              go_meet
              case rel => exact ⟨_, (decide (a0 ≤ 239)), (by first | rfl | (simp; done) | (simp [*]; done)), H', ⟨by have := HJ2.out; first | omega | exact Nat.le_refl _⟩, by repeat (first | exact Drawn0.refl _ | apply Drawn0.step)⟩
            · rw [if_neg c7] at H
              have c7b0 : decide (224 ≤ a0) = false := decide_eq_false c7
              clear c7
              (first | rw [c7b0] | (simp only [i64_w, i32_w]; rw [c7b0]) | skip)
              have H' := Aside0.mk H
              clear H
              go_wp2
              go_meet
              case rel => exact ⟨_, (false), (by first | rfl | (simp; done) | (simp [*]; done)), H', ⟨by have := HJ2.out; first | omega | exact Nat.le_refl _⟩, by repeat (first | exact Drawn0.refl _ | apply Drawn0.step)⟩
          case rest =>
            clear HC6
            try clear c2
            try clear c2b0
            try clear p2
            try clear c4
            try clear c4b0
            try clear c5
            try clear c7
            try clear c7b0
            try clear p2
            obtain ⟨kq, x16_5, rfl, HA, HJ5, ⟨mc5, rfl⟩⟩ := hcut
            cases kq with
            | zero => exact absurd HA.out (by simp [manteletref04_Size.j1])
            | succ kj5 =>
              have H := HA.out
              clear HA
              simp only [manteletref04_Size.j1] at H
              by_cases c8 : x16_5 = true
              · subst c8
                have H1 : (some 3) = some r := by rw [if_pos rfl] at H; exact H
                clear H
                have H := H1
                clear H1
                obtain rfl := Option.some.inj H
                go_wp2
                go_ret
                exact ⟨by first | rfl | (simp; done) | (simp [*]; done), by repeat (first | exact Drawn0.refl _ | apply Drawn0.step)⟩
              · replace c8 := Bool.eq_false_iff.mpr c8
                subst c8
                have H1 : (if a0 ≥ 240 then (if a0 ≤ 244 then (some 4) else (some 0)) else (some 0)) = some r := by rw [if_neg (show ¬ (false = true) by decide)] at H; exact H
                clear H
                have H := H1
                clear H1
                by_cases c9 : a0 ≥ 240
                · rw [if_pos c9] at H
                  have c9b0 : decide (240 ≤ a0) = true := decide_eq_true c9
                  clear c9
                  by_cases c10 : a0 ≤ 244
                  · rw [if_pos c10] at H
                    have c10b0 : decide (a0 ≤ 244) = true := decide_eq_true c10
                    clear c10
                    obtain rfl := Option.some.inj H
                    go_wp2
                    go_ret
                    exact ⟨by first | rfl | (simp; done) | (simp [*]; done), by repeat (first | exact Drawn0.refl _ | apply Drawn0.step)⟩
                  · rw [if_neg c10] at H
                    have c10b0 : decide (a0 ≤ 244) = false := decide_eq_false c10
                    clear c10
                    obtain rfl := Option.some.inj H
                    go_wp2
                    go_ret
                    exact ⟨by first | rfl | (simp; done) | (simp [*]; done), by repeat (first | exact Drawn0.refl _ | apply Drawn0.step)⟩
                · rw [if_neg c9] at H
                  have c9b0 : decide (240 ≤ a0) = false := decide_eq_false c9
                  clear c9
                  obtain rfl := Option.some.inj H
                  go_wp2
                  go_ret
                  exact ⟨by first | rfl | (simp; done) | (simp [*]; done), by repeat (first | exact Drawn0.refl _ | apply Drawn0.step)⟩

mutual
def manteletref04_fits.j0 : Nat → Int → Int → Int → Bool → Option (Bool)
  | 0, _, _, _, _ => none
  | k + 1, x0, x1, x2, x12 => if x12 = true then (if x2 ≥ 160 then (some (decide (x2 ≤ 191))) else (some false)) else (if x1 = 1 then (manteletref04_fits.j1 k x0 x1 x2 (x0 == 237)) else (manteletref04_fits.j1 k x0 x1 x2 false))
def manteletref04_fits.j1 : Nat → Int → Int → Int → Bool → Option (Bool)
  | 0, _, _, _, _ => none
  | k + 1, x0, x1, x2, x24 => if x24 = true then (if x2 ≥ 128 then (some (decide (x2 ≤ 159))) else (some false)) else (if x1 = 1 then (manteletref04_fits.j2 k x0 x1 x2 (x0 == 240)) else (manteletref04_fits.j2 k x0 x1 x2 false))
def manteletref04_fits.j2 : Nat → Int → Int → Int → Bool → Option (Bool)
  | 0, _, _, _, _ => none
  | k + 1, x0, x1, x2, x36 => if x36 = true then (if x2 ≥ 144 then (some (decide (x2 ≤ 191))) else (some false)) else (if x1 = 1 then (if x0 = 244 then (if x2 ≥ 128 then (some (decide (x2 ≤ 143))) else (some false)) else (if x2 ≥ 128 then (some (decide (x2 ≤ 191))) else (some false))) else (if x2 ≥ 128 then (some (decide (x2 ≤ 191))) else (some false)))
end
def manteletref04_fits.f (k : Nat) (a0 : Int) (a1 : Int) (a2 : Int) : Option (Bool) := if a1 = 1 then (manteletref04_fits.j0 k a0 a1 a2 (a0 == 224)) else (manteletref04_fits.j0 k a0 a1 a2 false)
set_option maxHeartbeats 8000000 in
set_option maxRecDepth 100000 in
theorem manteletref04_fits.calls (k : Nat) (a0 : Int) (a1 : Int) (a2 : Int) (r : Bool) (w : World) (h : manteletref04_fits.f k a0 a1 a2 = some r) :
    Calls Try.prog 56 #[.int .u8 a0, .int .i64 a1, .int .u8 a2] w fun e w' => e = .returned (.bool r) ∧ Drawn0 w w' := by
  have H : (if a1 = 1 then (manteletref04_fits.j0 k a0 a1 a2 (a0 == 224)) else (manteletref04_fits.j0 k a0 a1 a2 false)) = some r := h
  clear h
  have HC4 := Aside0.mk H
  clear H
  go_enter Try.func56, Try.ntmps56
  go_upto_region 1 with (fail)
  go_cut [12] (fun v12 wc => ∃ (kq : Nat) (x12_3 : Bool), v12 = .bool x12_3 ∧ Aside0 (manteletref04_fits.j0 kq a0 a1 a2 x12_3 = some r) ∧ Aside0 (kq ≤ k) ∧ Drawn0 w wc)
  case first =>
    have H := HC4.out
    clear HC4
    by_cases c5 : a1 = 1
    · rw [if_pos c5] at H
      have c5b0 : (a1 == 1) = true := beq_iff_eq.mpr c5
      have c5b1 : (a1 != 1) = false := bne_eq_false_iff_eq.mpr c5
      clear c5
      (first | rw [c5b0] | (simp only [i64_w, i32_w]; rw [c5b0]) | skip)
      have H' := Aside0.mk H
      clear H
      go_wp2
      go_meet
      case rel => exact ⟨_, ((a0 == 224)), (by first | rfl | (simp; done) | (simp [*]; done)), H', ⟨by first | omega | exact Nat.le_refl _⟩, by repeat (first | exact Drawn0.refl _ | apply Drawn0.step)⟩
    · rw [if_neg c5] at H
      have c5b0 : (a1 == 1) = false := beq_eq_false_iff_ne.mpr c5
      have c5b1 : (a1 != 1) = true := bne_iff_ne.mpr c5
      (first | rw [c5b0] | (simp only [i64_w, i32_w]; rw [c5b0]) | skip)
      have H' := Aside0.mk H
      clear H
      go_wp2
      go_meet
      case rel => exact ⟨_, (false), (by first | rfl | (simp; done) | (simp [*]; done)), H', ⟨by first | omega | exact Nat.le_refl _⟩, by repeat (first | exact Drawn0.refl _ | apply Drawn0.step)⟩
  case rest =>
    clear HC4
    try clear p2
    try clear c5
    try clear c5b0
    try clear c5b1
    obtain ⟨kq, x12_3, rfl, HA, HJ3, ⟨mc3, rfl⟩⟩ := hcut
    cases kq with
    | zero => exact absurd HA.out (by simp [manteletref04_fits.j0])
    | succ kj3 =>
      have H := HA.out
      clear HA
      simp only [manteletref04_fits.j0] at H
      by_cases c6 : x12_3 = true
      · subst c6
        have H1 : (if a2 ≥ 160 then (some (decide (a2 ≤ 191))) else (some false)) = some r := by rw [if_pos rfl] at H; exact H
        clear H
        have H := H1
        clear H1
        by_cases c7 : a2 ≥ 160
        · rw [if_pos c7] at H
          have c7b0 : decide (160 ≤ a2) = true := decide_eq_true c7
          clear c7
          obtain rfl := Option.some.inj H
          go_wp2
          go_ret
          exact ⟨by first | rfl | (simp; done) | (simp [*]; done), by repeat (first | exact Drawn0.refl _ | apply Drawn0.step)⟩
        · rw [if_neg c7] at H
          have c7b0 : decide (160 ≤ a2) = false := decide_eq_false c7
          clear c7
          obtain rfl := Option.some.inj H
          go_wp2
          go_ret
          exact ⟨by first | rfl | (simp; done) | (simp [*]; done), by repeat (first | exact Drawn0.refl _ | apply Drawn0.step)⟩
      · replace c6 := Bool.eq_false_iff.mpr c6
        subst c6
        have H1 : (if a1 = 1 then (manteletref04_fits.j1 kj3 a0 a1 a2 (a0 == 237)) else (manteletref04_fits.j1 kj3 a0 a1 a2 false)) = some r := by rw [if_neg (show ¬ (false = true) by decide)] at H; exact H
        clear H
        have H := H1
        clear H1
        have HC8 := Aside0.mk H
        clear H
        go_upto_region 3 with (fail)
        go_cut [24] (fun v24 wc => ∃ (kq : Nat) (x24_7 : Bool), v24 = .bool x24_7 ∧ Aside0 (manteletref04_fits.j1 kq a0 a1 a2 x24_7 = some r) ∧ Aside0 (kq ≤ kj3) ∧ Drawn0 w wc)
        case first =>
          have H := HC8.out
          clear HC8
          by_cases c9 : a1 = 1
          · rw [if_pos c9] at H
            have c9b0 : (a1 == 1) = true := beq_iff_eq.mpr c9
            have c9b1 : (a1 != 1) = false := bne_eq_false_iff_eq.mpr c9
            clear c9
            (first | rw [c9b0] | (simp only [i64_w, i32_w]; rw [c9b0]) | skip)
            have H' := Aside0.mk H
            clear H
            go_wp2
            go_meet
            case rel => exact ⟨_, ((a0 == 237)), (by first | rfl | (simp; done) | (simp [*]; done)), H', ⟨by have := HJ3.out; first | omega | exact Nat.le_refl _⟩, by repeat (first | exact Drawn0.refl _ | apply Drawn0.step)⟩
          · rw [if_neg c9] at H
            have c9b0 : (a1 == 1) = false := beq_eq_false_iff_ne.mpr c9
            have c9b1 : (a1 != 1) = true := bne_iff_ne.mpr c9
            (first | rw [c9b0] | (simp only [i64_w, i32_w]; rw [c9b0]) | skip)
            have H' := Aside0.mk H
            clear H
            go_wp2
            go_meet
            case rel => exact ⟨_, (false), (by first | rfl | (simp; done) | (simp [*]; done)), H', ⟨by have := HJ3.out; first | omega | exact Nat.le_refl _⟩, by repeat (first | exact Drawn0.refl _ | apply Drawn0.step)⟩
        case rest =>
          clear HC8
          try clear p2
          try clear c3
          try clear c5
          try clear c5b0
          try clear c5b1
          try clear c6
          try clear c7
          try clear c7b0
          try clear c9
          try clear c9b0
          try clear c9b1
          try clear p2
          obtain ⟨kq, x24_7, rfl, HA, HJ7, ⟨mc7, rfl⟩⟩ := hcut
          cases kq with
          | zero => exact absurd HA.out (by simp [manteletref04_fits.j1])
          | succ kj7 =>
            have H := HA.out
            clear HA
            simp only [manteletref04_fits.j1] at H
            by_cases c10 : x24_7 = true
            · subst c10
              have H1 : (if a2 ≥ 128 then (some (decide (a2 ≤ 159))) else (some false)) = some r := by rw [if_pos rfl] at H; exact H
              clear H
              have H := H1
              clear H1
              by_cases c11 : a2 ≥ 128
              · rw [if_pos c11] at H
                have c11b0 : decide (128 ≤ a2) = true := decide_eq_true c11
                clear c11
                obtain rfl := Option.some.inj H
                go_wp2
                go_ret
                exact ⟨by first | rfl | (simp; done) | (simp [*]; done), by repeat (first | exact Drawn0.refl _ | apply Drawn0.step)⟩
              · rw [if_neg c11] at H
                have c11b0 : decide (128 ≤ a2) = false := decide_eq_false c11
                clear c11
                obtain rfl := Option.some.inj H
                go_wp2
                go_ret
                exact ⟨by first | rfl | (simp; done) | (simp [*]; done), by repeat (first | exact Drawn0.refl _ | apply Drawn0.step)⟩
            · replace c10 := Bool.eq_false_iff.mpr c10
              subst c10
              have H1 : (if a1 = 1 then (manteletref04_fits.j2 kj7 a0 a1 a2 (a0 == 240)) else (manteletref04_fits.j2 kj7 a0 a1 a2 false)) = some r := by rw [if_neg (show ¬ (false = true) by decide)] at H; exact H
              clear H
              have H := H1
              clear H1
              have HC12 := Aside0.mk H
              clear H
              go_upto_region 5 with (fail)
              go_cut [36] (fun v36 wc => ∃ (kq : Nat) (x36_11 : Bool), v36 = .bool x36_11 ∧ Aside0 (manteletref04_fits.j2 kq a0 a1 a2 x36_11 = some r) ∧ Aside0 (kq ≤ kj7) ∧ Drawn0 w wc)
              case first =>
                have H := HC12.out
                clear HC12
                by_cases c13 : a1 = 1
                · rw [if_pos c13] at H
                  have c13b0 : (a1 == 1) = true := beq_iff_eq.mpr c13
                  have c13b1 : (a1 != 1) = false := bne_eq_false_iff_eq.mpr c13
                  clear c13
                  (first | rw [c13b0] | (simp only [i64_w, i32_w]; rw [c13b0]) | skip)
                  have H' := Aside0.mk H
                  clear H
                  go_wp2
                  go_meet
                  case rel => exact ⟨_, ((a0 == 240)), (by first | rfl | (simp; done) | (simp [*]; done)), H', ⟨by have := HJ3.out; have := HJ7.out; first | omega | exact Nat.le_refl _⟩, by repeat (first | exact Drawn0.refl _ | apply Drawn0.step)⟩
                · rw [if_neg c13] at H
                  have c13b0 : (a1 == 1) = false := beq_eq_false_iff_ne.mpr c13
                  have c13b1 : (a1 != 1) = true := bne_iff_ne.mpr c13
                  (first | rw [c13b0] | (simp only [i64_w, i32_w]; rw [c13b0]) | skip)
                  have H' := Aside0.mk H
                  clear H
                  go_wp2
                  go_meet
                  case rel => exact ⟨_, (false), (by first | rfl | (simp; done) | (simp [*]; done)), H', ⟨by have := HJ3.out; have := HJ7.out; first | omega | exact Nat.le_refl _⟩, by repeat (first | exact Drawn0.refl _ | apply Drawn0.step)⟩
              case rest =>
                clear HC12
                try clear c1
                try clear p2
                try clear c3
                try clear c5
                try clear c5b0
                try clear c5b1
                try clear c6
                try clear c7
                try clear c7b0
                try clear c9
                try clear c9b0
                try clear c9b1
                try clear c10
                try clear c11
                try clear c11b0
                try clear c13
                try clear c13b0
                try clear c13b1
                try clear p2
                obtain ⟨kq, x36_11, rfl, HA, HJ11, ⟨mc11, rfl⟩⟩ := hcut
                cases kq with
                | zero => exact absurd HA.out (by simp [manteletref04_fits.j2])
                | succ kj11 =>
                  have H := HA.out
                  clear HA
                  simp only [manteletref04_fits.j2] at H
                  by_cases c14 : x36_11 = true
                  · subst c14
                    have H1 : (if a2 ≥ 144 then (some (decide (a2 ≤ 191))) else (some false)) = some r := by rw [if_pos rfl] at H; exact H
                    clear H
                    have H := H1
                    clear H1
                    by_cases c15 : a2 ≥ 144
                    · rw [if_pos c15] at H
                      have c15b0 : decide (144 ≤ a2) = true := decide_eq_true c15
                      clear c15
                      obtain rfl := Option.some.inj H
                      go_wp2
                      go_ret
                      exact ⟨by first | rfl | (simp; done) | (simp [*]; done), by repeat (first | exact Drawn0.refl _ | apply Drawn0.step)⟩
                    · rw [if_neg c15] at H
                      have c15b0 : decide (144 ≤ a2) = false := decide_eq_false c15
                      clear c15
                      obtain rfl := Option.some.inj H
                      go_wp2
                      go_ret
                      exact ⟨by first | rfl | (simp; done) | (simp [*]; done), by repeat (first | exact Drawn0.refl _ | apply Drawn0.step)⟩
                  · replace c14 := Bool.eq_false_iff.mpr c14
                    subst c14
                    have H1 : (if a1 = 1 then (if a0 = 244 then (if a2 ≥ 128 then (some (decide (a2 ≤ 143))) else (some false)) else (if a2 ≥ 128 then (some (decide (a2 ≤ 191))) else (some false))) else (if a2 ≥ 128 then (some (decide (a2 ≤ 191))) else (some false))) = some r := by rw [if_neg (show ¬ (false = true) by decide)] at H; exact H
                    clear H
                    have H := H1
                    clear H1
                    by_cases c16 : a1 = 1
                    · rw [if_pos c16] at H
                      have c16b0 : (a1 == 1) = true := beq_iff_eq.mpr c16
                      have c16b1 : (a1 != 1) = false := bne_eq_false_iff_eq.mpr c16
                      clear c16
                      by_cases c17 : a0 = 244
                      · rw [if_pos c17] at H
                        have c17b0 : (a0 == 244) = true := beq_iff_eq.mpr c17
                        have c17b1 : (a0 != 244) = false := bne_eq_false_iff_eq.mpr c17
                        clear c17
                        by_cases c18 : a2 ≥ 128
                        · rw [if_pos c18] at H
                          have c18b0 : decide (128 ≤ a2) = true := decide_eq_true c18
                          clear c18
                          obtain rfl := Option.some.inj H
                          go_wp2
                          go_ret
                          exact ⟨by first | rfl | (simp; done) | (simp [*]; done), by repeat (first | exact Drawn0.refl _ | apply Drawn0.step)⟩
                        · rw [if_neg c18] at H
                          have c18b0 : decide (128 ≤ a2) = false := decide_eq_false c18
                          clear c18
                          obtain rfl := Option.some.inj H
                          go_wp2
                          go_ret
                          exact ⟨by first | rfl | (simp; done) | (simp [*]; done), by repeat (first | exact Drawn0.refl _ | apply Drawn0.step)⟩
                      · rw [if_neg c17] at H
                        have c17b0 : (a0 == 244) = false := beq_eq_false_iff_ne.mpr c17
                        have c17b1 : (a0 != 244) = true := bne_iff_ne.mpr c17
                        by_cases c19 : a2 ≥ 128
                        · rw [if_pos c19] at H
                          have c19b0 : decide (128 ≤ a2) = true := decide_eq_true c19
                          clear c19
                          obtain rfl := Option.some.inj H
                          go_wp2
                          go_ret
                          exact ⟨by first | rfl | (simp; done) | (simp [*]; done), by repeat (first | exact Drawn0.refl _ | apply Drawn0.step)⟩
                        · rw [if_neg c19] at H
                          have c19b0 : decide (128 ≤ a2) = false := decide_eq_false c19
                          clear c19
                          obtain rfl := Option.some.inj H
                          go_wp2
                          go_ret
                          exact ⟨by first | rfl | (simp; done) | (simp [*]; done), by repeat (first | exact Drawn0.refl _ | apply Drawn0.step)⟩
                    · rw [if_neg c16] at H
                      have c16b0 : (a1 == 1) = false := beq_eq_false_iff_ne.mpr c16
                      have c16b1 : (a1 != 1) = true := bne_iff_ne.mpr c16
                      by_cases c20 : a2 ≥ 128
                      · rw [if_pos c20] at H
                        have c20b0 : decide (128 ≤ a2) = true := decide_eq_true c20
                        clear c20
                        obtain rfl := Option.some.inj H
                        go_wp2
                        go_ret
                        exact ⟨by first | rfl | (simp; done) | (simp [*]; done), by repeat (first | exact Drawn0.refl _ | apply Drawn0.step)⟩
                      · rw [if_neg c20] at H
                        have c20b0 : decide (128 ≤ a2) = false := decide_eq_false c20
                        clear c20
                        obtain rfl := Option.some.inj H
                        go_wp2
                        go_ret
                        exact ⟨by first | rfl | (simp; done) | (simp [*]; done), by repeat (first | exact Drawn0.refl _ | apply Drawn0.step)⟩

end Go.Proofs.Ythpemcchgebecaa.PRf04

namespace Go.Proofs.Ythpemcchgebecaa.PRf04
open Go.RowKit Go.Proofs.YthpemcchgebecaaW.PrintWords Go.Proofs.YthpemcchgebecaaW.PrintLast Go.Proofs.YthpemcchgebecaaW.PrintMore Go.Proofs.Ythpemcchgebecaa.K
attribute [local go_sem] max2_int min2_int max_two min_two max_three min_three max_four min_four   -- for this text's walks alone
set_option linter.unusedVariables false
set_option linter.unusedSimpArgs false

mutual
def manteletref04_good.j0 : Nat → List Int → Bool → Option (Int)
  | 0, _, _ => none
  | k + 1, x0, x13 => if x13 = true then (some 0) else (manteletref04_good.l0 k x0 1)
def manteletref04_good.l0 : Nat → List Int → Int → Option (Int)
  | 0, _, _ => none
  | k + 1, x0, x3 => if x3 < (x0.length : Int) then (if 0 < (x0.length : Int) then ((manteletref04_Size.f k (rd x0 0)).bind fun t104 => (if x3 < t104 then (if 0 ≤ x3 then ((manteletref04_fits.f k (rd x0 0) x3 (rd x0 x3)).bind fun t107 => (if t107 = true then (manteletref04_good.l0 k x0 (wrap64 (x3 + 1))) else (some x3))) else (none)) else (some x3))) else (none)) else (some x3)
end
def manteletref04_good.f (k : Nat) (l0 : List Int) : Option (Int) := if (l0.length : Int) = 0 then (manteletref04_good.j0 k l0 true) else (if 0 < (l0.length : Int) then ((manteletref04_Size.f k (rd l0 0)).bind fun t102 => (manteletref04_good.j0 k l0 (t102 == 0))) else (none))
set_option maxHeartbeats 8000000 in
set_option maxRecDepth 100000 in
theorem manteletref04_good.calls (k : Nat) (A0 : Option Addr) (c0 : Nat) (l0 : List Int) (r : Int) (w : World) (hr0 : Kd.C (Kd.int .u8) w A0 l0.length l0) (hc0 : l0.length ≤ c0) (h : manteletref04_good.f k l0 = some r) :
    Calls Try.prog 54 #[.slice A0 l0.length c0] w fun e w' => e = .returned (.int .i64 r) ∧ Drawn0 w w' := by
  have HR0 := Aside0.mk hr0
  have HC0 := Aside0.mk hc0
  clear hr0 hc0
  have H : (if (l0.length : Int) = 0 then (manteletref04_good.j0 k l0 true) else (if 0 < (l0.length : Int) then ((manteletref04_Size.f k (rd l0 0)).bind fun t102 => (manteletref04_good.j0 k l0 (t102 == 0))) else (none))) = some r := h
  clear h
  have HC2 := Aside0.mk H
  clear H
  go_enter Try.func54, Try.ntmps54
  go_upto_region 1 with (fail)
  repeat (go_quiet (fail); go_upto_region 1 with (fail))
  go_cut [13] (fun v13 wc => ∃ (kq : Nat) (x13_1 : Bool), v13 = .bool x13_1 ∧ Aside0 (manteletref04_good.j0 kq l0 x13_1 = some r) ∧ Aside0 (kq ≤ k) ∧ Drawn0 w wc)
  case first =>
    have H := HC2.out
    clear HC2
    by_cases c3 : (l0.length : Int) = 0
    · rw [if_pos c3] at H
      have c3b0 : ((l0.length : Int) == 0) = true := beq_iff_eq.mpr c3
      have c3b1 : ((l0.length : Int) != 0) = false := bne_eq_false_iff_eq.mpr c3
      clear c3
      (first | rw [c3b0] | (simp only [i64_w, i32_w]; rw [c3b0]) | skip)
      have H' := Aside0.mk H
      clear H
      go_wp2
      repeat (go_quiet (fail); try go_wp2)
      go_meet
      case rel => exact ⟨_, (true), (by first | rfl | (simp; done) | (simp [*]; done)), H', ⟨by first | omega | exact Nat.le_refl _⟩, by repeat (first | exact Drawn0.refl _ | apply Drawn0.step)⟩
    · rw [if_neg c3] at H
      have c3b0 : ((l0.length : Int) == 0) = false := beq_eq_false_iff_ne.mpr c3
      have c3b1 : ((l0.length : Int) != 0) = true := bne_iff_ne.mpr c3
      have c3b2 : ¬ (l0 = []) := fun h_ => c3 (by rw [h_]; rfl)
      (first | rw [c3b0] | (simp only [i64_w, i32_w]; rw [c3b0]) | skip)
      by_cases c4 : 0 < (l0.length : Int)
      · rw [if_pos c4] at H
        have c4b0 : decide (0 < (l0.length : Int)) = true := decide_eq_true c4
        have c4b1 : decide (0 < l0.length) = true := decide_eq_true (by omega)
        clear c4
        replace H := Option.bind_eq_some_iff.mp H
        obtain ⟨t102, A50, H⟩ := H
        replace H : (manteletref04_good.j0 k l0 (t102 == 0)) = some r := H
        have A5 := Aside0.mk A50
        clear A50
        have H' := Aside0.mk H
        clear H
        have p101 : 0 ≤ (0 : Int) := (by omega)
        have q101 : 0 < (l0.length : Int) := of_decide_eq_true (by first | (with_reducible assumption) | assumption)
        obtain ⟨ad101, e101, hx101_0⟩ := Kd.at_int HR0.out 0 p101 q101
        cases e101
        have qi101 : (0 < l0.length) = True := eq_true (by omega)
        (try rw [show ((0 : Int)).toNat = 0 from rfl] at hx101_0)
        (try rw [Addr.add_zero'] at hx101_0)
        replace p101 := eq_true p101
        replace q101 := eq_true q101
        go_wp2_with (first | (go_at_call 53; (with_reducible refine (manteletref04_Size.calls k (rd l0 0) t102 _ A5.out).mono ?_); rintro e w' ⟨rfl, ⟨nd, rfl⟩⟩; (try first | exact ⟨rfl, _, World.drewN_drewN _ _ _⟩ | exact ⟨rfl, _, Eq.trans (World.drewN_drewN _ _ _) (congrArg (World.drewN _) (Nat.add_assoc _ _ _))⟩)))
        repeat (go_quiet (first | (go_at_call 53; (with_reducible refine (manteletref04_Size.calls k (rd l0 0) t102 _ A5.out).mono ?_); rintro e w' ⟨rfl, ⟨nd, rfl⟩⟩; (try first | exact ⟨rfl, _, World.drewN_drewN _ _ _⟩ | exact ⟨rfl, _, Eq.trans (World.drewN_drewN _ _ _) (congrArg (World.drewN _) (Nat.add_assoc _ _ _))⟩))); try go_wp2_with (first | (go_at_call 53; (with_reducible refine (manteletref04_Size.calls k (rd l0 0) t102 _ A5.out).mono ?_); rintro e w' ⟨rfl, ⟨nd, rfl⟩⟩; (try first | exact ⟨rfl, _, World.drewN_drewN _ _ _⟩ | exact ⟨rfl, _, Eq.trans (World.drewN_drewN _ _ _) (congrArg (World.drewN _) (Nat.add_assoc _ _ _))⟩))))
        go_meet
        case rel => exact ⟨_, ((t102 == 0)), (by first | rfl | (simp; done) | (simp [*]; done)), H', ⟨by first | omega | exact Nat.le_refl _⟩, by repeat (first | exact Drawn0.refl _ | apply Drawn0.step)⟩
      · rw [if_neg c4] at H
        exact absurd H (by simp)
  case rest =>
    clear HC2
    try clear p1
    try clear q1
    try clear hx1
    try clear qi1
    try clear p2
    try clear c3
    try clear c3b0
    try clear c3b1
    try clear c3b2
    try clear c4
    try clear c4b0
    try clear c4b1
    try clear c5
    try clear hx101_0
    try clear p101
    try clear q101
    obtain ⟨kq, x13_1, rfl, HA, HJ1, ⟨mc1, rfl⟩⟩ := hcut
    cases kq with
    | zero => exact absurd HA.out (by simp [manteletref04_good.j0])
    | succ kj1 =>
      have H := HA.out
      clear HA
      simp only [manteletref04_good.j0] at H
      by_cases c6 : x13_1 = true
      · subst c6
        have H1 : (some 0) = some r := by rw [if_pos rfl] at H; exact H
        clear H
        have H := H1
        clear H1
        obtain rfl := Option.some.inj H
        go_wp2
        repeat (go_quiet (fail); try go_wp2)
        go_ret
        exact ⟨by first | rfl | (simp; done) | (simp [*]; done), by repeat (first | exact Drawn0.refl _ | apply Drawn0.step)⟩
      · replace c6 := Bool.eq_false_iff.mpr c6
        subst c6
        have H1 : (manteletref04_good.l0 kj1 l0 1) = some r := by rw [if_neg (show ¬ (false = true) by decide)] at H; exact H
        clear H
        have H := H1
        clear H1
        have H' := Aside0.mk H
        clear H
        go_wp2
        repeat (go_quiet (fail); try go_wp2)
        go_loopg [3] kj1 (fun kq v3 w' => ∃ (x3_2 : Int), v3 = .int .i64 x3_2 ∧ Aside0 (manteletref04_good.l0 kq l0 x3_2 = some r) ∧ Aside0 (kq ≤ kj1) ∧ Drawn0 w w')
        case atStart => exact ⟨(1), (by first | rfl | (simp; done) | (simp [*]; done)), H', ⟨Nat.le_refl _⟩, by repeat (first | exact Drawn0.refl _ | apply Drawn0.step)⟩
        case round =>
          clear H'
          try clear c1
          try clear p1
          try clear q1
          try clear hx1
          try clear qi1
          try clear p2
          try clear c3
          try clear c3b0
          try clear c3b1
          try clear c3b2
          try clear c4
          try clear c4b0
          try clear c4b1
          try clear c5
          try clear c6
          try clear hx101_0
          try clear p1
          try clear p101
          try clear p2
          try clear q1
          try clear q101
          obtain ⟨x3_2, rfl, HA, HK2, ⟨m2, rfl⟩⟩ := hrel
          cases gk with
          | zero => exact absurd HA.out (by simp [manteletref04_good.l0])
          | succ k2 =>
            have H := HA.out
            clear HA
            simp only [manteletref04_good.l0] at H
            by_cases c7 : x3_2 < (l0.length : Int)
            · rw [if_pos c7] at H
              have c7b0 : decide (x3_2 < (l0.length : Int)) = true := decide_eq_true c7
              clear c7
              by_cases c8 : 0 < (l0.length : Int)
              · rw [if_pos c8] at H
                have c8b0 : decide (0 < (l0.length : Int)) = true := decide_eq_true c8
                have c8b1 : decide (0 < l0.length) = true := decide_eq_true (by omega)
                clear c8
                replace H := Option.bind_eq_some_iff.mp H
                obtain ⟨t104, A90, H⟩ := H
                replace H : (if x3_2 < t104 then (if 0 ≤ x3_2 then ((manteletref04_fits.f k2 (rd l0 0) x3_2 (rd l0 x3_2)).bind fun t107 => (if t107 = true then (manteletref04_good.l0 k2 l0 (wrap64 (x3_2 + 1))) else (some x3_2))) else (none)) else (some x3_2)) = some r := H
                have A9 := Aside0.mk A90
                clear A90
                by_cases c10 : x3_2 < t104
                · rw [if_pos c10] at H
                  have c10b0 : decide (x3_2 < t104) = true := decide_eq_true c10
                  clear c10
                  by_cases c11 : 0 ≤ x3_2
                  · rw [if_pos c11] at H
                    have c11b0 : decide (0 ≤ x3_2) = true := decide_eq_true c11
                    clear c11
                    replace H := Option.bind_eq_some_iff.mp H
                    obtain ⟨t107, A120, H⟩ := H
                    replace H : (if t107 = true then (manteletref04_good.l0 k2 l0 (wrap64 (x3_2 + 1))) else (some x3_2)) = some r := H
                    have A12 := Aside0.mk A120
                    clear A120
                    by_cases c13 : t107 = true
                    · subst c13
                      have H1 : (manteletref04_good.l0 k2 l0 (wrap64 (x3_2 + 1))) = some r := by rw [if_pos rfl] at H; exact H
                      clear H
                      have H := H1
                      clear H1
                      have H' := Aside0.mk H
                      clear H
                      have p103 : 0 ≤ (0 : Int) := (by omega)
                      have q103 : 0 < (l0.length : Int) := of_decide_eq_true (by first | (with_reducible assumption) | assumption)
                      obtain ⟨ad103, e103, hx103_0⟩ := Kd.at_int HR0.out 0 p103 q103
                      cases e103
                      have qi103 : (0 < l0.length) = True := eq_true (by omega)
                      (try rw [show ((0 : Int)).toNat = 0 from rfl] at hx103_0)
                      (try rw [Addr.add_zero'] at hx103_0)
                      replace p103 := eq_true p103
                      replace q103 := eq_true q103
                      go_wp2_with (first | (go_at_call 53; (with_reducible refine (manteletref04_Size.calls k2 (rd l0 0) t104 _ A9.out).mono ?_); rintro e w' ⟨rfl, ⟨nd, rfl⟩⟩; (try first | exact ⟨rfl, _, World.drewN_drewN _ _ _⟩ | exact ⟨rfl, _, Eq.trans (World.drewN_drewN _ _ _) (congrArg (World.drewN _) (Nat.add_assoc _ _ _))⟩); have p105 : 0 ≤ (0 : Int) := (by omega); have q105 : 0 < (l0.length : Int) := of_decide_eq_true (by first | (with_reducible assumption) | assumption); obtain ⟨ad105, e105, hx105_0⟩ := Kd.at_int HR0.out 0 p105 q105; obtain rfl : ad103 = ad105 := (by injection e105); have qi105 : (0 < l0.length) = True := eq_true (by omega); (try rw [show ((0 : Int)).toNat = 0 from rfl] at hx105_0); (try rw [Addr.add_zero'] at hx105_0); replace p105 := eq_true p105; replace q105 := eq_true q105; have p106 : 0 ≤ (x3_2 : Int) := of_decide_eq_true (by first | (with_reducible assumption) | assumption); have q106 : x3_2 < (l0.length : Int) := of_decide_eq_true (by first | (with_reducible assumption) | assumption); obtain ⟨ad106, e106, hx106_0⟩ := Kd.at_int HR0.out x3_2 p106 q106; obtain rfl : ad103 = ad106 := (by injection e106); replace p106 := eq_true p106; replace q106 := eq_true q106) | (go_at_call 56; (with_reducible refine (manteletref04_fits.calls k2 (rd l0 0) x3_2 (rd l0 x3_2) true _ A12.out).mono ?_); rintro e w' ⟨rfl, ⟨nd, rfl⟩⟩; (try first | exact ⟨rfl, _, World.drewN_drewN _ _ _⟩ | exact ⟨rfl, _, Eq.trans (World.drewN_drewN _ _ _) (congrArg (World.drewN _) (Nat.add_assoc _ _ _))⟩)))
                      repeat (go_quiet (first | (go_at_call 53; (with_reducible refine (manteletref04_Size.calls k2 (rd l0 0) t104 _ A9.out).mono ?_); rintro e w' ⟨rfl, ⟨nd, rfl⟩⟩; (try first | exact ⟨rfl, _, World.drewN_drewN _ _ _⟩ | exact ⟨rfl, _, Eq.trans (World.drewN_drewN _ _ _) (congrArg (World.drewN _) (Nat.add_assoc _ _ _))⟩); have p105 : 0 ≤ (0 : Int) := (by omega); have q105 : 0 < (l0.length : Int) := of_decide_eq_true (by first | (with_reducible assumption) | assumption); obtain ⟨ad105, e105, hx105_0⟩ := Kd.at_int HR0.out 0 p105 q105; obtain rfl : ad103 = ad105 := (by injection e105); have qi105 : (0 < l0.length) = True := eq_true (by omega); (try rw [show ((0 : Int)).toNat = 0 from rfl] at hx105_0); (try rw [Addr.add_zero'] at hx105_0); replace p105 := eq_true p105; replace q105 := eq_true q105; have p106 : 0 ≤ (x3_2 : Int) := of_decide_eq_true (by first | (with_reducible assumption) | assumption); have q106 : x3_2 < (l0.length : Int) := of_decide_eq_true (by first | (with_reducible assumption) | assumption); obtain ⟨ad106, e106, hx106_0⟩ := Kd.at_int HR0.out x3_2 p106 q106; obtain rfl : ad103 = ad106 := (by injection e106); replace p106 := eq_true p106; replace q106 := eq_true q106) | (go_at_call 56; (with_reducible refine (manteletref04_fits.calls k2 (rd l0 0) x3_2 (rd l0 x3_2) true _ A12.out).mono ?_); rintro e w' ⟨rfl, ⟨nd, rfl⟩⟩; (try first | exact ⟨rfl, _, World.drewN_drewN _ _ _⟩ | exact ⟨rfl, _, Eq.trans (World.drewN_drewN _ _ _) (congrArg (World.drewN _) (Nat.add_assoc _ _ _))⟩))); try go_wp2_with (first | (go_at_call 53; (with_reducible refine (manteletref04_Size.calls k2 (rd l0 0) t104 _ A9.out).mono ?_); rintro e w' ⟨rfl, ⟨nd, rfl⟩⟩; (try first | exact ⟨rfl, _, World.drewN_drewN _ _ _⟩ | exact ⟨rfl, _, Eq.trans (World.drewN_drewN _ _ _) (congrArg (World.drewN _) (Nat.add_assoc _ _ _))⟩); have p105 : 0 ≤ (0 : Int) := (by omega); have q105 : 0 < (l0.length : Int) := of_decide_eq_true (by first | (with_reducible assumption) | assumption); obtain ⟨ad105, e105, hx105_0⟩ := Kd.at_int HR0.out 0 p105 q105; obtain rfl : ad103 = ad105 := (by injection e105); have qi105 : (0 < l0.length) = True := eq_true (by omega); (try rw [show ((0 : Int)).toNat = 0 from rfl] at hx105_0); (try rw [Addr.add_zero'] at hx105_0); replace p105 := eq_true p105; replace q105 := eq_true q105; have p106 : 0 ≤ (x3_2 : Int) := of_decide_eq_true (by first | (with_reducible assumption) | assumption); have q106 : x3_2 < (l0.length : Int) := of_decide_eq_true (by first | (with_reducible assumption) | assumption); obtain ⟨ad106, e106, hx106_0⟩ := Kd.at_int HR0.out x3_2 p106 q106; obtain rfl : ad103 = ad106 := (by injection e106); replace p106 := eq_true p106; replace q106 := eq_true q106) | (go_at_call 56; (with_reducible refine (manteletref04_fits.calls k2 (rd l0 0) x3_2 (rd l0 x3_2) true _ A12.out).mono ?_); rintro e w' ⟨rfl, ⟨nd, rfl⟩⟩; (try first | exact ⟨rfl, _, World.drewN_drewN _ _ _⟩ | exact ⟨rfl, _, Eq.trans (World.drewN_drewN _ _ _) (congrArg (World.drewN _) (Nat.add_assoc _ _ _))⟩))))
                      go_roundg k2
                      case measure => have := HJ1.out; have := HK2.out; omega
                      case rel => exact ⟨(wrap64 (x3_2 + 1)), (by first | rfl | (simp; done) | (simp [*]; done)), H', ⟨by have := HJ1.out; have := HK2.out; omega⟩, by repeat (first | exact Drawn0.refl _ | apply Drawn0.step)⟩
                    · replace c13 := Bool.eq_false_iff.mpr c13
                      subst c13
                      have H1 : (some x3_2) = some r := by rw [if_neg (show ¬ (false = true) by decide)] at H; exact H
                      clear H
                      have H := H1
                      clear H1
                      obtain rfl := Option.some.inj H
                      have p103 : 0 ≤ (0 : Int) := (by omega)
                      have q103 : 0 < (l0.length : Int) := of_decide_eq_true (by first | (with_reducible assumption) | assumption)
                      obtain ⟨ad103, e103, hx103_0⟩ := Kd.at_int HR0.out 0 p103 q103
                      cases e103
                      have qi103 : (0 < l0.length) = True := eq_true (by omega)
                      (try rw [show ((0 : Int)).toNat = 0 from rfl] at hx103_0)
                      (try rw [Addr.add_zero'] at hx103_0)
                      replace p103 := eq_true p103
                      replace q103 := eq_true q103
                      go_wp2_with (first | (go_at_call 53; (with_reducible refine (manteletref04_Size.calls k2 (rd l0 0) t104 _ A9.out).mono ?_); rintro e w' ⟨rfl, ⟨nd, rfl⟩⟩; (try first | exact ⟨rfl, _, World.drewN_drewN _ _ _⟩ | exact ⟨rfl, _, Eq.trans (World.drewN_drewN _ _ _) (congrArg (World.drewN _) (Nat.add_assoc _ _ _))⟩); have p105 : 0 ≤ (0 : Int) := (by omega); have q105 : 0 < (l0.length : Int) := of_decide_eq_true (by first | (with_reducible assumption) | assumption); obtain ⟨ad105, e105, hx105_0⟩ := Kd.at_int HR0.out 0 p105 q105; obtain rfl : ad103 = ad105 := (by injection e105); have qi105 : (0 < l0.length) = True := eq_true (by omega); (try rw [show ((0 : Int)).toNat = 0 from rfl] at hx105_0); (try rw [Addr.add_zero'] at hx105_0); replace p105 := eq_true p105; replace q105 := eq_true q105; have p106 : 0 ≤ (x3_2 : Int) := of_decide_eq_true (by first | (with_reducible assumption) | assumption); have q106 : x3_2 < (l0.length : Int) := of_decide_eq_true (by first | (with_reducible assumption) | assumption); obtain ⟨ad106, e106, hx106_0⟩ := Kd.at_int HR0.out x3_2 p106 q106; obtain rfl : ad103 = ad106 := (by injection e106); replace p106 := eq_true p106; replace q106 := eq_true q106) | (go_at_call 56; (with_reducible refine (manteletref04_fits.calls k2 (rd l0 0) x3_2 (rd l0 x3_2) false _ A12.out).mono ?_); rintro e w' ⟨rfl, ⟨nd, rfl⟩⟩; (try first | exact ⟨rfl, _, World.drewN_drewN _ _ _⟩ | exact ⟨rfl, _, Eq.trans (World.drewN_drewN _ _ _) (congrArg (World.drewN _) (Nat.add_assoc _ _ _))⟩)))
                      repeat (go_quiet (first | (go_at_call 53; (with_reducible refine (manteletref04_Size.calls k2 (rd l0 0) t104 _ A9.out).mono ?_); rintro e w' ⟨rfl, ⟨nd, rfl⟩⟩; (try first | exact ⟨rfl, _, World.drewN_drewN _ _ _⟩ | exact ⟨rfl, _, Eq.trans (World.drewN_drewN _ _ _) (congrArg (World.drewN _) (Nat.add_assoc _ _ _))⟩); have p105 : 0 ≤ (0 : Int) := (by omega); have q105 : 0 < (l0.length : Int) := of_decide_eq_true (by first | (with_reducible assumption) | assumption); obtain ⟨ad105, e105, hx105_0⟩ := Kd.at_int HR0.out 0 p105 q105; obtain rfl : ad103 = ad105 := (by injection e105); have qi105 : (0 < l0.length) = True := eq_true (by omega); (try rw [show ((0 : Int)).toNat = 0 from rfl] at hx105_0); (try rw [Addr.add_zero'] at hx105_0); replace p105 := eq_true p105; replace q105 := eq_true q105; have p106 : 0 ≤ (x3_2 : Int) := of_decide_eq_true (by first | (with_reducible assumption) | assumption); have q106 : x3_2 < (l0.length : Int) := of_decide_eq_true (by first | (with_reducible assumption) | assumption); obtain ⟨ad106, e106, hx106_0⟩ := Kd.at_int HR0.out x3_2 p106 q106; obtain rfl : ad103 = ad106 := (by injection e106); replace p106 := eq_true p106; replace q106 := eq_true q106) | (go_at_call 56; (with_reducible refine (manteletref04_fits.calls k2 (rd l0 0) x3_2 (rd l0 x3_2) false _ A12.out).mono ?_); rintro e w' ⟨rfl, ⟨nd, rfl⟩⟩; (try first | exact ⟨rfl, _, World.drewN_drewN _ _ _⟩ | exact ⟨rfl, _, Eq.trans (World.drewN_drewN _ _ _) (congrArg (World.drewN _) (Nat.add_assoc _ _ _))⟩))); try go_wp2_with (first | (go_at_call 53; (with_reducible refine (manteletref04_Size.calls k2 (rd l0 0) t104 _ A9.out).mono ?_); rintro e w' ⟨rfl, ⟨nd, rfl⟩⟩; (try first | exact ⟨rfl, _, World.drewN_drewN _ _ _⟩ | exact ⟨rfl, _, Eq.trans (World.drewN_drewN _ _ _) (congrArg (World.drewN _) (Nat.add_assoc _ _ _))⟩); have p105 : 0 ≤ (0 : Int) := (by omega); have q105 : 0 < (l0.length : Int) := of_decide_eq_true (by first | (with_reducible assumption) | assumption); obtain ⟨ad105, e105, hx105_0⟩ := Kd.at_int HR0.out 0 p105 q105; obtain rfl : ad103 = ad105 := (by injection e105); have qi105 : (0 < l0.length) = True := eq_true (by omega); (try rw [show ((0 : Int)).toNat = 0 from rfl] at hx105_0); (try rw [Addr.add_zero'] at hx105_0); replace p105 := eq_true p105; replace q105 := eq_true q105; have p106 : 0 ≤ (x3_2 : Int) := of_decide_eq_true (by first | (with_reducible assumption) | assumption); have q106 : x3_2 < (l0.length : Int) := of_decide_eq_true (by first | (with_reducible assumption) | assumption); obtain ⟨ad106, e106, hx106_0⟩ := Kd.at_int HR0.out x3_2 p106 q106; obtain rfl : ad103 = ad106 := (by injection e106); replace p106 := eq_true p106; replace q106 := eq_true q106) | (go_at_call 56; (with_reducible refine (manteletref04_fits.calls k2 (rd l0 0) x3_2 (rd l0 x3_2) false _ A12.out).mono ?_); rintro e w' ⟨rfl, ⟨nd, rfl⟩⟩; (try first | exact ⟨rfl, _, World.drewN_drewN _ _ _⟩ | exact ⟨rfl, _, Eq.trans (World.drewN_drewN _ _ _) (congrArg (World.drewN _) (Nat.add_assoc _ _ _))⟩))))
                      go_ret
                      exact ⟨by first | rfl | (simp; done) | (simp [*]; done), by repeat (first | exact Drawn0.refl _ | apply Drawn0.step)⟩
                  · rw [if_neg c11] at H
                    exact absurd H (by simp)
                · rw [if_neg c10] at H
                  have c10b0 : decide (x3_2 < t104) = false := decide_eq_false c10
                  clear c10
                  obtain rfl := Option.some.inj H
                  have p103 : 0 ≤ (0 : Int) := (by omega)
                  have q103 : 0 < (l0.length : Int) := of_decide_eq_true (by first | (with_reducible assumption) | assumption)
                  obtain ⟨ad103, e103, hx103_0⟩ := Kd.at_int HR0.out 0 p103 q103
                  cases e103
                  have qi103 : (0 < l0.length) = True := eq_true (by omega)
                  (try rw [show ((0 : Int)).toNat = 0 from rfl] at hx103_0)
                  (try rw [Addr.add_zero'] at hx103_0)
                  replace p103 := eq_true p103
                  replace q103 := eq_true q103
                  go_wp2_with (first | (go_at_call 53; (with_reducible refine (manteletref04_Size.calls k2 (rd l0 0) t104 _ A9.out).mono ?_); rintro e w' ⟨rfl, ⟨nd, rfl⟩⟩; (try first | exact ⟨rfl, _, World.drewN_drewN _ _ _⟩ | exact ⟨rfl, _, Eq.trans (World.drewN_drewN _ _ _) (congrArg (World.drewN _) (Nat.add_assoc _ _ _))⟩)))
                  repeat (go_quiet (first | (go_at_call 53; (with_reducible refine (manteletref04_Size.calls k2 (rd l0 0) t104 _ A9.out).mono ?_); rintro e w' ⟨rfl, ⟨nd, rfl⟩⟩; (try first | exact ⟨rfl, _, World.drewN_drewN _ _ _⟩ | exact ⟨rfl, _, Eq.trans (World.drewN_drewN _ _ _) (congrArg (World.drewN _) (Nat.add_assoc _ _ _))⟩))); try go_wp2_with (first | (go_at_call 53; (with_reducible refine (manteletref04_Size.calls k2 (rd l0 0) t104 _ A9.out).mono ?_); rintro e w' ⟨rfl, ⟨nd, rfl⟩⟩; (try first | exact ⟨rfl, _, World.drewN_drewN _ _ _⟩ | exact ⟨rfl, _, Eq.trans (World.drewN_drewN _ _ _) (congrArg (World.drewN _) (Nat.add_assoc _ _ _))⟩))))
                  go_ret
                  exact ⟨by first | rfl | (simp; done) | (simp [*]; done), by repeat (first | exact Drawn0.refl _ | apply Drawn0.step)⟩
              · rw [if_neg c8] at H
                exact absurd H (by simp)
            · rw [if_neg c7] at H
              have c7b0 : decide (x3_2 < (l0.length : Int)) = false := decide_eq_false c7
              clear c7
              obtain rfl := Option.some.inj H
              go_wp2
              repeat (go_quiet (fail); try go_wp2)
              go_ret
              exact ⟨by first | rfl | (simp; done) | (simp [*]; done), by repeat (first | exact Drawn0.refl _ | apply Drawn0.step)⟩

end Go.Proofs.Ythpemcchgebecaa.PRf04

