/- fold.Letter: a closure over the spans, by slices.ContainsFunc. -/
import Derived.Shelf.SlicesQ.IndexFunc
import Derived.Test.YthpemcchgebecaaProg
import Derived.Below
import Derived.Deep.Draws
import Derived.Deep.AppendLies
import Derived.Maps.AppendAt
import Derived.OwnWalk
import Derived.Laws.BytesArg
import Derived.Laws.MakeOwn
import Derived.Laws.OwnMore
import Derived.Deep.OwnRows
import Derived.Tactics
import Derived.Lib.ConvBytes
import Derived.Laws.Slices
import Derived.WalkKit
import Derived.KernelRfl
import Derived.RowKit3
import Derived.Deep.LoopGhost
import Derived.Deep.QuietTactic
import Derived.BigQuiet
import Derived.WideLaws
import Derived.Deep.DeepCutAuto
import Derived.Deep.CutBlock
import Derived.Deep.RegionHeld3
import Derived.Laws.Rows
import Derived.Lib.AppendStr
import Derived.ArgAppend
import Derived.Laws.IdiomCopy
import Derived.OrdersHeld
import Derived.Laws.BitsLemmas
import Derived.RowKit
import Derived.Lib.OthersKept
import Derived.WalkSmall
import Derived.Deep.RegionLaw
import Derived.BigRegion
import Derived.Test.YthpemcchgebecaaWWords
import Derived.Test.YthpemcchgebecaaWLast
import Derived.Test.YthpemcchgebecaaWTab
import Derived.Test.YthpemcchgebecaaWFour
import Derived.Test.YthpemcchgebecaaWQPut
import Derived.Test.YthpemcchgebecaaWApart
import Derived.Test.YthpemcchgebecaaWArr
import Derived.Test.YthpemcchgebecaaWZeros
import Derived.Test.YthpemcchgebecaaWFoot
import Derived.Test.YthpemcchgebecaaWKept
import Derived.Test.YthpemcchgebecaaWShare
import Derived.Test.YthpemcchgebecaaWN
import Derived.Test.YthpemcchgebecaaWFootNe
import Derived.Test.YthpemcchgebecaaWAt
import Derived.Test.YthpemcchgebecaaWEqStruct
import Derived.Test.YthpemcchgebecaaWRepsOne
import Derived.Test.YthpemcchgebecaaWInv
import Derived.Test.YthpemcchgebecaaWInvWords
import Derived.Test.YthpemcchgebecaaWGuard
import Derived.Test.YthpemcchgebecaaWNEv
import Derived.Test.YthpemcchgebecaaWMore
import Derived.Test.YthpemcchgebecaaInfo
import Derived.Test.YthpemcchgebecaaUtf
import Derived.Test.YthpemcchgebecaaHelp
import Derived.Test.YthpemcchgebecaaHelp2
import Derived.Test.YthpemcchgebecaaUtfE
import Derived.Test.YthpemcchgebecaaPFoldx
namespace Go.Proofs.Ythpemcchgebecaa.K
open Go.RowKit Go.Proofs.YthpemcchgebecaaW.PrintWords Go.Proofs.YthpemcchgebecaaW.PrintLast Go.Proofs.YthpemcchgebecaaW.PrintMore Go.Proofs.Ythpemcchgebecaa
attribute [local go_sem] max2_int min2_int max_two min_two max_three min_three max_four min_four
set_option linter.unusedVariables false
set_option linter.unusedSimpArgs false
open Go.Shelf Go.Proofs.Ythpemcchgebecaa.PFold
def renC : Go.Shelf.Ren := ⟨fun | 8 => 26 | 6 => 39 | n => n, fun | 22 => 46 | 23 => 45 | 25 => 48 | 4 => 4 | 3 => 3 | 0 => 0 | n => n, fun | n => n⟩
theorem laysC : Go.Proofs.SlLaysH0.n8 Try.prog renC := {
  mixed := by kernel_rfl
  f6 := ⟨Try.f39.name, by decide, Try.func39.trans (congrArg some (by kernel_rfl))⟩
  f8 := ⟨Try.f26.name, by decide, Try.func26.trans (congrArg some (by kernel_rfl))⟩
  t0 := Try.underlying0
  a0 := Try.isAgg0
  z0 := Try.sizeOf0
  v0 := Try.zeroValue0
  t3 := Try.underlying3
  a3 := Try.isAgg3
  z3 := Try.sizeOf3
  v3 := Try.zeroValue3
  t4 := Try.underlying4
  a4 := Try.isAgg4
  z4 := Try.sizeOf4
  v4 := Try.zeroValue4
  t22 := Try.underlying46
  a22 := Try.isAgg46
  z22 := Try.sizeOf46
  v22 := Try.zeroValue46
  t25 := Try.underlying48
  a25 := Try.isAgg48
  z25 := Try.sizeOf48
  v25 := Try.zeroValue48 }
def encSp (x : Int × Int) : List Value := [.int .i32 x.1, .int .i32 x.2, .int .i32 1, .int .i32 0]
def inSpan (c : Int) (x : Int × Int) : Bool := decide (x.1 ≤ c) && decide (c ≤ x.2)
def letterL : List (Int × Int) := [(65, 90), (97, 122), (192, 214), (216, 246), (248, 383), (913, 929), (931, 974), (1024, 1119)]
def isLetter (c : Int) : Bool := letterL.any (inSpan c)
theorem has_span (a b c : Int) : fold_span_has.f a b 1 0 c = some (inSpan c (a, b)) := by
  unfold fold_span_has.f inSpan
  by_cases h1 : a ≤ c <;> by_cases h2 : c ≤ b <;> simp [h1, h2]
set_option maxHeartbeats 1000000 in
set_option maxRecDepth 100000 in
theorem letter_pred (c : Int) (B : Nat) (w : World) (hB : B < w.heap.size) (hcell : w.cell? ⟨B, 0, none⟩ = some (.int .i32 c)) :
    PredBelow Try.prog 27 #[.pointer (some ⟨B, 0, none⟩)] (fun x => .agg (encSp x).toArray) (inSpan c) w := fun W x hb => by
  have hc : W.cell? ⟨B, 0, none⟩ = some (.int .i32 c) := (hb.cell (p := ⟨B, 0, none⟩) hB).trans hcell
  have hBW : B < W.heap.size := Nat.lt_of_lt_of_le hB hb.size
  obtain ⟨a, b⟩ := x
  have hs := has_span a b c
  generalize inSpan c (a, b) = r at hs ⊢
  show Calls Try.prog 27 #[.agg #[.int .i32 a, .int .i32 b, .int .i32 1, .int .i32 0], .pointer (some ⟨B, 0, none⟩)] W _
  go_enter Try.func27, Try.ntmps27
  go_wp2_with (first | ((with_reducible refine gate_dst (N := 2) rfl ?_); refine box_event ?hg (N := 2) ?hd (cs := #[.int .i32 a, .int .i32 b, .int .i32 1, .int .i32 0]) (t := 45) ?hr ?_; (case hd => rfl); (case hg => rfl); (case hr => first | (go_simp; done) | (go_simp; rfl)); intro g hg w1 hbox hb1; have hc1 := Aside0.mk ((hb1.cell (p := ⟨B, 0, none⟩) hBW).trans hc); have BX := Aside0.mk hbox; have HB1 := Aside0.mk (hb.trans (hb1.mono hb.size)); clear hc hBW hb hbox hb1 hg; have hc := hc1.out; have z0 : w1.cell? ⟨g, 0, none⟩ = some (.int .i32 a) := (blk_cell BX.out 0).trans rfl; have z1 : w1.cell? ⟨g, 1, none⟩ = some (.int .i32 b) := (blk_cell BX.out 1).trans rfl; have z2 : w1.cell? ⟨g, 2, none⟩ = some (.int .i32 1) := (blk_cell BX.out 2).trans rfl; have z3 : w1.cell? ⟨g, 3, none⟩ = some (.int .i32 0) := (blk_cell BX.out 3).trans rfl) | (go_at_call 28; (with_reducible refine (fold_span_has.calls a b 1 0 c r _ hs).mono ?_); rintro e w' ⟨rfl, hb2⟩; have n0 := Aside0.mk (HB1.out.trans (hb2.mono HB1.out.size)); clear hb2))
  go_ret
  exact ⟨rfl, n0.out⟩
def fold_Letter.f (a0 : Int) : Option Bool := some (isLetter a0)
theorem eg1 : ∀ args w, (callFunc 27 args).run Try.prog w = .ok (.enter 27 args) w := enters_of Try.func27 (by kernel_rfl) rfl
theorem letter_cells {w : World} {e base : Nat} {ok : Nat → Prop} {v : Value} (h : Kd.R k45 e w base ok v ([(⟨65, 90, 1, 0⟩ : S45), (⟨97, 122, 1, 0⟩ : S45), (⟨192, 214, 1, 0⟩ : S45), (⟨216, 246, 1, 0⟩ : S45), (⟨248, 383, 1, 0⟩ : S45), (⟨913, 929, 1, 0⟩ : S45), (⟨931, 974, 1, 0⟩ : S45), (⟨1024, 1119, 1, 0⟩ : S45)] : List S45)) : ∃ b c, v = .slice (some ⟨b, 0, none⟩) 8 c ∧ b < w.heap.size ∧ ∀ j, j < letterL.length → ∀ i v, (encSp letterL[j]!)[i]? = some v → w.cell? ⟨b, 0 + j * 4 + i, none⟩ = some v := by
  have hb := (Kd.R_bound h).1
  obtain ⟨A, cap0, rfl⟩ := Kd.R_slice h
  have hC := (Kd.R_reads' h).2.2
  obtain ⟨_, inner, ho, _⟩ := h
  rcases ho.2 with ⟨_, h0⟩ | ⟨g, cap, cells, hv, _⟩
  · exact absurd h0 (by simp)
  · obtain ⟨rfl, _, rfl⟩ := Value.slice.inj hv
    refine ⟨g, _, rfl, (hb g rfl).2.2.1, ?_⟩
    intro j hj i v hi
    have hj8 : j < 8 := hj
    obtain ⟨ad, e0, a0, a1, a2, a3⟩ := at_T45 hC (j : Int) (by omega) (by show (j : Int) < 8; omega)
    cases e0
    have hi4 : i < 4 := by
      have := (List.getElem?_eq_some_iff.1 hi).1
      simpa [encSp] using this
    have key : ∀ j : Nat, j < 8 → ∀ i : Nat, i < 4 → (encSp letterL[j]!)[i]? = some ((match i with | 0 => Value.int .i32 (rd_T45 [(⟨65, 90, 1, 0⟩ : S45), (⟨97, 122, 1, 0⟩ : S45), (⟨192, 214, 1, 0⟩ : S45), (⟨216, 246, 1, 0⟩ : S45), (⟨248, 383, 1, 0⟩ : S45), (⟨913, 929, 1, 0⟩ : S45), (⟨931, 974, 1, 0⟩ : S45), (⟨1024, 1119, 1, 0⟩ : S45)] (j : Int)).f0 | 1 => Value.int .i32 (rd_T45 [(⟨65, 90, 1, 0⟩ : S45), (⟨97, 122, 1, 0⟩ : S45), (⟨192, 214, 1, 0⟩ : S45), (⟨216, 246, 1, 0⟩ : S45), (⟨248, 383, 1, 0⟩ : S45), (⟨913, 929, 1, 0⟩ : S45), (⟨931, 974, 1, 0⟩ : S45), (⟨1024, 1119, 1, 0⟩ : S45)] (j : Int)).f1 | 2 => Value.int .i32 (rd_T45 [(⟨65, 90, 1, 0⟩ : S45), (⟨97, 122, 1, 0⟩ : S45), (⟨192, 214, 1, 0⟩ : S45), (⟨216, 246, 1, 0⟩ : S45), (⟨248, 383, 1, 0⟩ : S45), (⟨913, 929, 1, 0⟩ : S45), (⟨931, 974, 1, 0⟩ : S45), (⟨1024, 1119, 1, 0⟩ : S45)] (j : Int)).f2 | _ => Value.int .i32 (rd_T45 [(⟨65, 90, 1, 0⟩ : S45), (⟨97, 122, 1, 0⟩ : S45), (⟨192, 214, 1, 0⟩ : S45), (⟨216, 246, 1, 0⟩ : S45), (⟨248, 383, 1, 0⟩ : S45), (⟨913, 929, 1, 0⟩ : S45), (⟨931, 974, 1, 0⟩ : S45), (⟨1024, 1119, 1, 0⟩ : S45)] (j : Int)).f3)) := by
      intro j hj i hi
      have hj' : j = 0 ∨ j = 1 ∨ j = 2 ∨ j = 3 ∨ j = 4 ∨ j = 5 ∨ j = 6 ∨ j = 7 := by omega
      have hi' : i = 0 ∨ i = 1 ∨ i = 2 ∨ i = 3 := by omega
      rcases hj' with rfl | rfl | rfl | rfl | rfl | rfl | rfl | rfl <;> rcases hi' with rfl | rfl | rfl | rfl <;> rfl
    have hk := (hi.symm.trans (key j hj8 i hi4))
    obtain rfl := Option.some.inj hk
    have : i = 0 ∨ i = 1 ∨ i = 2 ∨ i = 3 := by omega
    rcases this with rfl | rfl | rfl | rfl
    all_goals rw [Addr.add_lit] at a0 a1 a2 a3; first | simpa using a0 | simpa using a1 | simpa using a2 | simpa using a3
set_option maxHeartbeats 4000000 in
set_option maxRecDepth 100000 in
theorem fold_Letter.calls (a0 : Int) (r : Bool) (w : World) (h : fold_Letter.f a0 = some r) :
    Calls Try.prog 12 #[.int .i32 a0] w fun e w' => e = .returned (.bool r) ∧ Below w.heap.size w w' := by
  obtain rfl : isLetter a0 = r := Option.some.inj h
  have hcon : ∀ (b c : Nat) (W : World), Below w.heap.size w W → W.cell? ⟨w.heap.size, 0, none⟩ = some (.int .i32 a0) → w.heap.size < W.heap.size → b < W.heap.size → (∀ j, j < letterL.length → ∀ i v, (encSp letterL[j]!)[i]? = some v → W.cell? ⟨b, 0 + j * 4 + i, none⟩ = some v) →
      Calls Try.prog 26 #[.slice (some ⟨b, 0, none⟩) 8 c, .func (.func 27) #[] #[.pointer (some ⟨w.heap.size, 0, none⟩)]] W fun e w' => e = .returned (.bool (isLetter a0)) ∧ Below w.heap.size w w' := by
    intro b c W hb hc hs hbs hcs
    have := AnyQ.slices_ContainsFunc laysC 4 Try.isAgg45 Try.sizeOf45 encSp (fun _ => rfl) (inSpan a0) 27 #[.pointer (some ⟨w.heap.size, 0, none⟩)] eg1 b 0 8 c letterL W
      (letter_pred a0 w.heap.size W hs hc) (by decide) (by decide) hbs hcs
    exact this.mono fun e w' ⟨he, hw⟩ => ⟨he, hb.trans (hw.mono hb.size)⟩
  generalize isLetter a0 = r at hcon ⊢
  go_enter Try.func12, Try.ntmps12
  go_wp2_with (first | ((with_reducible refine gate_dst (N := 12) rfl ?_); refine Kd.R_lit k45 _ 45 ?hg (N := 12) ?hd (xs := ([(⟨65, 90, 1, 0⟩ : S45), (⟨97, 122, 1, 0⟩ : S45), (⟨192, 214, 1, 0⟩ : S45), (⟨216, 246, 1, 0⟩ : S45), (⟨248, 383, 1, 0⟩ : S45), (⟨913, 929, 1, 0⟩ : S45), (⟨931, 974, 1, 0⟩ : S45), (⟨1024, 1119, 1, 0⟩ : S45)] : List S45)) (inner := [.int .i32 65, .int .i32 90, .int .i32 1, .int .i32 0, .int .i32 97, .int .i32 122, .int .i32 1, .int .i32 0, .int .i32 192, .int .i32 214, .int .i32 1, .int .i32 0, .int .i32 216, .int .i32 246, .int .i32 1, .int .i32 0, .int .i32 248, .int .i32 383, .int .i32 1, .int .i32 0, .int .i32 913, .int .i32 929, .int .i32 1, .int .i32 0, .int .i32 931, .int .i32 974, .int .i32 1, .int .i32 0, .int .i32 1024, .int .i32 1119, .int .i32 1, .int .i32 0]) (ok := fun _ => True) (okp := fun _ => True) ?hr ?hp (fun _ hk => hk) trivial (Below.refl _ _) (Nat.le_refl _) (by simp) ?_; (case hd => rfl); (case hg => rfl); (case hr => first | (go_simp; done) | (go_simp; rfl)); (case hp => exact (Reps.c4 (show Kd.M k45 _ _ _ (⟨65, 90, 1, 0⟩ : S45) [.int .i32 65, .int .i32 90, .int .i32 1, .int .i32 0] from (k45_mkM _ _ _ (⟨65, 90, 1, 0⟩ : S45) )) (Reps.c4 (show Kd.M k45 _ _ _ (⟨97, 122, 1, 0⟩ : S45) [.int .i32 97, .int .i32 122, .int .i32 1, .int .i32 0] from (k45_mkM _ _ _ (⟨97, 122, 1, 0⟩ : S45) )) (Reps.c4 (show Kd.M k45 _ _ _ (⟨192, 214, 1, 0⟩ : S45) [.int .i32 192, .int .i32 214, .int .i32 1, .int .i32 0] from (k45_mkM _ _ _ (⟨192, 214, 1, 0⟩ : S45) )) (Reps.c4 (show Kd.M k45 _ _ _ (⟨216, 246, 1, 0⟩ : S45) [.int .i32 216, .int .i32 246, .int .i32 1, .int .i32 0] from (k45_mkM _ _ _ (⟨216, 246, 1, 0⟩ : S45) )) (Reps.c4 (show Kd.M k45 _ _ _ (⟨248, 383, 1, 0⟩ : S45) [.int .i32 248, .int .i32 383, .int .i32 1, .int .i32 0] from (k45_mkM _ _ _ (⟨248, 383, 1, 0⟩ : S45) )) (Reps.c4 (show Kd.M k45 _ _ _ (⟨913, 929, 1, 0⟩ : S45) [.int .i32 913, .int .i32 929, .int .i32 1, .int .i32 0] from (k45_mkM _ _ _ (⟨913, 929, 1, 0⟩ : S45) )) (Reps.c4 (show Kd.M k45 _ _ _ (⟨931, 974, 1, 0⟩ : S45) [.int .i32 931, .int .i32 974, .int .i32 1, .int .i32 0] from (k45_mkM _ _ _ (⟨931, 974, 1, 0⟩ : S45) )) (Reps.c4 (show Kd.M k45 _ _ _ (⟨1024, 1119, 1, 0⟩ : S45) [.int .i32 1024, .int .i32 1119, .int .i32 1, .int .i32 0] from (k45_mkM _ _ _ (⟨1024, 1119, 1, 0⟩ : S45) )) (Reps.none _ _)))))))))); intro v103 w2 ho3 hb hg_ hnew_; clear hg_ hnew_; obtain ⟨b, cc, rfl, hbs, hcs⟩ := letter_cells ho3; have hcell : w2.cell? ⟨w.heap.size, 0, none⟩ = some (.int .i32 a0) := (hb.cell (p := ⟨w.heap.size, 0, none⟩) (by simp)).trans (by simp); have hsz := hb.size; have hcc := hcon b cc w2 ((below_alloc (Below.refl _ _) _).trans (hb.mono (by simp))) hcell (by simp at hsz; omega) hbs hcs; clear hcon hcs hbs ho3 hb hsz hcell) | (go_at_call 26; (with_reducible refine hcc.mono ?_); rintro e w' ⟨rfl, hb2⟩; have n0 := Aside0.mk hb2; clear hb2))
  go_ret
  exact ⟨rfl, n0.out⟩
end Go.Proofs.Ythpemcchgebecaa.K
