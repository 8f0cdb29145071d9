/- ConfChecks. (The texts that the proof is made of, one behind the other: part 7 of 10.) -/
import Derived.Test.YtkkkfgnaojhmeaaProg
import Derived.Below
import Derived.Deep.Draws
import Derived.Deep.AppendLies
import Derived.Maps.AppendAt
import Derived.OwnWalk
import Derived.Laws.BytesArg
import Derived.Laws.MakeOwn
import Derived.Laws.OwnMore
import Derived.Deep.OwnRows
import Derived.Tactics
import Derived.Lib.ConvBytes
import Derived.Laws.Slices
import Derived.WalkKit
import Derived.KernelRfl
import Derived.RowKit3
import Derived.Deep.LoopGhost
import Derived.Deep.QuietTactic
import Derived.BigQuiet
import Derived.WideLaws
import Derived.Deep.DeepCutAuto
import Derived.Deep.CutBlock
import Derived.Deep.RegionHeld3
import Derived.Laws.Rows
import Derived.Lib.AppendStr
import Derived.ArgAppend
import Derived.Laws.IdiomCopy
import Derived.OrdersHeld
import Derived.Laws.BitsLemmas
import Derived.RowKit
import Derived.Lib.OthersKept
import Derived.WalkSmall
import Derived.Deep.RegionLaw
import Derived.BigRegion
import Derived.WalkMore
import Derived.Lib.SlBytesConst
import Derived.Test.YtkkkfgnaojhmeaaZConfChecksa
import Derived.Test.YtkkkfgnaojhmeaaZConfChecksb
import Derived.Test.YtkkkfgnaojhmeaaZConfChecksc
import Derived.Test.YtkkkfgnaojhmeaaZConfChecksd
import Derived.Test.YtkkkfgnaojhmeaaZConfCheckse
import Derived.Test.YtkkkfgnaojhmeaaZConfChecksf
namespace Go.Proofs.Ytkkkfgnaojhmeaa.PWd
open Go.RowKit Go.Proofs.YtkkkfgnaojhmeaaW.PrintWords Go.Proofs.YtkkkfgnaojhmeaaW.PrintLast Go.Proofs.YtkkkfgnaojhmeaaW.PrintMore Go.Proofs.Ytkkkfgnaojhmeaa.K Go.Proofs.Ytkkkfgnaojhmeaa.PFold
attribute [local go_sem] max2_int min2_int max_two min_two max_three min_three max_four min_four   -- for this text's walks alone
set_option linter.unusedVariables false
set_option linter.unusedSimpArgs false

end Go.Proofs.Ytkkkfgnaojhmeaa.PWd

namespace Go.Proofs.Ytkkkfgnaojhmeaa.K
open Go.RowKit Go.Proofs.YtkkkfgnaojhmeaaW.PrintWords Go.Proofs.YtkkkfgnaojhmeaaW.PrintLast Go.Proofs.YtkkkfgnaojhmeaaW.PrintMore Go.Proofs.Ytkkkfgnaojhmeaa
attribute [local go_sem] max2_int min2_int max_two min_two max_three min_three max_four min_four
set_option linter.unusedVariables false
set_option linter.unusedSimpArgs false
open Go.Proofs.Ytkkkfgnaojhmeaa.PFold Go.Proofs.Ytkkkfgnaojhmeaa.PWd
def wLet (w : List Int) (m lg : Bool) (c : Int) : List Int × Bool × Bool :=
  if lg = true then ([], false, true) else if 32 < (w ++ (if m = true then [39] else []) ++ [foldZ c]).length then ([], false, true) else (w ++ (if m = true then [39] else []) ++ [foldZ c], false, false)
def wOuts (w : List Int) (lg : Bool) : List ByteArray := if 0 < w.length ∧ lg = false then [runesBytes w] else []
abbrev WS := List ByteArray × List Int × Bool × Bool
def wStep (s : WS) (c : Int) : WS :=
  if isLetter c = true then (s.1, wLet s.2.1 s.2.2.1 s.2.2.2 c)
  else if (c = 39 ∨ c = 8217) ∧ (0 < s.2.1.length ∨ s.2.2.2 = true) ∧ s.2.2.1 = false then (s.1, s.2.1, true, s.2.2.2)
  else (s.1 ++ wOuts s.2.1 s.2.2.2, [], false, false)
def words_Feed.f (l : List Int) (m lg : Bool) (r : List Int) : Option WS := if l.length ≤ 1000000 ∧ r.length ≤ 100000000 then some (r.foldl wStep ([], l, m, lg)) else none
theorem letter_of (k : Nat) (hk : 14 < k) (w : List Int) (m lg : Bool) (c : Int) (h : w.length ≤ 1000000) : words_State_letter.f k w m lg c = some (wLet w m lg c) := by
  unfold words_State_letter.f wLet slices_Clone_rune_rune.f
  have nf : ¬ (false = true) := by decide
  cases lg with
  | true => rfl
  | false =>
    rw [if_neg nf, if_neg nf, if_pos (show w.length < 35184372088832 by omega)]
    simp only [Option.bind_some]
    cases m with
    | true =>
      rw [if_pos rfl, if_pos rfl, if_pos (show w.length < 35184372088832 by omega), fold_Fold_eq k hk]
      simp only [Option.bind_some]
      rw [if_pos (by simp; omega)]
      by_cases h32 : 32 < (w ++ [39] ++ [foldZ c]).length
      · rw [if_pos h32, if_pos (by omega)]
      · rw [if_neg h32, if_neg (by omega)]
    | false =>
      rw [if_neg nf, if_neg nf, fold_Fold_eq k hk]
      simp only [Option.bind_some, List.append_nil]
      rw [if_pos (show w.length < 35184372088832 by omega)]
      by_cases h32 : 32 < (w ++ [foldZ c]).length
      · rw [if_pos h32, if_pos (by omega)]
      · rw [if_neg h32, if_neg (by omega)]
/-- What a function may leave of a world that owns two cells' blocks below a base: those two, and what lies behind. -/
def Two (base gS gO : Nat) (W W' : World) : Prop := (∀ B, B ≤ gS → B ≤ gO → B ≤ base → Below B W W') ∧ (∀ k, k < base → k ≠ gS → k ≠ gO → W'.heap[k]? = W.heap[k]?) ∧ W.heap.size ≤ W'.heap.size
theorem Two.of_below {base gS gO : Nat} {W W' : World} (h : Below base W W') : Two base gS gO W W' := ⟨fun B _ _ hb => h.mono hb, fun k hk _ _ => h.block k hk, h.size⟩
theorem Two.trans {base gS gO : Nat} {W W' W'' : World} (h : Two base gS gO W W') (k : Two base gS gO W' W'') : Two base gS gO W W'' :=
  ⟨fun B a b c => (h.1 B a b c).trans (k.1 B a b c), fun j hj hS hO => (k.2.1 j hj hS hO).trans (h.2.1 j hj hS hO), Nat.le_trans h.2.2 k.2.2⟩
theorem Two.setS {base gS gO : Nat} {W W' : World} (h : Two base gS gO W W') (i : Nat) (v : Value) : Two base gS gO W (W'.setCell ⟨gS, i, none⟩ v) :=
  ⟨fun B a b c => (h.1 B a b c).setCell (p := ⟨gS, i, none⟩) a v, fun j hj hS hO => (Below.heap_setCell W' ⟨gS, i, none⟩ v j hS).trans (h.2.1 j hj hS hO), by simpa [World.setCell] using h.2.2⟩
theorem Two.setO {base gS gO : Nat} {W W' : World} (h : Two base gS gO W W') (i : Nat) (v : Value) : Two base gS gO W (W'.setCell ⟨gO, i, none⟩ v) :=
  ⟨fun B a b c => (h.1 B a b c).setCell (p := ⟨gO, i, none⟩) b v, fun j hj hS hO => (Below.heap_setCell W' ⟨gO, i, none⟩ v j hO).trans (h.2.1 j hj hS hO), by simpa [World.setCell] using h.2.2⟩
theorem set3 {w1 : World} {g : Nat} {t : TypeId} {a b c : Value} (x y z : Value) (h : w1.heap[g]? = some (.cells #[a, b, c] t (0, 0))) :
    (((w1.setCell ⟨g, 0, none⟩ x).setCell ⟨g, 1, none⟩ y).setCell ⟨g, 2, none⟩ z).heap[g]? = some (.cells #[x, y, z] t (0, 0)) ∧ (∀ k, k ≠ g → (((w1.setCell ⟨g, 0, none⟩ x).setCell ⟨g, 1, none⟩ y).setCell ⟨g, 2, none⟩ z).heap[k]? = w1.heap[k]?) ∧ (((w1.setCell ⟨g, 0, none⟩ x).setCell ⟨g, 1, none⟩ y).setCell ⟨g, 2, none⟩ z).heap.size = w1.heap.size :=
  ⟨blk_put (cs := #[x, y, c]) (blk_put (cs := #[x, b, c]) (blk_put (cs := #[a, b, c]) h 0 _ rfl) 1 _ rfl) 2 _ rfl,
   fun k hk => (Below.heap_setCell _ ⟨g, 2, none⟩ z k hk).trans ((Below.heap_setCell _ ⟨g, 1, none⟩ y k hk).trans (Below.heap_setCell _ ⟨g, 0, none⟩ x k hk)), by simp [World.setCell]⟩
theorem own_other {α : Type} {d : Kd α} {e base t : Nat} {w : World} {ok : Nat → Prop} {v : Value} {xs : List α} {g : Nat} {cs : Array Value} (h : Kd.R d e w base ok v xs) (hg : w.heap[g]? = some (.cells cs t (0, 0))) (hne : e ≠ t) : some g ≠ v.ownBlock := fun he => by
  obtain ⟨cells, hc⟩ := Kd.R_typed h g he.symm
  rw [hg] at hc
  injection hc with hc
  injection hc with _ hc
  exact hne hc.symm
theorem R_but {α : Type} {d : Kd α} {e base t : Nat} {w w1 : World} {v : Value} {xs : List α} {g : Nat} {cs : Array Value} (h : Kd.R d e w base (fun _ => True) v xs) (hg : w.heap[g]? = some (.cells cs t (0, 0))) (ht : ∀ q, q ∈ e :: d.E → q ≠ t) (hk : ∀ k, k ≠ g → w1.heap[k]? = w.heap[k]?) : Kd.R d e w1 base (fun _ => True) v xs :=
  Kd.R_mono (Kd.R_step (Kd.R_types h hg ht) (fun k ho _ => hk k ho.2)) (fun _ _ => trivial)
set_option maxHeartbeats 4000000 in
set_option maxRecDepth 100000 in
theorem feed_end (base gS gO : Nat) (vo : Value) (A : Option Addr) (c : Nat) (word : List Int) (m lg : Bool) (out : List ByteArray) (w : World)
    (hS : w.heap[gS]? = some (.cells #[.slice A word.length c, .bool m, .bool lg] 63 (0, 0))) (hO : w.heap[gO]? = some (.cells #[vo] 42 (0, 0)))
    (hW : Kd.C (Kd.int .i32) w A word.length word) (hc : word.length ≤ c) (hR : Kd.R Kd.string 9 w base (fun _ => True) vo out) (hb : base ≤ w.heap.size) (h1 : gS < base) (h2 : gO < base) (hlen : out.length ≤ 1000000000) :
    Calls Try.prog 27 #[.pointer (some ⟨gS, 0, none⟩), .pointer (some ⟨gO, 0, none⟩)] w fun e w' => e = .returned (.tuple #[]) ∧ ∃ vo', w'.heap[gS]? = some (.cells #[.slice none 0 0, .bool false, .bool false] 63 (0, 0)) ∧ w'.heap[gO]? = some (.cells #[vo'] 42 (0, 0)) ∧ Kd.R Kd.string 9 w' base (fun _ => True) vo' (out ++ wOuts word lg) ∧ Two base gS gO w w' := by
  have hne : gS ≠ gO := blk_ne hS hO (by decide)
  have hf : words_State_word.f word m lg = some (runesBytes word, decide (0 < word.length) && !lg) := by
    unfold words_State_word.f
    by_cases h : 0 < word.length
    · rw [if_pos (by omega)]; simp [h]
    · rw [if_neg (by omega)]; simp [h]
  have c0 : w.cell? ⟨gS, 0, none⟩ = some (.slice A word.length c) := (blk_cell hS 0).trans rfl
  have c1 : w.cell? ⟨gS, 1, none⟩ = some (.bool m) := (blk_cell hS 1).trans rfl
  have c2 : w.cell? ⟨gS, 2, none⟩ = some (.bool lg) := (blk_cell hS 2).trans rfl
  obtain ⟨ok, hok⟩ : ∃ ok, ok = (decide (0 < word.length) && !lg) := ⟨_, rfl⟩
  obtain ⟨bs, hbs⟩ : ∃ bs, bs = runesBytes word := ⟨_, rfl⟩
  have hws : wOuts word lg = if ok = true then [bs] else [] := by
    rw [hok, hbs]; unfold wOuts
    by_cases h : 0 < word.length <;> cases lg <;> simp [h]
  rw [← hok, ← hbs] at hf
  rw [hws]
  have HS := Aside0.mk hS; have HO := Aside0.mk hO; have HW := Aside0.mk hW; have HC := Aside0.mk hc; have HR := Aside0.mk hR; have HB := Aside0.mk hb; have H1 := Aside0.mk h1; have H2 := Aside0.mk h2; have HN := Aside0.mk hne; have HL := Aside0.mk hlen
  clear hS hO hW hc hR hb h1 h2 hok hbs hws hlen hne
  go_enter Try.func27, Try.ntmps27
  go_wp2_with (go_at_call 28; (with_reducible refine (words_State_word.calls A c word m lg bs ok _ HW.out HC.out hf).mono ?_))
  rintro e w1 ⟨rfl, hb1⟩
  have HS1 := Aside0.mk (blk_below HS.out hb1); have HO1 := Aside0.mk (blk_below HO.out hb1); have HR1 := Aside0.mk (Kd.R_below HR.out hb1); have HT1 := Aside0.mk (Two.of_below (gS := gS) (gO := gO) (hb1.mono HB.out)); have HB1 := Aside0.mk (Nat.le_trans HB.out hb1.size)
  clear hb1 c0 c1 c2 hf HW HC HS HO HR
  have hnb := HN.out
  have hnc := Ne.symm HN.out
  have d0 : w1.cell? ⟨gO, 0, none⟩ = some vo := (blk_cell HO1.out 0).trans rfl
  have c0 : w1.cell? ⟨gS, 0, none⟩ = some (.slice A word.length c) := (blk_cell HS1.out 0).trans rfl
  have c1 : w1.cell? ⟨gS, 1, none⟩ = some (.bool m) := (blk_cell HS1.out 1).trans rfl
  have c2 : w1.cell? ⟨gS, 2, none⟩ = some (.bool lg) := (blk_cell HS1.out 2).trans rfl
  have f0 := blk_frozen HS1.out 0
  have f1 := blk_frozen HS1.out 1
  have f2 := blk_frozen HS1.out 2
  have g0 := blk_frozen HO1.out 0
  cases ok with
  | false =>
    go_wp2
    go_end0
    obtain ⟨k1, k2, k3⟩ := set3 (.slice none 0 0) (.bool false) (.bool false) HS1.out
    exact ⟨rfl, k1, vo, (k2 _ hnc).trans HO1.out, by simpa using R_but HR1.out HS1.out (by decide) k2, ((HT1.out.setS 0 _).setS 1 _).setS 2 _⟩
  | true =>
    go_wp2_with ((with_reducible refine gate_builtin (b := .append) (xs := #[.tmp 10, .tmp 12]) rfl ?_); at_builtin; refine Kd.R_append (Kd.string) (w0 := w1) base rfl (.tmp 10) (.tmp 12) 42 9 (.string ⟨#[]⟩) 16 rfl Try.underlying42 info9 rfl (by decide) (by omega) vo out bs [.string bs] (fun _ => True) (fun _ => False) rfl rfl rfl (fun _ hk => hk.elim) (fun _ _ => trivial) HR1.out (Below.refl _ _) HB1.out (by have := HL.out; omega) ?_)
    intro v2 w2 hR2 hb2 hg2 hat2
    have HS2 := Aside0.mk (blk_grown HS1.out hg2 (own_other HR1.out HS1.out (by decide)))
    have HO2 := Aside0.mk (blk_grown HO1.out hg2 (own_other HR1.out HO1.out (by decide)))
    obtain ⟨out2, ho2⟩ : ∃ l, l = out ++ [bs] := ⟨_, rfl⟩
    rw [← ho2] at hR2
    have HO22 := Aside0.mk ho2
    clear ho2
    have HR2 := Aside0.mk hR2
    have HT2 := Aside0.mk (HT1.out.trans (Two.of_below hb2))
    clear hR2 hb2 hg2 hat2 d0 c0 c1 c2 f0 f1 f2 g0
    have d0 : w2.cell? ⟨gO, 0, none⟩ = some vo := (blk_cell HO2.out 0).trans rfl
    have c0 : w2.cell? ⟨gS, 0, none⟩ = some (.slice A word.length c) := (blk_cell HS2.out 0).trans rfl
    have c1 : w2.cell? ⟨gS, 1, none⟩ = some (.bool m) := (blk_cell HS2.out 1).trans rfl
    have c2 : w2.cell? ⟨gS, 2, none⟩ = some (.bool lg) := (blk_cell HS2.out 2).trans rfl
    have f0 := blk_frozen HS2.out 0
    have f1 := blk_frozen HS2.out 1
    have f2 := blk_frozen HS2.out 2
    have g0 := blk_frozen HO2.out 0
    obtain ⟨A2, c22, rfl⟩ := Kd.R_slice HR2.out
    go_wp2
    go_end0
    have HS3 := blk_far (p := ⟨gO, 0, none⟩) HS2.out hnb (.slice A2 out2.length c22)
    obtain ⟨k1, k2, k3⟩ := set3 (.slice none 0 0) (.bool false) (.bool false) HS3
    have hR3 := R_but (w1 := w2.setCell ⟨gO, 0, none⟩ (.slice A2 out2.length c22)) HR2.out HO2.out (by decide) (fun k hk => Below.heap_setCell w2 ⟨gO, 0, none⟩ _ k hk)
    exact ⟨rfl, k1, _, (k2 _ hnc).trans (blk_put HO2.out 0 _ rfl), by rw [← HO22.out]; exact R_but hR3 HS3 (by decide) k2, (((HT2.out.setO 0 _).setS 0 _).setS 1 _).setS 2 _⟩
theorem foldl_take (l : List Int) (s : WS) (i : Nat) (h : i < l.length) : (l.take (i + 1)).foldl wStep s = wStep ((l.take i).foldl wStep s) l[i] := by
  rw [List.take_succ_eq_append_getElem h, List.foldl_append]; rfl
theorem wLet_le (w : List Int) (m lg : Bool) (c : Int) : (wLet w m lg c).1.length ≤ 32 := by
  unfold wLet
  generalize (w ++ (if m = true then [39] else []) ++ [foldZ c]) = n
  by_cases h1 : lg = true
  · rw [if_pos h1]; exact Nat.zero_le _
  · rw [if_neg h1]
    by_cases h2 : 32 < n.length
    · rw [if_pos h2]; exact Nat.zero_le _
    · rw [if_neg h2]; exact Nat.le_of_not_lt h2
theorem wOuts_le (w : List Int) (lg : Bool) : (wOuts w lg).length ≤ 1 := by
  unfold wOuts; split <;> simp
set_option maxHeartbeats 8000000 in
set_option maxRecDepth 100000 in
theorem words_Feed.calls (A0 : Option Addr) (c0_ : Nat) (l0 : List Int) (m0 lg0 : Bool) (A1 : Option Addr) (c1_ : Nat) (l1 : List Int) (r1 : List ByteArray) (r2 : List Int) (r3 r4 : Bool) (w : World) (hr0 : Kd.C (Kd.int .i32) w A0 l0.length l0) (hc0 : l0.length ≤ c0_) (hr1 : Kd.C (Kd.int .i32) w A1 l1.length l1) (hc1 : l1.length ≤ c1_) (h : words_Feed.f l0 m0 lg0 l1 = some (r1, r2, r3, r4)) :
    Calls Try.prog 22 #[.agg #[.slice A0 l0.length c0_, .bool m0, .bool lg0], .slice A1 l1.length c1_] w fun e w' => ∃ v0_ v1_ : Value, e = .returned (.tuple #[v0_, .agg #[v1_, .bool r3, .bool r4]]) ∧ Kd.R Kd.string 9 w' w.heap.size (fun _ => True) v0_ r1 ∧ Kd.R (Kd.int .i32) 21 w' w.heap.size (fun _ => True) v1_ r2 ∧ Below w.heap.size w w' := by
  have hu := Try.underlying63
  have hlen : l0.length ≤ 1000000 ∧ l1.length ≤ 100000000 := by
    unfold words_Feed.f at h; split at h
    · assumption
    · cases h
  have hr : l1.foldl wStep ([], l0, m0, lg0) = (r1, r2, r3, r4) := by
    unfold words_Feed.f at h; rw [if_pos hlen] at h; exact Option.some.inj h
  clear h
  have HR := Aside0.mk hr; have HL0 := Aside0.mk hlen.1; have HL1 := Aside0.mk hlen.2; have HC0 := Aside0.mk hr0; have HC1 := Aside0.mk hr1; have HK0 := Aside0.mk hc0; have HK1 := Aside0.mk hc1
  have hcl : slices_Clone_rune_rune.f l0 = some l0 := if_pos (by have := hlen.1; omega)
  clear hr hlen hr0 hr1 hc0 hc1
  go_enter Try.func22, Try.ntmps22
  go_wp2_with (first | ((with_reducible refine gate_dst (N := 2) rfl ?_); refine box_event ?hg (N := 2) ?hd (cs := #[.slice A0 l0.length c0_, .bool m0, .bool lg0]) (t := 63) ?hr ?_; (case hd => rfl); (case hg => rfl); (case hr => first | (go_simp; done) | (go_simp; rfl)); intro gS hgS w1 hS1 hb1; have HS1 := Aside0.mk hS1; have HB1 := Aside0.mk hb1; have GS := Aside0.mk hgS; clear hS1 hb1 hgS) | ((with_reducible refine gate_dst (N := 5) rfl ?_); refine box_event ?hg (N := 5) ?hd (cs := #[.slice none 0 0, .bool false, .bool false]) (t := 63) ?hr ?_; (case hd => rfl); (case hg => rfl); (case hr => first | (go_simp; done) | (go_simp; rfl)); intro gR hgR w2 hG2 hb2; have HG2 := Aside0.mk hG2; have HS2 := Aside0.mk (blk_below HS1.out hb2); have HB2 := Aside0.mk (below_step HB1.out hb2); have HZ2 := Aside0.mk (blk_lt HS1.out); have GR := Aside0.mk hgR; clear HS1 HB1 hG2 hb2 hgR) | ((with_reducible refine gate_dst (N := 6) rfl ?_); refine box_event ?hg (N := 6) ?hd (cs := #[.slice none 0 0]) (t := 42) ?hr ?_; (case hd => rfl); (case hg => rfl); (case hr => first | (go_simp; done) | (go_simp; rfl)); intro gO hgO w3 hO3 hb3; have HO3 := Aside0.mk hO3; have HS3 := Aside0.mk (blk_below HS2.out hb3); have HG3 := Aside0.mk (blk_below HG2.out hb3); have HB3 := Aside0.mk (below_step HB2.out hb3); have HCON := Aside0.mk (show gS < gR ∧ gR < gO ∧ gO < w3.heap.size ∧ w.heap.size ≤ gS from ⟨by rw [GR.out]; exact HZ2.out, by rw [hgO]; exact blk_lt HG2.out, blk_lt hO3, by rw [GS.out]; exact Nat.le_refl _⟩); have c0 : w3.cell? ⟨gS, 0, none⟩ = some (.slice A0 l0.length c0_) := (blk_cell HS3.out 0).trans rfl; have f0 := blk_frozen HS3.out 0; have HCC := Aside0.mk (Kd.C_below HC0.out HB3.out); clear HS2 HG2 HB2 HZ2 GS GR hO3 hb3 hgO) | (go_at_call 29; (with_reducible refine (slices_Clone_rune_rune.calls A0 c0_ l0 l0 _ HCC.out HK0.out hcl).mono ?_); rintro e w4 ⟨v4, rfl, hR4, hb4⟩; obtain ⟨A4, cc4, rfl⟩ := Kd.R_slice hR4; have HS4 := Aside0.mk (blk_below HS3.out hb4); have HG4 := Aside0.mk (blk_below HG3.out hb4); have HO4 := Aside0.mk (blk_below HO3.out hb4); have HB4 := Aside0.mk (below_step HB3.out hb4); have RW4 := Aside0.mk hR4; have HZ4 := Aside0.mk hb4.size; clear c0 f0 HCC hR4 hb4 HS3 HG3 HO3 HB3; have c0 : w4.cell? ⟨gS, 0, none⟩ = some (.slice A0 l0.length c0_) := (blk_cell HS4.out 0).trans rfl; have f0 := blk_frozen HS4.out 0))
  have HS5 := Aside0.mk (blk_put (cs' := #[.slice A4 l0.length cc4, .bool m0, .bool lg0]) HS4.out 0 (.slice A4 l0.length cc4) rfl)
  have k5 : ∀ k, k ≠ gS → (w4.setCell ⟨gS, 0, none⟩ (.slice A4 l0.length cc4)).heap[k]? = w4.heap[k]? := fun k hk => Below.heap_setCell w4 ⟨gS, 0, none⟩ _ k hk
  have HG5 := Aside0.mk ((k5 gR (by have := HCON.out; omega)).trans HG4.out)
  have HO5 := Aside0.mk ((k5 gO (by have := HCON.out; omega)).trans HO4.out)
  have RW5 := Aside0.mk (R_but RW4.out HS4.out (by decide) k5)
  have HB5 := Aside0.mk (below_set (j := 0) (v := .slice A4 l0.length cc4) HB4.out HCON.out.2.2.2)
  have HZ5 := Aside0.mk (show w3.heap.size ≤ (w4.setCell ⟨gS, 0, none⟩ (.slice A4 l0.length cc4)).heap.size by have := HZ4.out; simpa [World.setCell] using this)
  clear k5 HS4 HG4 HO4 RW4 HB4 HZ4 c0 f0 hcl
  generalize w4.setCell ⟨gS, 0, none⟩ (.slice A4 l0.length cc4) = w5 at HS5 HG5 HO5 RW5 HB5 HZ5 ⊢
  obtain ⟨base, hbase⟩ : ∃ base, base = w3.heap.size := ⟨_, rfl⟩
  rw [← hbase] at RW5 HZ5 HCON
  clear hbase
  go_loopg [17] l1.length (fun gg v17 wr => ∃ (i : Nat) (Aw : Option Addr) (cw : Nat) (Ao : Option Addr) (co : Nat) (word : List Int) (m lg : Bool) (out : List ByteArray), i ≤ l1.length ∧ l1.length - i ≤ gg ∧ v17 = .int .i64 i ∧ Aside0 ((l1.take i).foldl wStep ([], l0, m0, lg0) = (out, word, m, lg)) ∧ Aside0 (wr.heap[gS]? = some (.cells #[.slice Aw word.length cw, .bool m, .bool lg] 63 (0, 0))) ∧ Aside0 (wr.heap[gR]? = some (.cells #[.slice none 0 0, .bool false, .bool false] 63 (0, 0))) ∧ Aside0 (wr.heap[gO]? = some (.cells #[.slice Ao out.length co] 42 (0, 0))) ∧ Aside0 (Kd.R (Kd.int .i32) 21 wr base (fun _ => True) (.slice Aw word.length cw) word) ∧ Aside0 (Kd.R Kd.string 9 wr base (fun _ => True) (.slice Ao out.length co) out) ∧ Aside0 (Below w.heap.size w wr) ∧ Aside0 (base ≤ wr.heap.size) ∧ Aside0 (word.length ≤ 1000000) ∧ Aside0 (out.length ≤ i))
  case atStart => exact ⟨0, A4, cc4, none, 0, l0, m0, lg0, [], Nat.zero_le _, by omega, rfl, ⟨by rfl⟩, HS5, HG5, HO5, RW5, ⟨Kd.R_nil _ _ _ _ _⟩, HB5, HZ5, HL0, ⟨Nat.zero_le _⟩⟩
  case round =>
    obtain ⟨i, Aw, cw, Ao, co, word, m, lg, out, hi, hg, rfl, HF, HS, HG, HO, RW, RO, HB, HZ, HWL, HOL⟩ := hrel
    by_cases hlt : i < l1.length
    · -- ROUNDS
      have hltz : (i : Int) < (l1.length : Int) := by omega
      obtain ⟨ad, ead, hcell⟩ := Kd.at_int (Kd.C_below HC1.out HB.out) (i : Int) (by omega) hltz
      subst ead
      obtain ⟨x, hx⟩ : ∃ x, x = rd l1 (i : Int) := ⟨_, rfl⟩
      rw [← hx, Int.toNat_natCast] at hcell
      have hxi : x = l1[i] := by rw [hx, rd_nat, List.getD_eq_getElem?_getD, List.getElem?_eq_getElem hlt]; rfl
      have HST := Aside0.mk (show (l1.take (i + 1)).foldl wStep ([], l0, m0, lg0) = wStep (out, word, m, lg) x from by rw [foldl_take _ _ _ hlt, HF.out, hxi])
      clear hx hxi HF
      have HLT := Aside0.mk hlt; have HI := Aside0.mk hi; have HGK := Aside0.mk hg
      clear hlt hi hg
      by_cases hL : isLetter x = true
      · have hLf : fold_Letter.f x = some true := congrArg some hL
        obtain ⟨nw, nm, nlg, hnw⟩ : ∃ nw nm nlg, wLet word m lg x = (nw, nm, nlg) := ⟨_, _, _, rfl⟩
        have hlet : words_State_letter.f 20 word m lg x = some (nw, nm, nlg) := by rw [letter_of 20 (by decide) _ _ _ _ HWL.out, hnw]
        have HST2 := Aside0.mk (show (l1.take (i + 1)).foldl wStep ([], l0, m0, lg0) = (out, nw, nm, nlg) from by rw [HST.out]; unfold wStep; rw [if_pos hL]; simp only [hnw])
        have HNL := Aside0.mk (show nw.length ≤ 1000000 from by have := wLet_le word m lg x; rw [hnw] at this; simp only at this; omega)
        clear hnw HST hL
        go_wp2_with (go_at_call 30; (with_reducible refine (fold_Letter.calls x true _ hLf).mono ?_))
        (first | rintro e W1 rfl hb1 | rintro e W1 ⟨rfl, hb1⟩)
        have HS1 := Aside0.mk (blk_below HS.out hb1)
        have HG1 := Aside0.mk (blk_below HG.out hb1)
        have HO1 := Aside0.mk (blk_below HO.out hb1)
        have RW1 := Aside0.mk (Kd.R_below RW.out hb1)
        have RO1 := Aside0.mk (Kd.R_below RO.out hb1)
        have HB1 := Aside0.mk (below_step HB.out hb1)
        have HZ1 := Aside0.mk (Nat.le_trans HZ.out hb1.size)
        clear HS HG HO RW RO HB HZ hb1
        clear hcell hLf
        have c0 : W1.cell? ⟨gS, 0, none⟩ = some (.slice Aw word.length cw) := (blk_cell HS1.out 0).trans rfl
        have c1 : W1.cell? ⟨gS, 1, none⟩ = some (.bool m) := (blk_cell HS1.out 1).trans rfl
        have c2 : W1.cell? ⟨gS, 2, none⟩ = some (.bool lg) := (blk_cell HS1.out 2).trans rfl
        have f0 := blk_frozen HS1.out 0
        have f1 := blk_frozen HS1.out 1
        have f2 := blk_frozen HS1.out 2
        have hcw := (Kd.R_reads' RW1.out).2.1
        have hC := (Kd.R_reads' RW1.out).2.2
        have HCW := Aside0.mk hcw; have HCC := Aside0.mk hC; clear hcw hC
        go_wp2_with (go_at_call 31; (with_reducible refine (words_State_letter.calls 20 Aw cw word m lg x nw nm nlg _ HCC.out HCW.out hlet).mono ?_))
        (first | rintro e W2 v2 rfl hR2 hb2 | rintro e W2 ⟨v2, rfl, hR2, hb2⟩)
        obtain ⟨A2, cc2, rfl⟩ := Kd.R_slice hR2
        have RN2 := Aside0.mk (Kd.R_lower hR2 HZ1.out)
        clear hR2 c0 c1 c2 f0 f1 f2 hlet HCW HCC
        have HS2 := Aside0.mk (blk_below HS1.out hb2)
        have HG2 := Aside0.mk (blk_below HG1.out hb2)
        have HO2 := Aside0.mk (blk_below HO1.out hb2)
        have RW2 := Aside0.mk (Kd.R_below RW1.out hb2)
        have RO2 := Aside0.mk (Kd.R_below RO1.out hb2)
        have HB2 := Aside0.mk (below_step HB1.out hb2)
        have HZ2 := Aside0.mk (Nat.le_trans HZ1.out hb2.size)
        clear HS1 HG1 HO1 RW1 RO1 HB1 HZ1 hb2
        have c0 : W2.cell? ⟨gS, 0, none⟩ = some (.slice Aw word.length cw) := (blk_cell HS2.out 0).trans rfl
        have c1 : W2.cell? ⟨gS, 1, none⟩ = some (.bool m) := (blk_cell HS2.out 1).trans rfl
        have c2 : W2.cell? ⟨gS, 2, none⟩ = some (.bool lg) := (blk_cell HS2.out 2).trans rfl
        have f0 := blk_frozen HS2.out 0
        have f1 := blk_frozen HS2.out 1
        have f2 := blk_frozen HS2.out 2
        go_wp2
        obtain ⟨k1, k2, k3⟩ := set3 (.slice A2 nw.length cc2) (.bool nm) (.bool nlg) HS2.out
        have hne := HCON.out
        go_roundg (l1.length - (i + 1))
        case measure => have := HLT.out; have := HGK.out; omega
        case rel =>
          refine ⟨i + 1, A2, cc2, Ao, co, nw, nm, nlg, out, by have := HLT.out; omega, by omega, by have h1 := HLT.out; have h2 := HL1.out; exact congrArg (Value.int .i64) (by unfold wrap64; omega), HST2, ⟨k1⟩, ⟨(k2 gR (by omega)).trans HG2.out⟩, ⟨(k2 gO (by omega)).trans HO2.out⟩, ⟨R_but RN2.out HS2.out (by decide) k2⟩, ⟨R_but RO2.out HS2.out (by decide) k2⟩, ⟨below_set (below_set (below_set HB2.out hne.2.2.2) hne.2.2.2) hne.2.2.2⟩, ⟨by rw [k3]; exact HZ2.out⟩, HNL, ⟨by have := HOL.out; omega⟩⟩
      · have hLf : fold_Letter.f x = some false := congrArg some (Bool.eq_false_iff.2 hL)
        by_cases hM : x = 39 ∨ x = 8217
        · have hMf : fold_Mark.f x = some true := by unfold fold_Mark.f; rcases hM with rfl | rfl <;> rfl
          have honf : words_State_on.f word m lg = some (decide (0 < word.length) || lg) := by unfold words_State_on.f; by_cases h : 0 < word.length <;> simp [h]
          obtain ⟨on, hon⟩ : ∃ on, on = (decide (0 < word.length) || lg) := ⟨_, rfl⟩
          rw [← hon] at honf
          by_cases hgo : on = true ∧ m = false
          · have HST2 := Aside0.mk (show (l1.take (i + 1)).foldl wStep ([], l0, m0, lg0) = (out, word, true, lg) from by
              rw [HST.out]; unfold wStep; rw [if_neg hL, if_pos ⟨hM, by have := hgo.1; rw [hon] at this; simpa using this, hgo.2⟩])
            obtain ⟨rfl, rfl⟩ := hgo
            clear hon HST hL hM
            go_wp2_with (go_at_call 30; (with_reducible refine (fold_Letter.calls x false _ hLf).mono ?_))
            (first | rintro e W1 rfl hb1 | rintro e W1 ⟨rfl, hb1⟩)
            have HS1 := Aside0.mk (blk_below HS.out hb1)
            have HG1 := Aside0.mk (blk_below HG.out hb1)
            have HO1 := Aside0.mk (blk_below HO.out hb1)
            have RW1 := Aside0.mk (Kd.R_below RW.out hb1)
            have RO1 := Aside0.mk (Kd.R_below RO.out hb1)
            have HB1 := Aside0.mk (below_step HB.out hb1)
            have HZ1 := Aside0.mk (Nat.le_trans HZ.out hb1.size)
            clear HS HG HO RW RO HB HZ hb1
            clear hcell hLf
            have c0 : W1.cell? ⟨gS, 0, none⟩ = some (.slice Aw word.length cw) := (blk_cell HS1.out 0).trans rfl
            have c1 : W1.cell? ⟨gS, 1, none⟩ = some (.bool false) := (blk_cell HS1.out 1).trans rfl
            have c2 : W1.cell? ⟨gS, 2, none⟩ = some (.bool lg) := (blk_cell HS1.out 2).trans rfl
            have f0 := blk_frozen HS1.out 0
            have f1 := blk_frozen HS1.out 1
            have f2 := blk_frozen HS1.out 2
            go_wp2_with (go_at_call 32; (with_reducible refine (fold_Mark.calls x true _ hMf).mono ?_); rintro e W2_ ⟨rfl, ⟨nd, rfl⟩⟩; have hb2 : Below W1.heap.size W1 (W1.drewN nd) := pw_below_drewN (Below.refl _ _) nd; have HS2 := Aside0.mk (blk_below HS1.out hb2); have HG2 := Aside0.mk (blk_below HG1.out hb2); have HO2 := Aside0.mk (blk_below HO1.out hb2); have RW2 := Aside0.mk (Kd.R_below RW1.out hb2); have RO2 := Aside0.mk (Kd.R_below RO1.out hb2); have HB2 := Aside0.mk (below_step HB1.out hb2); have HZ2 := Aside0.mk (Nat.le_trans HZ1.out hb2.size); clear HS1 HG1 HO1 RW1 RO1 HB1 HZ1 hb2; clear c0 c1 c2 f0 f1 f2; generalize W1.drewN nd = W2 at HS2 HG2 HO2 RW2 RO2 HB2 HZ2 ⊢; have c0 : W2.cell? ⟨gS, 0, none⟩ = some (.slice Aw word.length cw) := (blk_cell HS2.out 0).trans rfl; have c1 : W2.cell? ⟨gS, 1, none⟩ = some (.bool false) := (blk_cell HS2.out 1).trans rfl; have c2 : W2.cell? ⟨gS, 2, none⟩ = some (.bool lg) := (blk_cell HS2.out 2).trans rfl; have f0 := blk_frozen HS2.out 0; have f1 := blk_frozen HS2.out 1; have f2 := blk_frozen HS2.out 2)
            have HCW := Aside0.mk (Kd.R_reads' RW2.out).2.1; have HCC := Aside0.mk (Kd.R_reads' RW2.out).2.2
            go_wp2_with (go_at_call 33; (with_reducible refine (words_State_on.calls Aw cw word false lg true _ HCC.out HCW.out honf).mono ?_); rintro e W3 ⟨rfl, hb3⟩; have HS3 := Aside0.mk (blk_below HS2.out hb3); have HG3 := Aside0.mk (blk_below HG2.out hb3); have HO3 := Aside0.mk (blk_below HO2.out hb3); have RW3 := Aside0.mk (Kd.R_below RW2.out hb3); have RO3 := Aside0.mk (Kd.R_below RO2.out hb3); have HB3 := Aside0.mk (below_step HB2.out hb3); have HZ3 := Aside0.mk (Nat.le_trans HZ2.out hb3.size); clear HS2 HG2 HO2 RW2 RO2 HB2 HZ2 hb3; clear c0 c1 c2 f0 f1 f2 HCC HCW; have c0 : W3.cell? ⟨gS, 0, none⟩ = some (.slice Aw word.length cw) := (blk_cell HS3.out 0).trans rfl; have c1 : W3.cell? ⟨gS, 1, none⟩ = some (.bool false) := (blk_cell HS3.out 1).trans rfl; have c2 : W3.cell? ⟨gS, 2, none⟩ = some (.bool lg) := (blk_cell HS3.out 2).trans rfl; have f0 := blk_frozen HS3.out 0; have f1 := blk_frozen HS3.out 1; have f2 := blk_frozen HS3.out 2)
            have hne := HCON.out
            have kk : ∀ k, k ≠ gS → (W3.setCell ⟨gS, 1, none⟩ (.bool true)).heap[k]? = W3.heap[k]? := fun k hk => Below.heap_setCell W3 ⟨gS, 1, none⟩ _ k hk
            go_roundg (l1.length - (i + 1))
            case measure => have := HLT.out; have := HGK.out; omega
            case rel =>
              refine ⟨i + 1, Aw, cw, Ao, co, word, true, lg, out, by have := HLT.out; omega, by omega, by have h1 := HLT.out; have h2 := HL1.out; exact congrArg (Value.int .i64) (by unfold wrap64; omega), HST2, ⟨blk_put HS3.out 1 _ rfl⟩, ⟨(kk gR (by omega)).trans HG3.out⟩, ⟨(kk gO (by omega)).trans HO3.out⟩, ⟨R_but RW3.out HS3.out (by decide) kk⟩, ⟨R_but RO3.out HS3.out (by decide) kk⟩, ⟨below_set HB3.out hne.2.2.2⟩, ⟨by have := HZ3.out; simpa [World.setCell] using this⟩, HWL, ⟨by have := HOL.out; omega⟩⟩
          · have HST2 := Aside0.mk (show (l1.take (i + 1)).foldl wStep ([], l0, m0, lg0) = (out ++ wOuts word lg, [], false, false) from by
              rw [HST.out]; unfold wStep; rw [if_neg hL, if_neg (fun h => hgo ⟨by rw [hon]; have := h.2.1; simpa using this, h.2.2⟩)])
            clear HST hL hM
            cases on with
            | false =>
              clear hon hgo
              go_wp2_with (go_at_call 30; (with_reducible refine (fold_Letter.calls x false _ hLf).mono ?_))
              (first | rintro e W1 rfl hb1 | rintro e W1 ⟨rfl, hb1⟩)
              have HS1 := Aside0.mk (blk_below HS.out hb1)
              have HG1 := Aside0.mk (blk_below HG.out hb1)
              have HO1 := Aside0.mk (blk_below HO.out hb1)
              have RW1 := Aside0.mk (Kd.R_below RW.out hb1)
              have RO1 := Aside0.mk (Kd.R_below RO.out hb1)
              have HB1 := Aside0.mk (below_step HB.out hb1)
              have HZ1 := Aside0.mk (Nat.le_trans HZ.out hb1.size)
              clear HS HG HO RW RO HB HZ hb1
              clear hcell hLf
              have c0 : W1.cell? ⟨gS, 0, none⟩ = some (.slice Aw word.length cw) := (blk_cell HS1.out 0).trans rfl
              have c1 : W1.cell? ⟨gS, 1, none⟩ = some (.bool m) := (blk_cell HS1.out 1).trans rfl
              have c2 : W1.cell? ⟨gS, 2, none⟩ = some (.bool lg) := (blk_cell HS1.out 2).trans rfl
              have f0 := blk_frozen HS1.out 0
              have f1 := blk_frozen HS1.out 1
              have f2 := blk_frozen HS1.out 2
              go_wp2_with (go_at_call 32; (with_reducible refine (fold_Mark.calls x true _ hMf).mono ?_); rintro e W2_ ⟨rfl, ⟨nd, rfl⟩⟩; have hb2 : Below W1.heap.size W1 (W1.drewN nd) := pw_below_drewN (Below.refl _ _) nd; have HS2 := Aside0.mk (blk_below HS1.out hb2); have HG2 := Aside0.mk (blk_below HG1.out hb2); have HO2 := Aside0.mk (blk_below HO1.out hb2); have RW2 := Aside0.mk (Kd.R_below RW1.out hb2); have RO2 := Aside0.mk (Kd.R_below RO1.out hb2); have HB2 := Aside0.mk (below_step HB1.out hb2); have HZ2 := Aside0.mk (Nat.le_trans HZ1.out hb2.size); clear HS1 HG1 HO1 RW1 RO1 HB1 HZ1 hb2; clear c0 c1 c2 f0 f1 f2; generalize W1.drewN nd = W2 at HS2 HG2 HO2 RW2 RO2 HB2 HZ2 ⊢; have c0 : W2.cell? ⟨gS, 0, none⟩ = some (.slice Aw word.length cw) := (blk_cell HS2.out 0).trans rfl; have c1 : W2.cell? ⟨gS, 1, none⟩ = some (.bool m) := (blk_cell HS2.out 1).trans rfl; have c2 : W2.cell? ⟨gS, 2, none⟩ = some (.bool lg) := (blk_cell HS2.out 2).trans rfl; have f0 := blk_frozen HS2.out 0; have f1 := blk_frozen HS2.out 1; have f2 := blk_frozen HS2.out 2)
              have HCW := Aside0.mk (Kd.R_reads' RW2.out).2.1; have HCC := Aside0.mk (Kd.R_reads' RW2.out).2.2
              go_wp2_with (go_at_call 33; (with_reducible refine (words_State_on.calls Aw cw word m lg false _ HCC.out HCW.out honf).mono ?_); rintro e W3 ⟨rfl, hb3⟩; have HS3 := Aside0.mk (blk_below HS2.out hb3); have HG3 := Aside0.mk (blk_below HG2.out hb3); have HO3 := Aside0.mk (blk_below HO2.out hb3); have RW3 := Aside0.mk (Kd.R_below RW2.out hb3); have RO3 := Aside0.mk (Kd.R_below RO2.out hb3); have HB3 := Aside0.mk (below_step HB2.out hb3); have HZ3 := Aside0.mk (Nat.le_trans HZ2.out hb3.size); clear HS2 HG2 HO2 RW2 RO2 HB2 HZ2 hb3; clear c0 c1 c2 f0 f1 f2 HCC HCW; have c0 : W3.cell? ⟨gS, 0, none⟩ = some (.slice Aw word.length cw) := (blk_cell HS3.out 0).trans rfl; have c1 : W3.cell? ⟨gS, 1, none⟩ = some (.bool m) := (blk_cell HS3.out 1).trans rfl; have c2 : W3.cell? ⟨gS, 2, none⟩ = some (.bool lg) := (blk_cell HS3.out 2).trans rfl; have f0 := blk_frozen HS3.out 0; have f1 := blk_frozen HS3.out 1; have f2 := blk_frozen HS3.out 2)
              have hend := feed_end base gS gO (.slice Ao out.length co) Aw cw word m lg out W3 HS3.out HO3.out (Kd.R_reads' RW3.out).2.2 (Kd.R_reads' RW3.out).2.1 RO3.out HZ3.out (by have := HCON.out; omega) (by have := HCON.out; omega) (by have := HOL.out; have := HLT.out; have := HL1.out; omega)
              go_wp2_with (go_at_call 27; (with_reducible refine hend.mono ?_))
              (first | rintro e W4 rfl vo' hS4 hO4 hR4 hT4 | rintro e W4 rfl hS4 vo' hO4 hR4 hT4 | rintro e W4 ⟨rfl, vo', hS4, hO4, hR4, hT4⟩)
              obtain ⟨A4, cc4, rfl⟩ := Kd.R_slice hR4
              go_wp2
              go_roundg (l1.length - (i + 1))
              case measure => have := HLT.out; have := HGK.out; omega
              case rel =>
                have hne := HCON.out
                refine ⟨i + 1, none, 0, A4, cc4, [], false, false, out ++ wOuts word lg, by have := HLT.out; omega, by omega, by have h1 := HLT.out; have h2 := HL1.out; exact congrArg (Value.int .i64) (by unfold wrap64; omega), HST2, ⟨hS4⟩, ⟨(hT4.2.1 gR (by omega) (by omega) (by omega)).trans HG3.out⟩, ⟨hO4⟩, ⟨Kd.R_nil _ _ _ _ _⟩, ⟨hR4⟩, ⟨HB3.out.trans (hT4.1 _ (by omega) (by omega) (by omega))⟩, ⟨Nat.le_trans HZ3.out hT4.2.2⟩, ⟨by simp⟩, ⟨by have := HOL.out; have := wOuts_le word lg; rw [List.length_append]; omega⟩⟩
            | true =>
              have hm : m = true := by cases m with | true => rfl | false => exact absurd ⟨rfl, rfl⟩ hgo
              subst hm
              clear hon hgo
              go_wp2_with (go_at_call 30; (with_reducible refine (fold_Letter.calls x false _ hLf).mono ?_))
              (first | rintro e W1 rfl hb1 | rintro e W1 ⟨rfl, hb1⟩)
              have HS1 := Aside0.mk (blk_below HS.out hb1)
              have HG1 := Aside0.mk (blk_below HG.out hb1)
              have HO1 := Aside0.mk (blk_below HO.out hb1)
              have RW1 := Aside0.mk (Kd.R_below RW.out hb1)
              have RO1 := Aside0.mk (Kd.R_below RO.out hb1)
              have HB1 := Aside0.mk (below_step HB.out hb1)
              have HZ1 := Aside0.mk (Nat.le_trans HZ.out hb1.size)
              clear HS HG HO RW RO HB HZ hb1
              clear hcell hLf
              have c0 : W1.cell? ⟨gS, 0, none⟩ = some (.slice Aw word.length cw) := (blk_cell HS1.out 0).trans rfl
              have c1 : W1.cell? ⟨gS, 1, none⟩ = some (.bool true) := (blk_cell HS1.out 1).trans rfl
              have c2 : W1.cell? ⟨gS, 2, none⟩ = some (.bool lg) := (blk_cell HS1.out 2).trans rfl
              have f0 := blk_frozen HS1.out 0
              have f1 := blk_frozen HS1.out 1
              have f2 := blk_frozen HS1.out 2
              go_wp2_with (go_at_call 32; (with_reducible refine (fold_Mark.calls x true _ hMf).mono ?_); rintro e W2_ ⟨rfl, ⟨nd, rfl⟩⟩; have hb2 : Below W1.heap.size W1 (W1.drewN nd) := pw_below_drewN (Below.refl _ _) nd; have HS2 := Aside0.mk (blk_below HS1.out hb2); have HG2 := Aside0.mk (blk_below HG1.out hb2); have HO2 := Aside0.mk (blk_below HO1.out hb2); have RW2 := Aside0.mk (Kd.R_below RW1.out hb2); have RO2 := Aside0.mk (Kd.R_below RO1.out hb2); have HB2 := Aside0.mk (below_step HB1.out hb2); have HZ2 := Aside0.mk (Nat.le_trans HZ1.out hb2.size); clear HS1 HG1 HO1 RW1 RO1 HB1 HZ1 hb2; clear c0 c1 c2 f0 f1 f2; generalize W1.drewN nd = W2 at HS2 HG2 HO2 RW2 RO2 HB2 HZ2 ⊢; have c0 : W2.cell? ⟨gS, 0, none⟩ = some (.slice Aw word.length cw) := (blk_cell HS2.out 0).trans rfl; have c1 : W2.cell? ⟨gS, 1, none⟩ = some (.bool true) := (blk_cell HS2.out 1).trans rfl; have c2 : W2.cell? ⟨gS, 2, none⟩ = some (.bool lg) := (blk_cell HS2.out 2).trans rfl; have f0 := blk_frozen HS2.out 0; have f1 := blk_frozen HS2.out 1; have f2 := blk_frozen HS2.out 2)
              have HCW := Aside0.mk (Kd.R_reads' RW2.out).2.1; have HCC := Aside0.mk (Kd.R_reads' RW2.out).2.2
              go_wp2_with (go_at_call 33; (with_reducible refine (words_State_on.calls Aw cw word true lg true _ HCC.out HCW.out honf).mono ?_); rintro e W3 ⟨rfl, hb3⟩; have HS3 := Aside0.mk (blk_below HS2.out hb3); have HG3 := Aside0.mk (blk_below HG2.out hb3); have HO3 := Aside0.mk (blk_below HO2.out hb3); have RW3 := Aside0.mk (Kd.R_below RW2.out hb3); have RO3 := Aside0.mk (Kd.R_below RO2.out hb3); have HB3 := Aside0.mk (below_step HB2.out hb3); have HZ3 := Aside0.mk (Nat.le_trans HZ2.out hb3.size); clear HS2 HG2 HO2 RW2 RO2 HB2 HZ2 hb3; clear c0 c1 c2 f0 f1 f2 HCC HCW; have c0 : W3.cell? ⟨gS, 0, none⟩ = some (.slice Aw word.length cw) := (blk_cell HS3.out 0).trans rfl; have c1 : W3.cell? ⟨gS, 1, none⟩ = some (.bool true) := (blk_cell HS3.out 1).trans rfl; have c2 : W3.cell? ⟨gS, 2, none⟩ = some (.bool lg) := (blk_cell HS3.out 2).trans rfl; have f0 := blk_frozen HS3.out 0; have f1 := blk_frozen HS3.out 1; have f2 := blk_frozen HS3.out 2)
              have hend := feed_end base gS gO (.slice Ao out.length co) Aw cw word true lg out W3 HS3.out HO3.out (Kd.R_reads' RW3.out).2.2 (Kd.R_reads' RW3.out).2.1 RO3.out HZ3.out (by have := HCON.out; omega) (by have := HCON.out; omega) (by have := HOL.out; have := HLT.out; have := HL1.out; omega)
              go_wp2_with (go_at_call 27; (with_reducible refine hend.mono ?_))
              (first | rintro e W4 rfl vo' hS4 hO4 hR4 hT4 | rintro e W4 rfl hS4 vo' hO4 hR4 hT4 | rintro e W4 ⟨rfl, vo', hS4, hO4, hR4, hT4⟩)
              obtain ⟨A4, cc4, rfl⟩ := Kd.R_slice hR4
              go_wp2
              go_roundg (l1.length - (i + 1))
              case measure => have := HLT.out; have := HGK.out; omega
              case rel =>
                have hne := HCON.out
                refine ⟨i + 1, none, 0, A4, cc4, [], false, false, out ++ wOuts word lg, by have := HLT.out; omega, by omega, by have h1 := HLT.out; have h2 := HL1.out; exact congrArg (Value.int .i64) (by unfold wrap64; omega), HST2, ⟨hS4⟩, ⟨(hT4.2.1 gR (by omega) (by omega) (by omega)).trans HG3.out⟩, ⟨hO4⟩, ⟨Kd.R_nil _ _ _ _ _⟩, ⟨hR4⟩, ⟨HB3.out.trans (hT4.1 _ (by omega) (by omega) (by omega))⟩, ⟨Nat.le_trans HZ3.out hT4.2.2⟩, ⟨by simp⟩, ⟨by have := HOL.out; have := wOuts_le word lg; rw [List.length_append]; omega⟩⟩
        · have hMf : fold_Mark.f x = some false := by unfold fold_Mark.f; rw [if_neg (fun h => hM (.inl h))]; simp; exact fun h => hM (.inr h)
          have HST2 := Aside0.mk (show (l1.take (i + 1)).foldl wStep ([], l0, m0, lg0) = (out ++ wOuts word lg, [], false, false) from by
            rw [HST.out]; unfold wStep; rw [if_neg hL, if_neg (fun h => hM h.1)])
          clear HST hL hM
          go_wp2_with (go_at_call 30; (with_reducible refine (fold_Letter.calls x false _ hLf).mono ?_))
          (first | rintro e W1 rfl hb1 | rintro e W1 ⟨rfl, hb1⟩)
          have HS1 := Aside0.mk (blk_below HS.out hb1)
          have HG1 := Aside0.mk (blk_below HG.out hb1)
          have HO1 := Aside0.mk (blk_below HO.out hb1)
          have RW1 := Aside0.mk (Kd.R_below RW.out hb1)
          have RO1 := Aside0.mk (Kd.R_below RO.out hb1)
          have HB1 := Aside0.mk (below_step HB.out hb1)
          have HZ1 := Aside0.mk (Nat.le_trans HZ.out hb1.size)
          clear HS HG HO RW RO HB HZ hb1
          clear hcell hLf
          have c0 : W1.cell? ⟨gS, 0, none⟩ = some (.slice Aw word.length cw) := (blk_cell HS1.out 0).trans rfl
          have c1 : W1.cell? ⟨gS, 1, none⟩ = some (.bool m) := (blk_cell HS1.out 1).trans rfl
          have c2 : W1.cell? ⟨gS, 2, none⟩ = some (.bool lg) := (blk_cell HS1.out 2).trans rfl
          have f0 := blk_frozen HS1.out 0
          have f1 := blk_frozen HS1.out 1
          have f2 := blk_frozen HS1.out 2
          go_wp2_with (go_at_call 32; (with_reducible refine (fold_Mark.calls x false _ hMf).mono ?_); rintro e W2_ ⟨rfl, ⟨nd, rfl⟩⟩; have hb2 : Below W1.heap.size W1 (W1.drewN nd) := pw_below_drewN (Below.refl _ _) nd; have HS2 := Aside0.mk (blk_below HS1.out hb2); have HG2 := Aside0.mk (blk_below HG1.out hb2); have HO2 := Aside0.mk (blk_below HO1.out hb2); have RW2 := Aside0.mk (Kd.R_below RW1.out hb2); have RO2 := Aside0.mk (Kd.R_below RO1.out hb2); have HB2 := Aside0.mk (below_step HB1.out hb2); have HZ2 := Aside0.mk (Nat.le_trans HZ1.out hb2.size); clear HS1 HG1 HO1 RW1 RO1 HB1 HZ1 hb2; clear c0 c1 c2 f0 f1 f2; generalize W1.drewN nd = W2 at HS2 HG2 HO2 RW2 RO2 HB2 HZ2 ⊢; have c0 : W2.cell? ⟨gS, 0, none⟩ = some (.slice Aw word.length cw) := (blk_cell HS2.out 0).trans rfl; have c1 : W2.cell? ⟨gS, 1, none⟩ = some (.bool m) := (blk_cell HS2.out 1).trans rfl; have c2 : W2.cell? ⟨gS, 2, none⟩ = some (.bool lg) := (blk_cell HS2.out 2).trans rfl; have f0 := blk_frozen HS2.out 0; have f1 := blk_frozen HS2.out 1; have f2 := blk_frozen HS2.out 2)
          have hend := feed_end base gS gO (.slice Ao out.length co) Aw cw word m lg out W2 HS2.out HO2.out (Kd.R_reads' RW2.out).2.2 (Kd.R_reads' RW2.out).2.1 RO2.out HZ2.out (by have := HCON.out; omega) (by have := HCON.out; omega) (by have := HOL.out; have := HLT.out; have := HL1.out; omega)
          go_wp2_with (go_at_call 27; (with_reducible refine hend.mono ?_))
          (first | rintro e W3 rfl vo' hS3 hO3 hR3 hT3 | rintro e W3 rfl hS3 vo' hO3 hR3 hT3 | rintro e W3 ⟨rfl, vo', hS3, hO3, hR3, hT3⟩)
          obtain ⟨A3, cc3, rfl⟩ := Kd.R_slice hR3
          go_wp2
          go_roundg (l1.length - (i + 1))
          case measure => have := HLT.out; have := HGK.out; omega
          case rel =>
            have hne := HCON.out
            refine ⟨i + 1, none, 0, A3, cc3, [], false, false, out ++ wOuts word lg, by have := HLT.out; omega, by omega, by have h1 := HLT.out; have h2 := HL1.out; exact congrArg (Value.int .i64) (by unfold wrap64; omega), HST2, ⟨hS3⟩, ⟨(hT3.2.1 gR (by omega) (by omega) (by omega)).trans HG2.out⟩, ⟨hO3⟩, ⟨Kd.R_nil _ _ _ _ _⟩, ⟨hR3⟩, ⟨HB2.out.trans (hT3.1 _ (by omega) (by omega) (by omega))⟩, ⟨Nat.le_trans HZ2.out hT3.2.2⟩, ⟨by simp⟩, ⟨by have := HOL.out; have := wOuts_le word lg; rw [List.length_append]; omega⟩⟩
      -- ROUNDS END
    · have hltz : ¬ (i : Int) < (l1.length : Int) := by omega
      have hi2 : i = l1.length := by omega
      subst hi2
      have HF2 := Aside0.mk (show (out, word, m, lg) = (r1, r2, r3, r4) from by have := HF.out; rw [List.take_length, HR.out] at this; exact this.symm)
      clear HF
      go_wp2
      have eg0 : wr.cell? ⟨gO, 0, none⟩ = some (.slice Ao out.length co) := (blk_cell HO.out 0).trans rfl
      have es0 : wr.cell? ⟨gS, 0, none⟩ = some (.slice Aw word.length cw) := (blk_cell HS.out 0).trans rfl
      have es1 : wr.cell? ⟨gS, 1, none⟩ = some (.bool m) := (blk_cell HS.out 1).trans rfl
      have es2 : wr.cell? ⟨gS, 2, none⟩ = some (.bool lg) := (blk_cell HS.out 2).trans rfl
      refine start_ (n := 4) (S := fun w' => w'.cell? ⟨gO, 0, none⟩ = some (.slice Ao out.length co) ∧ w'.cell? ⟨gS, 0, none⟩ = some (.slice Aw word.length cw) ∧ w'.cell? ⟨gS, 1, none⟩ = some (.bool m) ∧ w'.cell? ⟨gS, 2, none⟩ = some (.bool lg)) (ds := [3]) #[false, false, false, false] (by kernel_rfl) rfl rfl ⟨eg0, es0, es1, es2⟩ (fun hHeld => ?_)
      have hd : wr.drew.heap = wr.heap := rfl
      have HS6 := Aside0.mk (show wr.drew.heap[gS]? = _ from HS.out); have HG6 := Aside0.mk (show wr.drew.heap[gR]? = _ from HG.out); have HO6 := Aside0.mk (show wr.drew.heap[gO]? = _ from HO.out)
      have RW6 := Aside0.mk (Kd.R_drew RW.out); have RO6 := Aside0.mk (Kd.R_drew RO.out); have HB6 := Aside0.mk (below_drew HB.out)
      clear HS HG HO RW RO HB hd eg0 es0 es1 es2
      generalize wr.drew = w6 at HS6 HG6 HO6 RW6 RO6 HB6 hHeld ⊢
      refine take_ (i := 0) (N := some 43) (v := ?_) (a' := ?_) #[true, false, false, false] rfl rfl (by kernel_rfl) (fun _ _ _ h => h) (Or.inl ⟨by rfl, ?_⟩) hHeld ?_ ?_
      rotate_left
      · rintro w' ⟨s0, s1, s2, s3⟩
        go_simp
        with_reducible rfl
      rotate_left
      · simp only [Act.put, List.setIfInBounds_toArray, List.set_cons_zero, List.set_cons_succ, i64_w, i32_w]
        rfl
      refine take_ (i := 1) (N := some 44) (v := ?_) (a' := ?_) #[true, true, false, false] rfl rfl (by kernel_rfl) (fun _ _ _ h => h) (Or.inl ⟨by rfl, ?_⟩) hHeld ?_ ?_
      rotate_left
      · rintro w' ⟨s0, s1, s2, s3⟩
        go_simp
        with_reducible rfl
      rotate_left
      · simp only [Act.put, List.setIfInBounds_toArray, List.set_cons_zero, List.set_cons_succ, i64_w, i32_w]
        rfl
      refine pure_ (i := 2) (N := some 4) (v := ?_) (a' := ?_) #[true, true, true, false] rfl rfl (by kernel_rfl) (fun _ _ _ h => h) (Or.inl ⟨by rfl, ?_⟩) ?_ ?_
      rotate_left
      · intro w'
        go_simp
        with_reducible rfl
      rotate_left
      · simp only [Act.put, List.setIfInBounds_toArray, List.set_cons_zero, List.set_cons_succ, i64_w, i32_w]
        rfl
      refine last_ (i := 3) (N := none) #[true, true, true, true] rfl rfl (by kernel_rfl) (by decide) (fun K hK => ?_)
      have hs0 : w6.cell? ⟨gR, 0, none⟩ = some (.slice none 0 0) := (blk_cell HG6.out 0).trans rfl
      have hs1 : w6.cell? ⟨gR, 1, none⟩ = some (.bool false) := (blk_cell HG6.out 1).trans rfl
      have hs2 : w6.cell? ⟨gR, 2, none⟩ = some (.bool false) := (blk_cell HG6.out 2).trans rfl
      have hf0 := blk_frozen HG6.out 0
      have hf1 := blk_frozen HG6.out 1
      have hf2 := blk_frozen HG6.out 2
      refine skip_ (w1 := ?_) (by rfl) rfl ?_ ?_
      rotate_left
      · go_simp
        rfl
      refine hK.out _ _ ?_
      clear hK K
      refine done_ (by kernel_rfl) ?_
      try go_wp2
      obtain ⟨k1, k2, k3⟩ := set3 (.slice Aw word.length cw) (.bool m) (.bool lg) HG6.out
      refine bodyPost_ret (results_tc rfl _ _ gR 63 #[.slice Aw word.length cw, .bool m, .bool lg] (0, 0) _ rfl k1 Try.underlying63 rfl (by kernel_rfl)) rfl ?_
      have hF := HF2.out
      simp only [Prod.mk.injEq] at hF
      obtain ⟨rfl, rfl, rfl, rfl⟩ := hF
      have hle : w.heap.size ≤ base := by have := HCON.out; omega
      exact ⟨_, _, rfl, Kd.R_lower (R_but RO6.out HG6.out (by decide) k2) hle, Kd.R_lower (R_but RW6.out HG6.out (by decide) k2) hle, below_set (below_set (below_set HB6.out (by have := HCON.out; omega)) (by have := HCON.out; omega)) (by have := HCON.out; omega)⟩
end Go.Proofs.Ytkkkfgnaojhmeaa.K

namespace Go.Proofs.Ytkkkfgnaojhmeaa.PTk
open Go.RowKit Go.Proofs.YtkkkfgnaojhmeaaW.PrintWords Go.Proofs.YtkkkfgnaojhmeaaW.PrintLast Go.Proofs.YtkkkfgnaojhmeaaW.PrintMore Go.Proofs.Ytkkkfgnaojhmeaa.K Go.Proofs.Ytkkkfgnaojhmeaa.PFold Go.Proofs.Ytkkkfgnaojhmeaa.PWd
attribute [local go_sem] max2_int min2_int max_two min_two max_three min_three max_four min_four   -- for this text's walks alone
set_option linter.unusedVariables false
set_option linter.unusedSimpArgs false



def errW : Option Int → Value
  | none => .nilIface
  | some c => .iface 0 (.int .i64 c)
theorem errW_none : errW none = .nilIface := rfl
theorem errW_some (c : Int) : errW (some c) = .iface 0 (.int .i64 c) := rfl

end Go.Proofs.Ytkkkfgnaojhmeaa.PTk

namespace Go.Proofs.Ytkkkfgnaojhmeaa.PTk
open Go.RowKit Go.Proofs.YtkkkfgnaojhmeaaW.PrintWords Go.Proofs.YtkkkfgnaojhmeaaW.PrintLast Go.Proofs.YtkkkfgnaojhmeaaW.PrintMore Go.Proofs.Ytkkkfgnaojhmeaa.K Go.Proofs.Ytkkkfgnaojhmeaa.PFold Go.Proofs.Ytkkkfgnaojhmeaa.PWd
attribute [local go_sem] max2_int min2_int max_two min_two max_three min_three max_four min_four   -- for this text's walks alone
set_option linter.unusedVariables false
set_option linter.unusedSimpArgs false

def words_All.f (l0 : List Int) : Option (List ByteArray) := (words_Feed.f ([] : List Int) false false l0).bind fun bt101 => ((words_End.f bt101.2.1 bt101.2.2.1 bt101.2.2.2).bind fun t110 => (if bt101.1.length + t110.length < 8796093022208 then (some (bt101.1 ++ t110)) else (none)))
set_option maxHeartbeats 8000000 in
set_option maxRecDepth 100000 in
theorem words_All.calls (A0 : Option Addr) (c0 : Nat) (l0 : List Int) (r : List ByteArray) (w : World) (hr0 : Kd.C (Kd.int .i32) w A0 l0.length l0) (hc0 : l0.length ≤ c0) (h : words_All.f l0 = some r) :
    Calls Try.prog 14 #[.slice A0 l0.length c0] w fun e w' => ∃ v0_ : Value, e = .returned (v0_) ∧ Kd.R Kd.string 9 w' w.heap.size (fun _ => True) v0_ r ∧ Below w.heap.size w w' := by
  have hu63 := Try.underlying63
  have HR0 := Aside0.mk hr0
  have HC0 := Aside0.mk hc0
  clear hr0 hc0
  have HB := Aside0.mk (Below.refl w.heap.size w)
  have H : ((words_Feed.f ([] : List Int) false false l0).bind fun bt101 => ((words_End.f bt101.2.1 bt101.2.2.1 bt101.2.2.2).bind fun t110 => (if bt101.1.length + t110.length < 8796093022208 then (some (bt101.1 ++ t110)) else (none)))) = some r := h
  clear h
  replace H := Option.bind_eq_some_iff.mp H
  obtain ⟨⟨t101, t104, t107, t108⟩, A20, H⟩ := H
  replace H : ((words_End.f t104 t107 t108).bind fun t110 => (if t101.length + t110.length < 8796093022208 then (some (t101 ++ t110)) else (none))) = some r := H
  have A2 := Aside0.mk A20
  clear A20
  replace H := Option.bind_eq_some_iff.mp H
  obtain ⟨t110, A30, H⟩ := H
  replace H : (if t101.length + t110.length < 8796093022208 then (some (t101 ++ t110)) else (none)) = some r := H
  have A3 := Aside0.mk A30
  clear A30
  by_cases c4 : t101.length + t110.length < 8796093022208
  · rw [if_pos c4] at H
    have LMc4 := Aside0.mk c4
    clear c4
    obtain ⟨y113, hy113⟩ : ∃ y_ : List ByteArray, y_ = (t101 ++ t110) := ⟨_, rfl⟩
    replace H : (some y113) = some r := by first | (rw [hy113]; with_reducible exact H) | (have H2_ := (Option.bind_some _ _).symm.trans H; rw [hy113]; with_reducible exact H2_) | (have H2_ := (Option.bind_some _ _).symm.trans H; with_reducible exact H2_) | with_reducible exact H | (rw [hy113]; exact H) | exact H
    have Ny113 := Aside0.mk hy113
    clear hy113
    obtain rfl := Option.some.inj H
    go_enter Try.func14, Try.ntmps14
    go_wp2_with (first | ((with_reducible refine gate_callee (f := 22) rfl ?_); refine goesL_ (some 8) rfl rfl Try.func22 (by kernel_rfl) rfl #[.agg #[.slice none 0 0, .bool false, .bool false], .slice A0 l0.length c0] rfl (by (try simp only [List.map_toArray, List.map_cons, List.map_nil]); first | done | rfl | (simp only [List.length_drop, List.length_take]; rfl)) ?_; (refine (words_Feed.calls _ _ ([] : List Int) false false _ _ l0 t101 t104 t107 t108 _ ?side1 ?side2 ?side3 ?side4 A2.out).mono ?_); (case side1 => exact Kd.C_nil _ _); (case side2 => exact Nat.le_refl _); (case side3 => repeat (first | exact HR0.out | (with_reducible refine Kd.C_alloc ?_ _) | (with_reducible refine Kd.C_drewN ?_ _) | (with_reducible refine Kd.C_drew ?_))); (case side4 => exact HC0.out); rintro e w5 ⟨v102, v105, rfl, ho0, ho1, hb⟩; refine ⟨_, rfl, ?_⟩; have n0_ := Aside0.mk (Kd.R_lower ho0 (below_size (by repeat (first | (with_reducible first | exact HB.out | apply below_alloc | apply pw_below_drewN | apply below_drew1) | exact HB.out)))); have n1_ := Aside0.mk (Kd.R_lower ho1 (below_size (by repeat (first | (with_reducible first | exact HB.out | apply below_alloc | apply pw_below_drewN | apply below_drew1) | exact HB.out)))); have n2_ := Aside0.mk (below_step (by repeat (first | (with_reducible first | exact HB.out | apply below_alloc | apply pw_below_drewN | apply below_drew1) | exact HB.out)) hb); clear HB; have HO103 := n0_; have HO106 := n1_; have HB := n2_; clear n0_ n1_ n2_; (try clear hb); (try clear hb2); (try clear hk); (try clear hi); (try clear ho0); (try clear ho1)) | ((with_reducible refine gate_dst (N := 4) rfl ?_); refine box_event ?hg (N := 4) ?hd (cs := #[.slice none 0 0, .bool false, .bool false]) (t := 63) ?hr ?_; (case hd => rfl); (case hg => rfl); (case hr => first | (go_simp; done) | (go_simp; rfl)); intro gb109 hg w6 hbox hb; have n0_ := Aside0.mk (Kd.R_below (by (with_reducible repeat (first | apply Kd.R_alloc | apply Kd.R_drewN | apply Kd.R_drew)); exact HO103.out) hb); have n1_ := Aside0.mk (Kd.R_below (by (with_reducible repeat (first | apply Kd.R_alloc | apply Kd.R_drewN | apply Kd.R_drew)); exact HO106.out) hb); have n2_ := Aside0.mk (below_step (by repeat (first | (with_reducible first | exact HB.out | apply below_alloc | apply pw_below_drewN | apply below_drew1) | exact HB.out)) hb); have n3_ := Aside0.mk (hbox); have n4_ := Aside0.mk ((by rw [hg]; exact (below_size (by repeat (first | (with_reducible first | exact HB.out | apply below_alloc | apply pw_below_drewN | apply below_drew1) | exact HB.out))) : w.heap.size ≤ gb109)); have n5_ := Aside0.mk ((by rw [hg]; exact (below_size (by repeat (first | (with_reducible first | exact HB.out | apply below_alloc | apply pw_below_drewN | apply below_drew1) | exact HB.out))) : w.heap.size ≤ gb109)); clear HO103; clear HO106; clear HB; have HO103 := n0_; have HO106 := n1_; have HB := n2_; have BK109 := n3_; have GW109 := n4_; have GE109 := n5_; clear n0_ n1_ n2_ n3_ n4_ n5_; clear hb hbox hg; obtain ⟨Ao7, co7, eo7⟩ := Kd.R_slice HO106.out; subst eo7; have hcz8_0 : w6.cell? ⟨gb109, 0, none⟩ = some (.slice none 0 0) := (blk_cell BK109.out 0).trans rfl; have hcz8_1 : w6.cell? ⟨gb109, 1, none⟩ = some (.bool false) := (blk_cell BK109.out 1).trans rfl; have hcz8_2 : w6.cell? ⟨gb109, 2, none⟩ = some (.bool false) := (blk_cell BK109.out 2).trans rfl; have hfz8_0 := blk_frozen BK109.out 0; have hfz8_1 := blk_frozen BK109.out 1; have hfz8_2 := blk_frozen BK109.out 2) | ((with_reducible refine gate_callee (f := 23) rfl ?_); refine goesL_ (some 13) rfl rfl Try.func23 (by kernel_rfl) rfl #[.agg #[.slice Ao7 t104.length co7, .bool t107, .bool t108]] rfl (by (try simp only [List.map_toArray, List.map_cons, List.map_nil]); first | done | rfl | (simp only [List.length_drop, List.length_take]; rfl)) ?_; (with_reducible refine (words_End.calls _ _ t104 t107 t108 t110 _ ?side1 ?side2 A3.out).mono ?_); (case side1 => refine (Kd.R_reads' (e := 21) (base := w.heap.size) (ok := fun k_ => True) (n := t104.length) (c := co7) ?_).2.2; exact (by (with_reducible repeat (first | apply Kd.R_alloc | apply Kd.R_drewN | apply Kd.R_drew)); exact (Kd.R_mono (Kd.R_far (p := ⟨gb109, 2, none⟩) (Kd.R_far (p := ⟨gb109, 1, none⟩) (Kd.R_far (p := ⟨gb109, 0, none⟩) (Kd.R_types HO106.out BK109.out (by decide)) (fun _ hk => hk.2) (.slice Ao7 t104.length co7)) (fun _ hk => hk.2) (.bool t107)) (fun _ hk => hk.2) (.bool t108)) (fun _ h_ => h_.1)))); (case side2 => exact (Kd.R_reads' HO106.out).2.1); rintro e w9 ⟨v111, rfl, ho0, hb⟩; refine ⟨_, rfl, ?_⟩; have n0_ := Aside0.mk (Kd.R_elder' (by (with_reducible repeat (first | apply Kd.R_alloc | apply Kd.R_drewN | apply Kd.R_drew)); exact (Kd.R_mono (Kd.R_far (p := ⟨gb109, 2, none⟩) (Kd.R_far (p := ⟨gb109, 1, none⟩) (Kd.R_far (p := ⟨gb109, 0, none⟩) (Kd.R_types HO103.out BK109.out (by decide)) (fun _ hk => hk.2) (.slice Ao7 t104.length co7)) (fun _ hk => hk.2) (.bool t107)) (fun _ hk => hk.2) (.bool t108)) (fun _ h_ => h_.1))) (Kd.R_base ho0) hb); have n1_ := Aside0.mk (Kd.R_below (by (with_reducible repeat (first | apply Kd.R_alloc | apply Kd.R_drewN | apply Kd.R_drew)); exact (Kd.R_mono (Kd.R_far (p := ⟨gb109, 2, none⟩) (Kd.R_far (p := ⟨gb109, 1, none⟩) (Kd.R_far (p := ⟨gb109, 0, none⟩) (Kd.R_types HO106.out BK109.out (by decide)) (fun _ hk => hk.2) (.slice Ao7 t104.length co7)) (fun _ hk => hk.2) (.bool t107)) (fun _ hk => hk.2) (.bool t108)) (fun _ h_ => h_.1))) hb); have n2_ := Aside0.mk (Kd.R_lower (Kd.R_new' ho0 (Kd.R_lt (by (with_reducible repeat (first | apply Kd.R_alloc | apply Kd.R_drewN | apply Kd.R_drew)); exact (Kd.R_mono (Kd.R_far (p := ⟨gb109, 2, none⟩) (Kd.R_far (p := ⟨gb109, 1, none⟩) (Kd.R_far (p := ⟨gb109, 0, none⟩) (Kd.R_types HO103.out BK109.out (by decide)) (fun _ hk => hk.2) (.slice Ao7 t104.length co7)) (fun _ hk => hk.2) (.bool t107)) (fun _ hk => hk.2) (.bool t108)) (fun _ h_ => h_.1))))) (below_size (by repeat (first | (with_reducible first | exact HB.out | apply below_alloc | apply pw_below_drewN | apply below_drew1 | refine below_set ?_ GE109.out) | exact HB.out)))); have n3_ := Aside0.mk (blk_below (g := gb109) (o := .cells #[.slice Ao7 t104.length co7, .bool t107, .bool t108] 63 (0, 0)) (by (with_reducible repeat (first | refine blk_drewN ?_ _ | refine blk_drew ?_ | refine blk_alloc ?_ _)); refine blk_put (cs := #[.slice Ao7 t104.length co7, .bool t107, .bool false]) ?_ 2 _ rfl; (with_reducible repeat (first | refine blk_drewN ?_ _ | refine blk_drew ?_ | refine blk_alloc ?_ _)); refine blk_put (cs := #[.slice Ao7 t104.length co7, .bool false, .bool false]) ?_ 1 _ rfl; (with_reducible repeat (first | refine blk_drewN ?_ _ | refine blk_drew ?_ | refine blk_alloc ?_ _)); refine blk_put (cs := #[.slice none 0 0, .bool false, .bool false]) ?_ 0 _ rfl; (with_reducible repeat (first | refine blk_drewN ?_ _ | refine blk_drew ?_ | refine blk_alloc ?_ _)); exact BK109.out) hb); have n4_ := Aside0.mk (below_step (by repeat (first | (with_reducible first | exact HB.out | apply below_alloc | apply pw_below_drewN | apply below_drew1 | refine below_set ?_ GE109.out) | exact HB.out)) hb); clear HO103; clear HO106; clear BK109; clear HB; have HO103 := n0_; have HO106 := n1_; have HO112 := n2_; have BK109 := n3_; have HB := n4_; clear n0_ n1_ n2_ n3_ n4_; (try clear hb); (try clear hb2); (try clear hk); (try clear hi); (try clear ho0); obtain ⟨Ao11, co11, eo11⟩ := Kd.R_slice HO112.out; subst eo11) | ((with_reducible refine gate_builtin (b := .append) (xs := #[.tmp 11, .tmp 13]) rfl ?_); at_builtin; refine Kd.R_append_rows Kd.string (w0 := w) w.heap.size rfl (.tmp 11) (.tmp 13) 42 9 (.string ⟨#[]⟩) 16 rfl Try.underlying42 info9 rfl (by decide) (by omega) v102 t101 t110 _ _ _ (fun k_ => some k_ ≠ (.slice Ao11 t110.length co11 : Value).ownBlock) (fun _ => False) rfl rfl ?aO ?aR (fun _ _ h => h) (fun _ h => h.elim) ?aF ?aB ?aS ?aL ?_; (case aR => repeat (first | exact (Kd.R_reads' HO112.out).2.2 | (with_reducible refine Kd.C_alloc ?_ _) | (with_reducible refine Kd.C_drewN ?_ _) | (with_reducible refine Kd.C_drew ?_))); (case aB => exact (by repeat (first | (with_reducible first | exact HB.out | apply below_alloc | apply pw_below_drewN | apply below_drew1 | refine below_set ?_ GE109.out) | exact HB.out))); (case aF => exact (fun k_ hk => Kd.fresh' (Kd.R_lt (by (with_reducible repeat (first | apply Kd.R_alloc | apply Kd.R_drewN | apply Kd.R_drew)); exact HO112.out)) k_ hk)); (case aO => exact (by (with_reducible repeat (first | apply Kd.R_alloc | apply Kd.R_drewN | apply Kd.R_drew)); exact Kd.R_mono HO103.out (fun _ hk => hk.2))); (case aS => exact (below_size (by repeat (first | (with_reducible first | exact HB.out | apply below_alloc | apply pw_below_drewN | apply below_drew1 | refine below_set ?_ GE109.out) | exact HB.out)))); (case aL => have := LMc4.out; omega); intro v114 w10 ho hb hg hat; rw [← Ny113.out] at ho; have n0_ := Aside0.mk (Kd.R_over' (by (with_reducible repeat (first | apply Kd.R_alloc | apply Kd.R_drewN | apply Kd.R_drew)); exact HO106.out) (Kd.R_typed (by (with_reducible repeat (first | apply Kd.R_alloc | apply Kd.R_drewN | apply Kd.R_drew)); exact HO103.out)) (by decide) hg); have n1_ := Aside0.mk (blk_grown (g := gb109) (o := .cells #[.slice Ao7 t104.length co7, .bool t107, .bool t108] 63 (0, 0)) (by (with_reducible repeat (first | refine blk_drewN ?_ _ | refine blk_drew ?_ | refine blk_alloc ?_ _)); exact BK109.out) hg (Kd.R_ne HO103.out BK109.out (by decide))); have n2_ := Aside0.mk (Kd.R_after (ok := (fun _ => True)) (by (with_reducible repeat (first | apply Kd.R_alloc | apply Kd.R_drewN | apply Kd.R_drew)); exact HO112.out) hg hat); have n3_ := Aside0.mk (hb); have n4_ := Aside0.mk (ho); clear HO106; clear BK109; clear HO112; clear HB; clear HO103; have HO106 := n0_; have BK109 := n1_; have HO112 := n2_; have HB := n3_; have HO115 := n4_; clear n0_ n1_ n2_ n3_ n4_; clear ho hb hg hat))
    go_ret
    exact ⟨_, by first | rfl | (simp [errW_none, errW_some] <;> rfl) | (simp [*, errW_none, errW_some] <;> rfl), by (with_reducible repeat (first | apply Kd.R_alloc | apply Kd.R_drewN | apply Kd.R_drew)); exact Kd.R_mono HO115.out (fun _ hk => trivial), by repeat (first | (with_reducible first | exact HB.out | apply below_alloc | apply pw_below_drewN | apply below_drew1 | refine below_set ?_ GE109.out) | exact HB.out)⟩
  · rw [if_neg c4] at H
    exact absurd H (by simp)

def token_All.f (l0 : List Int) : Option (List ByteArray) := (utf_All.f l0).bind fun t116 => ((words_All.f t116).bind fun t119 => (some t119))
set_option maxHeartbeats 8000000 in
set_option maxRecDepth 100000 in
theorem token_All.calls (A0 : Option Addr) (c0 : Nat) (l0 : List Int) (r : List ByteArray) (w : World) (hr0 : Kd.C (Kd.int .u8) w A0 l0.length l0) (hc0 : l0.length ≤ c0) (h : token_All.f l0 = some r) :
    Calls Try.prog 11 #[.slice A0 l0.length c0] w fun e w' => ∃ v0_ : Value, e = .returned (v0_) ∧ Kd.R Kd.string 9 w' w.heap.size (fun _ => True) v0_ r ∧ Below w.heap.size w w' := by
  have HR0 := Aside0.mk hr0
  have HC0 := Aside0.mk hc0
  clear hr0 hc0
  have HB := Aside0.mk (Below.refl w.heap.size w)
  have H : ((utf_All.f l0).bind fun t116 => ((words_All.f t116).bind fun t119 => (some t119))) = some r := h
  clear h
  replace H := Option.bind_eq_some_iff.mp H
  obtain ⟨t116, A20, H⟩ := H
  replace H : ((words_All.f t116).bind fun t119 => (some t119)) = some r := H
  have A2 := Aside0.mk A20
  clear A20
  replace H := Option.bind_eq_some_iff.mp H
  obtain ⟨t119, A30, H⟩ := H
  replace H : (some t119) = some r := H
  have A3 := Aside0.mk A30
  clear A30
  obtain rfl := Option.some.inj H
  go_enter Try.func11, Try.ntmps11
  go_wp2_with (first | ((with_reducible refine gate_callee (f := 15) rfl ?_); refine goesL_ (some 4) rfl rfl Try.func15 (by kernel_rfl) rfl #[.slice A0 l0.length c0] rfl (by (try simp only [List.map_toArray, List.map_cons, List.map_nil]); first | done | rfl | (simp only [List.length_drop, List.length_take]; rfl)) ?_; (with_reducible refine (utf_All.calls _ _ l0 t116 _ ?side1 ?side2 A2.out).mono ?_); (case side1 => repeat (first | exact HR0.out | (with_reducible refine Kd.C_alloc ?_ _) | (with_reducible refine Kd.C_drewN ?_ _) | (with_reducible refine Kd.C_drew ?_))); (case side2 => exact HC0.out); rintro e w4 ⟨v117, rfl, ho0, hb⟩; refine ⟨_, rfl, ?_⟩; have n0_ := Aside0.mk (Kd.R_lower ho0 (below_size (by repeat (first | (with_reducible first | exact HB.out | apply below_alloc | apply pw_below_drewN | apply below_drew1) | exact HB.out)))); have n1_ := Aside0.mk (below_step (by repeat (first | (with_reducible first | exact HB.out | apply below_alloc | apply pw_below_drewN | apply below_drew1) | exact HB.out)) hb); clear HB; have HO118 := n0_; have HB := n1_; clear n0_ n1_; (try clear hb); (try clear hb2); (try clear hk); (try clear hi); (try clear ho0); obtain ⟨Ao5, co5, eo5⟩ := Kd.R_slice HO118.out; subst eo5) | ((with_reducible refine gate_callee (f := 14) rfl ?_); refine goesL_ (some 5) rfl rfl Try.func14 (by kernel_rfl) rfl #[.slice Ao5 t116.length co5] rfl (by (try simp only [List.map_toArray, List.map_cons, List.map_nil]); first | done | rfl | (simp only [List.length_drop, List.length_take]; rfl)) ?_; (with_reducible refine (words_All.calls _ _ t116 t119 _ ?side1 ?side2 A3.out).mono ?_); (case side1 => repeat (first | exact (Kd.R_reads' HO118.out).2.2 | (with_reducible refine Kd.C_alloc ?_ _) | (with_reducible refine Kd.C_drewN ?_ _) | (with_reducible refine Kd.C_drew ?_))); (case side2 => exact (Kd.R_reads' HO118.out).2.1); rintro e w6 ⟨v120, rfl, ho0, hb⟩; refine ⟨_, rfl, ?_⟩; have n0_ := Aside0.mk (Kd.R_below (by (with_reducible repeat (first | apply Kd.R_alloc | apply Kd.R_drewN | apply Kd.R_drew)); exact HO118.out) hb); have n1_ := Aside0.mk (Kd.R_lower ho0 (below_size (by repeat (first | (with_reducible first | exact HB.out | apply below_alloc | apply pw_below_drewN | apply below_drew1) | exact HB.out)))); have n2_ := Aside0.mk (below_step (by repeat (first | (with_reducible first | exact HB.out | apply below_alloc | apply pw_below_drewN | apply below_drew1) | exact HB.out)) hb); clear HO118; clear HB; have HO118 := n0_; have HO121 := n1_; have HB := n2_; clear n0_ n1_ n2_; (try clear hb); (try clear hb2); (try clear hk); (try clear hi); (try clear ho0)))
  go_ret
  exact ⟨_, by first | rfl | (simp [errW_none, errW_some] <;> rfl) | (simp [*, errW_none, errW_some] <;> rfl), by (with_reducible repeat (first | apply Kd.R_alloc | apply Kd.R_drewN | apply Kd.R_drew)); exact HO121.out, by repeat (first | (with_reducible first | exact HB.out | apply below_alloc | apply pw_below_drewN | apply below_drew1) | exact HB.out)⟩

end Go.Proofs.Ytkkkfgnaojhmeaa.PTk

namespace Go.Proofs.Ytkkkfgnaojhmeaa.PTk
open Go.RowKit Go.Proofs.YtkkkfgnaojhmeaaW.PrintWords Go.Proofs.YtkkkfgnaojhmeaaW.PrintLast Go.Proofs.YtkkkfgnaojhmeaaW.PrintMore Go.Proofs.Ytkkkfgnaojhmeaa.K Go.Proofs.Ytkkkfgnaojhmeaa.PFold Go.Proofs.Ytkkkfgnaojhmeaa.PWd
attribute [local go_sem] max2_int min2_int max_two min_two max_three min_three max_four min_four   -- for this text's walks alone
set_option linter.unusedVariables false
set_option linter.unusedSimpArgs false

end Go.Proofs.Ytkkkfgnaojhmeaa.PTk

namespace Go.Proofs.Ytkkkfgnaojhmeaa.K
open Go.RowKit Go.Proofs.YtkkkfgnaojhmeaaW.PrintWords Go.Proofs.YtkkkfgnaojhmeaaW.PrintLast Go.Proofs.YtkkkfgnaojhmeaaW.PrintMore Go.Proofs.Ytkkkfgnaojhmeaa
attribute [local go_sem] max2_int min2_int max_two min_two max_three min_three max_four min_four
set_option linter.unusedVariables false
set_option linter.unusedSimpArgs false
open Go.Proofs.Ytkkkfgnaojhmeaa.PTb Go.Proofs.Ytkkkfgnaojhmeaa.PTk Go.Proofs.Ytkkkfgnaojhmeaa.Tab
theorem fm_take {α β : Type} (f : α → List β) (l : List α) (i : Nat) (h : i < l.length) : (l.take (i + 1)).flatMap f = (l.take i).flatMap f ++ f l[i] := by
  rw [List.take_succ_eq_append_getElem h, List.flatMap_append]; simp
theorem fm_le {α β : Type} (f : α → List β) (l : List α) (i : Nat) : ((l.take i).flatMap f).length ≤ (l.flatMap f).length := by
  have : l.flatMap f = (l.take i).flatMap f ++ (l.drop i).flatMap f := by rw [← List.flatMap_append, List.take_append_drop]
  rw [this, List.length_append]; omega
theorem w64c {k : Nat} (hn : k < 4611686018427387904) : wrap64 ((k : Int) + 1) = ((k + 1 : Nat) : Int) := by unfold wrap64; omega
theorem addT' (base g room : Nat) (F : Nat → Prop) (L L' : List En) (r : Int) (word : ByteArray) (ni : Int) (n : Nat) (w : World) (hni : ni = (n : Int)) (h : TabF base g room F L w) (hwz : word.size ≤ 1048576) (e : addL L room (Utf.nats word) n = (L', r)) :
    Calls Try.prog 12 #[.pointer (some ⟨g, 0, none⟩), .string word, .int .u64 ni] w fun e w' => e = .returned (.int .i64 r) ∧ TabF base g room (fun k => F k ∨ w.heap.size ≤ k) L' w' ∧ Below base w w' ∧ Kept w w' F := by
  subst hni
  have := addF base g room F L word n w h hwz
  rw [e] at this
  exact this
theorem R_apart' {α : Type} {d : Kd α} {e base : Nat} {w w1 : World} {F : Nat → Prop} {v : Value} {xs : List α} (h : Kd.R d e w base (fun k => ¬ F k) v xs) (hk : Kept w w1 F) : Kd.R d e w1 base (fun k => ¬ (F k ∨ w.heap.size ≤ k)) v xs :=
  Kd.R_kept (Kd.R_mono (Kd.R_bound h) (fun k hk => fun h => h.elim hk.1 (fun h => by have := hk.2.2.1; omega))) hk (fun k hk h => hk (Or.inl h))
def CntOut (AW : List Int → List ByteArray) (l : List (List Int)) (w : World) (e : Ending) (w' : World) : Prop :=
  ∃ v es L, e = .returned (.tuple #[v, .int .i64 0]) ∧ es.map toEn = L ∧ CI ((l.flatMap AW).map Utf.nats) 1 L ∧ (∀ x ∈ es, 0 ≤ x.f1 ∧ x.f1 ≤ 4611686018427387904) ∧ Kd.R k37 37 w' w.heap.size (fun _ => True) v es ∧ Below w.heap.size w w'
set_option maxHeartbeats 4000000 in
set_option maxRecDepth 100000 in
theorem count_k (A : Option Addr) (c : Nat) (l : List (List Int)) (w : World) (hC : Kd.C (Kd.slice 5 (Kd.int .u8)) w A l.length l) (hc : l.length ≤ c) (AW : List Int → List ByteArray) (hA : ∀ b ∈ l, token_All.f b = some (AW b)) (hw : ∀ b ∈ l, ∀ x ∈ AW b, x.size ≤ 1048576 ∧ Utf.nats x ≠ []) (hn : (l.flatMap AW).length < 65536) (hll : l.length < 1000000000) :
    Calls Try.prog 7 #[.slice A l.length c] w (CntOut AW l w) := by
  have HC := Aside0.mk hC; have HA := Aside0.mk hA; have HW := Aside0.mk hw; have HN := Aside0.mk hn
  have hl2 : (l.length : Int) ≤ 9223372036854775807 := by omega
  have HNEW := Aside0.mk (show Calls Try.prog 10 #[.int .i64 65536] w (fun e w' => ∃ g, e = .returned (.tuple #[.pointer (some ⟨g, 0, none⟩), .int .i64 0]) ∧ TabF w.heap.size g 65536 (fun k => w.heap.size ≤ k) [] w' ∧ Below w.heap.size w w') from newF 65536 (by decide) (by decide) w)
  clear hC hA hw hn
  go_enter Try.func7, Try.ntmps7
  go_wp2
  go_step3
  go_wp2_with (first | (go_at_call 10; (with_reducible refine (HNEW.out).mono ?_); rintro e w2 ⟨g, rfl, hT, hB⟩; have HT := Aside0.mk hT; have HB := Aside0.mk hB; clear hT hB))
  obtain ⟨W2, hW2⟩ : ∃ W2, W2 = w2 := ⟨_, rfl⟩
  rw [← hW2] at HT HB ⊢
  clear hW2
  go_step3
  go_upto_block 0 with fail
  go_wp2
  go_loopg [5, 16] l.length (fun gg v5 v16 wr => ∃ (i : Nat) (F : Nat → Prop) (L : List En), v16 = .int .i64 (i : Int) ∧ v5 = .int .i64 0 ∧ Aside0 (i ≤ l.length ∧ l.length ≤ gg + i) ∧ Aside0 (TabF w.heap.size g 65536 F L wr) ∧ Aside0 (CI (((l.take i).flatMap AW).map Utf.nats) 1 L) ∧ Aside0 (Below w.heap.size w wr))
  case atStart => exact ⟨0, _, [], rfl, rfl, ⟨by omega⟩, HT, ⟨CI.nil 1⟩, HB⟩
  case round =>
    obtain ⟨i, F, L, rfl, rfl, hi, hT, hci, hB⟩ := hrel
    by_cases hlt : i < l.length
    · have hcb : decide ((i : Int) < (l.length : Int)) = true := decide_eq_true (by omega)
      have hcbN : decide (i < l.length) = true := decide_eq_true hlt
      have q0 : (0 : Int) ≤ (i : Int) := by omega
      have q1 : (i : Int) < (l.length : Int) := by omega
      obtain ⟨ad, cc, ead, _, hK, hcell⟩ := Kd.C_get (Kd.C_below HC.out hB.out) ([] : List Int) (i : Int) q0 q1
      cases ead
      rw [Int.toNat_natCast] at hK hcell
      rw [List.getD_eq_getElem?_getD, List.getElem?_eq_getElem hlt, Option.getD_some] at hK
      obtain ⟨b, hb⟩ : ∃ b, l[i] = b := ⟨_, rfl⟩
      rw [hb] at hK
      obtain ⟨Ab, cb, rfl, hcb2, hCb⟩ := hK
      have h0 : wr.cell? (ad.add i) = some (.slice Ab b.length cb) := by have := hcell 0 _ rfl; rw [show (Kd.slice 5 (Kd.int .u8)).sz = 1 from rfl, Nat.mul_one, Nat.add_zero] at this; exact this
      have hbm : b ∈ l := by rw [← hb]; exact List.getElem_mem hlt
      have HALL := Aside0.mk (token_All.calls Ab cb b (AW b) wr hCb hcb2 (HA.out b hbm))
      have hft := fm_take AW l i hlt
      rw [hb] at hft
      have hfl := fm_le AW l (i + 1)
      rw [hft, List.length_append] at hfl
      have HFT := Aside0.mk hft
      have HFL := Aside0.mk hfl
      have HBM := Aside0.mk hbm
      have HLT := Aside0.mk hlt
      have HIW := Aside0.mk (w64c (k := i) (by omega))
      have HTh := Aside0.mk hT.out.here
      clear hcell hb hcb2 hCb hbm hft hfl hlt hT
      obtain ⟨W3, hW3⟩ : ∃ W3, W3 = wr := ⟨_, rfl⟩
      rw [← hW3] at HALL HTh hB h0 ⊢
      clear hW3
      go_upto_region 5 with fail
      clear hcb hcbN h0
      go_upto_block 2 with (first | (go_at_call 11; (with_reducible refine (HALL.out).mono ?_); rintro e w4 ⟨v4, rfl, hR4, hB4⟩; obtain ⟨A4, c4, hv4⟩ := Kd.R_slice hR4; subst hv4; have HR4 := Aside0.mk hR4; have HT4 := Aside0.mk (HTh.out.step hB4); have HB4 := Aside0.mk (hB.out.trans (hB4.mono hB.out.size)); clear hR4 hB4))
      have hal : (AW b).length ≤ 65536 := by have := HFL.out; have := HN.out; omega
      have hal2 : ((AW b).length : Int) ≤ 9223372036854775807 := by omega
      have HRx : Aside0 (Kd.R Kd.string 9 w4 W3.heap.size (fun k => ¬ (F k ∧ k < W3.heap.size)) (.slice A4 (AW b).length c4) (AW b)) := ⟨Kd.R_mono (Kd.R_bound HR4.out) (fun k hk hf => by have h1 := hk.2.1; have h2 := hf.2; omega)⟩
      have HAL := Aside0.mk hal
      clear hal HR4
      obtain ⟨W4, hW4⟩ : ∃ W4, W4 = w4 := ⟨_, rfl⟩
      rw [← hW4] at HT4 HB4 HRx ⊢
      clear hW4
      go_wp2
      go_loopg [5, 23] (AW b).length (fun gg v5 v23 wx => ∃ (j : Nat) (F : Nat → Prop) (L : List En), v23 = .int .i64 (j : Int) ∧ v5 = .int .i64 0 ∧ Aside0 (j ≤ (AW b).length ∧ (AW b).length ≤ gg + j) ∧ Aside0 (TabF w.heap.size g 65536 F L wx) ∧ Aside0 (CI (((l.take i).flatMap AW ++ (AW b).take j).map Utf.nats) 1 L) ∧ Aside0 (Kd.R Kd.string 9 wx W3.heap.size (fun k => ¬ F k) (.slice A4 (AW b).length c4) (AW b)) ∧ Aside0 (Below w.heap.size w wx))
      case atStart => exact ⟨0, _, L, rfl, rfl, ⟨by omega⟩, HT4, ⟨by simpa using hci.out⟩, HRx, HB4⟩
      case round =>
        clear HT4 HRx HB4 hci
        obtain ⟨j, F2, L2, rfl, rfl, hj, hT2, hci2, hR2, hB2⟩ := hrel
        by_cases hjl : j < (AW b).length
        · have hcb : decide ((j : Int) < ((AW b).length : Int)) = true := decide_eq_true (by omega)
          have hcbN : decide (j < (AW b).length) = true := decide_eq_true hjl
          have p0 : (0 : Int) ≤ (j : Int) := by omega
          have p1 : (j : Int) < ((AW b).length : Int) := by omega
          obtain ⟨aw, eaw, hcell⟩ := Kd.at_string (Kd.R_reads' hR2.out).2.2 (j : Int) p0 p1
          cases eaw
          rw [Int.toNat_natCast, show rdOf ByteArray.empty (AW b) (j : Int) = (AW b)[j] by unfold rdOf; rw [Int.toNat_natCast, List.getD_eq_getElem?_getD, List.getElem?_eq_getElem hjl]; rfl] at hcell
          obtain ⟨x, hx⟩ : ∃ x, (AW b)[j] = x := ⟨_, rfl⟩
          rw [hx] at hcell
          have hxw := HW.out b HBM.out x (by rw [← hx]; exact List.getElem_mem hjl)
          have htk : ((l.take i).flatMap AW ++ (AW b).take (j + 1)).map Utf.nats = ((l.take i).flatMap AW ++ (AW b).take j).map Utf.nats ++ [Utf.nats x] := by
            rw [List.take_succ_eq_append_getElem hjl, hx, ← List.append_assoc, List.map_append]; rfl
          have hlen : (((l.take i).flatMap AW ++ (AW b).take j).map Utf.nats).length < 65536 := by
            rw [List.length_map, List.length_append, List.length_take]; have := HFL.out; have := HN.out; omega
          obtain ⟨L', r, eadd, hci', hr⟩ := hci2.out.step (room := 65536) (by decide) hlen (by omega) (Utf.nats x)
          have hr0 : r = 0 := hr.2 hxw.2
          subst hr0
          have HA2 := Aside0.mk (addT' _ g 65536 F2 _ _ _ x 1 1 wr rfl hT2.out hxw.1 eadd)
          have HTK := Aside0.mk htk; have HCI := Aside0.mk hci'; have HJL := Aside0.mk hjl
          have HJW := Aside0.mk (w64c (k := j) (by have := HAL.out; omega))
          clear hx hxw htk hlen eadd hci' hr hjl
          obtain ⟨W5, hW5⟩ : ∃ W5, W5 = wr := ⟨_, rfl⟩
          rw [← hW5] at HA2 hR2 hB2 hcell ⊢
          clear hW5
          go_upto_region 9 with (first | (go_at_call 12; (with_reducible refine (HA2.out).mono ?_); rintro e w6 ⟨rfl, hT6, hB6, hK6⟩; have HT6 := Aside0.mk hT6; have HB6 := Aside0.mk (hB2.out.trans hB6); have HR6 := Aside0.mk (R_apart' hR2.out hK6); clear hT6 hB6 hK6))
          clear hcell hcb hcbN
          have hjw := HJW.out
          go_wp2
          go_roundg ((AW b).length - (j + 1))
          case measure => have := hj.out; have := HJL.out; omega
          case rel => exact ⟨j + 1, _, L', by first | rfl | exact congrArg (Value.int .i64) HJW.out, rfl, ⟨by have := HJL.out; omega⟩, HT6, ⟨by rw [HTK.out]; exact HCI.out⟩, HR6, HB6⟩
        · have hcb : decide ((j : Int) < ((AW b).length : Int)) = false := decide_eq_false (by omega)
          have hcbN : decide (j < (AW b).length) = false := decide_eq_false hjl
          have htw : (AW b).take j = AW b := List.take_of_length_le (by omega)
          have hci3 : CI (((l.take (i + 1)).flatMap AW).map Utf.nats) 1 L2 := by
            rw [HFT.out]
            have := hci2.out
            rw [htw] at this
            exact this
          have HCI3 := Aside0.mk hci3
          clear htw hci3
          have hiw := HIW.out
          go_wp2
          go_roundg (l.length - (i + 1))
          case measure => have := hi.out; have := HLT.out; omega
          case rel => exact ⟨i + 1, F2, L2, by first | rfl | exact congrArg (Value.int .i64) HIW.out, rfl, ⟨by have := HLT.out; omega⟩, hT2, HCI3, hB2⟩
    · have hcb : decide ((i : Int) < (l.length : Int)) = false := decide_eq_false (by omega)
      have hcbN : decide (i < l.length) = false := decide_eq_false hlt
      have htw : l.take i = l := List.take_of_length_le (by omega)
      rw [htw] at hci
      have HDR := Aside0.mk (drainF _ g 65536 F L wr hT.out)
      have HCI := Aside0.mk hci.out
      clear htw hci hT hlt
      go_wp2_with (fail)
      refine Calls.mono HDR.out ?_
      rintro e w7 ⟨v7, es, rfl, hes, hpos, hR, _, hB7, _⟩
      have HOUT := Aside0.mk (show CntOut AW l w (.returned (.tuple #[v7, .int .i64 0])) w7 from ⟨v7, es, L, rfl, hes, HCI.out, hpos, Kd.R_lower hR hB.out.size, hB.out.trans hB7⟩)
      clear hes hpos hR hB7 HDR
      go_wp2
      go_ret2
      exact HOUT.out
end Go.Proofs.Ytkkkfgnaojhmeaa.K

namespace Go.Proofs.Ytkkkfgnaojhmeaa.K
open Go.RowKit Go.Proofs.YtkkkfgnaojhmeaaW.PrintWords Go.Proofs.YtkkkfgnaojhmeaaW.PrintLast Go.Proofs.YtkkkfgnaojhmeaaW.PrintMore Go.Proofs.Ytkkkfgnaojhmeaa
attribute [local go_sem] max2_int min2_int max_two min_two max_three min_three max_four min_four
set_option linter.unusedVariables false
set_option linter.unusedSimpArgs false
open Go.Proofs.Ytkkkfgnaojhmeaa.PTb Go.Proofs.Ytkkkfgnaojhmeaa.PTk Go.Proofs.Ytkkkfgnaojhmeaa.Tab
def manteletlaw21_shown.f : Option Bool := some true
abbrev bA : List Int := [97, 32, 98, 32, 97]
abbrev bB : List Int := [98]
theorem tokA : token_All.f bA = some [wA, wB, wA] := by kernel_rfl
theorem tokB : token_All.f bB = some [wB] := by kernel_rfl
abbrev oA : Obj := .cells #[.int .u8 97, .int .u8 32, .int .u8 98, .int .u8 32, .int .u8 97] 5 (5, 6)
abbrev oB : Obj := .cells #[.int .u8 98] 5 (1, 2)
def oC (w : World) : Obj := .cells #[.slice (some ⟨w.heap.size, 0, none⟩) 5 5, .slice (some ⟨w.heap.size + 1, 0, none⟩) 1 1] 33
theorem size_al (w : World) (o : Obj) : (w.alloc o).heap.size = w.heap.size + 1 := Array.size_push _
theorem row_C (W : World) (g : Nat) (xs : List Int) (mk : Nat × Nat) (hg : W.heap[g]? = some (.cells (xs.map (Value.int .u8)).toArray 5 mk)) (hl : xs.length ≤ 9223372036854775807) : Kd.C (Kd.int .u8) W (some ⟨g, 0, none⟩) xs.length xs :=
  Kd.C_of_reads (d := (0 : Int)) (h1 := fun _ => rfl) ⟨rfl, hl, fun _ => ⟨⟨g, 0, none⟩, rfl, fun j hj => by
    rw [Addr.add_lit]
    show W.cell? ⟨g, 0 + j, none⟩ = _
    rw [cell_of_row W g _ _ _ mk hg]
    simp [hj, List.getD_eq_getElem?_getD]⟩⟩
theorem corpus_C (w : World) : Kd.C (Kd.slice 5 (Kd.int .u8)) (((w.alloc oA).alloc oB).alloc (oC w)) (some ⟨w.heap.size + 1 + 1, 0, none⟩) 2 [bA, bB] := by
  have s1 := size_al w oA
  have s2 := size_al (w.alloc oA) oB
  have hA : (((w.alloc oA).alloc oB).alloc (oC w)).heap[w.heap.size]? = some oA := by
    rw [heap_alloc_old (h := by omega), heap_alloc_old (h := by omega)]
    exact heap_alloc_new w oA
  have hB : (((w.alloc oA).alloc oB).alloc (oC w)).heap[w.heap.size + 1]? = some oB := by
    rw [heap_alloc_old (h := by omega)]
    have := heap_alloc_new (w.alloc oA) oB
    rw [s1] at this
    exact this
  have hC : (((w.alloc oA).alloc oB).alloc (oC w)).heap[w.heap.size + 1 + 1]? = some (oC w) := by
    have := heap_alloc_new ((w.alloc oA).alloc oB) (oC w)
    rw [s2, s1] at this
    exact this
  refine ⟨rfl, by decide, fun _ => ⟨_, rfl, fun j p hj => ?_⟩⟩
  match j, hj with
  | 0, hj =>
    injection hj with hj
    subst hj
    refine ⟨[.slice (some ⟨w.heap.size, 0, none⟩) 5 5], rfl, ⟨_, 5, rfl, by decide, row_C _ _ bA (5, 6) hA (by decide)⟩, fun i u hu => ?_⟩
    rw [add_plain]
    match i, hu with
    | 0, hu => injection hu with hu; subst hu; exact (cell_of_row _ _ _ _ _ _ hC).trans rfl
    | i + 1, hu => simp at hu
  | 1, hj =>
    injection hj with hj
    subst hj
    refine ⟨[.slice (some ⟨w.heap.size + 1, 0, none⟩) 1 1], rfl, ⟨_, 1, rfl, by decide, row_C _ _ bB (1, 2) hB (by decide)⟩, fun i u hu => ?_⟩
    rw [add_plain]
    match i, hu with
    | 0, hu => injection hu with hu; subst hu; exact (cell_of_row _ _ _ _ _ _ hC).trans rfl
    | i + 1, hu => simp at hu
  | j + 2, hj => simp at hj
def AWs (b : List Int) : List ByteArray := if b = bA then [wA, wB, wA] else [wB]
theorem ci_ab {L : List En} (h : CI (([bA, bB].flatMap AWs).map Utf.nats) 1 L) : L = [([97], 2), ([98], 2)] := by
  have e : ([bA, bB].flatMap AWs).map Utf.nats = [[97], [98], [97], [98]] := by decide
  rw [e] at h
  refine sorted_ext _ _ h.sorted (by decide) (fun en => ?_)
  rw [h.mem]
  obtain ⟨x, c⟩ := en
  by_cases h1 : x = [97]
  · subst h1; simp
  · by_cases h2 : x = [98]
    · subst h2; simp
    · have : List.count x [[97], [98], [97], [98]] = 0 := by
        rw [List.count_eq_zero]; simp [h1, h2]
      simp [this, h1, h2]
set_option maxHeartbeats 4000000 in
set_option maxRecDepth 100000 in
theorem manteletlaw21_shown.calls (r : Bool) (w : World) (h : manteletlaw21_shown.f = some r) : Calls Try.prog 4 #[] w fun e w' => e = .returned (.bool r) ∧ Below w.heap.size w w' := by
  obtain rfl : true = r := Option.some.inj h
  clear h
  have hcv1 : (convert 33 33 (.slice (some ⟨w.heap.size, 0, none⟩) 5 5)).run Try.prog (w.alloc (.cells #[.int .u8 97, .int .u8 32, .int .u8 98, .int .u8 32, .int .u8 97] 5)) = .ok (.slice (some ⟨w.heap.size, 0, none⟩) 5 5) (w.alloc (.cells #[.int .u8 97, .int .u8 32, .int .u8 98, .int .u8 32, .int .u8 97] 5 (5, 6))) := Go.Lib.run_convert_bytes_const (P := Try.prog) w 33 5 #[.int .u8 97, .int .u8 32, .int .u8 98, .int .u8 32, .int .u8 97] 5 5 Try.underlying33 Try.underlying5
  have hs1 : (w.alloc (.cells #[.int .u8 97, .int .u8 32, .int .u8 98, .int .u8 32, .int .u8 97] 5 (5, 6))).heap.size = w.heap.size + 1 := size_al _ _
  have hcv2 : (convert 33 33 (.slice (some ⟨w.heap.size + 1, 0, none⟩) 1 1)).run Try.prog ((w.alloc (.cells #[.int .u8 97, .int .u8 32, .int .u8 98, .int .u8 32, .int .u8 97] 5 (5, 6))).alloc (.cells #[.int .u8 98] 5)) = .ok (.slice (some ⟨w.heap.size + 1, 0, none⟩) 1 1) ((w.alloc (.cells #[.int .u8 97, .int .u8 32, .int .u8 98, .int .u8 32, .int .u8 97] 5 (5, 6))).alloc (.cells #[.int .u8 98] 5 (1, 2))) := by
    have h := Go.Lib.run_convert_bytes_const (P := Try.prog) (w.alloc (.cells #[.int .u8 97, .int .u8 32, .int .u8 98, .int .u8 32, .int .u8 97] 5 (5, 6))) 33 5 #[.int .u8 98] 1 1 Try.underlying33 Try.underlying5
    rw [hs1] at h
    exact h
  clear hs1
  go_enter Try.func4, Try.ntmps4
  go_wp2_with (fail)
  have hcnt := count_k (some ⟨w.heap.size + 1 + 1, 0, none⟩) 2 [bA, bB] _ (corpus_C w) (by decide) AWs (by
    intro b hb
    simp only [List.mem_cons, List.mem_nil_iff, or_false] at hb
    rcases hb with rfl | rfl
    · rw [tokA]; rfl
    · rw [tokB]; rfl) (by decide) (by decide) (by decide)
  clear hcv1 hcv2
  refine Calls.mono hcnt ?_
  rintro e w6 ⟨v, es, L, rfl, hes, hci, hpos, hR, hB⟩
  have hL := ci_ab hci
  rw [hL] at hes
  have hee : es = [⟨wA, 2⟩, ⟨wB, 2⟩] := map_toEn_inj _ _ (by rw [hes]; decide) (fun x hx => (hpos x hx).1) (by intro x hx; simp at hx; rcases hx with rfl | rfl <;> decide)
  subst hee
  obtain ⟨A, c, hv⟩ := Kd.R_slice hR
  subst hv
  obtain ⟨_, hc2, hC⟩ := Kd.R_reads' hR
  have HC := Aside0.mk hC; have HC2 := Aside0.mk hc2
  have HB6 : Aside0 (Below w.heap.size w w6) := ⟨(((below_alloc (Below.refl _ _) _).trans ((below_alloc (Below.refl _ _) _).mono (by rw [size_al]; omega))).trans ((below_alloc (Below.refl _ _) _).mono (by rw [size_al, size_al]; omega))).trans (hB.mono (by rw [size_al, size_al, size_al]; omega))⟩
  have HSM := Aside0.mk (same_refl [⟨wA, 2⟩, ⟨wB, 2⟩] (by decide))
  clear hC hc2 hR hes hci hpos hL hB
  go_wp2_with (fail)
  have HB7 := Aside0.mk (HB6.out.alloc HB6.out.size (.cells #[.string wA, .int .u64 2, .string wB, .int .u64 2] 37))
  have hb7 : Below w6.heap.size w6 (w6.alloc (.cells #[.string wA, .int .u64 2, .string wB, .int .u64 2] 37)) := below_alloc (Below.refl _ _) _
  have hC7 := lit2C w6 wA wB 2 2
  have hsame := manteletref08_Same.calls _ A c [⟨wA, 2⟩, ⟨wB, 2⟩] _ 2 [⟨wA, 2⟩, ⟨wB, 2⟩] true _ (Kd.C_below HC.out hb7) HC2.out hC7 (by decide) HSM.out
  clear hb7 hC7 HB6 HC
  refine Calls.mono hsame ?_
  rintro e w8 ⟨rfl, hd⟩
  have HB8 := Aside0.mk (HB7.out.trans (hd.below.mono HB7.out.size))
  clear hd HB7
  go_wp2
  go_ret
  exact ⟨rfl, HB8.out⟩
end Go.Proofs.Ytkkkfgnaojhmeaa.K

namespace Go.Proofs.Ytkkkfgnaojhmeaa.PConfChecks
open Go.RowKit Go.Proofs.YtkkkfgnaojhmeaaW.PrintWords Go.Proofs.YtkkkfgnaojhmeaaW.PrintLast Go.Proofs.YtkkkfgnaojhmeaaW.PrintMore Go.Proofs.Ytkkkfgnaojhmeaa.K
attribute [local go_sem] max2_int min2_int max_two min_two max_three min_three max_four min_four   -- for this text's walks alone
set_option linter.unusedVariables false
set_option linter.unusedSimpArgs false



def errW : Option Int → Value
  | none => .nilIface
  | some c => .iface 0 (.int .i64 c)
theorem errW_none : errW none = .nilIface := rfl
theorem errW_some (c : Int) : errW (some c) = .iface 0 (.int .i64 c) := rfl

end Go.Proofs.Ytkkkfgnaojhmeaa.PConfChecks

