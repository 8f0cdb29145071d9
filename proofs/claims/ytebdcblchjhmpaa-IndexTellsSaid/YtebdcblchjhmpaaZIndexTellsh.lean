/- IndexTells. (The texts that the proof is made of, one behind the other: part 8 of 15.) -/
import Derived.Test.YtebdcblchjhmpaaProg
import Derived.Below
import Derived.Deep.Draws
import Derived.Deep.AppendLies
import Derived.Maps.AppendAt
import Derived.OwnWalk
import Derived.Laws.BytesArg
import Derived.Laws.MakeOwn
import Derived.Laws.OwnMore
import Derived.Deep.OwnRows
import Derived.Tactics
import Derived.Lib.ConvBytes
import Derived.Laws.Slices
import Derived.WalkKit
import Derived.KernelRfl
import Derived.RowKit3
import Derived.Deep.LoopGhost
import Derived.Deep.QuietTactic
import Derived.BigQuiet
import Derived.WideLaws
import Derived.Deep.DeepCutAuto
import Derived.Deep.CutBlock
import Derived.Deep.RegionHeld3
import Derived.Laws.Rows
import Derived.Lib.AppendStr
import Derived.ArgAppend
import Derived.Laws.IdiomCopy
import Derived.OrdersHeld
import Derived.Laws.BitsLemmas
import Derived.RowKit
import Derived.Lib.OthersKept
import Derived.WalkSmall
import Derived.Deep.RegionLaw
import Derived.BigRegion
import Derived.Laws.ResultCell
import Derived.Test.YtebdcblchjhmpaaZIndexTellsa
import Derived.Test.YtebdcblchjhmpaaZIndexTellsb
import Derived.Test.YtebdcblchjhmpaaZIndexTellsc
import Derived.Test.YtebdcblchjhmpaaZIndexTellsd
import Derived.Test.YtebdcblchjhmpaaZIndexTellse
import Derived.Test.YtebdcblchjhmpaaZIndexTellsf
import Derived.Test.YtebdcblchjhmpaaZIndexTellsg
namespace Go.Proofs.Ytebdcblchjhmpaa.K
open Go.RowKit Go.Proofs.YtebdcblchjhmpaaW.PrintWords Go.Proofs.YtebdcblchjhmpaaW.PrintLast Go.Proofs.YtebdcblchjhmpaaW.PrintMore Go.Proofs.Ytebdcblchjhmpaa
attribute [local go_sem] max2_int min2_int max_two min_two max_three min_three max_four min_four
set_option linter.unusedVariables false
set_option linter.unusedSimpArgs false
open Go.Proofs.Ytebdcblchjhmpaa.PDk Go.Proofs.Ytebdcblchjhmpaa.PR14 Go.Proofs.Ytebdcblchjhmpaa.Daw
/-- What leave answers: the states and the rests that are left, read in the blocks of ok or in new ones. -/
def RefOut (w : World) (ok okR : Nat → Prop) (r : RS × Nat) (e : Ending) (w' : World) : Prop :=
  ∃ (A B : Option Addr) (cA cB : Nat) (Rs : List (List ByteArray)), e = .returned (.tuple #[.agg #[.slice A r.1.1.length cA, .slice B Rs.length cB], .int .i64 (r.2 : Int)]) ∧ Rs.map wordsN = r.1.2 ∧
    Kd.F k31 w' (fun k => ok k ∨ w.heap.size ≤ k) A r.1.1.length (r.1.1.map toS) ∧ Kd.F (Kd.slice 9 Kd.string) w' (fun k => okR k ∨ w.heap.size ≤ k) B Rs.length Rs ∧ r.1.1.length ≤ cA ∧ Rs.length ≤ cB ∧ Below w.heap.size w w'
theorem str_empty (x : ByteArray) : x.toList.isEmpty = decide (Utf.nats x = []) := by
  have e : x.toList.map (fun b => b.toNat) = Utf.nats x := by rw [ByteArray.toList_eq]; rfl
  rw [← e]
  cases x.toList <;> simp
/-- The words from a on, as far as b, begin with c. -/
def Run (rests : List ByteArray) (c a b : Nat) : Prop := ∀ j (h : j < rests.length), a ≤ j → j < b → (Utf.nats rests[j]).head? = some c
/-- What stands behind their first bytes. -/
def cutR (rests : List ByteArray) (a b : Nat) : List ByteArray := ((rests.take b).drop a).map fun s => s.extract 1 s.size
theorem cutR_nil (rests : List ByteArray) (a : Nat) : cutR rests a a = [] := by
  unfold cutR
  rw [List.drop_eq_nil_of_le (by rw [List.length_take]; omega)]; rfl
theorem cutR_snoc (rests : List ByteArray) (a b : Nat) (h : a ≤ b) (hb : b < rests.length) : cutR rests a (b + 1) = cutR rests a b ++ [rests[b].extract 1 rests[b].size] := by
  unfold cutR
  rw [List.take_succ_eq_append_getElem hb, List.drop_append_of_le_length (by rw [List.length_take]; omega), List.map_append]; rfl
theorem cutR_len (rests : List ByteArray) (a b : Nat) (h : a ≤ b) (hb : b ≤ rests.length) : (cutR rests a b).length = b - a := by
  unfold cutR
  rw [List.length_map, List.length_drop, List.length_take]; omega
theorem nats_tail (s : ByteArray) : Utf.nats (s.extract 1 s.size) = (Utf.nats s).tail := by
  unfold Utf.nats
  rw [ByteArray.data_extract, Array.toList_extract, List.extract_eq_take_drop, List.map_take, List.map_drop, List.drop_one, List.take_of_length_le]
  rw [List.length_tail, List.length_map, Array.length_toList]; exact Nat.le_refl _
theorem refE_es (f : RS → List (List Nat) → RS × Nat) : ∀ (gs : List (Nat × List (List Nat))) (x : RS), (refE f x gs).2.length = gs.length
  | [], x => rfl
  | g :: gs, x => by rw [refE, List.length_cons, List.length_cons, refE_es f gs]
theorem grp_le : ∀ l : List (List Nat), (grp l).length ≤ l.length
  | [] => Nat.le_refl _
  | [] :: r => by rw [show grp ([] :: r) = grp r from rfl]; exact Nat.le_trans (grp_le r) (by simp)
  | (c :: v) :: r => by
    have h := grp_le r
    rw [grp_cons]
    cases hg : grp r with
    | nil => simp
    | cons y g =>
      obtain ⟨d, m⟩ := y
      rw [hg] at h
      dsimp only
      split <;> simp only [List.length_cons] at h ⊢ <;> omega
theorem refE_step (f : RS → List (List Nat) → RS × Nat) {x0 x1 : RS} {dn : List (Nat × List (List Nat))} {es : List DE} (h : refE f x0 dn = (x1, es)) (c : Nat) (l : List (List Nat)) : refE f x0 (dn ++ [(c, l)]) = ((f x1 l).1, es ++ [(c, (f x1 l).2)]) := by
  rw [refE_append, h]; rfl
theorem leave_mid (k : Nat) {x0 x1 : RS} {W : List (List Nat)} {dn q : List (Nat × List (List Nat))} {es : List DE} {c : Nat} {l : List (List Nat)} (hg : grp W = dn ++ (c, l) :: q) (he : refE (refLeave k) x0 dn = (x1, es)) :
    (refLeave k x1 l).1.1.length ≤ (refLeave (k + 1) x0 W).1.1.length ∧ (refLeave k x1 l).1.2.length ≤ (refLeave (k + 1) x0 W).1.2.length := by
  have h1 : refE (refLeave k) x0 (grp W) = ((refE (refLeave k) (refLeave k x1 l).1 q).1, es ++ (c, (refLeave k x1 l).2) :: (refE (refLeave k) (refLeave k x1 l).1 q).2) := by
    rw [hg, refE_append, he]; rfl
  have h2 := refE_len (refLeave k) (refLeave_len k) q (refLeave k x1 l).1
  have h3 := rfind_len (refE (refLeave k) x0 (grp W)).1 W (decide ([] ∈ W), (refE (refLeave k) x0 (grp W)).2)
  rw [refLeave]
  rw [h1] at h3 ⊢
  exact ⟨Nat.le_trans h2.1 h3.1, Nat.le_trans h2.2 h3.2⟩
theorem leave_end (k : Nat) {x0 x1 : RS} {W : List (List Nat)} {es : List DE} (he : refE (refLeave k) x0 (grp W) = (x1, es)) : refLeave (k + 1) x0 W = rfind x1 W (decide ([] ∈ W), es) := by
  rw [refLeave, he]
/-- The groups, one after the other: the run from a to b is the next one. -/
theorem grp_cut (rests : List ByteArray) (a b c : Nat) (h : a < b) (hb : b ≤ rests.length) (hrun : Run rests c a b) (hnx : ∀ h : b < rests.length, (Utf.nats rests[b]).head? ≠ some c) (hne : ∀ u ∈ (wordsN rests).drop a, u ≠ []) :
    grp ((wordsN rests).drop a) = (c, wordsN (cutR rests a b)) :: grp ((wordsN rests).drop b) := by
  have e : (wordsN rests).drop a = ((wordsN rests).take b).drop a ++ (wordsN rests).drop b := by
    have h1 := List.take_append_drop b (wordsN rests)
    have h2 : ((wordsN rests).take b ++ (wordsN rests).drop b).drop a = ((wordsN rests).take b).drop a ++ (wordsN rests).drop b := by
      rw [List.drop_append_of_le_length]
      have hl : (wordsN rests).length = rests.length := by unfold wordsN; simp
      rw [List.length_take]; omega
    rw [h1] at h2
    exact h2
  have hl : (wordsN rests).length = rests.length := by unfold wordsN; simp
  have em : wordsN (cutR rests a b) = (((wordsN rests).take b).drop a).map List.tail := by
    unfold wordsN cutR
    rw [List.map_map, ← List.map_take, ← List.map_drop, List.map_map]
    apply List.map_congr_left
    intro s hs
    show Utf.nats (s.extract 1 s.size) = (Utf.nats s).tail
    exact nats_tail s
  rw [em, e]
  refine grp_run c _ _ ?_ ?_ ?_ ?_
  · intro h0
    have := congrArg List.length h0
    rw [List.length_drop, List.length_take, List.length_nil] at this
    omega
  · intro u hu
    obtain ⟨i, hi, e2⟩ := List.mem_drop_iff_getElem.1 hu
    rw [List.length_take] at hi
    have e3 : u = Utf.nats (rests[i + a]'(by omega)) := by
      rw [← e2, List.getElem_take]; simp [wordsN, Nat.add_comm]
    have hh := hrun (i + a) (by omega) (by omega) (by omega)
    rw [← e3] at hh
    cases u with
    | nil => simp at hh
    | cons d v => simp at hh; exact ⟨v, by rw [hh]⟩
  · intro u hu
    exact hne u (by rw [e]; exact List.mem_append_right _ hu)
  · intro d v r hq
    have hbl : b < rests.length := by
      rcases Nat.lt_or_ge b rests.length with h1 | h1
      · exact h1
      · rw [List.drop_eq_nil_of_le (by omega)] at hq; exact absurd hq (by simp)
    have h1 := hnx hbl
    have h2 : Utf.nats rests[b] = d :: v := by
      rw [List.drop_eq_getElem_cons (by omega)] at hq
      have := (List.cons.inj hq).1
      rw [← this]; simp [wordsN]
    rw [h2] at h1
    intro e3
    exact h1 (by rw [e3]; rfl)
theorem cut_sorted (rests : List ByteArray) (a b c : Nat) (hrun : Run rests c a b) (hs : (wordsN rests).Pairwise (· < ·)) : (wordsN (cutR rests a b)).Pairwise (· < ·) := by
  have em : wordsN (cutR rests a b) = (((wordsN rests).take b).drop a).map List.tail := by
    unfold wordsN cutR
    rw [List.map_map, ← List.map_take, ← List.map_drop, List.map_map]
    apply List.map_congr_left
    intro s hs
    show Utf.nats (s.extract 1 s.size) = (Utf.nats s).tail
    exact nats_tail s
  rw [em]
  have hall : ∀ u ∈ ((wordsN rests).take b).drop a, ∃ v, u = c :: v := by
    intro u hu
    obtain ⟨i, hi, e2⟩ := List.mem_drop_iff_getElem.1 hu
    have hl : (wordsN rests).length = rests.length := by unfold wordsN; simp
    rw [List.length_take] at hi
    have e3 : u = Utf.nats (rests[i + a]'(by omega)) := by
      rw [← e2, List.getElem_take]; simp [wordsN, Nat.add_comm]
    have hh := hrun (i + a) (by omega) (by omega) (by omega)
    rw [← e3] at hh
    cases u with
    | nil => simp at hh
    | cons d v => simp at hh; exact ⟨v, by rw [hh]⟩
  have hp : (((wordsN rests).take b).drop a).Pairwise (· < ·) := (hs.sublist (List.take_sublist _ _)).sublist (List.drop_sublist _ _)
  rw [List.pairwise_map]
  refine List.Pairwise.imp_of_mem (fun {x y} hx hy hxy => ?_) hp
  obtain ⟨v1, rfl⟩ := hall x hx
  obtain ⟨v2, rfl⟩ := hall y hy
  rcases List.cons_lt_cons_iff.1 hxy with h | ⟨_, h⟩
  · exact absurd h (Nat.lt_irrefl _)
  · exact h
theorem cut_size (rests : List ByteArray) (a b k : Nat) (hne : ∀ u ∈ (wordsN rests).drop a, u ≠ []) (h : ∀ x ∈ rests, x.size < k + 1) : ∀ x ∈ cutR rests a b, x.size < k := by
  intro x hx
  unfold cutR at hx
  obtain ⟨s, hs, rfl⟩ := List.mem_map.1 hx
  have hm : s ∈ rests := List.mem_of_mem_take (List.mem_of_mem_drop hs)
  have h1 := h s hm
  have h2 : Utf.nats s ≠ [] := by
    refine hne _ ?_
    unfold wordsN
    rw [← List.map_drop]
    refine List.mem_map_of_mem ?_
    rw [List.drop_take] at hs
    exact List.mem_of_mem_take hs
  have h3 : 0 < s.size := by
    have := nats_len s
    cases hz : Utf.nats s with
    | nil => exact absurd hz h2
    | cons a l => rw [hz] at this; simp at this; omega
  rw [ByteArray.size_extract]; omega
def okX (w : World) (ok : Nat → Prop) (k : Nat) : Prop := ((ok k ∧ k < w.heap.size) ∨ w.heap.size ≤ k) ∧ k ≠ w.heap.size ∧ k ≠ w.heap.size + 1 ∧ k ≠ w.heap.size + 1 + 1
/-- leave's world: its three boxes, the edges' row of its own, what is only read. -/
structure LvW (w : World) (ok okR : Nat → Prop) (R : Option Addr) (rests : List ByteArray) (fin : Bool) (vE : Value) (es : List DE) (A B : Option Addr) (cA cB : Nat) (S : List DS) (Rs : List (List ByteArray)) (wx : World) : Prop where
  below : Below w.heap.size w wx
  b2 : wx.heap[w.heap.size]? = some (.cells #[.slice A S.length cA, .slice B Rs.length cB] 74 (0, 0))
  b4 : wx.heap[w.heap.size + 1]? = some (.cells #[.slice none 0 0, .slice none 0 0] 74 (0, 0))
  b6 : wx.heap[w.heap.size + 1 + 1]? = some (.cells #[.bool fin, vE] 31 (0, 0))
  hE : Kd.R k33 33 wx w.heap.size (fun k => k ≠ w.heap.size ∧ k ≠ w.heap.size + 1 ∧ k ≠ w.heap.size + 1 + 1) vE (es.map toE)
  hS : Kd.F k31 wx (fun k => okX w ok k ∧ some k ≠ vE.ownBlock) A S.length (S.map toS)
  hRs : Kd.F (Kd.slice 9 Kd.string) wx (fun k => okX w okR k ∧ some k ≠ vE.ownBlock) B Rs.length Rs
  hR : Kd.F Kd.string wx (fun k => okX w okR k ∧ some k ≠ vE.ownBlock) R rests.length rests
  lA : S.length ≤ cA
  lB : Rs.length ≤ cB
theorem LvW.step {w : World} {ok okR : Nat → Prop} {R : Option Addr} {rests : List ByteArray} {fin : Bool} {vE : Value} {es : List DE} {A B : Option Addr} {cA cB : Nat} {S : List DS} {Rs : List (List ByteArray)} {wx w1 : World} (h : LvW w ok okR R rests fin vE es A B cA cB S Rs wx) (hb : Below wx.heap.size wx w1) : LvW w ok okR R rests fin vE es A B cA cB S Rs w1 :=
  ⟨h.below.trans (hb.mono h.below.size), blk_below h.b2 hb, blk_below h.b4 hb, blk_below h.b6 hb, Kd.R_below h.hE hb, Kd.F_below h.hS hb, Kd.F_below h.hRs hb, Kd.F_below h.hR hb, h.lA, h.lB⟩
/-- A store into the state's box. -/
theorem LvW.fin {w : World} {ok okR : Nat → Prop} {R : Option Addr} {rests : List ByteArray} {vE : Value} {es : List DE} {A B : Option Addr} {cA cB : Nat} {S : List DS} {Rs : List (List ByteArray)} {wx : World} (h : LvW w ok okR R rests false vE es A B cA cB S Rs wx) : LvW w ok okR R rests true vE es A B cA cB S Rs (wx.setCell ⟨w.heap.size + 1 + 1, 0, none⟩ (.bool true)) :=
  ⟨h.below.setCell (p := ⟨w.heap.size + 1 + 1, 0, none⟩) (by show w.heap.size ≤ w.heap.size + 1 + 1; omega) _,
   (Below.heap_setCell wx ⟨w.heap.size + 1 + 1, 0, none⟩ _ _ (by show w.heap.size ≠ w.heap.size + 1 + 1; omega)).trans h.b2,
   (Below.heap_setCell wx ⟨w.heap.size + 1 + 1, 0, none⟩ _ _ (by show w.heap.size + 1 ≠ w.heap.size + 1 + 1; omega)).trans h.b4,
   blk_put h.b6 0 _ rfl, Kd.R_far (p := ⟨w.heap.size + 1 + 1, 0, none⟩) h.hE (fun k hk => hk.2.2) _,
   Kd.F_far (p := ⟨w.heap.size + 1 + 1, 0, none⟩) h.hS (fun k hk => hk.1.2.2.2) _, Kd.F_far (p := ⟨w.heap.size + 1 + 1, 0, none⟩) h.hRs (fun k hk => hk.1.2.2.2) _, Kd.F_far (p := ⟨w.heap.size + 1 + 1, 0, none⟩) h.hR (fun k hk => hk.1.2.2.2) _, h.lA, h.lB⟩
/-- The result's box written anew: other states, other rests. -/
theorem LvW.put2 {w : World} {ok okR : Nat → Prop} {R : Option Addr} {rests : List ByteArray} {fin : Bool} {vE : Value} {es : List DE} {A B A' B' : Option Addr} {cA cB cA' cB' : Nat} {S S' : List DS} {Rs Rs' : List (List ByteArray)} {wx : World} (h : LvW w ok okR R rests fin vE es A B cA cB S Rs wx)
    (hS : Kd.F k31 wx (fun k => okX w ok k ∧ some k ≠ vE.ownBlock) A' S'.length (S'.map toS)) (hRs : Kd.F (Kd.slice 9 Kd.string) wx (fun k => okX w okR k ∧ some k ≠ vE.ownBlock) B' Rs'.length Rs') (lA : S'.length ≤ cA') (lB : Rs'.length ≤ cB') :
    LvW w ok okR R rests fin vE es A' B' cA' cB' S' Rs' ((wx.setCell ⟨w.heap.size, 0, none⟩ (.slice A' S'.length cA')).setCell ⟨w.heap.size, 1, none⟩ (.slice B' Rs'.length cB')) := by
  have far : ∀ k, k ≠ w.heap.size → ((wx.setCell ⟨w.heap.size, 0, none⟩ (.slice A' S'.length cA')).setCell ⟨w.heap.size, 1, none⟩ (.slice B' Rs'.length cB')).heap[k]? = wx.heap[k]? := fun k hk =>
    (Below.heap_setCell _ ⟨w.heap.size, 1, none⟩ _ k hk).trans (Below.heap_setCell wx ⟨w.heap.size, 0, none⟩ _ k hk)
  exact ⟨(h.below.setCell (p := ⟨w.heap.size, 0, none⟩) (Nat.le_refl _) _).setCell (p := ⟨w.heap.size, 1, none⟩) (Nat.le_refl _) _,
   blk_put (blk_put h.b2 0 _ rfl) 1 _ rfl, (far _ (by omega)).trans h.b4, (far _ (by omega)).trans h.b6,
   Kd.R_step h.hE (fun k hk _ => far k hk.1), Kd.F_step hS (fun k hk _ => far k hk.1.2.1), Kd.F_step hRs (fun k hk _ => far k hk.1.2.1), Kd.F_step h.hR (fun k hk _ => far k hk.1.2.1), lA, lB⟩
/-- An edge more. -/
theorem LvW.grow {w : World} {ok okR : Nat → Prop} {R : Option Addr} {rests : List ByteArray} {fin : Bool} {vE v1 : Value} {es : List DE} {e : DE} {A B : Option Addr} {cA cB : Nat} {S : List DS} {Rs : List (List ByteArray)} {wx w5 : World} (h : LvW w ok okR R rests fin vE es A B cA cB S Rs wx)
    (hR : Kd.R k33 33 w5 w.heap.size (fun k => k ≠ w.heap.size ∧ k ≠ w.heap.size + 1 ∧ k ≠ w.heap.size + 1 + 1) v1 (es.map toE ++ [toE e])) (hb : Below w.heap.size w w5) (hg : wx.grownBy w5 vE.ownBlock) (hat : v1.ownBlock = vE.ownBlock ∨ ∃ b, v1.ownBlock = some b ∧ wx.heap.size ≤ b) :
    LvW w ok okR R rests fin v1 (es ++ [e]) A B cA cB S Rs (w5.setCell ⟨w.heap.size + 1 + 1, 1, none⟩ v1) := by
  have n2 : some w.heap.size ≠ vE.ownBlock := Kd.R_away h.hE (fun k hk => hk.1)
  have n4 : some (w.heap.size + 1) ≠ vE.ownBlock := Kd.R_away h.hE (fun k hk => hk.2.1)
  have n6 : some (w.heap.size + 1 + 1) ≠ vE.ownBlock := Kd.R_away h.hE (fun k hk => hk.2.2)
  have b2 := (hg.block _ (Array.getElem?_eq_some_iff.1 h.b2).1 n2).trans h.b2
  have b4 := (hg.block _ (Array.getElem?_eq_some_iff.1 h.b4).1 n4).trans h.b4
  have b6 := (hg.block _ (Array.getElem?_eq_some_iff.1 h.b6).1 n6).trans h.b6
  refine ⟨hb.setCell (p := ⟨w.heap.size + 1 + 1, 1, none⟩) (by show w.heap.size ≤ w.heap.size + 1 + 1; omega) _,
   (Below.heap_setCell w5 ⟨w.heap.size + 1 + 1, 1, none⟩ _ _ (by show w.heap.size ≠ w.heap.size + 1 + 1; omega)).trans b2,
   (Below.heap_setCell w5 ⟨w.heap.size + 1 + 1, 1, none⟩ _ _ (by show w.heap.size + 1 ≠ w.heap.size + 1 + 1; omega)).trans b4,
   blk_put b6 1 _ rfl, ?_,
   Kd.F_far (p := ⟨w.heap.size + 1 + 1, 1, none⟩) (Kd.F_after h.hS hg hat) (fun k hk => hk.1.2.2.2) _, Kd.F_far (p := ⟨w.heap.size + 1 + 1, 1, none⟩) (Kd.F_after h.hRs hg hat) (fun k hk => hk.1.2.2.2) _, Kd.F_far (p := ⟨w.heap.size + 1 + 1, 1, none⟩) (Kd.F_after h.hR hg hat) (fun k hk => hk.1.2.2.2) _, h.lA, h.lB⟩
  rw [List.map_append]
  exact Kd.R_far (p := ⟨w.heap.size + 1 + 1, 1, none⟩) hR (fun k hk => hk.2.2) _
/-- The result's box is filled: what leave answers. -/
theorem LvW.out {w : World} {ok okR : Nat → Prop} {R : Option Addr} {rests : List ByteArray} {fin : Bool} {vE : Value} {es : List DE} {A B : Option Addr} {cA cB : Nat} {S : List DS} {Rs : List (List ByteArray)} {wx : World} (h : LvW w ok okR R rests fin vE es A B cA cB S Rs wx) (n : Nat) (u v : Value) :
    RefOut w ok okR ((S, Rs.map wordsN), n) (.returned (.tuple #[.agg #[.slice A S.length cA, .slice B Rs.length cB], .int .i64 (n : Int)])) ((wx.setCell ⟨w.heap.size + 1, 0, none⟩ u).setCell ⟨w.heap.size + 1, 1, none⟩ v) := by
  have far : ∀ k, k ≠ w.heap.size + 1 → ((wx.setCell ⟨w.heap.size + 1, 0, none⟩ u).setCell ⟨w.heap.size + 1, 1, none⟩ v).heap[k]? = wx.heap[k]? := fun k hk =>
    (Below.heap_setCell _ ⟨w.heap.size + 1, 1, none⟩ _ k hk).trans (Below.heap_setCell wx ⟨w.heap.size + 1, 0, none⟩ _ k hk)
  have wide : ∀ (o : Nat → Prop) k, (okX w o k ∧ some k ≠ vE.ownBlock) → o k ∨ w.heap.size ≤ k := fun o k hk => hk.1.1.imp (fun h => h.1) id
  exact ⟨A, B, cA, cB, Rs, rfl, rfl, Kd.F_mono (Kd.F_step h.hS (fun k hk _ => far k hk.1.2.2.1)) (wide _), Kd.F_mono (Kd.F_step h.hRs (fun k hk _ => far k hk.1.2.2.1)) (wide _), h.lA, h.lB,
    (h.below.setCell (p := ⟨w.heap.size + 1, 0, none⟩) (Nat.le_succ _) _).setCell (p := ⟨w.heap.size + 1, 1, none⟩) (Nat.le_succ _) _⟩
/-- Behind the search: what is still needed, apart from the three boxes. -/
structure LvE (w : World) (ok okR : Nat → Prop) (R : Option Addr) (rests : List ByteArray) (A B : Option Addr) (cA cB : Nat) (S : List DS) (Rs : List (List ByteArray)) (wx : World) : Prop where
  below : Below w.heap.size w wx
  b2 : wx.heap[w.heap.size]? = some (.cells #[.slice A S.length cA, .slice B Rs.length cB] 74 (0, 0))
  b4 : wx.heap[w.heap.size + 1]? = some (.cells #[.slice none 0 0, .slice none 0 0] 74 (0, 0))
  hS : Kd.F k31 wx (okX w ok) A S.length (S.map toS)
  hRs : Kd.F (Kd.slice 9 Kd.string) wx (okX w okR) B Rs.length Rs
  hR : Kd.F Kd.string wx (okX w okR) R rests.length rests
  lA : S.length ≤ cA
  lB : Rs.length ≤ cB
theorem LvW.ofE {w : World} {ok okR : Nat → Prop} {R : Option Addr} {rests : List ByteArray} {fin : Bool} {vE : Value} {es : List DE} {A B : Option Addr} {cA cB : Nat} {S : List DS} {Rs : List (List ByteArray)} {wx : World} (h : LvW w ok okR R rests fin vE es A B cA cB S Rs wx) : LvE w ok okR R rests A B cA cB S Rs wx :=
  ⟨h.below, h.b2, h.b4, Kd.F_drop h.hS, Kd.F_drop h.hRs, Kd.F_drop h.hR, h.lA, h.lB⟩
section
variable {w : World} {ok okR : Nat → Prop} {R : Option Addr} {rests : List ByteArray} {A B : Option Addr} {cA cB : Nat} {S : List DS} {Rs : List (List ByteArray)} {wx : World}
theorem LvE.step {w1 : World} (h : LvE w ok okR R rests A B cA cB S Rs wx) (hb : Below wx.heap.size wx w1) : LvE w ok okR R rests A B cA cB S Rs w1 :=
  ⟨h.below.trans (hb.mono h.below.size), blk_below h.b2 hb, blk_below h.b4 hb, Kd.F_below h.hS hb, Kd.F_below h.hRs hb, Kd.F_below h.hR hb, h.lA, h.lB⟩
theorem LvE.put0 {A' : Option Addr} {cA' : Nat} {S' : List DS} (h : LvE w ok okR R rests A B cA cB S Rs wx) (hS : Kd.F k31 wx (okX w ok) A' S'.length (S'.map toS)) (lA : S'.length ≤ cA') :
    LvE w ok okR R rests A' B cA' cB S' Rs (wx.setCell ⟨w.heap.size, 0, none⟩ (.slice A' S'.length cA')) := by
  have far : ∀ k, k ≠ w.heap.size → (wx.setCell ⟨w.heap.size, 0, none⟩ (.slice A' S'.length cA')).heap[k]? = wx.heap[k]? := fun k hk => Below.heap_setCell wx ⟨w.heap.size, 0, none⟩ _ k hk
  exact ⟨h.below.setCell (p := ⟨w.heap.size, 0, none⟩) (Nat.le_refl _) _, blk_put h.b2 0 _ rfl, (far _ (by omega)).trans h.b4, Kd.F_step hS (fun k hk _ => far k hk.2.1), Kd.F_step h.hRs (fun k hk _ => far k hk.2.1), Kd.F_step h.hR (fun k hk _ => far k hk.2.1), lA, h.lB⟩
theorem LvE.put1 {B' : Option Addr} {cB' : Nat} {Rs' : List (List ByteArray)} (h : LvE w ok okR R rests A B cA cB S Rs wx) (hS : Kd.F (Kd.slice 9 Kd.string) wx (okX w okR) B' Rs'.length Rs') (lB : Rs'.length ≤ cB') :
    LvE w ok okR R rests A B' cA cB' S Rs' (wx.setCell ⟨w.heap.size, 1, none⟩ (.slice B' Rs'.length cB')) := by
  have far : ∀ k, k ≠ w.heap.size → (wx.setCell ⟨w.heap.size, 1, none⟩ (.slice B' Rs'.length cB')).heap[k]? = wx.heap[k]? := fun k hk => Below.heap_setCell wx ⟨w.heap.size, 1, none⟩ _ k hk
  exact ⟨h.below.setCell (p := ⟨w.heap.size, 1, none⟩) (Nat.le_refl _) _, blk_put h.b2 1 _ rfl, (far _ (by omega)).trans h.b4, Kd.F_step h.hS (fun k hk _ => far k hk.2.1), Kd.F_step hS (fun k hk _ => far k hk.2.1), Kd.F_step h.hR (fun k hk _ => far k hk.2.1), h.lA, lB⟩
theorem LvE.out (h : LvE w ok okR R rests A B cA cB S Rs wx) (n : Nat) (u v : Value) :
    RefOut w ok okR ((S, Rs.map wordsN), n) (.returned (.tuple #[.agg #[.slice A S.length cA, .slice B Rs.length cB], .int .i64 (n : Int)])) ((wx.setCell ⟨w.heap.size + 1, 0, none⟩ u).setCell ⟨w.heap.size + 1, 1, none⟩ v) := by
  have far : ∀ k, k ≠ w.heap.size + 1 → ((wx.setCell ⟨w.heap.size + 1, 0, none⟩ u).setCell ⟨w.heap.size + 1, 1, none⟩ v).heap[k]? = wx.heap[k]? := fun k hk =>
    (Below.heap_setCell _ ⟨w.heap.size + 1, 1, none⟩ _ k hk).trans (Below.heap_setCell wx ⟨w.heap.size + 1, 0, none⟩ _ k hk)
  have wide : ∀ (o : Nat → Prop) k, okX w o k → o k ∨ w.heap.size ≤ k := fun o k hk => hk.1.imp (fun h => h.1) id
  exact ⟨A, B, cA, cB, Rs, rfl, rfl, Kd.F_mono (Kd.F_step h.hS (fun k hk _ => far k hk.2.2.1)) (wide _), Kd.F_mono (Kd.F_step h.hRs (fun k hk _ => far k hk.2.2.1)) (wide _), h.lA, h.lB,
    (h.below.setCell (p := ⟨w.heap.size + 1, 0, none⟩) (Nat.le_succ _) _).setCell (p := ⟨w.heap.size + 1, 1, none⟩) (Nat.le_succ _) _⟩
end
theorem rfind_none {x : RS} {r : List (List Nat)} {s : DS} (h : r ∉ x.2) : rfind x r s = ((x.1 ++ [s], x.2 ++ [r]), x.1.length) := by
  unfold rfind; rw [if_neg h]
/-- The state that was made, as cells: its edges' row is of its own, and new. -/
theorem LvW.cell {w : World} {ok okR : Nat → Prop} {R : Option Addr} {rests : List ByteArray} {fin : Bool} {vE : Value} {es : List DE} {A B : Option Addr} {cA cB : Nat} {S : List DS} {Rs : List (List ByteArray)} {wx : World} (h : LvW w ok okR R rests fin vE es A B cA cB S Rs wx) :
    Kd.FK k31 wx (fun k => okX w ok k ∧ k < wx.heap.size) (toS (fin, es)) [.bool fin, vE] := by
  have h1 : Kd.R k33 33 wx w.heap.size (okX w ok) vE (es.map toE) := Kd.R_reok rfl h.hE (fun k hk => by
    have h1 := Kd.R_base h.hE k hk
    have h2 := h.hE.1 k hk
    exact ⟨Or.inr h1, h2.1, h2.2.1, h2.2.2⟩)
  exact Kd.FK_bound (Kd.FK_of_M (k31_mkM _ _ _ (toS (fin, es)) h1))
theorem rfind_found {x : RS} {r : List (List Nat)} {s : DS} {i : Nat} (h : i < x.2.length) (hi : x.2[i] = r) (hn : ∀ j (hj : j < x.2.length), j < i → x.2[j] ≠ r) : rfind x r s = (x, i) := by
  have hm : r ∈ x.2 := hi ▸ List.getElem_mem h
  unfold rfind
  rw [if_pos hm]
  have h1 : x.2.idxOf r < x.2.length := List.idxOf_lt_length_of_mem hm
  have h2 : x.2[x.2.idxOf r] = r := List.getElem_idxOf h1
  have h3 : x.2.idxOf r = i := by
    rcases Nat.lt_trichotomy (x.2.idxOf r) i with h4 | h4 | h4
    · exact absurd h2 (hn _ h1 h4)
    · exact h4
    · exact absurd hi (by
        have := List.not_of_lt_findIdx (p := fun y => y == r) (xs := x.2) (i := i) h4
        simpa using this)
  rw [h3]
theorem wordsN_inj {a b : List ByteArray} (h : wordsN a = wordsN b) : a = b := by
  unfold wordsN at h
  exact (List.map_inj_right (fun a b h => nats_inj h)).1 h
theorem toList_inj2 {s t : ByteArray} (h : s.toList = t.toList) : s = t := by
  rw [ByteArray.toList_eq, ByteArray.toList_eq] at h
  exact ByteArray.ext (Array.toList_inj.1 h)
theorem same_l (a b : List ByteArray) (hl : a.length = b.length) (hm : a.length ≤ 1000000) : ∀ (k i : Nat), i ≤ a.length → a.length < i + k → manteletref14_same.l0 k a b (i : Int) = some (decide (a.drop i = b.drop i))
  | 0, i, h1, h2 => by omega
  | k + 1, i, h1, h2 => by
    unfold manteletref14_same.l0
    by_cases h : i < a.length
    · rw [if_pos (by omega), if_pos (by omega), if_pos (by omega)]
      have hb : i < b.length := by omega
      have e1 : rdOf ByteArray.empty a (i : Int) = a[i] := by
        unfold rdOf
        rw [Int.toNat_natCast, List.getD_eq_getElem?_getD, List.getElem?_eq_getElem h]; rfl
      have e2 : rdOf ByteArray.empty b (i : Int) = b[i] := by
        unfold rdOf
        rw [Int.toNat_natCast, List.getD_eq_getElem?_getD, List.getElem?_eq_getElem hb]; rfl
      have hw : wrap64 ((i : Int) + 1) = ((i + 1 : Nat) : Int) := by unfold wrap64; omega
      rw [e1, e2, List.drop_eq_getElem_cons h, List.drop_eq_getElem_cons hb, hw]
      by_cases he : a[i] = b[i]
      · rw [if_pos (by rw [he]), same_l a b hl hm k (i + 1) (by omega) (by omega)]
        congr 1
        rw [decide_eq_decide]
        exact ⟨fun hh => by rw [he, hh], fun hh => (List.cons.inj hh).2⟩
      · rw [if_neg (fun hh => he (toList_inj2 hh)), decide_eq_false (fun hh => he (List.cons.inj hh).1)]
    · rw [if_neg (by omega), List.drop_eq_nil_of_le (by omega), List.drop_eq_nil_of_le (by omega)]
      simp
theorem same_f (a b : List ByteArray) (h : b.length ≤ 1000000) : manteletref14_same.f (a.length + 1) a b = some (decide (a = b)) := by
  unfold manteletref14_same.f
  by_cases hl : a.length = b.length
  · rw [if_pos (by omega)]
    have := same_l a b hl (by omega) (a.length + 1) 0 (by omega) (by omega)
    simpa using this
  · rw [if_neg (by omega), decide_eq_false (fun e => hl (by rw [e]))]
theorem okX_old {w : World} {ok : Nat → Prop} {k : Nat} (h : ok k ∧ k < w.heap.size) : okX w ok k ∧ some k ≠ (Value.slice none 0 0).ownBlock := ⟨⟨Or.inl h, by omega, by omega, by omega⟩, by simp [Value.ownBlock]⟩
theorem LvW.made {w : World} {ok okR : Nat → Prop} {A B R : Option Addr} {cA cB : Nat} {S : List DS} {Rs : List (List ByteArray)} {rests : List ByteArray} (fin : Bool)
    (hS : Kd.F k31 w ok A S.length (S.map toS)) (hA : S.length ≤ cA) (hRs : Kd.F (Kd.slice 9 Kd.string) w okR B Rs.length Rs) (hB : Rs.length ≤ cB) (hR : Kd.F Kd.string w okR R rests.length rests) :
    LvW w ok okR R rests fin (.slice none 0 0) [] A B cA cB S Rs (((w.alloc (.cells #[.slice A S.length cA, .slice B Rs.length cB] 74)).alloc (.cells #[.slice none 0 0, .slice none 0 0] 74)).alloc (.cells #[.bool fin, .slice none 0 0] 31)) := by
  have n1 := heap_alloc_new w (.cells #[.slice A S.length cA, .slice B Rs.length cB] 74)
  have b1 : Below w.heap.size w (w.alloc (.cells #[.slice A S.length cA, .slice B Rs.length cB] 74)) := below_alloc (Below.refl _ _) _
  have s1 : (w.alloc (.cells #[.slice A S.length cA, .slice B Rs.length cB] 74)).heap.size = w.heap.size + 1 := by simp
  generalize w.alloc (.cells #[.slice A S.length cA, .slice B Rs.length cB] 74) = w1 at n1 b1 s1 ⊢
  have n2 := heap_alloc_new w1 (.cells #[.slice none 0 0, .slice none 0 0] 74)
  have b2 : Below w1.heap.size w1 (w1.alloc (.cells #[.slice none 0 0, .slice none 0 0] 74)) := below_alloc (Below.refl _ _) _
  have s2 : (w1.alloc (.cells #[.slice none 0 0, .slice none 0 0] 74)).heap.size = w1.heap.size + 1 := by simp
  generalize w1.alloc (.cells #[.slice none 0 0, .slice none 0 0] 74) = w2 at n2 b2 s2 ⊢
  have n3 := heap_alloc_new w2 (.cells #[.bool fin, .slice none 0 0] 31)
  have b3 : Below w2.heap.size w2 (w2.alloc (.cells #[.bool fin, .slice none 0 0] 31)) := below_alloc (Below.refl _ _) _
  generalize w2.alloc (.cells #[.bool fin, .slice none 0 0] 31) = w3 at n3 b3 ⊢
  rw [s1] at n2
  rw [s2, s1] at n3
  have bb : Below w.heap.size w w3 := (b1.trans (b2.mono (by omega))).trans (b3.mono (by omega))
  exact ⟨bb, blk_below (blk_below n1 b2) b3, blk_below n2 b3, n3, Kd.R_nil _ _ _ _ _, Kd.F_mono (Kd.F_below (Kd.F_bound hS) bb) (fun k hk => okX_old hk), Kd.F_mono (Kd.F_below (Kd.F_bound hRs) bb) (fun k hk => okX_old hk), Kd.F_mono (Kd.F_below (Kd.F_bound hR) bb) (fun k hk => okX_old hk), hA, hB⟩
theorem no_nil {x : List Nat} {t : List (List Nat)} (h : (x :: t).Pairwise (· < ·)) : ∀ u ∈ t, u ≠ [] := by
  intro u hu e
  have := (List.pairwise_cons.1 h).1 u hu
  rw [e] at this
  exact absurd this (List.not_lt_nil x)
/-- Where the groups begin. -/
def Begins (rests : List ByteArray) (fin : Bool) (at_ : Nat) : Prop :=
  fin = decide ([] ∈ wordsN rests) ∧ at_ ≤ rests.length ∧ grp (wordsN rests) = grp ((wordsN rests).drop at_) ∧ ∀ u ∈ (wordsN rests).drop at_, u ≠ []
theorem begins_nil : Begins [] false 0 := ⟨by simp [wordsN], Nat.le_refl _, rfl, by simp [wordsN]⟩
theorem begins_end {x : ByteArray} {t : List ByteArray} (h : (wordsN (x :: t)).Pairwise (· < ·)) (hx : Utf.nats x = []) : Begins (x :: t) true 1 := by
  unfold wordsN at h
  rw [List.map_cons] at h
  refine ⟨?_, by simp, ?_, fun u hu => ?_⟩
  · rw [decide_eq_true]; unfold wordsN; rw [List.map_cons, hx]; simp
  · unfold wordsN; rw [List.map_cons, hx]; rfl
  · unfold wordsN at hu; rw [List.map_cons] at hu; exact no_nil h u (by simpa using hu)
theorem begins_no {x : ByteArray} {t : List ByteArray} (h : (wordsN (x :: t)).Pairwise (· < ·)) (hx : Utf.nats x ≠ []) : Begins (x :: t) false 0 := by
  unfold wordsN at h
  rw [List.map_cons] at h
  have hn : ∀ u ∈ wordsN (x :: t), u ≠ [] := fun u hu => by
    unfold wordsN at hu
    rw [List.map_cons] at hu
    rcases List.mem_cons.1 hu with rfl | hu
    · exact hx
    · exact no_nil h u hu
  refine ⟨?_, Nat.zero_le _, rfl, fun u hu => hn u (by simpa using hu)⟩
  rw [decide_eq_false]; exact fun h => hn [] h rfl
set_option maxHeartbeats 4000000 in
set_option maxRecDepth 100000 in
theorem rleave_k : ∀ (k : Nat) (ok okR : Nat → Prop) (A B R : Option Addr) (cA cB cR : Nat) (S : List DS) (Rs : List (List ByteArray)) (rests : List ByteArray) (w : World),
    Kd.F k31 w ok A S.length (S.map toS) → S.length ≤ cA → Kd.F (Kd.slice 9 Kd.string) w okR B Rs.length Rs → Rs.length ≤ cB → Kd.F Kd.string w okR R rests.length rests → rests.length ≤ cR →
    (wordsN rests).Pairwise (· < ·) → (∀ x ∈ rests, x.size < k) → 0 < k → (refLeave k (S, Rs.map wordsN) (wordsN rests)).1.1.length ≤ 1000000 → (refLeave k (S, Rs.map wordsN) (wordsN rests)).1.2.length ≤ 1000000 → rests.length ≤ 1000000 →
    Calls Try.prog 37 #[.agg #[.slice A S.length cA, .slice B Rs.length cB], .slice R rests.length cR] w (RefOut w ok okR (refLeave k (S, Rs.map wordsN) (wordsN rests)))
  | 0 => fun _ _ _ _ _ _ _ _ _ _ _ _ _ _ _ _ _ _ _ _ h => absurd h (by omega)
  | k + 1 => fun ok okR A B R cA cB cR S Rs rests w hS hcA hRs hcB hR hcR hsort hsz _ hn1 hn2 hn3 => by
    have ih := rleave_k k
    have IH := Aside0.mk ih
    have HS := Aside0.mk hS; have HA := Aside0.mk hcA; have HRs := Aside0.mk hRs; have HB := Aside0.mk hcB; have HR := Aside0.mk hR; have HCR := Aside0.mk hcR; have HSO := Aside0.mk hsort; have HSZ := Aside0.mk hsz; have HN1 := Aside0.mk hn1; have HN2 := Aside0.mk hn2; have HN3 := Aside0.mk hn3
    clear ih hS hcA hRs hcB hR hcR hsort hsz hn1 hn2 hn3
    go_enter Try.func37, Try.ntmps37
    go_upto_region 3 with fail
    have hM := LvW.made (w := w) (ok := ok) (okR := okR) (rests := rests) false HS.out HA.out HRs.out HB.out HR.out
    have HM := Aside0.mk hM
    clear hM HS HA HRs HB HR
    generalize ((w.alloc (.cells #[.slice A S.length cA, .slice B Rs.length cB] 74)).alloc (.cells #[.slice none 0 0, .slice none 0 0] 74)).alloc (.cells #[.bool false, .slice none 0 0] 31) = w1 at HM ⊢
    have hbeg : Begins rests (decide ([] ∈ wordsN rests)) (if [] ∈ wordsN rests then 1 else 0) := by
      cases rests with
      | nil =>
        have := begins_nil
        rw [decide_eq_false (by simp [wordsN]), if_neg (by simp [wordsN])]
        exact this
      | cons x t =>
        by_cases hx : Utf.nats x = []
        · have h := begins_end HSO.out hx
          have hm : [] ∈ wordsN (x :: t) := by unfold wordsN; rw [List.map_cons, hx]; simp
          rw [decide_eq_true hm, if_pos hm]; exact h
        · have h := begins_no HSO.out hx
          have hm : [] ∉ wordsN (x :: t) := of_decide_eq_false h.1.symm
          rw [decide_eq_false hm, if_neg hm]; exact h
    have HBE := Aside0.mk hbeg
    clear hbeg
    go_cut [22] from 14 to 21 (fun v22 wx => v22 = .bool (decide ([] ∈ wordsN rests)) ∧ wx = w1)
    case first =>
      cases hrs : rests with
      | nil =>
        subst hrs
        have e1 : decide ([] ∈ wordsN []) = false := by simp [wordsN]
        have z0 : decide (((([] : List ByteArray).length : Nat) : Int) > 0) = false := by simp
        go_wp2
        go_meet
        case rel => exact ⟨by rw [e1], rfl⟩
      | cons x t =>
        subst hrs
        have z0 : decide ((((x :: t).length : Nat) : Int) > 0) = true := decide_eq_true (by simp only [List.length_cons]; omega)
        obtain ⟨ad, e0, u0⟩ := Kd.at_string (Kd.F_now HM.out.hR) 0 (by omega) (by simp only [List.length_cons]; omega)
        cases e0
        have hx0 : rdOf ByteArray.empty (x :: t) 0 = x := rfl
        rw [hx0] at u0
        have u1 : w1.cell? ad = some (.string x) := by simpa [Addr.add] using u0
        clear u0
        have e2 : decide ([] ∈ wordsN (x :: t)) = x.toList.isEmpty := by
          rw [str_empty]
          by_cases hx : Utf.nats x = []
          · rw [decide_eq_true hx, ← (begins_end HSO.out hx).1]
          · rw [decide_eq_false hx, ← (begins_no HSO.out hx).1]
        go_wp2
        go_meet
        case rel => exact ⟨by rw [e2], rfl⟩
    case rest =>
      obtain ⟨rfl, rfl⟩ := hcut
      obtain ⟨fin, hfin⟩ : ∃ fin, decide ([] ∈ wordsN rests) = fin := ⟨_, rfl⟩
      obtain ⟨at0, hat0⟩ : ∃ at0, (if [] ∈ wordsN rests then 1 else 0 : Nat) = at0 := ⟨_, rfl⟩
      rw [hfin, hat0] at HBE
      rw [hfin]
      have HFA : Aside0 (at0 = if fin = true then 1 else 0) := ⟨by rw [← hat0, ← hfin]; by_cases h : [] ∈ wordsN rests <;> simp [h]⟩
      have HFI := Aside0.mk hfin
      clear hfin hat0
      go_upto_if 22 with fail
      go_cut [7] from 23 to 23 (fun v7 wx => v7 = .int .i64 (at0 : Int) ∧ Aside0 (LvW w ok okR R rests fin (.slice none 0 0) [] A B cA cB S Rs wx))
      case first =>
        have b6 := HM.out.b6
        cases fin with
        | true =>
          have e1 : at0 = 1 := HFA.out
          subst e1
          have f6 := blk_frozen b6 0
          have c6 : wc.cell? ⟨w.heap.size + 1 + 1, 0, none⟩ = some (.bool false) := (blk_cell b6 0).trans rfl
          go_wp2
          go_meet
          case rel =>
            exact ⟨rfl, ⟨HM.out.fin⟩⟩
        | false =>
          have e1 : at0 = 0 := HFA.out
          subst e1
          go_wp2
          go_meet
          case rel => exact ⟨rfl, HM⟩
      case rest =>
        obtain ⟨rfl, hM⟩ := hcut
        clear HM HFA
        go_wp2
        go_loopg [7] rests.length (fun gg v7 wr => ∃ (at_ : Nat) (dn : List (Nat × List (List Nat))) (es : List DE) (A B : Option Addr) (cA cB : Nat) (S1 : List DS) (Rs1 : List (List ByteArray)) (vE : Value), v7 = .int .i64 at_ ∧ Aside0 (at_ ≤ rests.length ∧ rests.length ≤ gg + at_) ∧ Aside0 (grp (wordsN rests) = dn ++ grp ((wordsN rests).drop at_) ∧ refE (refLeave k) (S, Rs.map wordsN) dn = ((S1, Rs1.map wordsN), es)) ∧ Aside0 (∀ u ∈ (wordsN rests).drop at_, u ≠ []) ∧ Aside0 (LvW w ok okR R rests fin vE es A B cA cB S1 Rs1 wr))
        case atStart => exact ⟨at0, [], [], A, B, cA, cB, S, Rs, _, rfl, ⟨HBE.out.2.1, by omega⟩, ⟨HBE.out.2.2.1, rfl⟩, ⟨HBE.out.2.2.2⟩, hM⟩
        case round =>
          clear hM
          obtain ⟨at_, dn, es, A, B, cA, cB, S1, Rs1, vE, rfl, hat, hgr, hne, hM⟩ := hrel
          obtain ⟨W1, hW1⟩ : ∃ W1, W1 = wr := ⟨_, rfl⟩
          rw [← hW1] at hM ⊢
          clear hW1
          obtain ⟨AE, cE, eE⟩ : ∃ A c, vE = .slice A es.length c := by obtain ⟨A, c, e⟩ := Kd.R_slice hM.out.hE; exact ⟨A, c, by rw [e, List.length_map]⟩
          subst eE
          by_cases hlt : at_ < rests.length
          · have hcb : decide ((at_ : Int) < (rests.length : Int)) = true := decide_eq_true (by omega)
            obtain ⟨ad, e0, u0⟩ := Kd.at_string (Kd.F_now hM.out.hR) (at_ : Int) (by omega) (by omega)
            cases e0
            rw [Int.toNat_natCast] at u0
            have hx : rdOf ByteArray.empty rests (at_ : Int) = rests[at_] := by
              unfold rdOf
              rw [Int.toNat_natCast, List.getD_eq_getElem?_getD, List.getElem?_eq_getElem hlt]; rfl
            rw [hx] at u0
            have hdrop : (wordsN rests).drop at_ = Utf.nats rests[at_] :: (wordsN rests).drop (at_ + 1) := by
              unfold wordsN
              rw [List.drop_eq_getElem_cons (by rw [List.length_map]; exact hlt), List.getElem_map]
            have hpos : 0 < rests[at_].size := by
              have := hne.out (Utf.nats rests[at_]) (by rw [hdrop]; simp)
              have h2 := nats_len rests[at_]
              cases hz : Utf.nats rests[at_] with
              | nil => exact absurd hz this
              | cons a l => rw [hz] at h2; simp at h2; omega
            have HDR := Aside0.mk hdrop
            clear hx hdrop
            obtain ⟨x, hx⟩ : ∃ x, rests[at_] = x := ⟨_, rfl⟩
            rw [hx] at u0 hpos HDR
            have HX := Aside0.mk hx
            clear hx
            go_upto_block 2 with fail
            go_cut [7, 9] from 33 to 55 (fun v7 v9 wx => ∃ at1 : Nat, v7 = .int .i64 (at1 : Int) ∧ Aside0 (at_ < at1 ∧ at1 ≤ rests.length) ∧ Aside0 (Run rests (x[0]'hpos).toNat at_ at1) ∧ Aside0 (∀ h : at1 < rests.length, (Utf.nats rests[at1]).head? ≠ some (x[0]'hpos).toNat) ∧ Aside0 (Kd.R Kd.string 9 wx W1.heap.size (fun k => W1.heap.size ≤ k) v9 (cutR rests at_ at1)) ∧ Aside0 (Below W1.heap.size W1 wx))
            case first =>
              go_wp2
              go_loopg [7, 9] rests.length (fun gg v7 v9 wx => ∃ j : Nat, v7 = .int .i64 (j : Int) ∧ Aside0 (at_ ≤ j ∧ j ≤ rests.length ∧ rests.length ≤ gg + j) ∧ Aside0 (Run rests (x[0]'hpos).toNat at_ j) ∧ Aside0 (Kd.R Kd.string 9 wx W1.heap.size (fun k => W1.heap.size ≤ k) v9 (cutR rests at_ j)) ∧ Aside0 (Below W1.heap.size W1 wx))
              case atStart => exact ⟨at_, rfl, ⟨Nat.le_refl _, by omega, by omega⟩, ⟨fun j h h1 h2 => absurd h1 (by omega)⟩, ⟨by rw [cutR_nil]; exact Kd.R_nil _ _ _ _ _⟩, ⟨Below.refl _ _⟩⟩
              case round =>
                obtain ⟨j, rfl, hj, hrun, hon, hb⟩ := hrel
                by_cases hjl : j < rests.length
                · have hjb : decide ((j : Int) < (rests.length : Int)) = true := decide_eq_true (by omega)
                  obtain ⟨ad2, e0, v0⟩ := Kd.at_string (Kd.F_now (Kd.F_below hM.out.hR hb.out)) (j : Int) (by omega) (by omega)
                  cases e0
                  rw [Int.toNat_natCast] at v0
                  have hy : rdOf ByteArray.empty rests (j : Int) = rests[j] := by
                    unfold rdOf
                    rw [Int.toNat_natCast, List.getD_eq_getElem?_getD, List.getElem?_eq_getElem hjl]; rfl
                  rw [hy] at v0
                  have hmem : Utf.nats rests[j] ∈ (wordsN rests).drop at_ := by
                    have hl : j < (wordsN rests).length := by unfold wordsN; rw [List.length_map]; exact hjl
                    have e : Utf.nats rests[j] = (wordsN rests)[j] := by simp [wordsN]
                    rw [e]
                    exact List.mem_drop_iff_getElem.2 ⟨j - at_, by have := hj.out.1; omega, by congr 1; have := hj.out.1; omega⟩
                  have hne2 := hne.out _ hmem
                  have hyp : 0 < rests[j].size := by
                    have h2 := nats_len rests[j]
                    cases hz : Utf.nats rests[j] with
                    | nil => exact absurd hz hne2
                    | cons a l => rw [hz] at h2; simp at h2; omega
                  have hhd : (Utf.nats rests[j]).head? = some (rests[j][0]'hyp).toNat := by
                    rw [← List.drop_zero (l := Utf.nats rests[j]), byteE _ 0 hyp]; rfl
                  have HCS := Aside0.mk (cutR_snoc rests at_ j hj.out.1 hjl)
                  clear hmem hne2 hy
                  have HHD := Aside0.mk hhd
                  clear hhd
                  generalize hyy : rests[j] = y at v0 hyp HCS HHD
                  have HYY := Aside0.mk hyy
                  clear hyy
                  by_cases hc : (y[0]'hyp).toNat = (x[0]'hpos).toNat
                  · have hcc : (((y[0]'hyp).toNat : Int) == ((x[0]'hpos).toNat : Int)) = true := by rw [hc]; exact beq_self_eq_true _
                    go_wp2_with ((with_reducible refine gate_builtin (b := .append) (xs := #[.tmp 46, .tmp 52]) rfl ?_); at_builtin; refine Kd.R_append Kd.string (w0 := W1) W1.heap.size rfl (.tmp 46) (.tmp 52) 22 9 (.string ⟨#[]⟩) 16 rfl Try.underlying22 info9 rfl (by decide) (by omega) u9 (cutR rests at_ j) (y.extract 1 y.size) [.string (y.extract 1 y.size)] (fun k => W1.heap.size ≤ k) (fun _ => False) rfl rfl ?aP (fun _ hk => hk.elim) ?aF ?aO ?aB ?aS ?aL ?_; (case aP => exact rfl); (case aB => exact hb.out); (case aF => exact (fun k hk => Nat.le_trans hb.out.size hk)); (case aO => exact hon.out); (case aS => exact hb.out.size); (case aL => have h1 := HN3.out; have h2 := cutR_len rests at_ j hj.out.1 hj.out.2.1; omega); intro v1 w5 hon2 hb2 hg2 hat2; rw [← HCS.out] at hon2; have HON2 := Aside0.mk hon2; have HB2 := Aside0.mk hb2; clear hon2 hb2 hg2 hat2)
                    go_roundg (rests.length - (j + 1))
                    case measure => have := hj.out; omega
                    case rel =>
                      refine ⟨j + 1, congrArg (Value.int .i64) (by have := HN3.out; unfold wrap64; omega), ⟨by have := hj.out; omega⟩, ⟨fun i h h1 h2 => ?_⟩, HON2, HB2⟩
                      by_cases hij : i = j
                      · subst hij
                        rw [HYY.out, HHD.out, hc]
                      · exact hrun.out i h h1 (by omega)
                  · have hcc : (((y[0]'hyp).toNat : Int) == ((x[0]'hpos).toNat : Int)) = false := by rw [beq_eq_false_iff_ne]; intro h; exact hc (by omega)
                    have hne3 : at_ ≠ j := by
                      intro e
                      subst e
                      have : x = y := by rw [← HX.out, ← HYY.out]
                      subst this
                      exact hc rfl
                    go_wp2
                    go_meet
                    case rel =>
                      refine ⟨j, rfl, ⟨by have := hj.out.1; omega, hj.out.2.1⟩, hrun, ⟨fun h e => ?_⟩, hon, hb⟩
                      rw [HYY.out, HHD.out] at e
                      exact hc (Option.some.inj e)
                · have hjb : decide ((j : Int) < (rests.length : Int)) = false := decide_eq_false (by omega)
                  have hje : j = rests.length := by have := hj.out.2.1; omega
                  go_wp2
                  go_meet
                  case rel => exact ⟨j, rfl, ⟨by omega, hj.out.2.1⟩, hrun, ⟨fun h => absurd h (by omega)⟩, hon, hb⟩
            case rest =>
              obtain ⟨at1, rfl, hr1, hrun, hnx, hon, hb⟩ := hcut
              have hM1 := hM.out.step hb.out
              obtain ⟨Aon, con, e9⟩ := Kd.R_slice hon.out
              subst e9
              have hlt9 : W1.heap.size ≤ wc.heap.size := hb.out.size
              have hwW : w.heap.size + 1 + 1 < W1.heap.size := (Array.getElem?_eq_some_iff.1 hM.out.b6).1
              have hvlt : ∀ k, (Value.slice AE es.length cE).ownBlock = some k → k < W1.heap.size := Kd.R_lt hM.out.hE
              have hF : Kd.F Kd.string wc (fun k => okX w okR k ∧ some k ≠ (Value.slice AE es.length cE).ownBlock) Aon (cutR rests at_ at1).length (cutR rests at_ at1) := Kd.F_mono (Kd.R_F hon.out) (fun k hk => ⟨⟨Or.inr (by omega), by omega, by omega, by omega⟩, fun e => by have := hvlt k e.symm; omega⟩)
              have hcap : (cutR rests at_ at1).length ≤ con := (Kd.R_reads' hon.out).2.1
              have hgc := grp_cut rests at_ at1 _ hr1.out.1 hr1.out.2 hrun.out hnx.out hne.out
              have hgw : grp (wordsN rests) = dn ++ ((x[0]'hpos).toNat, wordsN (cutR rests at_ at1)) :: grp ((wordsN rests).drop at1) := by rw [hgr.out.1, hgc]
              have hmid := leave_mid k hgw hgr.out.2
              have hkp : 0 < k := by have h1 := HSZ.out x (by rw [← HX.out]; exact List.getElem_mem hlt); omega
              have hic := IH.out (fun k => okX w ok k ∧ some k ≠ (Value.slice AE es.length cE).ownBlock) (fun k => okX w okR k ∧ some k ≠ (Value.slice AE es.length cE).ownBlock) A B Aon cA cB con S1 Rs1 (cutR rests at_ at1) wc hM1.hS hM1.lA hM1.hRs hM1.lB hF hcap (cut_sorted rests at_ at1 _ hrun.out HSO.out) (cut_size rests at_ at1 k hne.out HSZ.out) hkp (Nat.le_trans hmid.1 HN1.out) (Nat.le_trans hmid.2 HN2.out) (by have h0 := hr1.out; have h1 := HN3.out; have h2 := cutR_len rests at_ at1 (by omega) hr1.out.2; omega)
              have hstp := refE_step (refLeave k) hgr.out.2 (x[0]'hpos).toNat (wordsN (cutR rests at_ at1))
              have hgl : (es.map toE).length ≤ 1000000 := by
                have h1 := refE_es (refLeave k) dn (S, Rs.map wordsN)
                rw [hgr.out.2] at h1
                simp only at h1
                have h2 := grp_le (wordsN rests)
                rw [hgw, List.length_append, List.length_cons] at h2
                have h3 : (wordsN rests).length = rests.length := by unfold wordsN; simp
                have h4 := HN3.out
                rw [List.length_map]
                omega
              have b2 := hM1.b2
              have c20 := (blk_cell b2 0).trans rfl
              have c21 := (blk_cell b2 1).trans rfl
              have HM1 := Aside0.mk hM1; have HIC := Aside0.mk hic; have HGW := Aside0.mk hgw; have HSTP := Aside0.mk hstp; have HGL := Aside0.mk hgl
              have HRL : Aside0 ((refLeave k (S1, Rs1.map wordsN) (wordsN (cutR rests at_ at1))).1.1.length ≤ 1000000 ∧ (refLeave k (S1, Rs1.map wordsN) (wordsN (cutR rests at_ at1))).1.2.length ≤ 1000000) := ⟨⟨Nat.le_trans hmid.1 HN1.out, Nat.le_trans hmid.2 HN2.out⟩⟩
              clear hM1 hic hgw hstp hgl hmid hgc hF hcap b2 hrun hnx hon
              obtain ⟨rr, hrr⟩ : ∃ rr, refLeave k (S1, Rs1.map wordsN) (wordsN (cutR rests at_ at1)) = rr := ⟨_, rfl⟩
              rw [hrr] at HIC HSTP HRL
              clear hrr
              obtain ⟨⟨S2, R2⟩, n2⟩ := rr
              go_wp2_with (first | (go_at_call 37; (with_reducible refine (HIC.out).mono ?_)))
              rintro e w2 ⟨A2, B2, cA2, cB2, Rs2, rfl, hRs2, hS2, hR2, hlA2, hlB2, hb2⟩
              subst hRs2
              have hM2 := HM1.out.step hb2
              have HM2 := Aside0.mk hM2; have HS2 := Aside0.mk hS2; have HR2 := Aside0.mk hR2
              clear hM2 hS2 hR2
              go_upto_region 13 with fail
              have hb3 : Below w2.heap.size w2 (w2.alloc (.cells #[.slice A2 S2.length cA2, .slice B2 Rs2.length cB2] 74)) := below_alloc (Below.refl _ _) _
              have hM3 := HM2.out.step hb3
              have hS3 := Kd.F_below HS2.out hb3
              have hR3 := Kd.F_below HR2.out hb3
              have n10 := heap_alloc_new w2 (.cells #[.slice A2 S2.length cA2, .slice B2 Rs2.length cB2] 74)
              have hg3 : wc.heap.size < (w2.alloc (.cells #[.slice A2 S2.length cA2, .slice B2 Rs2.length cB2] 74)).heap.size := by have := hb2.size; have h2 := hb3.size; rw [World.size_alloc]; omega
              generalize w2.alloc (.cells #[.slice A2 S2.length cA2, .slice B2 Rs2.length cB2] 74) = w3 at hb3 hM3 hS3 hR3 n10 hg3 ⊢
              clear HS2 HR2 HM2 HIC hb3
              have d0 : w3.cell? ⟨w2.heap.size, 0, none⟩ = some (.slice A2 S2.length cA2) := (blk_cell n10 0).trans rfl
              have d1 : w3.cell? ⟨w2.heap.size, 1, none⟩ = some (.slice B2 Rs2.length cB2) := (blk_cell n10 1).trans rfl
              have f20 := blk_frozen hM3.b2 0
              have f21 := blk_frozen hM3.b2 1
              have c20 : w3.cell? ⟨w.heap.size, 0, none⟩ = some (.slice A S1.length cA) := (blk_cell hM3.b2 0).trans rfl
              have c21 : w3.cell? ⟨w.heap.size, 1, none⟩ = some (.slice B Rs1.length cB) := (blk_cell hM3.b2 1).trans rfl
              have HM3 := Aside0.mk hM3; have HS3 := Aside0.mk hS3; have HR3 := Aside0.mk hR3
              clear hM3 hS3 hR3 n10
              go_upto_region 14 with fail
              have hwide : ∀ (o : Nat → Prop) k, (okX w o k ∧ some k ≠ (Value.slice AE es.length cE).ownBlock ∨ wc.heap.size ≤ k) → okX w o k ∧ some k ≠ (Value.slice AE es.length cE).ownBlock := by
                intro o k hk
                rcases hk with hk | hk
                · exact hk
                · exact ⟨⟨Or.inr (by omega), by omega, by omega, by omega⟩, fun e => by have := hvlt k e.symm; omega⟩
              have hM4 := HM3.out.put2 (Kd.F_mono HS3.out (hwide _)) (Kd.F_mono HR3.out (hwide _)) hlA2 hlB2
              clear HM3 HS3 HR3 hwide d0 d1 f20 f21 c20 c21
              generalize (w3.setCell ⟨w.heap.size, 0, none⟩ (.slice A2 S2.length cA2)).setCell ⟨w.heap.size, 1, none⟩ (.slice B2 Rs2.length cB2) = w4 at hM4 ⊢
              have c61 : w4.cell? ⟨w.heap.size + 1 + 1, 1, none⟩ = some (.slice AE es.length cE) := (blk_cell hM4.b6 1).trans rfl
              have HM4 := Aside0.mk hM4
              clear hM4
              go_wp2_with (((with_reducible refine gate_builtin (b := .append) (xs := #[.tmp 64, .tmp 68]) rfl ?_); at_builtin; refine Kd.R_append (k33) (w0 := w) w.heap.size rfl (.tmp 64) (.tmp 68) 29 33 (.agg #[(.int .u8 0), (.int .i64 0)]) 16 rfl Try.underlying29 info33 rfl (by decide) (by omega) (.slice AE es.length cE) (es.map toE) (toE ((x[0]'hpos).toNat, n2)) [.int .u8 ((x[0]'hpos).toNat : Int), .int .i64 (n2 : Int)] (fun k => k ≠ w.heap.size ∧ k ≠ w.heap.size + 1 ∧ k ≠ w.heap.size + 1 + 1) (fun _ => False) rfl rfl (k33_mkM _ _ _ _) (fun _ hk => hk.elim) (fun k hk => by have := HM4.out.below.size; have h6 := (Array.getElem?_eq_some_iff.1 HM4.out.b6).1; omega) HM4.out.hE HM4.out.below (HM4.out.below).size (by have := HGL.out; omega) ?_); intro v1 w5 hE5 hb5 hg5 hat5; obtain ⟨A6, c6, e6⟩ : ∃ A c, v1 = .slice A (es.length + 1) c := (by obtain ⟨A, c, e⟩ := Kd.R_slice hE5; exact ⟨A, c, by rw [e, List.length_append, List.length_map]; rfl⟩); subst e6; have b6 := (hg5.block _ (Array.getElem?_eq_some_iff.1 HM4.out.b6).1 (Kd.R_away HM4.out.hE (fun k hk => hk.2.2))).trans HM4.out.b6; have f61 := blk_frozen b6 1; have c65 : w5.cell? ⟨w.heap.size + 1 + 1, 1, none⟩ = some (.slice AE es.length cE) := (blk_cell b6 1).trans rfl; have HM6 := Aside0.mk (HM4.out.grow hE5 hb5 hg5 hat5); clear b6 hE5 hb5 hg5 hat5)
              go_roundg (rests.length - at1)
              case measure => have := hr1.out; have := hat.out; omega
              case rel =>
                refine ⟨at1, dn ++ [((x[0]'hpos).toNat, wordsN (cutR rests at_ at1))], es ++ [((x[0]'hpos).toNat, n2)], A2, B2, cA2, cB2, S2, Rs2, _, rfl, ⟨by have := hr1.out; omega⟩, ⟨by rw [HGW.out, List.append_assoc]; rfl, HSTP.out⟩, ⟨fun u hu => hne.out u ?_⟩, HM6⟩
                have h1 := hr1.out
                have e : (wordsN rests).drop at1 = ((wordsN rests).drop at_).drop (at1 - at_) := by rw [List.drop_drop]; congr 1; omega
                rw [e] at hu
                exact List.mem_of_mem_drop hu
          · have hcb : decide ((at_ : Int) < (rests.length : Int)) = false := decide_eq_false (by omega)
            have hdn : grp (wordsN rests) = dn := by
              rw [hgr.out.1, List.drop_eq_nil_of_le (by unfold wordsN; rw [List.length_map]; omega), show grp [] = [] from rfl, List.append_nil]
            have hres := leave_end k (W := wordsN rests) (x0 := (S, Rs.map wordsN)) (x1 := (S1, Rs1.map wordsN)) (es := es) (by rw [hdn]; exact hgr.out.2)
            have HRES := Aside0.mk hres; have HM1 := hM
            clear hdn hres hM hgr hne hat
            go_upto_block 4 with fail
            go_wp2
            go_loopg [12] Rs1.length (fun gg v12 wr => ∃ i : Nat, v12 = .int .i64 (i : Int) ∧ Aside0 (i ≤ Rs1.length ∧ Rs1.length ≤ gg + i) ∧ Aside0 (∀ j (h : j < Rs1.length), j < i → Rs1[j] ≠ rests) ∧ Aside0 (LvW w ok okR R rests fin (.slice AE es.length cE) es A B cA cB S1 Rs1 wr))
            case atStart => exact ⟨0, rfl, ⟨Nat.zero_le _, by omega⟩, ⟨fun j h h1 => absurd h1 (by omega)⟩, HM1⟩
            case round =>
              clear HM1
              obtain ⟨i, rfl, hi, hno, hM⟩ := hrel
              obtain ⟨W2, hW2⟩ : ∃ W2, W2 = wr := ⟨_, rfl⟩
              rw [← hW2] at hM ⊢
              clear hW2
              have c21 : W2.cell? ⟨w.heap.size, 1, none⟩ = some (.slice B Rs1.length cB) := (blk_cell hM.out.b2 1).trans rfl
              by_cases hil : i < Rs1.length
              · have hib : decide ((i : Int) < (Rs1.length : Int)) = true := decide_eq_true (by omega)
                obtain ⟨adB, c, eB, hcl, hK, hcc, _⟩ := Kd.F_get hM.out.hRs [] (i : Int) (by omega) (by omega)
                rw [Int.toNat_natCast] at hK hcc
                obtain ⟨A4, c4, ec, hl4, hF4⟩ := Kd.FK_slice_open hK
                have hg4 : Rs1.getD i [] = Rs1[i] := by rw [List.getD_eq_getElem?_getD, List.getElem?_eq_getElem hil]; rfl
                rw [hg4] at hl4 hF4 ec
                subst ec eB
                have u4 : W2.cell? (adB.add i) = some (.slice A4 Rs1[i].length c4) := by
                  have := hcc 0 _ rfl
                  simpa [Kd.slice] using this
                have hcall := manteletref14_same.calls (Rs1[i].length + 1) A4 c4 Rs1[i] R cR rests (decide (Rs1[i] = rests)) W2 (Kd.F_now hF4) hl4 (Kd.F_now hM.out.hR) HCR.out (same_f _ _ HN3.out)
                have HCALL := Aside0.mk hcall
                clear hcall hF4 hl4 hK hcc hcl hg4
                by_cases hfound : Rs1[i] = rests
                · rw [decide_eq_true hfound] at HCALL
                  have HFO := Aside0.mk hfound
                  clear hfound
                  have hrf := rfind_found (x := (S1, Rs1.map wordsN)) (r := wordsN rests) (s := (decide ([] ∈ wordsN rests), es)) (i := i) (by simp only [List.length_map]; exact hil) (by simp only [List.getElem_map]; rw [HFO.out]) (fun j hj hji => by
                    simp only [List.length_map] at hj
                    simp only [List.getElem_map]
                    exact fun e => hno.out j hj hji (wordsN_inj e))
                  have HRF := Aside0.mk hrf
                  clear hrf
                  go_wp2_with (first | (go_at_call 48; (with_reducible refine (HCALL.out).mono ?_)))
                  (first | rintro e w2 rfl hdr | rintro e w2 ⟨rfl, hdr⟩)
                  have hM2 := hM.out.step hdr.below
                  clear hdr c21
                  have c20 : w2.cell? ⟨w.heap.size, 0, none⟩ = some (.slice A S1.length cA) := (blk_cell hM2.b2 0).trans rfl
                  have c21 : w2.cell? ⟨w.heap.size, 1, none⟩ = some (.slice (some adB) Rs1.length cB) := (blk_cell hM2.b2 1).trans rfl
                  have c40 : w2.cell? ⟨w.heap.size + 1, 0, none⟩ = some (.slice none 0 0) := (blk_cell hM2.b4 0).trans rfl
                  have c41 : w2.cell? ⟨w.heap.size + 1, 1, none⟩ = some (.slice none 0 0) := (blk_cell hM2.b4 1).trans rfl
                  have f40 := blk_frozen hM2.b4 0
                  have f41 := blk_frozen hM2.b4 1
                  have HM2 := Aside0.mk hM2
                  clear hM2
                  go_wp2
                  have b4 := blk_put (blk_put HM2.out.b4 0 (.slice A S1.length cA) rfl) 1 (.slice (some adB) Rs1.length cB) rfl
                  have e0 := (blk_cell b4 0).trans rfl
                  have e1 := (blk_cell b4 1).trans rfl
                  (try simp only [Exit.inBlock, Exit.then])
                  refine ⟨rfl, .tuple #[.agg #[.slice A S1.length cA, .slice (some adB) Rs1.length cB], .int .i64 (i : Int)], ?_, ?_⟩
                  · rw [results_cell_tmp rfl]
                    go_simp
                  · rw [HRES.out, HRF.out]
                    exact HM2.out.out i _ _
                · rw [decide_eq_false hfound] at HCALL
                  have HFO := Aside0.mk hfound
                  clear hfound
                  go_wp2_with (first | (go_at_call 48; (with_reducible refine (HCALL.out).mono ?_)))
                  (first | rintro e w2 rfl hdr | rintro e w2 ⟨rfl, hdr⟩)
                  have hM2 := hM.out.step hdr.below
                  have HM2 := Aside0.mk hM2
                  clear hM2 hdr
                  go_wp2
                  go_roundg (Rs1.length - (i + 1))
                  case measure => have := hi.out; omega
                  case rel =>
                    refine ⟨i + 1, congrArg (Value.int .i64) ?_, ⟨by have := hi.out; omega⟩, ⟨fun j h h1 => ?_⟩, HM2⟩
                    · have h1 := Kd.F_max HM2.out.hRs
                      unfold wrap64; omega
                    · by_cases hji : j = i
                      · subst hji; exact HFO.out
                      · exact hno.out j h (by omega)
              · have hib : decide ((i : Int) < (Rs1.length : Int)) = false := decide_eq_false (by omega)
                have hrf : refLeave (k + 1) (S, Rs.map wordsN) (wordsN rests) = ((S1 ++ [(fin, es)], (Rs1 ++ [rests]).map wordsN), S1.length) := by
                  rw [HRES.out, rfind_none, HFI.out, List.map_append]; rfl
                  intro hm
                  obtain ⟨y, hy, e⟩ := List.mem_map.1 hm
                  obtain ⟨j, hj, e2⟩ := List.getElem_of_mem hy
                  exact hno.out j hj (by omega) (e2.trans (wordsN_inj e))
                have HRF := Aside0.mk hrf
                have hl1 : S1.length + 1 ≤ 1000000 := by have := HN1.out; rw [hrf] at this; simpa using this
                have hl2 : Rs1.length + 1 ≤ 1000000 := by have := HN2.out; rw [hrf] at this; simpa using this
                have HL1 := Aside0.mk hl1; have HL2 := Aside0.mk hl2
                clear hrf hl1 hl2 HRES hi hno
                go_upto_region 20 with fail
                obtain ⟨S2, hS2⟩ : ∃ S2, S1 ++ [(fin, es)] = S2 := ⟨_, rfl⟩
                have hl2 : S2.length = S1.length + 1 := by rw [← hS2]; simp
                have hm2 : S1.map toS ++ [toS (fin, es)] = S2.map toS := by rw [← hS2]; simp
                obtain ⟨Rs2, hRs2⟩ : ∃ Rs2, Rs1 ++ [rests] = Rs2 := ⟨_, rfl⟩
                have hl3 : Rs2.length = Rs1.length + 1 := by rw [← hRs2]; simp
                rw [hS2, hRs2] at HRF
                have HL4 := Aside0.mk hl2; have HL5 := Aside0.mk hl3; have HMS := Aside0.mk hm2; have HRS := Aside0.mk hRs2
                clear hS2 hl2 hm2 hRs2 hl3
                go_cut [] from 87 (fun wx => ∃ (A6 : Option Addr) (c6 : Nat), Aside0 (LvE w ok okR R rests A6 B c6 cB S2 Rs1 wx) ∧ Aside0 (w.heap.size + 1 + 1 < wx.heap.size))
                case first =>
                  refine start_ (n := 9) (S := fun w' => w'.cell? ⟨w.heap.size, 0, none⟩ = some (.slice A S1.length cA) ∧ w'.cell? ⟨w.heap.size + 1 + 1, 0, none⟩ = some (.bool fin) ∧ w'.cell? ⟨w.heap.size + 1 + 1, 1, none⟩ = some (.slice AE es.length cE)) (ds := [6, 8]) #[false, false, false, false, false, false, false, false, false] (by kernel_rfl) rfl rfl (by exact ⟨(blk_cell (blk_drew hM.out.b2) 0).trans rfl, (blk_cell (blk_drew hM.out.b6) 0).trans rfl, (blk_cell (blk_drew hM.out.b6) 1).trans rfl⟩) (fun hHeld => ?_)
                  have HM3 := Aside0.mk (hM.out.step (below_drew (Below.refl _ _)))
                  clear hM c21
                  generalize W2.drew = w3 at HM3 hHeld ⊢
                  (refine pure_ (i := 1) (N := some 88) (v := ?_) (a' := ?_) #[false, true, false, false, false, false, false, false, false] rfl rfl (by kernel_rfl) (fun _ _ _ h => h) (Or.inl ⟨by rfl, ?_⟩) ?_ ?_; rotate_left; (intro w'; go_simp; with_reducible rfl); rotate_left; (simp only [Act.put, List.setIfInBounds_toArray, List.set_cons_zero, List.set_cons_succ, i64_w, i32_w]; rfl))
                  (refine take_ (i := 2) (N := some 89) (v := ?_) (a' := ?_) #[false, true, true, false, false, false, false, false, false] rfl rfl (by kernel_rfl) (fun _ _ _ h => h) (Or.inl ⟨by rfl, ?_⟩) hHeld ?_ ?_; rotate_left; (rintro w' ⟨s0, s1, s2⟩; go_simp; with_reducible rfl); rotate_left; (simp only [Act.put, List.setIfInBounds_toArray, List.set_cons_zero, List.set_cons_succ, i64_w, i32_w]; rfl)); (refine take_ (i := 4) (N := some 91) (v := ?_) (a' := ?_) #[false, true, true, false, true, false, false, false, false] rfl rfl (by kernel_rfl) (fun _ _ _ h => h) (Or.inl ⟨by rfl, ?_⟩) hHeld ?_ ?_; rotate_left; (rintro w' ⟨s0, s1, s2⟩; go_simp; with_reducible rfl); rotate_left; (simp only [Act.put, List.setIfInBounds_toArray, List.set_cons_zero, List.set_cons_succ, i64_w, i32_w]; rfl))
                  have hg3 : w.heap.size + 1 + 1 < w3.heap.size := (Array.getElem?_eq_some_iff.1 HM3.out.b6).1
                  have hfr : ∀ k, w3.heap.size ≤ k → okX w ok k := fun k hk => ⟨Or.inr (by omega), by omega, by omega, by omega⟩
                  have HFR := Aside0.mk hfr
                  have H3 := Aside0.mk hHeld
                  clear hfr
                -- BEGIN region 20
                  refine two_ (i := 0) (j := 5) (Ni := some 87) (Nj := some 92) #[true, true, true, false, true, false, false, false, false] #[false, true, true, false, true, true, false, false, false] rfl rfl rfl rfl (by kernel_rfl) (by decide) (by decide) (fun K hK => ?_) (fun K hK => ?_)
                  · skip
                    refine Kd.N_lit_step (k31) (w0 := w3) w3.heap.size 31 (by rfl) (N' := 87) (by rfl) (xs := []) (inner := []) (ok := okX w ok) (okp := fun _ => False) ?hw40 (Reps.none _ _) (fun _ h => h.elim) (HFR.out _ (Below.refl w3.heap.size w3).size) (Below.refl w3.heap.size w3) (Below.refl w3.heap.size w3).size (by simp) ?_
                    (case hw40 => first | (go_simp; done) | (go_simp; rfl))
                    intro v87 w4 hN87 hb87 hg87 hat87
                    refine hK.out _ _ ⟨(hb87.cell (World.block_lt_of_cell? _ _ H3.out.1)).trans H3.out.1, (hb87.cell (World.block_lt_of_cell? _ _ H3.out.2.1)).trans H3.out.2.1, (hb87.cell (World.block_lt_of_cell? _ _ H3.out.2.2)).trans H3.out.2.2⟩ (fun hHeld => ?_)
                    obtain ⟨A87, c87, e87⟩ := Kd.N_slice hN87
                    subst e87
                    rw [show ([] : List S31).length = 0 from rfl] at *
                    (clear hK K; refine norm_ (a' := ?_) ?_ ?_; rotate_left; (show Act.put _ (some 87) _ = _; simp only [Act.put, List.setIfInBounds_toArray, List.set_cons_zero, List.set_cons_succ, i64_w, i32_w]; rfl))
                    refine two_ (i := 3) (j := 5) (Ni := some 90) (Nj := some 92) #[true, true, true, true, true, false, false, false, false] #[true, true, true, false, true, true, false, false, false] rfl rfl rfl rfl (by kernel_rfl) (by decide) (by decide) (fun K hK => ?_) (fun K hK => ?_)
                    · skip
                      refine Kd.N_append_rows_step (k31) (w0 := w3) (w3.heap.size) (by rfl) (.tmp 87) (.tmp 89) 25 31 (.agg #[(.bool false), (.slice none 0 0)]) 32 rfl Try.underlying25 info31 rfl (by decide) (by omega) (.slice A87 0 c87) [] (S1.map toS) A S1.length cA (okX w ok) (fun k => okX w ok k ∧ k < w3.heap.size) rfl rfl hN87 (Kd.F_below (Kd.F_bound (Kd.F_drop HM3.out.hS)) hb87) (fun k hk => ⟨hk.1, fun e => by have := Kd.N_base hN87 k e.symm; have := hk.2; omega⟩) (fun k hk => HFR.out k (Nat.le_trans hb87.size hk)) hb87 hb87.size (by have := HL1.out; simp; omega) ?_
                      intro v90 w5 hN90 hb90 hg90 hat90
                      refine hK.out _ _ ⟨(hb90.cell (World.block_lt_of_cell? _ _ H3.out.1)).trans H3.out.1, (hb90.cell (World.block_lt_of_cell? _ _ H3.out.2.1)).trans H3.out.2.1, (hb90.cell (World.block_lt_of_cell? _ _ H3.out.2.2)).trans H3.out.2.2⟩ (fun hHeld => ?_)
                      rw [List.nil_append] at hN90
                      obtain ⟨A5, c5, e5⟩ : ∃ A c, v90 = .slice A S1.length c := by obtain ⟨A, c, e⟩ := Kd.N_slice hN90; exact ⟨A, c, by rw [e, List.length_map]⟩
                      subst e5
                      (clear hK K; refine norm_ (a' := ?_) ?_ ?_; rotate_left; (show Act.put _ (some 90) _ = _; simp only [Act.put, List.setIfInBounds_toArray, List.set_cons_zero, List.set_cons_succ, i64_w, i32_w]; rfl))
                      refine one_ (i := 5) (N := some 92) #[true, true, true, true, true, true, false, false, false] rfl rfl (by kernel_rfl) (by decide) (fun K hK => ?_)
                      refine Kd.N_lit_step (k31) (w0 := w3) w3.heap.size 31 (by rfl) (N' := 92) (by rfl) (xs := [toS (fin, es)]) (inner := [.bool fin, .slice AE es.length cE]) (ok := fun k => (okX w ok k ∧ k < w3.heap.size) ∨ k = w5.heap.size) (okp := fun k => okX w ok k ∧ k < w3.heap.size) ?hw5b1 (Reps.c2 (Kd.FK_below HM3.out.cell hb90) (Reps.none _ _)) (fun _ h => Or.inl h) (Or.inr rfl) hb90 hb90.size (by simp) ?_
                      (case hw5b1 => first | (go_simp; done) | (go_simp; rfl))
                      intro v92 w5b hN92 hb92 hg92 hat92
                      refine hK.out _ _ ⟨(hb92.cell (World.block_lt_of_cell? _ _ H3.out.1)).trans H3.out.1, (hb92.cell (World.block_lt_of_cell? _ _ H3.out.2.1)).trans H3.out.2.1, (hb92.cell (World.block_lt_of_cell? _ _ H3.out.2.2)).trans H3.out.2.2⟩ (fun hHeld => ?_)
                      obtain ⟨A7, c7, e7⟩ := Kd.N_slice hN92
                      subst e7
                      (clear hK K; refine norm_ (a' := ?_) ?_ ?_; rotate_left; (show Act.put _ (some 92) _ = _; simp only [Act.put, List.setIfInBounds_toArray, List.set_cons_zero, List.set_cons_succ, i64_w, i32_w]; rfl))
                      have hgs : w3.heap.size ≤ w5.heap.size := hb90.size
                      have hne90 : some w5.heap.size ≠ (Value.slice A5 S1.length c5).ownBlock := fun e => by have := Kd.N_lt hN90 _ e.symm; omega
                      replace hN90 := Kd.N_grown hN90 hg92 (fun k _ => by simp)
                      have hdis2 : ∀ k, ((okX w ok k ∧ k < w3.heap.size) ∨ k = w5.heap.size) → okX w ok k ∧ some k ≠ (Value.slice A5 S1.length c5).ownBlock := by
                        rintro k (hk | rfl)
                        · exact ⟨hk.1, fun e => by have := Kd.N_base hN90 k e.symm; have := hk.2; omega⟩
                        · exact ⟨HFR.out _ hgs, hne90⟩
                      refine last_ (i := 6) (N := some 93) #[true, true, true, true, true, true, true, false, false] rfl rfl (by kernel_rfl) (by decide) (fun K hK => ?_)
                      refine Kd.N_append_rows_step (k31) (w0 := w3) (w3.heap.size) (by rfl) (.tmp 90) (.tmp 92) 25 31 (.agg #[(.bool false), (.slice none 0 0)]) 32 rfl Try.underlying25 info31 rfl (by decide) (by omega) (.slice A5 S1.length c5) (S1.map toS) [toS (fin, es)] A7 1 c7 (okX w ok) (fun k => (okX w ok k ∧ k < w3.heap.size) ∨ k = w5.heap.size) rfl rfl hN90 (Kd.N_F hN92) hdis2 (fun k hk => HFR.out k (Nat.le_trans hb92.size hk)) hb92 hb92.size (by have := HL1.out; rw [List.length_map]; omega) ?_
                      intro v3 w6 hN6 hb6 hg6 hat6
                      refine hK.out _ _ ?_
                      rw [HMS.out] at hN6
                      obtain ⟨A6, c6, e6⟩ : ∃ A c, v3 = .slice A S2.length c := by obtain ⟨A, c, e⟩ := Kd.N_slice hN6; exact ⟨A, c, by rw [e, List.length_map]⟩
                      subst e6
                      (clear hK K; refine norm_ (a' := ?_) ?_ ?_; rotate_left; (show Act.put _ (some 93) _ = _; simp only [Act.put, List.setIfInBounds_toArray, List.set_cons_zero, List.set_cons_succ, i64_w, i32_w]; rfl))
                      (refine pure_ (i := 7) (N := some 94) (v := ?_) (a' := ?_) #[true, true, true, true, true, true, true, true, false] rfl rfl (by kernel_rfl) (fun _ _ _ h => h) (Or.inl ⟨by rfl, ?_⟩) ?_ ?_; rotate_left; (intro w'; go_simp; with_reducible rfl); rotate_left; (simp only [Act.put, List.setIfInBounds_toArray, List.set_cons_zero, List.set_cons_succ, i64_w, i32_w]; rfl))
                      refine last_ (i := 8) (N := none) #[true, true, true, true, true, true, true, true, true] rfl rfl (by kernel_rfl) (by decide) (fun K hK => ?_)
                      have HE6 := Aside0.mk (HM3.out.ofE.step hb6)
                      have hF6 : Kd.F k31 w6 (okX w ok) A6 S2.length (S2.map toS) := Kd.N_F hN6
                      have hl6 : S2.length ≤ c6 := (Kd.N_reads' hN6).2.1
                      have c0 : w6.cell? ⟨w.heap.size, 0, none⟩ = some (.slice A S1.length cA) := (blk_cell HE6.out.b2 0).trans rfl
                      have f0 := blk_frozen HE6.out.b2 0
                      have HE7 := Aside0.mk (HE6.out.put0 hF6 hl6)
                      have HS7 : Aside0 (w.heap.size + 1 + 1 < (w6.setCell ⟨w.heap.size, 0, none⟩ (.slice A6 S2.length c6)).heap.size) := ⟨by have := hb6.size; simp [World.setCell]; omega⟩
                      clear hF6 hl6 hN6 hb6 HE6 HM3 hN90 hN92 hHeld hdis2 hgs hne90 hg6 hat6
                      refine skip_ (w1 := ?_) (by rfl) rfl ?_ ?_
                      rotate_left
                      · go_simp
                        rfl
                      refine hK.out _ _ ?_
                      clear hK K c0 f0
                      refine done_ (by kernel_rfl) ?_
                      try go_wp2
                      go_meet
                      case rel => exact ⟨A6, c6, HE7, HS7⟩
                    · skip
                      refine Kd.N_lit_step (k31) (w0 := w3) w3.heap.size 31 (by rfl) (N' := 92) (by rfl) (xs := [toS (fin, es)]) (inner := [.bool fin, .slice AE es.length cE]) (ok := fun k => (okX w ok k ∧ k < w3.heap.size) ∨ k = w4.heap.size) (okp := fun k => okX w ok k ∧ k < w3.heap.size) ?hw4b1 (Reps.c2 (Kd.FK_below HM3.out.cell hb87) (Reps.none _ _)) (fun _ h => Or.inl h) (Or.inr rfl) hb87 hb87.size (by simp) ?_
                      (case hw4b1 => first | (go_simp; done) | (go_simp; rfl))
                      intro v92 w4b hN92 hb92 hg92 hat92
                      refine hK.out _ _ ⟨(hb92.cell (World.block_lt_of_cell? _ _ H3.out.1)).trans H3.out.1, (hb92.cell (World.block_lt_of_cell? _ _ H3.out.2.1)).trans H3.out.2.1, (hb92.cell (World.block_lt_of_cell? _ _ H3.out.2.2)).trans H3.out.2.2⟩ (fun hHeld => ?_)
                      obtain ⟨A7, c7, e7⟩ := Kd.N_slice hN92
                      subst e7
                      (clear hK K; refine norm_ (a' := ?_) ?_ ?_; rotate_left; (show Act.put _ (some 92) _ = _; simp only [Act.put, List.setIfInBounds_toArray, List.set_cons_zero, List.set_cons_succ, i64_w, i32_w]; rfl))
                      have hgs : w3.heap.size ≤ w4.heap.size := hb87.size
                      have hl87 := Kd.N_lt hN87
                      replace hN87 := Kd.N_grown hN87 hg92 (fun k _ => by simp)
                      have hgl : w4.heap.size < w4b.heap.size := by obtain ⟨b, hb1, hb2⟩ := hat92; have := Kd.N_lt hN92 b hb1; omega
                      refine one_ (i := 3) (N := some 90) #[true, true, true, true, true, true, false, false, false] rfl rfl (by kernel_rfl) (by decide) (fun K hK => ?_)
                      refine Kd.N_append_rows_step (k31) (w0 := w3) (w3.heap.size) (by rfl) (.tmp 87) (.tmp 89) 25 31 (.agg #[(.bool false), (.slice none 0 0)]) 32 rfl Try.underlying25 info31 rfl (by decide) (by omega) (.slice A87 0 c87) [] (S1.map toS) A S1.length cA (okX w ok) (fun k => okX w ok k ∧ k < w3.heap.size) rfl rfl hN87 (Kd.F_below (Kd.F_bound (Kd.F_drop HM3.out.hS)) hb92) (fun k hk => ⟨hk.1, fun e => by have := Kd.N_base hN87 k e.symm; have := hk.2; omega⟩) (fun k hk => HFR.out k (Nat.le_trans hb92.size hk)) hb92 hb92.size (by have := HL1.out; simp; omega) ?_
                      intro v90 w5 hN90 hb90 hg90 hat90
                      refine hK.out _ _ ⟨(hb90.cell (World.block_lt_of_cell? _ _ H3.out.1)).trans H3.out.1, (hb90.cell (World.block_lt_of_cell? _ _ H3.out.2.1)).trans H3.out.2.1, (hb90.cell (World.block_lt_of_cell? _ _ H3.out.2.2)).trans H3.out.2.2⟩ (fun hHeld => ?_)
                      rw [List.nil_append] at hN90
                      obtain ⟨A5, c5, e5⟩ : ∃ A c, v90 = .slice A S1.length c := by obtain ⟨A, c, e⟩ := Kd.N_slice hN90; exact ⟨A, c, by rw [e, List.length_map]⟩
                      subst e5
                      (clear hK K; refine norm_ (a' := ?_) ?_ ?_; rotate_left; (show Act.put _ (some 90) _ = _; simp only [Act.put, List.setIfInBounds_toArray, List.set_cons_zero, List.set_cons_succ, i64_w, i32_w]; rfl))
                      have hne90 : some w4.heap.size ≠ (Value.slice A5 S1.length c5).ownBlock := fun e => by
                        rcases hat90 with h1 | ⟨b, h1, h2⟩
                        · rw [h1] at e; have := hl87 _ e.symm; omega
                        · rw [h1] at e; injection e with e; omega
                      replace hN92 := Kd.N_grown hN92 hg90 (fun k hk e => by
                        rcases hk with hk | rfl
                        · have := Kd.N_base hN87 k e.symm; have := hk.2; omega
                        · have := hl87 _ e.symm; omega)
                      have hdis2 : ∀ k, ((okX w ok k ∧ k < w3.heap.size) ∨ k = w4.heap.size) → okX w ok k ∧ some k ≠ (Value.slice A5 S1.length c5).ownBlock := by
                        rintro k (hk | rfl)
                        · exact ⟨hk.1, fun e => by have := Kd.N_base hN90 k e.symm; have := hk.2; omega⟩
                        · exact ⟨HFR.out _ hgs, hne90⟩
                      refine last_ (i := 6) (N := some 93) #[true, true, true, true, true, true, true, false, false] rfl rfl (by kernel_rfl) (by decide) (fun K hK => ?_)
                      refine Kd.N_append_rows_step (k31) (w0 := w3) (w3.heap.size) (by rfl) (.tmp 90) (.tmp 92) 25 31 (.agg #[(.bool false), (.slice none 0 0)]) 32 rfl Try.underlying25 info31 rfl (by decide) (by omega) (.slice A5 S1.length c5) (S1.map toS) [toS (fin, es)] A7 1 c7 (okX w ok) (fun k => (okX w ok k ∧ k < w3.heap.size) ∨ k = w4.heap.size) rfl rfl hN90 (Kd.N_F hN92) hdis2 (fun k hk => HFR.out k (Nat.le_trans hb90.size hk)) hb90 hb90.size (by have := HL1.out; rw [List.length_map]; omega) ?_
                      intro v3 w6 hN6 hb6 hg6 hat6
                      refine hK.out _ _ ?_
                      rw [HMS.out] at hN6
                      obtain ⟨A6, c6, e6⟩ : ∃ A c, v3 = .slice A S2.length c := by obtain ⟨A, c, e⟩ := Kd.N_slice hN6; exact ⟨A, c, by rw [e, List.length_map]⟩
                      subst e6
                      (clear hK K; refine norm_ (a' := ?_) ?_ ?_; rotate_left; (show Act.put _ (some 93) _ = _; simp only [Act.put, List.setIfInBounds_toArray, List.set_cons_zero, List.set_cons_succ, i64_w, i32_w]; rfl))
                      (refine pure_ (i := 7) (N := some 94) (v := ?_) (a' := ?_) #[true, true, true, true, true, true, true, true, false] rfl rfl (by kernel_rfl) (fun _ _ _ h => h) (Or.inl ⟨by rfl, ?_⟩) ?_ ?_; rotate_left; (intro w'; go_simp; with_reducible rfl); rotate_left; (simp only [Act.put, List.setIfInBounds_toArray, List.set_cons_zero, List.set_cons_succ, i64_w, i32_w]; rfl))
                      refine last_ (i := 8) (N := none) #[true, true, true, true, true, true, true, true, true] rfl rfl (by kernel_rfl) (by decide) (fun K hK => ?_)
                      have HE6 := Aside0.mk (HM3.out.ofE.step hb6)
                      have hF6 : Kd.F k31 w6 (okX w ok) A6 S2.length (S2.map toS) := Kd.N_F hN6
                      have hl6 : S2.length ≤ c6 := (Kd.N_reads' hN6).2.1
                      have c0 : w6.cell? ⟨w.heap.size, 0, none⟩ = some (.slice A S1.length cA) := (blk_cell HE6.out.b2 0).trans rfl
                      have f0 := blk_frozen HE6.out.b2 0
                      have HE7 := Aside0.mk (HE6.out.put0 hF6 hl6)
                      have HS7 : Aside0 (w.heap.size + 1 + 1 < (w6.setCell ⟨w.heap.size, 0, none⟩ (.slice A6 S2.length c6)).heap.size) := ⟨by have := hb6.size; simp [World.setCell]; omega⟩
                      clear hF6 hl6 hN6 hb6 HE6 HM3 hN90 hN92 hHeld hdis2 hgs hne90 hg6 hat6
                      refine skip_ (w1 := ?_) (by rfl) rfl ?_ ?_
                      rotate_left
                      · go_simp
                        rfl
                      refine hK.out _ _ ?_
                      clear hK K c0 f0
                      refine done_ (by kernel_rfl) ?_
                      try go_wp2
                      go_meet
                      case rel => exact ⟨A6, c6, HE7, HS7⟩
                  · skip
                    refine Kd.N_lit_step (k31) (w0 := w3) w3.heap.size 31 (by rfl) (N' := 92) (by rfl) (xs := [toS (fin, es)]) (inner := [.bool fin, .slice AE es.length cE]) (ok := fun k => (okX w ok k ∧ k < w3.heap.size) ∨ k = w3.heap.size) (okp := fun k => okX w ok k ∧ k < w3.heap.size) ?hw3b1 (Reps.c2 (Kd.FK_below HM3.out.cell (Below.refl w3.heap.size w3)) (Reps.none _ _)) (fun _ h => Or.inl h) (Or.inr rfl) (Below.refl w3.heap.size w3) (Below.refl w3.heap.size w3).size (by simp) ?_
                    (case hw3b1 => first | (go_simp; done) | (go_simp; rfl))
                    intro v92 w3b hN92 hb92 hg92 hat92
                    refine hK.out _ _ ⟨(hb92.cell (World.block_lt_of_cell? _ _ H3.out.1)).trans H3.out.1, (hb92.cell (World.block_lt_of_cell? _ _ H3.out.2.1)).trans H3.out.2.1, (hb92.cell (World.block_lt_of_cell? _ _ H3.out.2.2)).trans H3.out.2.2⟩ (fun hHeld => ?_)
                    obtain ⟨A7, c7, e7⟩ := Kd.N_slice hN92
                    subst e7
                    (clear hK K; refine norm_ (a' := ?_) ?_ ?_; rotate_left; (show Act.put _ (some 92) _ = _; simp only [Act.put, List.setIfInBounds_toArray, List.set_cons_zero, List.set_cons_succ, i64_w, i32_w]; rfl))
                    have hgs : w3.heap.size ≤ w3.heap.size := Nat.le_refl _
                    have hgl : w3.heap.size < w3b.heap.size := by obtain ⟨b, hb1, hb2⟩ := hat92; have := Kd.N_lt hN92 b hb1; omega
                    refine one_ (i := 0) (N := some 87) #[true, true, true, false, true, true, false, false, false] rfl rfl (by kernel_rfl) (by decide) (fun K hK => ?_)
                    refine Kd.N_lit_step (k31) (w0 := w3) w3.heap.size 31 (by rfl) (N' := 87) (by rfl) (xs := []) (inner := []) (ok := okX w ok) (okp := fun _ => False) ?hw40 (Reps.none _ _) (fun _ h => h.elim) (HFR.out _ hb92.size) hb92 hb92.size (by simp) ?_
                    (case hw40 => first | (go_simp; done) | (go_simp; rfl))
                    intro v87 w4 hN87 hb87 hg87 hat87
                    refine hK.out _ _ ⟨(hb87.cell (World.block_lt_of_cell? _ _ H3.out.1)).trans H3.out.1, (hb87.cell (World.block_lt_of_cell? _ _ H3.out.2.1)).trans H3.out.2.1, (hb87.cell (World.block_lt_of_cell? _ _ H3.out.2.2)).trans H3.out.2.2⟩ (fun hHeld => ?_)
                    obtain ⟨A87, c87, e87⟩ := Kd.N_slice hN87
                    subst e87
                    rw [show ([] : List S31).length = 0 from rfl] at *
                    (clear hK K; refine norm_ (a' := ?_) ?_ ?_; rotate_left; (show Act.put _ (some 87) _ = _; simp only [Act.put, List.setIfInBounds_toArray, List.set_cons_zero, List.set_cons_succ, i64_w, i32_w]; rfl))
                    have hl87 : ∀ k, (Value.slice A87 0 c87).ownBlock = some k → w3b.heap.size ≤ k := fun k hk => by obtain ⟨b, h1, h2⟩ := hat87; rw [h1] at hk; injection hk with hk; omega
                    have hs34 : w3b.heap.size ≤ w4.heap.size := hg87.size
                    replace hN92 := Kd.N_grown hN92 hg87 (fun k _ => by simp)
                    refine one_ (i := 3) (N := some 90) #[true, true, true, true, true, true, false, false, false] rfl rfl (by kernel_rfl) (by decide) (fun K hK => ?_)
                    refine Kd.N_append_rows_step (k31) (w0 := w3) (w3.heap.size) (by rfl) (.tmp 87) (.tmp 89) 25 31 (.agg #[(.bool false), (.slice none 0 0)]) 32 rfl Try.underlying25 info31 rfl (by decide) (by omega) (.slice A87 0 c87) [] (S1.map toS) A S1.length cA (okX w ok) (fun k => okX w ok k ∧ k < w3.heap.size) rfl rfl hN87 (Kd.F_below (Kd.F_bound (Kd.F_drop HM3.out.hS)) hb87) (fun k hk => ⟨hk.1, fun e => by have := Kd.N_base hN87 k e.symm; have := hk.2; omega⟩) (fun k hk => HFR.out k (Nat.le_trans hb87.size hk)) hb87 hb87.size (by have := HL1.out; simp; omega) ?_
                    intro v90 w5 hN90 hb90 hg90 hat90
                    refine hK.out _ _ ⟨(hb90.cell (World.block_lt_of_cell? _ _ H3.out.1)).trans H3.out.1, (hb90.cell (World.block_lt_of_cell? _ _ H3.out.2.1)).trans H3.out.2.1, (hb90.cell (World.block_lt_of_cell? _ _ H3.out.2.2)).trans H3.out.2.2⟩ (fun hHeld => ?_)
                    rw [List.nil_append] at hN90
                    obtain ⟨A5, c5, e5⟩ : ∃ A c, v90 = .slice A S1.length c := by obtain ⟨A, c, e⟩ := Kd.N_slice hN90; exact ⟨A, c, by rw [e, List.length_map]⟩
                    subst e5
                    (clear hK K; refine norm_ (a' := ?_) ?_ ?_; rotate_left; (show Act.put _ (some 90) _ = _; simp only [Act.put, List.setIfInBounds_toArray, List.set_cons_zero, List.set_cons_succ, i64_w, i32_w]; rfl))
                    have hne90 : some w3.heap.size ≠ (Value.slice A5 S1.length c5).ownBlock := fun e => by
                      rcases hat90 with h1 | ⟨b, h1, h2⟩
                      · rw [h1] at e; have := hl87 _ e.symm; omega
                      · rw [h1] at e; injection e with e; omega
                    replace hN92 := Kd.N_grown hN92 hg90 (fun k hk e => by
                      rcases hk with hk | rfl
                      · have := Kd.N_base hN87 k e.symm; have := hk.2; omega
                      · have := hl87 _ e.symm; omega)
                    have hdis2 : ∀ k, ((okX w ok k ∧ k < w3.heap.size) ∨ k = w3.heap.size) → okX w ok k ∧ some k ≠ (Value.slice A5 S1.length c5).ownBlock := by
                      rintro k (hk | rfl)
                      · exact ⟨hk.1, fun e => by have := Kd.N_base hN90 k e.symm; have := hk.2; omega⟩
                      · exact ⟨HFR.out _ hgs, hne90⟩
                    refine last_ (i := 6) (N := some 93) #[true, true, true, true, true, true, true, false, false] rfl rfl (by kernel_rfl) (by decide) (fun K hK => ?_)
                    refine Kd.N_append_rows_step (k31) (w0 := w3) (w3.heap.size) (by rfl) (.tmp 90) (.tmp 92) 25 31 (.agg #[(.bool false), (.slice none 0 0)]) 32 rfl Try.underlying25 info31 rfl (by decide) (by omega) (.slice A5 S1.length c5) (S1.map toS) [toS (fin, es)] A7 1 c7 (okX w ok) (fun k => (okX w ok k ∧ k < w3.heap.size) ∨ k = w3.heap.size) rfl rfl hN90 (Kd.N_F hN92) hdis2 (fun k hk => HFR.out k (Nat.le_trans hb90.size hk)) hb90 hb90.size (by have := HL1.out; rw [List.length_map]; omega) ?_
                    intro v3 w6 hN6 hb6 hg6 hat6
                    refine hK.out _ _ ?_
                    rw [HMS.out] at hN6
                    obtain ⟨A6, c6, e6⟩ : ∃ A c, v3 = .slice A S2.length c := by obtain ⟨A, c, e⟩ := Kd.N_slice hN6; exact ⟨A, c, by rw [e, List.length_map]⟩
                    subst e6
                    (clear hK K; refine norm_ (a' := ?_) ?_ ?_; rotate_left; (show Act.put _ (some 93) _ = _; simp only [Act.put, List.setIfInBounds_toArray, List.set_cons_zero, List.set_cons_succ, i64_w, i32_w]; rfl))
                    (refine pure_ (i := 7) (N := some 94) (v := ?_) (a' := ?_) #[true, true, true, true, true, true, true, true, false] rfl rfl (by kernel_rfl) (fun _ _ _ h => h) (Or.inl ⟨by rfl, ?_⟩) ?_ ?_; rotate_left; (intro w'; go_simp; with_reducible rfl); rotate_left; (simp only [Act.put, List.setIfInBounds_toArray, List.set_cons_zero, List.set_cons_succ, i64_w, i32_w]; rfl))
                    refine last_ (i := 8) (N := none) #[true, true, true, true, true, true, true, true, true] rfl rfl (by kernel_rfl) (by decide) (fun K hK => ?_)
                    have HE6 := Aside0.mk (HM3.out.ofE.step hb6)
                    have hF6 : Kd.F k31 w6 (okX w ok) A6 S2.length (S2.map toS) := Kd.N_F hN6
                    have hl6 : S2.length ≤ c6 := (Kd.N_reads' hN6).2.1
                    have c0 : w6.cell? ⟨w.heap.size, 0, none⟩ = some (.slice A S1.length cA) := (blk_cell HE6.out.b2 0).trans rfl
                    have f0 := blk_frozen HE6.out.b2 0
                    have HE7 := Aside0.mk (HE6.out.put0 hF6 hl6)
                    have HS7 : Aside0 (w.heap.size + 1 + 1 < (w6.setCell ⟨w.heap.size, 0, none⟩ (.slice A6 S2.length c6)).heap.size) := ⟨by have := hb6.size; simp [World.setCell]; omega⟩
                    clear hF6 hl6 hN6 hb6 HE6 HM3 hN90 hN92 hHeld hdis2 hgs hne90 hg6 hat6
                    refine skip_ (w1 := ?_) (by rfl) rfl ?_ ?_
                    rotate_left
                    · go_simp
                      rfl
                    refine hK.out _ _ ?_
                    clear hK K c0 f0
                    refine done_ (by kernel_rfl) ?_
                    try go_wp2
                    go_meet
                    case rel => exact ⟨A6, c6, HE7, HS7⟩
                -- END region 20
                case rest =>
                  obtain ⟨A6, c6, HE7, HS7⟩ := hcut
                  clear hM c21
                  obtain ⟨W7, hW7⟩ : ∃ W7, W7 = wc := ⟨_, rfl⟩
                  rw [← hW7] at HE7 HS7 ⊢
                  clear hW7
                  have hg7 : w.heap.size + 1 < W7.heap.size := (Array.getElem?_eq_some_iff.1 HE7.out.b4).1
                  have hg72 : w.heap.size + 1 + 1 < W7.heap.size := HS7.out
                  have hfr : ∀ k, W7.heap.size ≤ k → okX w okR k := fun k hk => ⟨Or.inr (by omega), by omega, by omega, by omega⟩
                  have HFR := Aside0.mk hfr
                  clear hfr
                  go_wp2_with (first
                    | ((with_reducible refine gate_dst (N := 95) rfl ?_); refine Kd.N_lit (Kd.slice 9 Kd.string) (w0 := W7) W7.heap.size 22 ?hg (N' := 95) ?hd (xs := []) (inner := []) (ok := okX w okR) (okp := fun _ => False) ?hr (Reps.none _ _) (fun _ h => h.elim) (HFR.out _ (Nat.le_refl _)) (Below.refl _ _) (Nat.le_refl _) (by simp) ?_; (case hd => rfl); (case hg => rfl); (case hr => first | (go_simp; done) | (go_simp; rfl)); intro v95 w8 hN8 hb8 hg8 hat8; obtain ⟨A8, c8, e8⟩ : ∃ A c, v95 = .slice A 0 c := (Kd.N_slice hN8); subst e8; have HE8 := Aside0.mk (HE7.out.step hb8); have c81 : w8.cell? ⟨w.heap.size, 1, none⟩ = some (.slice B Rs1.length cB) := (blk_cell HE8.out.b2 1).trans rfl; have HN8 := Aside0.mk hN8; have HB8 := Aside0.mk hb8; clear hN8 hb8 hg8 hat8)
                    | (((with_reducible refine gate_builtin (b := .append) (xs := #[.tmp 95, .tmp 97]) rfl ?_); at_builtin; refine Kd.N_append_rows ((Kd.slice 9 Kd.string)) (w0 := W7) (W7.heap.size) rfl (.tmp 95) (.tmp 97) 72 22 (.slice none 0 0) 24 rfl Try.underlying72 info22 rfl (by decide) (by omega) (.slice A8 0 c8) [] Rs1 B Rs1.length cB (okX w okR) (fun k => okX w okR k ∧ k < W7.heap.size) rfl rfl HN8.out (Kd.F_below (Kd.F_bound HE7.out.hRs) HB8.out) (fun k hk => ⟨hk.1, fun e => by have := Kd.N_base HN8.out k e.symm; have := hk.2; omega⟩) (fun k hk => HFR.out k (Nat.le_trans HB8.out.size hk)) HB8.out HB8.out.size (by have := HL2.out; simp; omega) ?_); intro v98 w9 hN9 hb9 hg9 hat9; rw [List.nil_append] at hN9; obtain ⟨A9, c9, e9⟩ := Kd.N_slice hN9; subst e9; have HN9 := Aside0.mk hN9; have HB9 := Aside0.mk hb9; clear hN9 hb9 hg9 hat9)
                    | (((with_reducible refine gate_builtin (b := .append) (xs := #[.tmp 98, .tmp 100]) rfl ?_); at_builtin; refine Kd.N_append ((Kd.slice 9 Kd.string)) (w0 := W7) (W7.heap.size) rfl (.tmp 98) (.tmp 100) 72 22 (.slice none 0 0) 24 rfl Try.underlying72 info22 rfl (by decide) (by omega) (.slice A9 Rs1.length c9) Rs1 rests [.slice R rests.length cR] (okX w okR) (fun k => okX w okR k ∧ k < W7.heap.size) rfl rfl (Kd.FK_slice_mk HCR.out (Kd.F_below (Kd.F_bound HE7.out.hR) HB9.out)) (fun k hk => ⟨hk.1, fun e => by have := Kd.N_base HN9.out k e.symm; have := hk.2; omega⟩) (fun k hk => HFR.out k (Nat.le_trans HB9.out.size hk)) HN9.out HB9.out HB9.out.size (by have := HL2.out; omega) ?_); intro v101 w10 hN10 hb10 hg10 hat10; rw [HRS.out] at hN10; obtain ⟨A10, c10, e10⟩ := Kd.N_slice hN10; subst e10; have HE10 := Aside0.mk (HE7.out.step hb10); have c101 : w10.cell? ⟨w.heap.size, 1, none⟩ = some (.slice B Rs1.length cB) := (blk_cell HE10.out.b2 1).trans rfl; have f101 := blk_frozen HE10.out.b2 1; have HE11 := Aside0.mk (HE10.out.put1 (Kd.N_F hN10) (Kd.N_reads' hN10).2.1); clear hN10 hb10 hg10 hat10))
                  clear HE7 HE8 HE10 HN8 HN9 HB8 HB9 HS7 hg7 hg72 c81 c101 f101 HFR
                  generalize w10.setCell ⟨w.heap.size, 1, none⟩ (.slice A10 Rs2.length c10) = w11 at HE11 ⊢
                  refine start_ (n := 7) (S := fun w' => w'.cell? ⟨w.heap.size, 0, none⟩ = some (.slice A6 S2.length c6) ∧ w'.cell? ⟨w.heap.size, 1, none⟩ = some (.slice A10 Rs2.length c10)) (ds := []) #[false, false, false, false, false, false, false] (by kernel_rfl) rfl rfl (by exact ⟨(blk_cell (blk_drew HE11.out.b2) 0).trans rfl, (blk_cell (blk_drew HE11.out.b2) 1).trans rfl⟩) (fun hHeld => ?_)
                  have HE12 := Aside0.mk (HE11.out.step (below_drew (Below.refl _ _)))
                  clear HE11
                  generalize w11.drew = w12 at HE12 hHeld ⊢
                  have hw5 : wrap64 ((S2.length : Int) - 1) = (S1.length : Int) := by have h1 := HL4.out; have h2 := HL1.out; unfold wrap64; omega
                  (refine pure_ (i := 1) (N := some 104) (v := ?_) (a' := ?_) #[false, true, false, false, false, false, false] rfl rfl (by kernel_rfl) (fun _ _ _ h => h) (Or.inl ⟨by rfl, ?_⟩) ?_ ?_; rotate_left; (intro w'; go_simp; with_reducible rfl); rotate_left; (simp only [Act.put, List.setIfInBounds_toArray, List.set_cons_zero, List.set_cons_succ, i64_w, i32_w]; rfl))
                  (refine take_ (i := 0) (N := some 103) (v := ?_) (a' := ?_) #[true, true, false, false, false, false, false] rfl rfl (by kernel_rfl) (fun _ _ _ h => h) (Or.inl ⟨by rfl, ?_⟩) hHeld ?_ ?_; rotate_left; (rintro w' ⟨s0, s1⟩; go_simp; with_reducible rfl); rotate_left; (simp only [Act.put, List.setIfInBounds_toArray, List.set_cons_zero, List.set_cons_succ, i64_w, i32_w]; rfl)); (refine take_ (i := 2) (N := some 105) (v := ?_) (a' := ?_) #[true, true, true, false, false, false, false] rfl rfl (by kernel_rfl) (fun _ _ _ h => h) (Or.inl ⟨by rfl, ?_⟩) hHeld ?_ ?_; rotate_left; (rintro w' ⟨s0, s1⟩; go_simp; with_reducible rfl); rotate_left; (simp only [Act.put, List.setIfInBounds_toArray, List.set_cons_zero, List.set_cons_succ, i64_w, i32_w]; rfl))
                  (refine pure_ (i := 3) (N := some 106) (v := ?_) (a' := ?_) #[true, true, true, true, false, false, false] rfl rfl (by kernel_rfl) (fun _ _ _ h => h) (Or.inl ⟨by rfl, ?_⟩) ?_ ?_; rotate_left; (intro w'; go_simp; with_reducible rfl); rotate_left; (simp only [Act.put, List.setIfInBounds_toArray, List.set_cons_zero, List.set_cons_succ, i64_w, i32_w]; rfl)); (refine pure_ (i := 4) (N := some 107) (v := ?_) (a' := ?_) #[true, true, true, true, true, false, false] rfl rfl (by kernel_rfl) (fun _ _ _ h => h) (Or.inl ⟨by rfl, ?_⟩) ?_ ?_; rotate_left; (intro w'; go_simp; with_reducible rfl); rotate_left; (simp only [Act.put, List.setIfInBounds_toArray, List.set_cons_zero, List.set_cons_succ, i64_w, i32_w]; rfl))
                  rw [hw5]
                  refine one_ (i := 5) (N := none) #[true, true, true, true, true, true, false] rfl rfl (by kernel_rfl) (by decide) (fun K hK => ?_)
                  have c40 : w12.cell? ⟨w.heap.size + 1, 0, none⟩ = some (.slice none 0 0) := (blk_cell HE12.out.b4 0).trans rfl
                  have c41 : w12.cell? ⟨w.heap.size + 1, 1, none⟩ = some (.slice none 0 0) := (blk_cell HE12.out.b4 1).trans rfl
                  have f40 := blk_frozen HE12.out.b4 0
                  have f41 := blk_frozen HE12.out.b4 1
                  refine skip_ (w1 := ?_) (by rfl) rfl ?_ ?_
                  rotate_left
                  · go_simp
                    rfl
                  have b2 := (Below.heap_setCell (w12.setCell ⟨w.heap.size + 1, 0, none⟩ (.slice A6 S2.length c6)) ⟨w.heap.size + 1, 1, none⟩ (.slice A10 Rs2.length c10) w.heap.size (by show w.heap.size ≠ w.heap.size + 1; omega)).trans ((Below.heap_setCell w12 ⟨w.heap.size + 1, 0, none⟩ (.slice A6 S2.length c6) w.heap.size (by show w.heap.size ≠ w.heap.size + 1; omega)).trans HE12.out.b2)
                  refine hK.out _ _ ⟨(blk_cell b2 0).trans rfl, (blk_cell b2 1).trans rfl⟩ (fun hHeld => ?_)
                  clear hK K
                  (refine pure_ (i := 6) (N := some 5) (v := ?_) (a' := ?_) #[true, true, true, true, true, true, true] rfl rfl (by kernel_rfl) (fun _ _ _ h => h) (Or.inl ⟨by rfl, ?_⟩) ?_ ?_; rotate_left; (intro w'; go_simp; with_reducible rfl); rotate_left; (simp only [Act.put, List.setIfInBounds_toArray, List.set_cons_zero, List.set_cons_succ, i64_w, i32_w]; rfl))
                  refine done_ (by kernel_rfl) ?_
                  try go_wp2
                  have b4 := blk_put (blk_put HE12.out.b4 0 (.slice A6 S2.length c6) rfl) 1 (.slice A10 Rs2.length c10) rfl
                  have e0 := (blk_cell b4 0).trans rfl
                  have e1 := (blk_cell b4 1).trans rfl
                  (try simp only [Exit.inBlock, Exit.then])
                  refine ⟨rfl, .tuple #[.agg #[.slice A6 S2.length c6, .slice A10 Rs2.length c10], .int .i64 (S1.length : Int)], ?_, ?_⟩
                  · rw [results_cell_tmp rfl]
                    go_simp
                  · rw [HRF.out]
                    exact HE12.out.out S1.length _ _
end Go.Proofs.Ytebdcblchjhmpaa.K

