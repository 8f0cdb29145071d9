/- DawWords. (The texts that the proof is made of, one behind the other: part 9 of 11.) -/
import Derived.Laws.EntriesVeiled
import Derived.Test.YtebdcblchjhmpaaProg
import Derived.Below
import Derived.Deep.Draws
import Derived.Deep.AppendLies
import Derived.Maps.AppendAt
import Derived.OwnWalk
import Derived.Laws.BytesArg
import Derived.Laws.MakeOwn
import Derived.Laws.OwnMore
import Derived.Deep.OwnRows
import Derived.Tactics
import Derived.Lib.ConvBytes
import Derived.Laws.Slices
import Derived.WalkKit
import Derived.KernelRfl
import Derived.RowKit3
import Derived.Deep.LoopGhost
import Derived.Deep.QuietTactic
import Derived.BigQuiet
import Derived.WideLaws
import Derived.Deep.DeepCutAuto
import Derived.Deep.CutBlock
import Derived.Deep.RegionHeld3
import Derived.Laws.Rows
import Derived.Lib.AppendStr
import Derived.ArgAppend
import Derived.Laws.IdiomCopy
import Derived.OrdersHeld
import Derived.Laws.BitsLemmas
import Derived.RowKit
import Derived.Lib.OthersKept
import Derived.WalkSmall
import Derived.Deep.RegionLaw
import Derived.BigRegion
import Derived.Test.YtebdcblchjhmpaaZDawWordsa
import Derived.Test.YtebdcblchjhmpaaZDawWordsb
import Derived.Test.YtebdcblchjhmpaaZDawWordsc
import Derived.Test.YtebdcblchjhmpaaZDawWordsd
import Derived.Test.YtebdcblchjhmpaaZDawWordse
import Derived.Test.YtebdcblchjhmpaaZDawWordsf
import Derived.Test.YtebdcblchjhmpaaZDawWordsg
import Derived.Test.YtebdcblchjhmpaaZDawWordsh
namespace Go.Proofs.Ytebdcblchjhmpaa.K
open Go.RowKit Go.Proofs.YtebdcblchjhmpaaW.PrintWords Go.Proofs.YtebdcblchjhmpaaW.PrintLast Go.Proofs.YtebdcblchjhmpaaW.PrintMore Go.Proofs.Ytebdcblchjhmpaa
attribute [local go_sem] max2_int min2_int max_two min_two max_three min_three max_four min_four
set_option linter.unusedVariables false
set_option linter.unusedSimpArgs false
open Go.Proofs.Ytebdcblchjhmpaa.PDk Go.Proofs.Ytebdcblchjhmpaa.PDm
def daw_Words.f (l : List S31) (a1 : Int) : Option (List ByteArray × Int) :=
  if okB l = true ∧ lowB l = true ∧ 0 < l.length then
    (if a1 < 0 then some ([], 1) else if 100000 < a1 then some ([], 1) else if mayB l = true then
      (if (tl l a1.toNat l.length (l.length - 1) ⟨#[]⟩ []).1 = true then some ((tl l a1.toNat l.length (l.length - 1) ⟨#[]⟩ []).2, 0) else some ([], 6)) else some ([], 1))
  else none
theorem made_tk (w w1 : World) (A : Option Addr) (c : Nat) (l : List S31) (most : Nat) (hb : Below w.heap.size w w1) (ha : w1.heap[w.heap.size]? = some (.cells #[.slice A l.length c] 25 (0, 0))) (hm : w1.heap[w.heap.size + 1]? = some (.cells #[.int .i64 (most : Int)] 3 (0, 0))) :
    TkW w w.heap.size w1.heap.size (w.heap.size + 1) (w1.heap.size + 1) A c l most [] ((w1.alloc (.cells #[.slice none 0 0] 22 (0, 0))).alloc (.cells #[.func (.func 45) #[] #[.pointer (some ⟨w.heap.size, 0, none⟩), .pointer (some ⟨w1.heap.size, 0, none⟩), .pointer (some ⟨w.heap.size + 1, 0, none⟩), .pointer (some ⟨w1.heap.size + 1, 0, none⟩)]] 83 (0, 0))) := by
  generalize hF : (.func (.func 45) #[] #[.pointer (some ⟨w.heap.size, 0, none⟩), .pointer (some ⟨w1.heap.size, 0, none⟩), .pointer (some ⟨w.heap.size + 1, 0, none⟩), .pointer (some ⟨w1.heap.size + 1, 0, none⟩)] : Value) = F
  have s2 : (w1.alloc (.cells #[.slice none 0 0] 22 (0, 0))).heap.size = w1.heap.size + 1 := by simp
  have b2 : Below w1.heap.size w1 (w1.alloc (.cells #[.slice none 0 0] 22 (0, 0))) := below_alloc (Below.refl _ _) _
  have n2 := heap_alloc_new w1 (.cells #[.slice none 0 0] 22 (0, 0))
  generalize w1.alloc (.cells #[.slice none 0 0] 22 (0, 0)) = w2 at s2 b2 n2 ⊢
  have b3 : Below w2.heap.size w2 (w2.alloc (.cells #[F] 83 (0, 0))) := below_alloc (Below.refl _ _) _
  have n3 := heap_alloc_new w2 (.cells #[F] 83 (0, 0))
  generalize w2.alloc (.cells #[F] 83 (0, 0)) = w3 at b3 n3 ⊢
  rw [s2] at n3
  have hs := hb.size
  have b23 : Below w1.heap.size w1 w3 := b2.trans (b3.mono (by omega))
  refine ⟨hb.trans (b23.mono hs), ?_, ?_, ?_, .slice none 0 0, (b3.block _ (by omega)).trans n2, Kd.R_nil _ _ _ _ _⟩
  · exact (blk_cell (blk_below ha b23) 0).trans rfl
  · exact (blk_cell (blk_below hm b23) 0).trans rfl
  · rw [hF]; exact (blk_cell n3 0).trans rfl
set_option maxHeartbeats 4000000 in
set_option maxRecDepth 100000 in
theorem daw_Words.calls (A0 : Option Addr) (c0 : Nat) (l0 : List S31) (a1 : Int) (r1 : List ByteArray) (r2 : Int) (w : World) (hr0 : Kd.C k31 w A0 l0.length l0) (hc0 : l0.length ≤ c0) (h : daw_Words.f l0 a1 = some (r1, r2)) :
    Calls Try.prog 29 #[.slice A0 l0.length c0, .int .i64 a1] w fun e w' => ∃ v0_ : Value, e = .returned (.tuple #[v0_, .int .i64 r2]) ∧ Kd.R Kd.string 9 w' w.heap.size (fun _ => True) v0_ r1 ∧ Below w.heap.size w w' := by
  have hh : okB l0 = true ∧ lowB l0 = true ∧ 0 < l0.length := by
    unfold daw_Words.f at h; split at h
    · assumption
    · cases h
  unfold daw_Words.f at h
  rw [if_pos hh] at h
  obtain ⟨hok, hlow, h0⟩ := hh
  have HOK := Aside0.mk hok; have HC := Aside0.mk hr0; have HC0 := Aside0.mk hc0; have H0 := Aside0.mk h0
  have HLOW := Aside0.mk ((lowB_iff l0).1 hlow)
  have HZ : Aside0 (l0.length ≤ 4398046511104) := ⟨((okB_iff l0).1 hok).1⟩
  have hsz : (l0.length : Int) ≤ 4398046511104 := by have := HZ.out; omega
  clear hr0 hc0 hok h0 hlow
  by_cases hneg : a1 < 0
  · have c0 : decide (a1 < 0) = true := decide_eq_true hneg
    rw [if_pos hneg] at h
    obtain ⟨rfl, rfl⟩ := Prod.mk.inj (Option.some.inj h)
    clear h
    go_enter Try.func29, Try.ntmps29
    go_wp2
    go_ret2
    exact ⟨_, rfl, Kd.R_nil _ _ _ _ _, below_alloc (below_alloc (Below.refl _ _) _) _⟩
  · have c0b : decide (a1 < 0) = false := decide_eq_false hneg
    rw [if_neg hneg] at h
    by_cases hbig : 100000 < a1
    · have c1 : decide (a1 > 100000) = true := decide_eq_true hbig
      rw [if_pos hbig] at h
      obtain ⟨rfl, rfl⟩ := Prod.mk.inj (Option.some.inj h)
      clear h
      go_enter Try.func29, Try.ntmps29
      go_wp2
      go_ret2
      exact ⟨_, rfl, Kd.R_nil _ _ _ _ _, below_alloc (below_alloc (Below.refl _ _) _) _⟩
    · have c1 : decide (a1 > 100000) = false := decide_eq_false hbig
      rw [if_neg hbig] at h
      obtain ⟨most, rfl⟩ : ∃ m : Nat, a1 = (m : Int) := ⟨a1.toNat, by omega⟩
      have hmo : most ≤ 100000 := by omega
      rw [Int.toNat_natCast] at h
      have hbb : Below w.heap.size w ((w.alloc (.cells #[.slice A0 l0.length c0] 25 (0, 0))).alloc (.cells #[.int .i64 (most : Int)] 3 (0, 0))) := below_alloc (below_alloc (Below.refl _ _) _) _
      have hb1 : ((w.alloc (.cells #[.slice A0 l0.length c0] 25 (0, 0))).alloc (.cells #[.int .i64 (most : Int)] 3 (0, 0))).heap[w.heap.size]? = some (.cells #[.slice A0 l0.length c0] 25 (0, 0)) := blk_below (heap_alloc_new w _) (below_alloc (Below.refl _ _) _)
      have hb2 : ((w.alloc (.cells #[.slice A0 l0.length c0] 25 (0, 0))).alloc (.cells #[.int .i64 (most : Int)] 3 (0, 0))).heap[w.heap.size + 1]? = some (.cells #[.int .i64 (most : Int)] 3 (0, 0)) := by
        have := heap_alloc_new (w.alloc (.cells #[.slice A0 l0.length c0] 25 (0, 0))) (.cells #[.int .i64 (most : Int)] 3 (0, 0))
        rw [show (w.alloc (.cells #[.slice A0 l0.length c0] 25 (0, 0))).heap.size = w.heap.size + 1 from by simp] at this
        exact this
      have hmay : daw_May.f l0 = some (mayB l0) := by unfold daw_May.f; rw [if_pos HOK.out]
      have hcall := daw_May.calls A0 c0 l0 _ _ (Kd.C_below HC.out hbb) HC0.out hmay
      have hcall2 := hcall.mono (R' := fun e w' => e = .returned (.bool (mayB l0)) ∧ Aside0 (Below w.heap.size w w' ∧ w'.heap[w.heap.size]? = some (.cells #[.slice A0 l0.length c0] 25 (0, 0)) ∧ w'.heap[w.heap.size + 1]? = some (.cells #[.int .i64 (most : Int)] 3 (0, 0)))) (fun e w' hh => ⟨hh.1, ⟨hbb.trans (hh.2.mono hbb.size), blk_below hb1 hh.2, blk_below hb2 hh.2⟩⟩)
      have HCL := Aside0.mk hcall2
      have HB := Aside0.mk hbb
      have HMO := Aside0.mk hmo
      clear hbb hb1 hb2 hmay hcall hcall2
      cases hm : mayB l0 with
      | false =>
        rw [hm, if_neg (by simp)] at h
        rw [hm] at HCL
        obtain ⟨rfl, rfl⟩ := Prod.mk.inj (Option.some.inj h)
        clear h hm
        go_enter Try.func29, Try.ntmps29
        go_wp2_with (first | (go_at_call 28; (with_reducible refine (HCL.out).mono ?_)))
        (first | rintro e w1 rfl hw1 | rintro e w1 ⟨rfl, hw1⟩)
        go_wp2
        go_ret2
        exact ⟨_, rfl, Kd.R_nil _ _ _ _ _, hw1.out.1⟩
      | true =>
        rw [hm, if_pos rfl] at h
        rw [hm] at HCL
        clear hm
        obtain ⟨Y, hY⟩ : ∃ Y, tl l0 most l0.length (l0.length - 1) ⟨#[]⟩ [] = Y := ⟨_, rfl⟩
        rw [hY] at h
        have HY := Aside0.mk hY
        clear hY
        have HH := Aside0.mk h
        clear h
        go_enter Try.func29, Try.ntmps29
        go_wp2_with (first | (go_at_call 28; (with_reducible refine (HCL.out).mono ?_)))
        (first | rintro e w1 rfl hw1 | rintro e w1 ⟨rfl, hw1⟩)
        have hT := made_tk w w1 A0 c0 l0 most hw1.out.1 hw1.out.2.1 hw1.out.2.2
        have l1 := hw1.out.1.size
        have l2 := blk_lt hw1.out.2.2
        have hca := tells_k w w.heap.size w1.heap.size (w.heap.size + 1) (w1.heap.size + 1) A0 c0 l0 most HC.out HC0.out HLOW.out HZ.out HMO.out (by omega) (by omega) (by omega) l1 (l0.length - 1) ⟨#[]⟩ [] _ (by have := H0.out; omega) (Nat.zero_le _) (by have := HZ.out; show 0 + _ ≤ _; omega) hT
        rw [show ((l0.length - 1 : Nat) : Int) = (l0.length : Int) - 1 from by have := H0.out; omega, show l0.length - 1 + 1 = l0.length from by have := H0.out; omega, HY.out] at hca
        have HCA := Aside0.mk hca
        have ca := hT.ca
        clear hca hT l1 l2
        cases hy : Y.1 with
        | false =>
          rw [hy] at HCA
          have hh := HH.out
          rw [hy, if_neg (by simp)] at hh
          obtain ⟨rfl, rfl⟩ := Prod.mk.inj (Option.some.inj hh)
          clear hh HH
          go_wp2_with (first | (go_at_call 45; (with_reducible refine (HCA.out).mono ?_)))
          (first | rintro e w2 rfl hw2 | rintro e w2 ⟨rfl, hw2⟩)
          have HW2 := Aside0.mk hw2
          clear hw2
          go_wp2
          go_ret2
          exact ⟨_, rfl, Kd.R_nil _ _ _ _ _, HW2.out.below⟩
        | true =>
          rw [hy] at HCA
          have hh := HH.out
          rw [hy, if_pos rfl] at hh
          obtain ⟨rfl, rfl⟩ := Prod.mk.inj (Option.some.inj hh)
          clear hh HH
          go_wp2_with (first | (go_at_call 45; (with_reducible refine (HCA.out).mono ?_)))
          (first | rintro e w2 rfl hw2 | rintro e w2 ⟨rfl, hw2⟩)
          obtain ⟨v, hv, hr⟩ := hw2.hs
          have HW2 := Aside0.mk hw2
          have HR := Aside0.mk hr
          have hcs : w2.cell? ⟨w1.heap.size, 0, none⟩ = some v := (blk_cell hv 0).trans rfl
          clear hw2 hr hv
          go_wp2
          go_ret2
          exact ⟨_, rfl, Kd.R_mono HR.out (fun _ _ => trivial), HW2.out.below⟩
end Go.Proofs.Ytebdcblchjhmpaa.K

namespace Go.Proofs.Ytebdcblchjhmpaa.PSh14
open Go.RowKit Go.Proofs.YtebdcblchjhmpaaW.PrintWords Go.Proofs.YtebdcblchjhmpaaW.PrintLast Go.Proofs.YtebdcblchjhmpaaW.PrintMore Go.Proofs.Ytebdcblchjhmpaa.K Go.Proofs.Ytebdcblchjhmpaa.PDk
attribute [local go_sem] max2_int min2_int max_two min_two max_three min_three max_four min_four   -- for this text's walks alone
set_option linter.unusedVariables false
set_option linter.unusedSimpArgs false



def errW : Option Int → Value
  | none => .nilIface
  | some c => .iface 0 (.int .i64 c)
theorem errW_none : errW none = .nilIface := rfl
theorem errW_some (c : Int) : errW (some c) = .iface 0 (.int .i64 c) := rfl

theorem k31_mkF (W : World) (ok : Nat → Prop) (x : S31) {A1 : Option Addr} {c1 : Nat} (l1 : x.f1.length ≤ c1) (g1 : Kd.F k33 W ok A1 x.f1.length x.f1) : Kd.FK k31 W ok x [.bool x.f0, .slice A1 x.f1.length c1] := fun W2 hW => k31_mk W2 x l1 (g1 W2 hW)

end Go.Proofs.Ytebdcblchjhmpaa.PSh14

namespace Go.Proofs.Ytebdcblchjhmpaa.PSh14
open Go.RowKit Go.Proofs.YtebdcblchjhmpaaW.PrintWords Go.Proofs.YtebdcblchjhmpaaW.PrintLast Go.Proofs.YtebdcblchjhmpaaW.PrintMore Go.Proofs.Ytebdcblchjhmpaa.K Go.Proofs.Ytebdcblchjhmpaa.PDk
attribute [local go_sem] max2_int min2_int max_two min_two max_three min_three max_four min_four   -- for this text's walks alone
set_option linter.unusedVariables false
set_option linter.unusedSimpArgs false

def manteletlaw14_shown.f (k : Nat)  : Option (Bool) := (daw_Build.f (([(⟨#[97, 98]⟩ : ByteArray), (⟨#[99, 98]⟩ : ByteArray)] : List ByteArray))).bind fun bt104 => (if bt104.2 = 0 then ((manteletref14_Same.f k bt104.1 (([(⟨true, ([] : List (S33))⟩ : S31), (⟨false, (([(⟨98, 0⟩ : S33)] : List (S33)))⟩ : S31), (⟨false, (([(⟨97, 1⟩ : S33), (⟨99, 1⟩ : S33)] : List (S33)))⟩ : S31)] : List (S31)))).bind fun t117 => (some t117)) else (some false))
set_option maxHeartbeats 8000000 in
set_option maxRecDepth 100000 in
theorem manteletlaw14_shown.calls (k : Nat)  (r : Bool) (w : World) (h : manteletlaw14_shown.f k  = some r) :
    Calls Try.prog 13 #[] w fun e w' => e = .returned (.bool r) ∧ Below w.heap.size w w' := by
  have hu31 := Try.underlying31
  have hu33 := Try.underlying33
  have HB := Aside0.mk (Below.refl w.heap.size w)
  have H : ((daw_Build.f (([(⟨#[97, 98]⟩ : ByteArray), (⟨#[99, 98]⟩ : ByteArray)] : List ByteArray))).bind fun bt104 => (if bt104.2 = 0 then ((manteletref14_Same.f k bt104.1 (([(⟨true, ([] : List (S33))⟩ : S31), (⟨false, (([(⟨98, 0⟩ : S33)] : List (S33)))⟩ : S31), (⟨false, (([(⟨97, 1⟩ : S33), (⟨99, 1⟩ : S33)] : List (S33)))⟩ : S31)] : List (S31)))).bind fun t117 => (some t117)) else (some false))) = some r := h
  clear h
  obtain ⟨y101, hy101⟩ : ∃ y_ : List ByteArray, y_ = (([(⟨#[97, 98]⟩ : ByteArray), (⟨#[99, 98]⟩ : ByteArray)] : List ByteArray)) := ⟨_, rfl⟩
  replace H : ((daw_Build.f y101).bind fun bt104 => (if bt104.2 = 0 then ((manteletref14_Same.f k bt104.1 (([(⟨true, ([] : List (S33))⟩ : S31), (⟨false, (([(⟨98, 0⟩ : S33)] : List (S33)))⟩ : S31), (⟨false, (([(⟨97, 1⟩ : S33), (⟨99, 1⟩ : S33)] : List (S33)))⟩ : S31)] : List (S31)))).bind fun t117 => (some t117)) else (some false))) = some r := by first | (rw [hy101]; with_reducible exact H) | (have H2_ := (Option.bind_some _ _).symm.trans H; rw [hy101]; with_reducible exact H2_) | (have H2_ := (Option.bind_some _ _).symm.trans H; with_reducible exact H2_) | with_reducible exact H | (rw [hy101]; exact H) | exact H
  have Ny101 := Aside0.mk hy101
  clear hy101
  replace H := Option.bind_eq_some_iff.mp H
  obtain ⟨⟨t104, t105⟩, A10, H⟩ := H
  replace H : (if t105 = 0 then ((manteletref14_Same.f k t104 (([(⟨true, ([] : List (S33))⟩ : S31), (⟨false, (([(⟨98, 0⟩ : S33)] : List (S33)))⟩ : S31), (⟨false, (([(⟨97, 1⟩ : S33), (⟨99, 1⟩ : S33)] : List (S33)))⟩ : S31)] : List (S31)))).bind fun t117 => (some t117)) else (some false)) = some r := H
  have A1 := Aside0.mk A10
  clear A10
  by_cases c2 : t105 = 0
  · rw [if_pos c2] at H
    have c2b0 : (t105 == 0) = true := beq_iff_eq.mpr c2
    have c2b1 : (t105 != 0) = false := bne_eq_false_iff_eq.mpr c2
    clear c2
    obtain ⟨y108, hy108⟩ : ∃ y_ : List (S33), y_ = (([(⟨98, 0⟩ : S33)] : List (S33))) := ⟨_, rfl⟩
    replace H : ((manteletref14_Same.f k t104 (([(⟨true, ([] : List (S33))⟩ : S31), (⟨false, y108⟩ : S31), (⟨false, (([(⟨97, 1⟩ : S33), (⟨99, 1⟩ : S33)] : List (S33)))⟩ : S31)] : List (S31)))).bind fun t117 => (some t117)) = some r := by first | (rw [hy108]; with_reducible exact H) | (have H2_ := (Option.bind_some _ _).symm.trans H; rw [hy108]; with_reducible exact H2_) | (have H2_ := (Option.bind_some _ _).symm.trans H; with_reducible exact H2_) | with_reducible exact H | (rw [hy108]; exact H) | exact H
    have Ny108 := Aside0.mk hy108
    clear hy108
    obtain ⟨y111, hy111⟩ : ∃ y_ : List (S33), y_ = (([(⟨97, 1⟩ : S33), (⟨99, 1⟩ : S33)] : List (S33))) := ⟨_, rfl⟩
    replace H : ((manteletref14_Same.f k t104 (([(⟨true, ([] : List (S33))⟩ : S31), (⟨false, y108⟩ : S31), (⟨false, y111⟩ : S31)] : List (S31)))).bind fun t117 => (some t117)) = some r := by first | (rw [hy111]; with_reducible exact H) | (have H2_ := (Option.bind_some _ _).symm.trans H; rw [hy111]; with_reducible exact H2_) | (have H2_ := (Option.bind_some _ _).symm.trans H; with_reducible exact H2_) | with_reducible exact H | (rw [hy111]; exact H) | exact H
    have Ny111 := Aside0.mk hy111
    clear hy111
    obtain ⟨y114, hy114⟩ : ∃ y_ : List (S31), y_ = (([(⟨true, ([] : List (S33))⟩ : S31), (⟨false, y108⟩ : S31), (⟨false, y111⟩ : S31)] : List (S31))) := ⟨_, rfl⟩
    replace H : ((manteletref14_Same.f k t104 y114).bind fun t117 => (some t117)) = some r := by first | (rw [hy114]; with_reducible exact H) | (have H2_ := (Option.bind_some _ _).symm.trans H; rw [hy114]; with_reducible exact H2_) | (have H2_ := (Option.bind_some _ _).symm.trans H; with_reducible exact H2_) | with_reducible exact H | (rw [hy114]; exact H) | exact H
    have Ny114 := Aside0.mk hy114
    clear hy114
    replace H := Option.bind_eq_some_iff.mp H
    obtain ⟨t117, A30, H⟩ := H
    replace H : (some t117) = some r := H
    have A3 := Aside0.mk A30
    clear A30
    obtain rfl := Option.some.inj H
    go_enter Try.func13, Try.ntmps13
    go_wp2_with (first | ((with_reducible refine gate_dst (N := 4) rfl ?_); (try (refine gate_guard (by rfl) ?_; dsimp only)); refine Kd.R_lit Kd.string _ 9 ?hg (N := 4) ?hd (xs := ([(⟨#[97, 98]⟩ : ByteArray), (⟨#[99, 98]⟩ : ByteArray)] : List ByteArray)) (inner := [.string (⟨#[97, 98]⟩ : ByteArray), .string (⟨#[99, 98]⟩ : ByteArray)]) (ok := fun _ => True) (okp := fun _ => True) ?hr ?hp (fun _ hk => hk) trivial (Below.refl _ _) (Nat.le_refl _) (by simp) ?_; (case hd => rfl); (case hg => rfl); (case hr => first | (go_simp; done) | (go_simp; rfl)); (case hp => exact (Reps.one (show Kd.M Kd.string _ _ _ (⟨#[97, 98]⟩ : ByteArray) [.string (⟨#[97, 98]⟩ : ByteArray)] from rfl) (Reps.one (show Kd.M Kd.string _ _ _ (⟨#[99, 98]⟩ : ByteArray) [.string (⟨#[99, 98]⟩ : ByteArray)] from rfl) (Reps.none _ _)))); intro v102 w4 ho5 hb hg_ hnew_; clear hg_ hnew_; (first | rw [← Ny101.out] at ho5 | (simp only [Int.reduceToNat] at ho5; rw [← Ny101.out] at ho5)); have n0_ := Aside0.mk (Kd.R_lower ho5 (below_size (by repeat (first | (with_reducible first | exact HB.out | apply below_alloc | apply pw_below_drewN | apply below_drew1) | exact HB.out)))); have n1_ := Aside0.mk (below_step (by repeat (first | (with_reducible first | exact HB.out | apply below_alloc | apply pw_below_drewN | apply below_drew1) | exact HB.out)) hb); clear HB; have HO103 := n0_; have HB := n1_; clear n0_ n1_; clear hb ho5; obtain ⟨Ao6, co6, eo6⟩ := Kd.R_slice HO103.out; subst eo6) | ((with_reducible refine gate_callee (f := 15) rfl ?_); refine goesL_ (some 5) rfl rfl Try.func15 (by kernel_rfl) rfl #[.slice Ao6 y101.length co6] rfl (by (try simp only [List.map_toArray, List.map_cons, List.map_nil]); first | done | rfl | (simp only [List.length_drop, List.length_take]; rfl)) ?_; (with_reducible refine (daw_Build.calls _ _ y101 t104 t105 _ ?side1 ?side2 A1.out).mono ?_); (case side1 => repeat (first | exact (Kd.R_reads' HO103.out).2.2 | (with_reducible refine Kd.C_alloc ?_ _) | (with_reducible refine Kd.C_drewN ?_ _) | (with_reducible refine Kd.C_drew ?_))); (case side2 => exact (Kd.R_reads' HO103.out).2.1); rintro e w7 ⟨v106, rfl, ho0, hb⟩; refine ⟨_, rfl, ?_⟩; have n0_ := Aside0.mk (Kd.R_below (by (with_reducible repeat (first | apply Kd.R_alloc | apply Kd.R_drewN | apply Kd.R_drew)); exact HO103.out) hb); have n1_ := Aside0.mk (Kd.N_lower (Kd.N_mono (ok' := fun k_ => some k_ ≠ (.slice Ao6 y101.length co6 : Value).ownBlock) (Kd.S_N (Kd.S_bound ho0)) (fun k_ hk_ => (Kd.fresh' (Kd.R_lt (by (with_reducible repeat (first | apply Kd.R_alloc | apply Kd.R_drewN | apply Kd.R_drew)); exact HO103.out)) k_ hk_.2.1))) (below_size (by repeat (first | (with_reducible first | exact HB.out | apply below_alloc | apply pw_below_drewN | apply below_drew1) | exact HB.out)))); have n2_ := Aside0.mk (below_step (by repeat (first | (with_reducible first | exact HB.out | apply below_alloc | apply pw_below_drewN | apply below_drew1) | exact HB.out)) hb); clear HO103; clear HB; have HO103 := n0_; have HO107 := n1_; have HB := n2_; clear n0_ n1_ n2_; (try clear hb); (try clear hb2); (try clear hk); (try clear hi); (try clear ho0)) | ((with_reducible refine gate_dst (N := 14) rfl ?_); (try (refine gate_guard (by rfl) ?_; dsimp only)); refine Kd.R_lit k33 _ 33 ?hg (N := 14) ?hd (xs := ([(⟨98, 0⟩ : S33)] : List (S33))) (inner := [.int .u8 98, .int .i64 0]) (ok := fun _ => True) (okp := fun _ => True) ?hr ?hp (fun _ hk => hk) trivial (Below.refl _ _) (Nat.le_refl _) (by simp) ?_; (case hd => rfl); (case hg => rfl); (case hr => first | (go_simp; done) | (go_simp; rfl)); (case hp => exact (Reps.c2 (show Kd.M k33 _ _ _ (⟨98, 0⟩ : S33) [.int .u8 98, .int .i64 0] from (k33_mkM _ _ _ (⟨98, 0⟩ : S33) )) (Reps.none _ _))); intro v109 w8 ho9 hb hg_ hnew_; clear hg_ hnew_; (first | rw [← Ny108.out] at ho9 | (simp only [Int.reduceToNat] at ho9; rw [← Ny108.out] at ho9)); have n0_ := Aside0.mk (Kd.R_below (by (with_reducible repeat (first | apply Kd.R_alloc | apply Kd.R_drewN | apply Kd.R_drew)); exact HO103.out) hb); have n1_ := Aside0.mk (Kd.N_elder' (by (with_reducible repeat (first | apply Kd.N_alloc | apply Kd.N_drewN | apply Kd.N_drew)); exact HO107.out) (Kd.R_base ho9) hb); have n2_ := Aside0.mk (Kd.R_lower ho9 (below_size (by repeat (first | (with_reducible first | exact HB.out | apply below_alloc | apply pw_below_drewN | apply below_drew1) | exact HB.out)))); have n3_ := Aside0.mk (below_step (by repeat (first | (with_reducible first | exact HB.out | apply below_alloc | apply pw_below_drewN | apply below_drew1) | exact HB.out)) hb); clear HO103; clear HO107; clear HB; have HO103 := n0_; have HO107 := n1_; have HO110 := n2_; have HB := n3_; clear n0_ n1_ n2_ n3_; clear hb ho9; obtain ⟨Ao10, co10, eo10⟩ := Kd.R_slice HO110.out; subst eo10) | ((with_reducible refine gate_dst (N := 18) rfl ?_); (try (refine gate_guard (by rfl) ?_; dsimp only)); refine Kd.R_lit k33 _ 33 ?hg (N := 18) ?hd (xs := ([(⟨97, 1⟩ : S33), (⟨99, 1⟩ : S33)] : List (S33))) (inner := [.int .u8 97, .int .i64 1, .int .u8 99, .int .i64 1]) (ok := fun _ => True) (okp := fun _ => True) ?hr ?hp (fun _ hk => hk) trivial (Below.refl _ _) (Nat.le_refl _) (by simp) ?_; (case hd => rfl); (case hg => rfl); (case hr => first | (go_simp; done) | (go_simp; rfl)); (case hp => exact (Reps.c2 (show Kd.M k33 _ _ _ (⟨97, 1⟩ : S33) [.int .u8 97, .int .i64 1] from (k33_mkM _ _ _ (⟨97, 1⟩ : S33) )) (Reps.c2 (show Kd.M k33 _ _ _ (⟨99, 1⟩ : S33) [.int .u8 99, .int .i64 1] from (k33_mkM _ _ _ (⟨99, 1⟩ : S33) )) (Reps.none _ _)))); intro v112 w11 ho12 hb hg_ hnew_; clear hg_ hnew_; (first | rw [← Ny111.out] at ho12 | (simp only [Int.reduceToNat] at ho12; rw [← Ny111.out] at ho12)); have n0_ := Aside0.mk (Kd.R_below (by (with_reducible repeat (first | apply Kd.R_alloc | apply Kd.R_drewN | apply Kd.R_drew)); exact HO103.out) hb); have n1_ := Aside0.mk (Kd.N_elder' (by (with_reducible repeat (first | apply Kd.N_alloc | apply Kd.N_drewN | apply Kd.N_drew)); exact HO107.out) (Kd.R_base ho12) hb); have n2_ := Aside0.mk (Kd.R_elder' (by (with_reducible repeat (first | apply Kd.R_alloc | apply Kd.R_drewN | apply Kd.R_drew)); exact HO110.out) (Kd.R_base ho12) hb); have n3_ := Aside0.mk (Kd.R_lower (Kd.R_new' ho12 (Kd.R_lt (by (with_reducible repeat (first | apply Kd.R_alloc | apply Kd.R_drewN | apply Kd.R_drew)); exact HO110.out))) (below_size (by repeat (first | (with_reducible first | exact HB.out | apply below_alloc | apply pw_below_drewN | apply below_drew1) | exact HB.out)))); have n4_ := Aside0.mk (below_step (by repeat (first | (with_reducible first | exact HB.out | apply below_alloc | apply pw_below_drewN | apply below_drew1) | exact HB.out)) hb); clear HO103; clear HO107; clear HO110; clear HB; have HO103 := n0_; have HO107 := n1_; have HO110 := n2_; have HO113 := n3_; have HB := n4_; clear n0_ n1_ n2_ n3_ n4_; clear hb ho12; obtain ⟨Ao13, co13, eo13⟩ := Kd.R_slice HO113.out; subst eo13) | ((with_reducible refine gate_dst (N := 20) rfl ?_); (try (refine gate_guard (by rfl) ?_; dsimp only)); refine Kd.N_lit k31 _ 31 ?hg (N' := 20) ?hd (xs := ([(⟨true, ([] : List (S33))⟩ : S31), (⟨false, y108⟩ : S31), (⟨false, y111⟩ : S31)] : List (S31))) (inner := [.bool true, .slice none 0 0, .bool false, .slice Ao10 y108.length co10, .bool false, .slice Ao13 y111.length co13]) (ok := (fun k_ => some k_ ≠ (.slice Ao6 y101.length co6 : Value).ownBlock ∧ some k_ ≠ (v106 : Value).ownBlock)) (okp := (fun k_ => some k_ ≠ (.slice Ao6 y101.length co6 : Value).ownBlock ∧ some k_ ≠ (v106 : Value).ownBlock)) ?hr ?hp (fun _ hk => hk) ((show ∀ k_, w11.heap.size ≤ k_ → (fun k_ => some k_ ≠ (.slice Ao6 y101.length co6 : Value).ownBlock ∧ some k_ ≠ (v106 : Value).ownBlock) k_ from fun k_ hk => ⟨Kd.fresh' (Kd.R_lt (by (with_reducible repeat (first | apply Kd.R_alloc | apply Kd.R_drewN | apply Kd.R_drew)); exact HO103.out)) k_ hk, Kd.fresh' (Kd.N_lt (by (with_reducible repeat (first | apply Kd.N_alloc | apply Kd.N_drewN | apply Kd.N_drew)); exact HO107.out)) k_ hk⟩) _ (Nat.le_refl _)) (Below.refl _ _) (Nat.le_refl _) (by simp) ?_; (case hd => rfl); (case hg => rfl); (case hr => first | (go_simp; done) | (go_simp; rfl)); (case hp => exact (Reps.c2 (show Kd.FK k31 _ _ (⟨true, ([] : List (S33))⟩ : S31) [.bool true, .slice none 0 0] from (k31_mkF _ _ (⟨true, ([] : List (S33))⟩ : S31) (Nat.le_refl _) (Kd.F_nil _ _ _))) (Reps.c2 (show Kd.FK k31 _ _ (⟨false, y108⟩ : S31) [.bool false, .slice Ao10 y108.length co10] from (k31_mkF _ _ (⟨false, y108⟩ : S31) (Kd.R_reads' (Kd.R_mono (ok' := (fun k_ => some k_ ≠ (.slice Ao6 y101.length co6 : Value).ownBlock ∧ some k_ ≠ (v106 : Value).ownBlock)) (Kd.R_apart' (Kd.R_apart' (HO110.out) (Kd.R_typed HO103.out) (by decide)) (Kd.N_typed HO107.out) (by decide)) (fun k_ hk => ⟨hk.1.2, hk.2⟩))).2.1 (Kd.R_F (Kd.R_mono (ok' := (fun k_ => some k_ ≠ (.slice Ao6 y101.length co6 : Value).ownBlock ∧ some k_ ≠ (v106 : Value).ownBlock)) (Kd.R_apart' (Kd.R_apart' (HO110.out) (Kd.R_typed HO103.out) (by decide)) (Kd.N_typed HO107.out) (by decide)) (fun k_ hk => ⟨hk.1.2, hk.2⟩))))) (Reps.c2 (show Kd.FK k31 _ _ (⟨false, y111⟩ : S31) [.bool false, .slice Ao13 y111.length co13] from (k31_mkF _ _ (⟨false, y111⟩ : S31) (Kd.R_reads' (Kd.R_mono (ok' := (fun k_ => some k_ ≠ (.slice Ao6 y101.length co6 : Value).ownBlock ∧ some k_ ≠ (v106 : Value).ownBlock)) (Kd.R_apart' (Kd.R_apart' (HO113.out) (Kd.R_typed HO103.out) (by decide)) (Kd.N_typed HO107.out) (by decide)) (fun k_ hk => ⟨hk.1.2, hk.2⟩))).2.1 (Kd.R_F (Kd.R_mono (ok' := (fun k_ => some k_ ≠ (.slice Ao6 y101.length co6 : Value).ownBlock ∧ some k_ ≠ (v106 : Value).ownBlock)) (Kd.R_apart' (Kd.R_apart' (HO113.out) (Kd.R_typed HO103.out) (by decide)) (Kd.N_typed HO107.out) (by decide)) (fun k_ hk => ⟨hk.1.2, hk.2⟩))))) (Reps.none _ _))))); intro v115 w14 ho15 hb hg_ hnew_; clear hg_ hnew_; (first | rw [← Ny114.out] at ho15 | (simp only [Int.reduceToNat] at ho15; rw [← Ny114.out] at ho15)); have n0_ := Aside0.mk (Kd.R_below (by (with_reducible repeat (first | apply Kd.R_alloc | apply Kd.R_drewN | apply Kd.R_drew)); exact HO103.out) hb); have n1_ := Aside0.mk (Kd.N_elder' (by (with_reducible repeat (first | apply Kd.N_alloc | apply Kd.N_drewN | apply Kd.N_drew)); exact HO107.out) (Kd.N_base ho15) hb); have n2_ := Aside0.mk (Kd.N_lower ho15 (below_size (by repeat (first | (with_reducible first | exact HB.out | apply below_alloc | apply pw_below_drewN | apply below_drew1) | exact HB.out)))); have n3_ := Aside0.mk (below_step (by repeat (first | (with_reducible first | exact HB.out | apply below_alloc | apply pw_below_drewN | apply below_drew1) | exact HB.out)) hb); clear HO103; clear HO107; clear HB; clear HO110; clear HO113; have HO103 := n0_; have HO107 := n1_; have HO116 := n2_; have HB := n3_; clear n0_ n1_ n2_ n3_; clear hb ho15; obtain ⟨Ao16, co16, eo16⟩ := Kd.N_slice HO107.out; subst eo16; obtain ⟨Ao17, co17, eo17⟩ := Kd.N_slice HO116.out; subst eo17) | (go_at_call 16; (with_reducible refine (manteletref14_Same.calls k _ _ t104 _ _ y114 t117 _ ?side1 ?side2 ?side3 ?side4 A3.out).mono ?_); (case side1 => repeat (first | exact (Kd.N_reads' HO107.out).2.2 | (with_reducible refine Kd.C_alloc ?_ _) | (with_reducible refine Kd.C_drewN ?_ _) | (with_reducible refine Kd.C_drew ?_))); (case side2 => exact (Kd.N_reads' HO107.out).2.1); (case side3 => repeat (first | exact (Kd.N_reads' HO116.out).2.2 | (with_reducible refine Kd.C_alloc ?_ _) | (with_reducible refine Kd.C_drewN ?_ _) | (with_reducible refine Kd.C_drew ?_))); (case side4 => exact (Kd.N_reads' HO116.out).2.1); rintro e w' ⟨rfl, ⟨nd, rfl⟩⟩))
    go_ret
    exact ⟨by first | rfl | (simp [errW_none, errW_some] <;> rfl) | (simp [*, errW_none, errW_some] <;> rfl), by repeat (first | (with_reducible first | exact HB.out | apply below_alloc | apply pw_below_drewN | apply below_drew1) | exact HB.out)⟩
  · rw [if_neg c2] at H
    have c2b0 : (t105 == 0) = false := beq_eq_false_iff_ne.mpr c2
    have c2b1 : (t105 != 0) = true := bne_iff_ne.mpr c2
    obtain rfl := Option.some.inj H
    go_enter Try.func13, Try.ntmps13
    go_wp2_with (first | ((with_reducible refine gate_dst (N := 4) rfl ?_); (try (refine gate_guard (by rfl) ?_; dsimp only)); refine Kd.R_lit Kd.string _ 9 ?hg (N := 4) ?hd (xs := ([(⟨#[97, 98]⟩ : ByteArray), (⟨#[99, 98]⟩ : ByteArray)] : List ByteArray)) (inner := [.string (⟨#[97, 98]⟩ : ByteArray), .string (⟨#[99, 98]⟩ : ByteArray)]) (ok := fun _ => True) (okp := fun _ => True) ?hr ?hp (fun _ hk => hk) trivial (Below.refl _ _) (Nat.le_refl _) (by simp) ?_; (case hd => rfl); (case hg => rfl); (case hr => first | (go_simp; done) | (go_simp; rfl)); (case hp => exact (Reps.one (show Kd.M Kd.string _ _ _ (⟨#[97, 98]⟩ : ByteArray) [.string (⟨#[97, 98]⟩ : ByteArray)] from rfl) (Reps.one (show Kd.M Kd.string _ _ _ (⟨#[99, 98]⟩ : ByteArray) [.string (⟨#[99, 98]⟩ : ByteArray)] from rfl) (Reps.none _ _)))); intro v102 w18 ho19 hb hg_ hnew_; clear hg_ hnew_; (first | rw [← Ny101.out] at ho19 | (simp only [Int.reduceToNat] at ho19; rw [← Ny101.out] at ho19)); have n0_ := Aside0.mk (Kd.R_lower ho19 (below_size (by repeat (first | (with_reducible first | exact HB.out | apply below_alloc | apply pw_below_drewN | apply below_drew1) | exact HB.out)))); have n1_ := Aside0.mk (below_step (by repeat (first | (with_reducible first | exact HB.out | apply below_alloc | apply pw_below_drewN | apply below_drew1) | exact HB.out)) hb); clear HB; have HO103 := n0_; have HB := n1_; clear n0_ n1_; clear hb ho19; obtain ⟨Ao20, co20, eo20⟩ := Kd.R_slice HO103.out; subst eo20) | ((with_reducible refine gate_callee (f := 15) rfl ?_); refine goesL_ (some 5) rfl rfl Try.func15 (by kernel_rfl) rfl #[.slice Ao20 y101.length co20] rfl (by (try simp only [List.map_toArray, List.map_cons, List.map_nil]); first | done | rfl | (simp only [List.length_drop, List.length_take]; rfl)) ?_; (with_reducible refine (daw_Build.calls _ _ y101 t104 t105 _ ?side1 ?side2 A1.out).mono ?_); (case side1 => repeat (first | exact (Kd.R_reads' HO103.out).2.2 | (with_reducible refine Kd.C_alloc ?_ _) | (with_reducible refine Kd.C_drewN ?_ _) | (with_reducible refine Kd.C_drew ?_))); (case side2 => exact (Kd.R_reads' HO103.out).2.1); rintro e w21 ⟨v106, rfl, ho0, hb⟩; refine ⟨_, rfl, ?_⟩; have n0_ := Aside0.mk (Kd.R_below (by (with_reducible repeat (first | apply Kd.R_alloc | apply Kd.R_drewN | apply Kd.R_drew)); exact HO103.out) hb); have n1_ := Aside0.mk (Kd.N_lower (Kd.N_mono (ok' := fun k_ => some k_ ≠ (.slice Ao20 y101.length co20 : Value).ownBlock) (Kd.S_N (Kd.S_bound ho0)) (fun k_ hk_ => (Kd.fresh' (Kd.R_lt (by (with_reducible repeat (first | apply Kd.R_alloc | apply Kd.R_drewN | apply Kd.R_drew)); exact HO103.out)) k_ hk_.2.1))) (below_size (by repeat (first | (with_reducible first | exact HB.out | apply below_alloc | apply pw_below_drewN | apply below_drew1) | exact HB.out)))); have n2_ := Aside0.mk (below_step (by repeat (first | (with_reducible first | exact HB.out | apply below_alloc | apply pw_below_drewN | apply below_drew1) | exact HB.out)) hb); clear HO103; clear HB; have HO103 := n0_; have HO107 := n1_; have HB := n2_; clear n0_ n1_ n2_; (try clear hb); (try clear hb2); (try clear hk); (try clear hi); (try clear ho0)))
    go_ret
    exact ⟨by first | rfl | (simp [errW_none, errW_some] <;> rfl) | (simp [*, errW_none, errW_some] <;> rfl), by repeat (first | (with_reducible first | exact HB.out | apply below_alloc | apply pw_below_drewN | apply below_drew1) | exact HB.out)⟩

end Go.Proofs.Ytebdcblchjhmpaa.PSh14

namespace Go.Proofs.Ytebdcblchjhmpaa.PSh14
open Go.RowKit Go.Proofs.YtebdcblchjhmpaaW.PrintWords Go.Proofs.YtebdcblchjhmpaaW.PrintLast Go.Proofs.YtebdcblchjhmpaaW.PrintMore Go.Proofs.Ytebdcblchjhmpaa.K Go.Proofs.Ytebdcblchjhmpaa.PDk
attribute [local go_sem] max2_int min2_int max_two min_two max_three min_three max_four min_four   -- for this text's walks alone
set_option linter.unusedVariables false
set_option linter.unusedSimpArgs false

end Go.Proofs.Ytebdcblchjhmpaa.PSh14

namespace Go.Proofs.Ytebdcblchjhmpaa.K
open Go.RowKit Go.Proofs.YtebdcblchjhmpaaW.PrintWords Go.Proofs.YtebdcblchjhmpaaW.PrintLast Go.Proofs.YtebdcblchjhmpaaW.PrintMore Go.Proofs.Ytebdcblchjhmpaa
attribute [local go_sem] max2_int min2_int max_two min_two max_three min_three max_four min_four
set_option linter.unusedVariables false
set_option linter.unusedSimpArgs false
open Go.Proofs.Ytebdcblchjhmpaa.PDk Go.Proofs.Ytebdcblchjhmpaa.PSh14 Go.Proofs.Ytebdcblchjhmpaa.Daw
open Classical
theorem w64 {x : Int} (h0 : -9223372036854775808 ≤ x) (h1 : x < 9223372036854775808) : Go.RowKit.wrap64 x = x := by unfold Go.RowKit.wrap64; omega
theorem rd31 (a : List S31) (i : Nat) (h : i < a.length) : rd_T31 a (i : Int) = a[i] := by
  unfold rd_T31
  rw [Int.toNat_natCast, List.getD_eq_getElem?_getD, List.getElem?_eq_getElem h]; rfl
theorem rd33 (a : List S33) (i : Nat) (h : i < a.length) : rd_T33 a (i : Int) = a[i] := by
  unfold rd_T33
  rw [Int.toNat_natCast, List.getD_eq_getElem?_getD, List.getElem?_eq_getElem h]; rfl
theorem rdS (a : List ByteArray) (i : Nat) (h : i < a.length) : rdOf ByteArray.empty a (i : Int) = a[i] := by
  unfold rdOf
  rw [Int.toNat_natCast, List.getD_eq_getElem?_getD, List.getElem?_eq_getElem h]; rfl
/-- Same, the edges of state i from j on. -/
theorem same_l1 (a b : List S31) (i : Nat) (ha : i < a.length) (hb : i < b.length) (r : Bool) (hl : a[i].f1.length = b[i].f1.length) (hm : a[i].f1.length ≤ 4611686018427387904) (hi : i ≤ 4611686018427387904)
    (hn : Ev (fun k => manteletref14_Same.l0 k a b ((i + 1 : Nat) : Int)) r) : ∀ (d j : Nat), j + d = a[i].f1.length → Ev (fun k => manteletref14_Same.l1 k a b (i : Int) (j : Int)) (decide (a[i].f1.drop j = b[i].f1.drop j) && r)
  | 0, j, hd => by
    have e : a[i].f1.drop j = b[i].f1.drop j := by rw [List.drop_eq_nil_of_le (by omega), List.drop_eq_nil_of_le (by omega)]
    rw [decide_eq_true e, Bool.true_and]
    refine Ev.step (fun k => ?_) hn
    simp only [manteletref14_Same.l1]
    rw [if_pos (by omega), if_pos (by omega), rd31 a i ha, if_neg (by omega), w64 (by omega) (by omega)]
    rfl
  | d + 1, j, hd => by
    have hja : j < a[i].f1.length := by omega
    have hjb : j < b[i].f1.length := by omega
    have ih := same_l1 a b i ha hb r hl hm hi hn d (j + 1) (by omega)
    by_cases he : a[i].f1[j] = b[i].f1[j]
    · have e : (a[i].f1.drop j = b[i].f1.drop j) = (a[i].f1.drop (j + 1) = b[i].f1.drop (j + 1)) := by
        rw [List.drop_eq_getElem_cons hja, List.drop_eq_getElem_cons hjb, List.cons.injEq]; simp only [he, true_and]
      rw [show decide (a[i].f1.drop j = b[i].f1.drop j) = decide (a[i].f1.drop (j + 1) = b[i].f1.drop (j + 1)) from decide_eq_decide.2 (by rw [e])]
      refine Ev.step (fun k => ?_) ih
      simp only [manteletref14_Same.l1]
      rw [if_pos (by omega), if_pos (by omega), rd31 a i ha, rd31 b i hb, if_pos (by omega), if_pos (by omega), if_pos (by omega), if_pos (by omega), rd33 _ j hja, rd33 _ j hjb, he, if_neg (by simp), w64 (by omega) (by omega)]
      rfl
    · have e : ¬ (a[i].f1.drop j = b[i].f1.drop j) := by
        rw [List.drop_eq_getElem_cons hja, List.drop_eq_getElem_cons hjb, List.cons.injEq]; exact fun h => he h.1
      rw [decide_eq_false e, Bool.false_and]
      refine Ev.step (f := fun _ => some false) (fun k => ?_) (Ev.now false)
      simp only [manteletref14_Same.l1]
      have hne : ((!((a[i].f1[j]).f0 == (b[i].f1[j]).f0)) || (!((a[i].f1[j]).f1 == (b[i].f1[j]).f1))) = true := by
        generalize a[i].f1[j] = x at he
        generalize b[i].f1[j] = y at he
        cases x; cases y
        simp only [S33.mk.injEq, not_and] at he
        simp only [Bool.or_eq_true, Bool.not_eq_true', beq_eq_false_iff_ne]
        exact (em _).elim (fun h => Or.inr (he h)) Or.inl
      rw [if_pos (by omega), if_pos (by omega), rd31 a i ha, rd31 b i hb, if_pos (by omega), if_pos (by omega), if_pos (by omega), if_pos (by omega), rd33 _ j hja, rd33 _ j hjb, if_pos hne]
def OkA (a : List S31) : Prop := a.length ≤ 4611686018427387904 ∧ ∀ s ∈ a, s.f1.length ≤ 4611686018427387904
theorem same_l0 (a b : List S31) (hl : a.length = b.length) (ha : OkA a) : ∀ (d i : Nat), i + d = a.length → Ev (fun k => manteletref14_Same.l0 k a b (i : Int)) (decide (a.drop i = b.drop i))
  | 0, i, hd => by
    have e : a.drop i = b.drop i := by rw [List.drop_eq_nil_of_le (by omega), List.drop_eq_nil_of_le (by omega)]
    rw [decide_eq_true e]
    refine Ev.step (f := fun _ => some true) (fun k => ?_) (Ev.now true)
    simp only [manteletref14_Same.l0]
    rw [if_neg (by omega)]
  | d + 1, i, hd => by
    have hia : i < a.length := by omega
    have hib : i < b.length := by omega
    have ih := same_l0 a b hl ha d (i + 1) (by omega)
    have hm := ha.2 _ (List.getElem_mem hia)
    have h1 := ha.1
    have e : (a.drop i = b.drop i) = (a[i] = b[i] ∧ a.drop (i + 1) = b.drop (i + 1)) := by
      rw [List.drop_eq_getElem_cons hia, List.drop_eq_getElem_cons hib, List.cons.injEq]
    have e2 : (a[i] = b[i]) = (a[i].f0 = b[i].f0 ∧ a[i].f1 = b[i].f1) := by
      generalize a[i] = x
      generalize b[i] = y
      cases x; cases y; simp
    refine Ev.step (f := fun k => if (a[i].f0 != b[i].f0) = true then manteletref14_Same.j1 k a b (i : Int) true else manteletref14_Same.j1 k a b (i : Int) ((a[i].f1.length : Int) != (b[i].f1.length : Int))) (fun k => ?_) ?_
    · simp only [manteletref14_Same.l0]
      rw [if_pos (by omega), if_pos (by omega), if_pos (by omega), rd31 a i hia, rd31 b i hib]
    · by_cases c0 : a[i].f0 = b[i].f0
      · by_cases c1 : a[i].f1.length = b[i].f1.length
        · have h2 := same_l1 a b i hia hib _ c1 hm (by omega) ih a[i].f1.length 0 (by omega)
          rw [List.drop_zero, List.drop_zero] at h2
          have e3 : decide (a.drop i = b.drop i) = (decide (a[i].f1 = b[i].f1) && decide (a.drop (i + 1) = b.drop (i + 1))) := by
            rw [Bool.eq_iff_iff, decide_eq_true_eq, e, e2, Bool.and_eq_true, decide_eq_true_eq, decide_eq_true_eq]
            exact ⟨fun h => ⟨h.1.2, h.2⟩, fun h => ⟨⟨c0, h.1⟩, h.2⟩⟩
          rw [e3]
          refine Ev.congr (f := fun k => manteletref14_Same.j1 k a b (i : Int) false) (fun k => ?_) (Ev.step (fun k => ?_) h2)
          · rw [if_neg (by simp [c0])]
            simp [c1]
          · simp only [manteletref14_Same.j1]; rw [if_neg (by decide)]; rfl
        · have e3 : decide (a.drop i = b.drop i) = false := by
            rw [decide_eq_false_iff_not, e, e2]
            intro h; exact c1 (by rw [h.1.2])
          rw [e3]
          refine Ev.congr (f := fun k => manteletref14_Same.j1 k a b (i : Int) true) (fun k => ?_) (Ev.step (f := fun _ => some false) (fun k => ?_) (Ev.now false))
          · rw [if_neg (by simp [c0])]
            have : ((a[i].f1.length : Int) != (b[i].f1.length : Int)) = true := by rw [bne_iff_ne]; omega
            rw [this]
          · simp only [manteletref14_Same.j1]; rw [if_pos trivial]
      · have e3 : decide (a.drop i = b.drop i) = false := by
          rw [decide_eq_false_iff_not, e, e2]
          intro h; exact c0 h.1.1
        rw [e3]
        refine Ev.congr (f := fun k => manteletref14_Same.j1 k a b (i : Int) true) (fun k => ?_) (Ev.step (f := fun _ => some false) (fun k => ?_) (Ev.now false))
        · rw [if_pos (by simp [c0])]
        · simp only [manteletref14_Same.j1]; rw [if_pos trivial]
theorem Same14 (a b : List S31) (ha : OkA a) : Ev (fun k => manteletref14_Same.f k a b) (decide (a = b)) := by
  unfold manteletref14_Same.f
  by_cases h : a.length = b.length
  · refine Ev.congr (fun k => ?_) (same_l0 a b h ha a.length 0 (by omega))
    rw [if_pos (by omega)]; rfl
  · rw [decide_eq_false (fun e => h (by rw [e]))]
    refine Ev.congr (fun k => ?_) (Ev.now false)
    rw [if_neg (by omega)]
theorem few_l0 (l : List ByteArray) : ∀ (d i : Nat), i + d = l.length → ∃ b, Ev (fun k => manteletlaw14_few.l0 k l (i : Int)) b ∧ (b = true → l.length ≤ 60 ∧ ∀ x ∈ l.drop i, x.size ≤ 20)
  | 0, i, hd => by
    refine ⟨decide ((l.length : Int) ≤ 60), Ev.step (f := fun k => manteletlaw14_few.j1 k l (i : Int) false) (fun k => ?_) (Ev.step (f := fun _ => some (decide ((l.length : Int) ≤ 60))) (fun k => ?_) (Ev.now _)), fun h => ?_⟩
    · simp only [manteletlaw14_few.l0]; rw [if_neg (by omega)]
    · simp only [manteletlaw14_few.j1]; rw [if_neg (by decide)]
    · have := of_decide_eq_true h
      rw [List.drop_eq_nil_of_le (by omega)]
      exact ⟨by omega, by simp⟩
  | d + 1, i, hd => by
    have hi : i < l.length := by omega
    by_cases h61 : i < 61
    · have s1 : ∀ k, manteletlaw14_few.l0 (k + 1) l (i : Int) = manteletlaw14_few.j1 k l (i : Int) true := fun k => by
        simp only [manteletlaw14_few.l0]; rw [if_pos (by omega), decide_eq_true (by omega)]
      by_cases h20 : l[i].size > 20
      · refine ⟨false, Ev.step s1 (Ev.step (f := fun _ => some false) (fun k => ?_) (Ev.now _)), fun h => by cases h⟩
        simp only [manteletlaw14_few.j1]; rw [if_pos trivial, if_pos (by omega), if_pos (by omega), rdS l i hi, if_pos (by omega)]
      · obtain ⟨b, h1, h2⟩ := few_l0 l d (i + 1) (by omega)
        refine ⟨b, Ev.step s1 (Ev.step (fun k => ?_) h1), fun h => ⟨(h2 h).1, fun x hx => ?_⟩⟩
        · simp only [manteletlaw14_few.j1]; rw [if_pos trivial, if_pos (by omega), if_pos (by omega), rdS l i hi, if_neg (by omega), w64 (by omega) (by omega)]; rfl
        · rw [List.drop_eq_getElem_cons hi] at hx
          rcases List.mem_cons.1 hx with rfl | hx
          · omega
          · exact (h2 h).2 x hx
    · refine ⟨decide ((l.length : Int) ≤ 60), Ev.step (f := fun k => manteletlaw14_few.j1 k l (i : Int) false) (fun k => ?_) (Ev.step (f := fun _ => some (decide ((l.length : Int) ≤ 60))) (fun k => ?_) (Ev.now _)), fun h => ?_⟩
      · simp only [manteletlaw14_few.l0]; rw [if_pos (by omega), decide_eq_false (by omega)]
      · simp only [manteletlaw14_few.j1]; rw [if_neg (by decide)]
      · have := of_decide_eq_true h
        omega
theorem few14 (l : List ByteArray) : ∃ b, Ev (fun k => manteletlaw14_few.f k l) b ∧ (b = true → l.length ≤ 60 ∧ ∀ x ∈ l, x.size ≤ 20) := by
  have := few_l0 l l.length 0 (by omega)
  rw [List.drop_zero] at this
  exact this
theorem build_shown : buildR [⟨#[97, 98]⟩, ⟨#[99, 98]⟩] = ([⟨true, []⟩, ⟨false, [⟨98, 0⟩]⟩, ⟨false, [⟨97, 1⟩, ⟨99, 1⟩]⟩], 0) := by
  have hw : wordsN [⟨#[97, 98]⟩, ⟨#[99, 98]⟩] = [[97, 98], [99, 98]] := by decide
  unfold buildR
  rw [hw, if_neg (by decide), if_pos (by decide)]
  have hb : build [[97, 98], [99, 98]] = [(true, []), (false, [(98, 0)]), (false, [(97, 1), (99, 1)])] := by
    simp [build, finish, add, Daw.start, leave, common, num, ends]
    decide
  rw [hb]
  rfl
theorem shown14 : Ev manteletlaw14_shown.f true := by
  unfold manteletlaw14_shown.f
  have hb : daw_Build.f [(⟨#[97, 98]⟩ : ByteArray), (⟨#[99, 98]⟩ : ByteArray)] = some ([⟨true, []⟩, ⟨false, [⟨98, 0⟩]⟩, ⟨false, [⟨97, 1⟩, ⟨99, 1⟩]⟩], 0) := by
    unfold daw_Build.f
    rw [if_pos (by decide), build_shown]
  have hs := Same14 [⟨true, []⟩, ⟨false, [⟨98, 0⟩]⟩, ⟨false, [⟨97, 1⟩, ⟨99, 1⟩]⟩] [⟨true, []⟩, ⟨false, [⟨98, 0⟩]⟩, ⟨false, [⟨97, 1⟩, ⟨99, 1⟩]⟩] ⟨by decide, by simp⟩
  rw [decide_eq_true rfl] at hs
  refine Ev.congr (f := fun k => (manteletref14_Same.f k [⟨true, []⟩, ⟨false, [⟨98, 0⟩]⟩, ⟨false, [⟨97, 1⟩, ⟨99, 1⟩]⟩] [⟨true, []⟩, ⟨false, [⟨98, 0⟩]⟩, ⟨false, [⟨97, 1⟩, ⟨99, 1⟩]⟩]).bind fun t => some t) (fun k => ?_) (Ev.bind hs (Ev.now true))
  rw [hb]
  simp only [Option.bind_some]
  rw [if_pos trivial]
def Byt (s : DS) : Prop := ∀ e ∈ s.2, e.1 < 256
theorem num_byt {left : List DS} {s : DS} (h : ∀ t ∈ left, Byt t) (hs : Byt s) : ∀ t ∈ (num left s).1, Byt t := by
  unfold num
  by_cases c : s ∈ left
  · rw [if_pos c]; exact h
  · rw [if_neg c]
    intro t ht
    rcases List.mem_append.1 ht with ht | ht
    · exact h t ht
    · rw [List.mem_singleton.1 ht]; exact hs
theorem leave_byt (W : List Nat) (hW : ∀ j, W.getD j 0 < 256) (n : Nat) : ∀ (k : Nat) (left path : List DS), path.length = k → (∀ t ∈ left, Byt t) → (∀ t ∈ path, Byt t) → (∀ t ∈ (leave W n left path).1, Byt t) ∧ ∀ t ∈ (leave W n left path).2, Byt t
  | 0, left, [], _, h1, h2 => by rw [leave]; exact ⟨h1, h2⟩
  | 1, left, [s], _, h1, h2 => by rw [leave]; exact ⟨h1, h2⟩
  | k + 2, left, s :: u :: r, hk, h1, h2 => by
    rw [leave]
    by_cases h : n < r.length + 1
    · rw [if_pos h]
      refine leave_byt W hW n (k + 1) _ _ (by simpa using hk) (num_byt h1 (h2 s (by simp))) (fun t ht => ?_)
      rcases List.mem_cons.1 ht with rfl | ht
      · intro e he
        rcases List.mem_append.1 he with he | he
        · exact h2 u (by simp) e he
        · rw [List.mem_singleton.1 he]; exact hW _
      · exact h2 t (by simp [ht])
    · rw [if_neg h]; exact ⟨h1, h2⟩
theorem getD_byt {w : List Nat} (h : ∀ c ∈ w, c < 256) (j : Nat) : w.getD j 0 < 256 := by
  rw [List.getD_eq_getElem?_getD]
  cases e : w[j]? with
  | none => decide
  | some c => exact h c (List.mem_of_getElem? e)
theorem ends_byt {p : List DS} (h : ∀ t ∈ p, Byt t) : ∀ t ∈ ends p, Byt t := by
  cases p with
  | nil => simp [ends]
  | cons s r =>
    intro t ht
    rcases List.mem_cons.1 ht with rfl | ht
    · exact h s (by simp)
    · exact h t (by simp [ht])
theorem add_byt {x : Daw.B} {w : List Nat} (h1 : ∀ t ∈ x.left, Byt t) (h2 : ∀ t ∈ x.path, Byt t) (hx : ∀ c ∈ x.word, c < 256) : (∀ t ∈ (add x w).left, Byt t) ∧ ∀ t ∈ (add x w).path, Byt t := by
  obtain ⟨g1, g2⟩ := leave_byt x.word (getD_byt hx) (common w x.word) _ x.left x.path rfl h1 h2
  refine ⟨g1, ends_byt (fun t ht => ?_)⟩
  rcases List.mem_append.1 ht with ht | ht
  · rw [List.eq_of_mem_replicate ht]; intro e he; simp at he
  · exact g2 t ht
theorem adds_byt : ∀ (l : List (List Nat)) (x : Daw.B), (∀ w ∈ l, ∀ c ∈ w, c < 256) → (∀ t ∈ x.left, Byt t) → (∀ t ∈ x.path, Byt t) → (∀ c ∈ x.word, c < 256) → (∀ t ∈ (l.foldl add x).left, Byt t) ∧ (∀ t ∈ (l.foldl add x).path, Byt t) ∧ ∀ c ∈ (l.foldl add x).word, c < 256
  | [], x, _, h1, h2, h3 => ⟨h1, h2, h3⟩
  | w :: l, x, hl, h1, h2, h3 => by
    obtain ⟨g1, g2⟩ := add_byt (w := w) h1 h2 h3
    exact adds_byt l (add x w) (fun v hv => hl v (by simp [hv])) g1 g2 (hl w (by simp))
theorem build_byt (l : List (List Nat)) (hl : ∀ w ∈ l, ∀ c ∈ w, c < 256) : ∀ t ∈ build l, Byt t := by
  obtain ⟨g1, g2, g3⟩ := adds_byt l Daw.start hl (by simp [Daw.start]) (by intro t ht e he; simp [Daw.start] at ht; subst ht; simp at he) (by simp [Daw.start])
  obtain ⟨k1, k2⟩ := leave_byt (l.foldl add Daw.start).word (getD_byt g3) 0 _ (l.foldl add Daw.start).left (l.foldl add Daw.start).path rfl g1 g2
  unfold build finish
  split
  · rename_i s r hp
    rw [hp] at k2
    exact num_byt k1 (k2 s (by simp))
  · exact k1
theorem rising_len : ∀ (l : List DE) (m N : Nat), Rising l → (∀ e ∈ l, m ≤ e.1 ∧ e.1 < N) → l.length ≤ N - m
  | [], _, _, _, _ => by simp
  | e :: r, m, N, h, hl => by
    have h1 := hl e (by simp)
    have := rising_len r (e.1 + 1) N h.2 (fun f hf => ⟨h.1 f hf, (hl f (by simp [hf])).2⟩)
    simp only [List.length_cons]; omega
theorem nats_byt (s : ByteArray) : ∀ c ∈ Utf.nats s, c < 256 := by
  intro c hc
  unfold Utf.nats at hc
  obtain ⟨b, _, rfl⟩ := List.mem_map.1 hc
  exact UInt8.toNat_lt b
theorem wordsN_byt (l : List ByteArray) : ∀ w ∈ wordsN l, ∀ c ∈ w, c < 256 := by
  intro w hw
  unfold wordsN at hw
  obtain ⟨s, _, rfl⟩ := List.mem_map.1 hw
  exact nats_byt s
theorem build_nil : build [] = [(false, [])] := by
  simp [build, finish, Daw.start, leave, num]
theorem words_rise {l : List (List Nat)} (h0 : [] ∉ l) (h : l.Pairwise (· < ·)) : ([] :: l).Pairwise (· < ·) := by
  rw [List.pairwise_cons]
  refine ⟨fun w hw => ?_, h⟩
  cases w with
  | nil => exact absurd hw h0
  | cons a t => exact List.nil_lt_cons a t
/-- What was built: each state's edges few, to lower ones, rising; ending or going on; no two alike. -/
theorem build_good (l : List ByteArray) (h0 : [] ∉ wordsN l) (h : (wordsN l).Pairwise (· < ·)) :
    (build (wordsN l)).Nodup ∧ (∀ i s, (build (wordsN l))[i]? = some s → Row i s ∧ (l ≠ [] → Alive s) ∧ s.2.length ≤ 256 ∧ Byt s) ∧ 1 ≤ (build (wordsN l)).length ∧ (build (wordsN l)).length ≤ 1 + (l.map ByteArray.size).sum := by
  have hby := build_byt (wordsN l) (wordsN_byt l)
  have hlen : ∀ i s, (build (wordsN l))[i]? = some s → Row i s → s.2.length ≤ 256 ∧ Byt s := fun i s hs hr => by
    have hb := hby s (List.mem_of_getElem? hs)
    exact ⟨by have := rising_len s.2 0 256 hr.2 (fun e he => ⟨Nat.zero_le _, hb e he⟩); omega, hb⟩
  by_cases hl : l = []
  · subst hl
    have hw : wordsN [] = [] := rfl
    rw [hw, build_nil]
    refine ⟨by simp, fun i s hs => ?_, by simp, by simp⟩
    cases i with
    | zero =>
      have : (false, []) = s := by simpa using hs
      subst this
      exact ⟨⟨by simp, trivial⟩, fun h => absurd rfl h, by simp, by intro e he; simp at he⟩
    | succ i => simp at hs
  · have hne : wordsN l ≠ [] := by unfold wordsN; simpa using hl
    obtain ⟨g1, g2, g3, g4⟩ := build_least (wordsN l) (words_rise h0 h) hne
    refine ⟨g1, fun i s hs => ?_, g3, ?_⟩
    · obtain ⟨k1, k2⟩ := g2 i s hs
      exact ⟨k1, fun _ => k2, hlen i s hs k1⟩
    · have e : ((wordsN l).map List.length) = l.map ByteArray.size := by
        unfold wordsN
        rw [List.map_map]
        exact List.map_congr_left (fun s _ => nats_len s)
      rw [e] at g4
      exact g4
end Go.Proofs.Ytebdcblchjhmpaa.K

namespace Go.Proofs.Ytebdcblchjhmpaa.PDawWords
open Go.RowKit Go.Proofs.YtebdcblchjhmpaaW.PrintWords Go.Proofs.YtebdcblchjhmpaaW.PrintLast Go.Proofs.YtebdcblchjhmpaaW.PrintMore Go.Proofs.Ytebdcblchjhmpaa.K Go.Proofs.Ytebdcblchjhmpaa.PDk Go.Proofs.Ytebdcblchjhmpaa.PDm Go.Proofs.Ytebdcblchjhmpaa.PSh14
attribute [local go_sem] max2_int min2_int max_two min_two max_three min_three max_four min_four   -- for this text's walks alone
set_option linter.unusedVariables false
set_option linter.unusedSimpArgs false



def errW : Option Int → Value
  | none => .nilIface
  | some c => .iface 0 (.int .i64 c)
theorem errW_none : errW none = .nilIface := rfl
theorem errW_some (c : Int) : errW (some c) = .iface 0 (.int .i64 c) := rfl

end Go.Proofs.Ytebdcblchjhmpaa.PDawWords

