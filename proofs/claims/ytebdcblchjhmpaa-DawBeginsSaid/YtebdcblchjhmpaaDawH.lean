/- daw.Has: whether an automaton takes a word; slices.IndexFunc at edges. -/
import Derived.Shelf.Abstract
import Derived.Test.YtebdcblchjhmpaaProg
import Derived.Below
import Derived.Deep.Draws
import Derived.Deep.AppendLies
import Derived.Maps.AppendAt
import Derived.OwnWalk
import Derived.Laws.BytesArg
import Derived.Laws.MakeOwn
import Derived.Laws.OwnMore
import Derived.Deep.OwnRows
import Derived.Tactics
import Derived.Lib.ConvBytes
import Derived.Laws.Slices
import Derived.WalkKit
import Derived.KernelRfl
import Derived.RowKit3
import Derived.Deep.LoopGhost
import Derived.Deep.QuietTactic
import Derived.BigQuiet
import Derived.WideLaws
import Derived.Deep.DeepCutAuto
import Derived.Deep.CutBlock
import Derived.Deep.RegionHeld3
import Derived.Laws.Rows
import Derived.Lib.AppendStr
import Derived.ArgAppend
import Derived.Laws.IdiomCopy
import Derived.OrdersHeld
import Derived.Laws.BitsLemmas
import Derived.RowKit
import Derived.Lib.OthersKept
import Derived.WalkSmall
import Derived.Deep.RegionLaw
import Derived.BigRegion
import Derived.Test.YtebdcblchjhmpaaWWords
import Derived.Test.YtebdcblchjhmpaaWLast
import Derived.Test.YtebdcblchjhmpaaWTab
import Derived.Test.YtebdcblchjhmpaaWFour
import Derived.Test.YtebdcblchjhmpaaWQPut
import Derived.Test.YtebdcblchjhmpaaWApart
import Derived.Test.YtebdcblchjhmpaaWArr
import Derived.Test.YtebdcblchjhmpaaWZeros
import Derived.Test.YtebdcblchjhmpaaWFoot
import Derived.Test.YtebdcblchjhmpaaWKept
import Derived.Test.YtebdcblchjhmpaaWShare
import Derived.Test.YtebdcblchjhmpaaWN
import Derived.Test.YtebdcblchjhmpaaWFootNe
import Derived.Test.YtebdcblchjhmpaaWAt
import Derived.Test.YtebdcblchjhmpaaWEqStruct
import Derived.Test.YtebdcblchjhmpaaWRepsOne
import Derived.Test.YtebdcblchjhmpaaWInv
import Derived.Test.YtebdcblchjhmpaaWInvWords
import Derived.Test.YtebdcblchjhmpaaWGuard
import Derived.Test.YtebdcblchjhmpaaWNEv
import Derived.Test.YtebdcblchjhmpaaWMore
import Derived.Test.YtebdcblchjhmpaaInfo
import Derived.Test.YtebdcblchjhmpaaUtf
import Derived.Test.YtebdcblchjhmpaaHelp
import Derived.Test.YtebdcblchjhmpaaHelp2
import Derived.Test.YtebdcblchjhmpaaHelp5
import Derived.Test.YtebdcblchjhmpaaUtfE
import Derived.Test.YtebdcblchjhmpaaPDkx
namespace Go.Proofs.Ytebdcblchjhmpaa.K
open Go.RowKit Go.Proofs.YtebdcblchjhmpaaW.PrintWords Go.Proofs.YtebdcblchjhmpaaW.PrintLast Go.Proofs.YtebdcblchjhmpaaW.PrintMore Go.Proofs.Ytebdcblchjhmpaa
attribute [local go_sem] max2_int min2_int max_two min_two max_three min_three max_four min_four
set_option linter.unusedVariables false
set_option linter.unusedSimpArgs false
open Go Go.Shelf Go.Proofs.Ytebdcblchjhmpaa.PDk
def idxE (p : S33 → Bool) (es : List S33) : Int := match es.findIdx? p with | some j => (j : Int) | none => -1
theorem rdE (es : List S33) (i : Nat) (h : i < es.length) : rd_T33 es (i : Int) = es[i] := by
  unfold rd_T33
  rw [Int.toNat_natCast, List.getD_eq_getElem?_getD, List.getElem?_eq_getElem h]; rfl
theorem idx_step (p : S33 → Bool) (es : List S33) (i : Nat) (h : i < es.length) (hn : p es[i] = false) : (es.drop i).findIdx? p = ((es.drop (i + 1)).findIdx? p).map (· + 1) := by
  rw [List.drop_eq_getElem_cons h, List.findIdx?_cons, if_neg (by simp [hn])]
theorem idx_hit (p : S33 → Bool) (es : List S33) (i : Nat) (h : i < es.length) (hn : p es[i] = true) : (es.drop i).findIdx? p = some 0 := by
  rw [List.drop_eq_getElem_cons h, List.findIdx?_cons, if_pos hn]
set_option maxHeartbeats 4000000 in
set_option maxRecDepth 100000 in
/-- slices.IndexFunc at edges, for whatever predicate that lays no more than blocks of its own. -/
theorem indexFunc_k (g : Nat) (eg : ∀ args w, (callFunc g args).run Try.prog w = .ok (.enter g args) w) (lb : Array Value) (p : S33 → Bool) (A : Option Addr) (c : Nat) (es : List S33) (w : World) (hC : Kd.C k33 w A es.length es) (hc : es.length ≤ c)
    (hp : ∀ (W : World) (x : S33), Below w.heap.size w W → Calls Try.prog g (#[.agg #[.int .u8 x.f0, .int .i64 x.f1]] ++ lb) W fun e w' => e = .returned (.bool (p x)) ∧ Below w.heap.size w w') :
    Calls Try.prog 35 #[.slice A es.length c, .func (.func g) #[] lb] w fun e w' => e = .returned (.int .i64 (idxE p es)) ∧ Below w.heap.size w w' := by
  have HC := Aside0.mk hC; have HP := Aside0.mk hp
  have hlen : (es.length : Int) ≤ 9223372036854775807 := by have := hC.2.1; omega
  clear hC hp
  have huE := Try.underlying33
  go_enter Try.func35, Try.ntmps35
  go_wp2
  go_loopg [8] es.length (fun gg v8 wr => ∃ i : Nat, v8 = .int .i64 i ∧ Aside0 (i ≤ es.length ∧ es.length ≤ gg + i) ∧ Aside0 (es.findIdx? p = ((es.drop i).findIdx? p).map (· + i)) ∧ Aside0 (Below w.heap.size w wr))
  case atStart => exact ⟨0, rfl, ⟨by omega⟩, ⟨by simp⟩, ⟨Below.refl _ _⟩⟩
  case round =>
    obtain ⟨i, rfl, hi, hf, hb⟩ := hrel
    by_cases hlt : i < es.length
    · have hcb : decide ((i : Int) < (es.length : Int)) = true := decide_eq_true (by omega)
      have q0 : (0 : Int) ≤ (i : Int) := by omega
      have q1 : (i : Int) < (es.length : Int) := by omega
      obtain ⟨ad, e0, a0, a1⟩ := at_T33 (Kd.C_below HC.out hb.out) (i : Int) q0 q1
      cases e0
      have hcall := HP.out wr (rd_T33 es (i : Int)) hb.out
      have hrd := rdE es i hlt
      generalize hx : rd_T33 es (i : Int) = x at a0 a1 hcall
      have HX : Aside0 (es[i] = x) := ⟨hrd.symm.trans hx⟩
      clear hx hrd
      rw [Int.toNat_natCast] at a0 a1
      cases hq : p x with
      | true =>
        rw [hq] at hcall
        have HQ := Aside0.mk hq; have HCL := Aside0.mk hcall
        clear hq hcall
        go_wp2
        (with_reducible refine HCL.out.mono ?_)
        (first | rintro e w' ⟨rfl, hb'⟩ | rintro e w' rfl hb')
        go_wp2
        go_ret
        refine ⟨?_, hb'⟩
        unfold idxE
        rw [hf.out, idx_hit p es i hlt (by rw [HX.out]; exact HQ.out)]
        simp
      | false =>
        rw [hq] at hcall
        have HQ := Aside0.mk hq; have HCL := Aside0.mk hcall
        clear hq hcall
        go_wp2
        (with_reducible refine HCL.out.mono ?_)
        (first | rintro e w' ⟨rfl, hb'⟩ | rintro e w' rfl hb')
        go_wp2
        go_roundg (es.length - (i + 1))
        case measure => have := hi.out; omega
        case rel =>
          refine ⟨i + 1, congrArg (Value.int .i64) (by omega), ⟨by have := hi.out; omega⟩, ⟨?_⟩, ⟨hb'⟩⟩
          rw [hf.out, idx_step p es i hlt (by rw [HX.out]; exact HQ.out), Option.map_map]
          congr 1
          funext n
          simp only [Function.comp]
          omega
    · have hcb : decide ((i : Int) < (es.length : Int)) = false := decide_eq_false (by omega)
      go_wp2
      go_ret
      refine ⟨?_, hb.out⟩
      unfold idxE
      rw [hf.out, List.drop_eq_nil_of_le (by omega)]
      rfl
theorem egHas : ∀ args w, (callFunc 36 args).run Try.prog w = .ok (.enter 36 args) w := enters_of Try.func36 (by kernel_rfl) rfl
set_option maxHeartbeats 1000000 in
set_option maxRecDepth 100000 in
/-- The closure that Has hands on: is the edge's byte the word's? Its captured variables lie in blocks B1, B2. -/
theorem hasPred (word : ByteArray) (i : Nat) (hi : i < word.size) (B1 B2 : Nat) (w : World) (h1 : B1 < w.heap.size) (h2 : B2 < w.heap.size) (c1 : w.cell? ⟨B1, 0, none⟩ = some (.string word)) (c2 : w.cell? ⟨B2, 0, none⟩ = some (.int .i64 (i : Int))) (W : World) (x : S33) (hb : Below w.heap.size w W) :
    Calls Try.prog 36 (#[.agg #[.int .u8 x.f0, .int .i64 x.f1]] ++ #[.pointer (some ⟨B1, 0, none⟩), .pointer (some ⟨B2, 0, none⟩)]) W fun e w' => e = .returned (.bool (x.f0 == ((word[i]'hi).toNat : Int))) ∧ Below w.heap.size w w' := by
  have d1 : W.cell? ⟨B1, 0, none⟩ = some (.string word) := (hb.cell (p := ⟨B1, 0, none⟩) h1).trans c1
  have d2 : W.cell? ⟨B2, 0, none⟩ = some (.int .i64 (i : Int)) := (hb.cell (p := ⟨B2, 0, none⟩) h2).trans c2
  have hB1 : B1 < W.heap.size := Nat.lt_of_lt_of_le h1 hb.size
  have hB2 : B2 < W.heap.size := Nat.lt_of_lt_of_le h2 hb.size
  have q0 : (0 : Int) ≤ (i : Int) := by omega
  have q1 : (i : Int) < (word.size : Int) := by omega
  have HB := Aside0.mk hb
  have D1 := Aside0.mk d1; have D2 := Aside0.mk d2
  have HB1 := Aside0.mk hB1; have HB2 := Aside0.mk hB2
  have huE := Try.underlying33
  clear hb d1 d2 c1 c2 h1 h2 hB1 hB2
  show Calls Try.prog 36 #[.agg #[.int .u8 x.f0, .int .i64 x.f1], .pointer (some ⟨B1, 0, none⟩), .pointer (some ⟨B2, 0, none⟩)] W _
  go_enter Try.func36, Try.ntmps36
  go_wp2_with (first | ((with_reducible refine gate_dst (N := 3) rfl ?_); refine box_event ?hg (N := 3) ?hd (cs := #[.int .u8 x.f0, .int .i64 x.f1]) (t := 33) ?hr ?_; (case hd => rfl); (case hg => rfl); (case hr => first | (go_simp; done) | (go_simp; rfl)); intro gp hgq_ w1 hp hb1; have gp_eq := Aside0.mk hgq_; clear hgq_; have c0 : w1.cell? ⟨gp, 0, none⟩ = some (.int .u8 x.f0) := (blk_cell hp 0).trans rfl; have e1 : ∀ q, (w1.drewN q).cell? ⟨B1, 0, none⟩ = some (.string word) := fun q => (hb1.cell (p := ⟨B1, 0, none⟩) HB1.out).trans D1.out; have e2 : ∀ q, (w1.drewN q).cell? ⟨B2, 0, none⟩ = some (.int .i64 (i : Int)) := fun q => (hb1.cell (p := ⟨B2, 0, none⟩) HB2.out).trans D2.out; have HBB := Aside0.mk (HB.out.trans (hb1.mono HB.out.size)); clear hb1))
  go_quiet (fail)
  go_wp2
  go_ret
  exact ⟨rfl, pw_below_drewN HBB.out nq⟩
/-- Whether an automaton takes what is left of a word, from a state on. -/
def hasFrom (l : List S31) : Int → List Nat → Bool
  | at_, [] => decide (0 ≤ at_) && decide (at_ < (l.length : Int)) && (rd_T31 l at_).f0
  | at_, b :: rest => if at_ < 0 ∨ at_ ≥ (l.length : Int) then false else match (rd_T31 l at_).f1.findIdx? (fun e => e.f0 == (b : Int)) with
    | some k => hasFrom l ((rd_T33 (rd_T31 l at_).f1 (k : Int)).f1) rest
    | none => false
def daw_Has.f (l : List S31) (word : ByteArray) : Option Bool := if l.length ≤ 140737488355328 ∧ word.size ≤ 140737488355328 then some (hasFrom l ((l.length : Int) - 1) (Utf.nats word)) else none
theorem byteE (s : ByteArray) (i : Nat) (h : i < s.size) : (Utf.nats s).drop i = (s[i]'h).toNat :: (Utf.nats s).drop (i + 1) := by
  have hl : i < (Utf.nats s).length := by simpa [Utf.nats] using h
  rw [List.drop_eq_getElem_cons hl]
  have e : (s[i]'h).toNat = (Utf.nats s).getD i 0 := by
    unfold Utf.nats
    rw [List.getD_eq_getElem?_getD, List.getElem?_map, Array.getElem?_toList, Array.getElem?_eq_getElem h]
    rfl
  rw [e, List.getD_eq_getElem?_getD, List.getElem?_eq_getElem hl]
  rfl
set_option maxHeartbeats 4000000 in
set_option maxRecDepth 100000 in
theorem daw_Has.calls (A0 : Option Addr) (c0 : Nat) (l0 : List S31) (a1 : ByteArray) (r : Bool) (w : World) (hr0 : Kd.C k31 w A0 l0.length l0) (hc0 : l0.length ≤ c0) (h : daw_Has.f l0 a1 = some r) :
    Calls Try.prog 17 #[.slice A0 l0.length c0, .string a1] w fun e w' => e = .returned (.bool r) ∧ Below w.heap.size w w' := by
  have hl2 : (l0.length : Int) ≤ 140737488355328 ∧ (a1.size : Int) ≤ 140737488355328 := by
    unfold daw_Has.f at h; split at h
    · omega
    · cases h
  obtain ⟨hl, hal⟩ := hl2
  have hr : hasFrom l0 ((l0.length : Int) - 1) (Utf.nats a1) = r := by
    unfold daw_Has.f at h; rw [if_pos (by omega)] at h; exact Option.some.inj h
  clear h
  have HR := Aside0.mk hr; have HC := Aside0.mk hr0; have HC0 := Aside0.mk hc0
  clear hr hr0 hc0
  have huS := Try.underlying31
  have huE := Try.underlying33
  go_enter Try.func17, Try.ntmps17
  go_wp2_with (first | ((with_reducible refine gate_dst (N := 3) rfl ?_); refine box_event ?hg (N := 3) ?hd (cs := #[.string a1]) (t := 9) ?hr ?_; (case hd => rfl); (case hg => rfl); (case hr => first | (go_simp; done) | (go_simp; rfl)); intro gp hgp w1 hp hb1; have hgp_eq := Aside0.mk hgp; clear hgp; have s0 : w1.cell? ⟨gp, 0, none⟩ = some (.string a1) := (blk_cell hp 0).trans rfl; have HP := Aside0.mk hp; have HB1 := Aside0.mk hb1; clear hp hb1))
  have hs : Utf.nats a1 = (Utf.nats a1).drop 0 := rfl
  go_loopg [13, 5] a1.size (fun gg v13 v5 wr => ∃ (i : Nat) (at_ : Int), v13 = .int .i64 i ∧ v5 = .int .i64 at_ ∧ Aside0 (i ≤ a1.size ∧ a1.size ≤ gg + i) ∧ Aside0 (hasFrom l0 at_ ((Utf.nats a1).drop i) = r) ∧ Aside0 (Below w1.heap.size w1 wr))
  case atStart => exact ⟨0, _, rfl, rfl, ⟨by omega⟩, HR, ⟨Below.refl _ _⟩⟩
  case round =>
    clear hs HR
    obtain ⟨i, at_, rfl, rfl, hi, hf, hb⟩ := hrel
    have hgl : gp < w1.heap.size := blk_lt HP.out
    by_cases hc : i < a1.size
    · have hcb : decide ((i : Int) < (a1.size : Int)) = true := decide_eq_true (by omega)
      have hd := byteE a1 i hc
      have hf2 := hf.out
      rw [hd, hasFrom] at hf2
      by_cases ha : at_ < 0 ∨ at_ ≥ (l0.length : Int)
      · rw [if_pos ha] at hf2
        subst hf2
        have HBB := Aside0.mk (HB1.out.trans (hb.out.mono HB1.out.size))
        clear hd hf HP HC
        by_cases a0 : at_ < 0
        · have d1 : decide (at_ < 0) = true := decide_eq_true a0
          go_wp2
          go_ret
          exact ⟨rfl, below_alloc HBB.out _⟩
        · have d1 : decide (at_ < 0) = false := decide_eq_false a0
          have d2 : decide (at_ ≥ (l0.length : Int)) = true := decide_eq_true (by omega)
          go_wp2
          go_ret
          exact ⟨rfl, below_alloc HBB.out _⟩
      · rw [if_neg ha] at hf2
        have d1 : decide (at_ < 0) = false := decide_eq_false (by omega)
        have d2 : decide (at_ ≥ (l0.length : Int)) = false := decide_eq_false (by omega)
        have q0 : 0 ≤ at_ := by omega
        have q1 : at_ < (l0.length : Int) := by omega
        have HF2 := Aside0.mk hf2; have HD := Aside0.mk hd; have HA := Aside0.mk ha
        clear hf2 hd ha hf
        have hba : Below wr.heap.size wr (wr.alloc (.cells #[.int .i64 (i : Int)] 3 (0, 0))) := below_alloc (Below.refl _ _) _
        have hb1 := hb.out.trans (hba.mono hb.out.size)
        obtain ⟨ad, A1, c1, e0, x0, x1, hl1, hC1⟩ := at_T31 (Kd.C_below HC.out (HB1.out.trans (hb1.mono HB1.out.size))) at_ q0 q1
        cases e0
        have y1 : (wr.alloc (.cells #[.int .i64 (i : Int)] 3 (0, 0))).cell? ⟨gp, 0, none⟩ = some (.string a1) := (hb1.cell (p := ⟨gp, 0, none⟩) hgl).trans s0
        have y2 : (wr.alloc (.cells #[.int .i64 (i : Int)] 3 (0, 0))).cell? ⟨wr.heap.size, 0, none⟩ = some (.int .i64 (i : Int)) := (blk_cell (heap_alloc_new wr (.cells #[.int .i64 (i : Int)] 3 (0, 0))) 0).trans rfl
        have hix := indexFunc_k _ egHas #[.pointer (some ⟨gp, 0, none⟩), .pointer (some ⟨wr.heap.size, 0, none⟩)] (fun x => x.f0 == ((a1[i]'hc).toNat : Int)) A1 c1 _ _ hC1 hl1 (fun W x hW => hasPred a1 i hc gp wr.heap.size _ (Nat.lt_of_lt_of_le hgl hb1.size) (blk_lt (heap_alloc_new wr (.cells #[.int .i64 (i : Int)] 3 (0, 0)))) y1 y2 W x hW)
        replace hix := hix.mono (fun e w' h => (⟨h.1, hb1.trans (h.2.mono hb1.size)⟩ : _ ∧ Below w1.heap.size w1 w'))
        have HC1 := Aside0.mk hC1; have HB2 := Aside0.mk hb1; have HL1 := Aside0.mk hl1
        clear hC1 y1 y2 hba hb1
        cases hfi : (rd_T31 l0 at_).f1.findIdx? (fun x => x.f0 == ((a1[i]'hc).toNat : Int)) with
        | none =>
          have hr := HF2.out
          rw [hfi] at hr
          have hie : idxE (fun x => x.f0 == ((a1[i]'hc).toNat : Int)) (rd_T31 l0 at_).f1 = -1 := by unfold idxE; rw [hfi]
          rw [hie] at hix
          have HIX := Aside0.mk hix; have HR2 := Aside0.mk hr
          clear hix hfi hie HF2 hr
          go_wp2_with (first | (go_at_call 35; (with_reducible refine (HIX.out).mono ?_)))
          (first | rintro e w2 rfl hb2 | rintro e w2 ⟨rfl, hb2⟩)
          have HB3 := Aside0.mk (HB1.out.trans (hb2.mono HB1.out.size))
          clear hb2
          go_wp2
          go_ret
          have hr := HR2.out
          subst hr
          exact ⟨rfl, HB3.out⟩
        | some k =>
          have hr := HF2.out
          rw [hfi] at hr
          have hie : idxE (fun x => x.f0 == ((a1[i]'hc).toNat : Int)) (rd_T31 l0 at_).f1 = (k : Int) := by unfold idxE; rw [hfi]
          rw [hie] at hix
          have hk := (List.findIdx?_eq_some_iff_findIdx_eq.1 hfi).1
          have HIX := Aside0.mk hix; have HR2 := Aside0.mk hr
          clear hix hfi hie HF2 hr
          go_wp2_with (first | (go_at_call 35; (with_reducible refine (HIX.out).mono ?_)))
          (first | rintro e w2 rfl hb2 | rintro e w2 ⟨rfl, hb2⟩)
          have HB3 := Aside0.mk hb2
          clear hb2 x0 x1 hl1
          obtain ⟨ad', A2, c2, e0, x0, x1, hl2, hC2⟩ := at_T31 (Kd.C_below HC.out (HB1.out.trans (HB3.out.mono HB1.out.size))) at_ q0 q1
          cases e0
          have z0 : (0 : Int) ≤ (k : Int) := by omega
          have z1 : (k : Int) < ((rd_T31 l0 at_).f1.length : Int) := by omega
          obtain ⟨ad2, e0, u0, u1⟩ := at_T33 hC2 (k : Int) z0 z1
          cases e0
          rw [Int.toNat_natCast] at u0 u1
          have d3 : decide ((k : Int) < 0) = false := decide_eq_false (by omega)
          clear hC2 hk
          go_wp2
          go_roundg (a1.size - (i + 1))
          case measure => have := hi.out; omega
          case rel =>
            exact ⟨i + 1, _, congrArg (Value.int .i64) (by omega), rfl, ⟨by have := hi.out; omega⟩, HR2, HB3⟩
    · have hcb : decide ((i : Int) < (a1.size : Int)) = false := decide_eq_false (by omega)
      have hf2 := hf.out
      have hln : (Utf.nats a1).length = a1.size := by simp [Utf.nats]
      rw [List.drop_eq_nil_of_le (by omega), hasFrom] at hf2
      have HBB := Aside0.mk (HB1.out.trans (hb.out.mono HB1.out.size))
      have HF2 := Aside0.mk hf2
      clear hf hf2 hln
      by_cases a0 : at_ ≥ 0
      · have d1 : decide (at_ ≥ 0) = true := decide_eq_true a0
        by_cases a1' : at_ < (l0.length : Int)
        · have d2 : decide (at_ < (l0.length : Int)) = true := decide_eq_true a1'
          obtain ⟨ad, A1, c1, e0, x0, _, _, _⟩ := at_T31 (Kd.C_below HC.out HBB.out) at_ (by omega) a1'
          cases e0
          have q0 : 0 ≤ at_ := a0
          go_wp2
          go_ret
          have hf2 := HF2.out
          rw [decide_eq_true q0, decide_eq_true a1', Bool.true_and, Bool.true_and] at hf2
          exact ⟨by rw [← hf2]; rfl, HBB.out⟩
        · have d2 : decide (at_ < (l0.length : Int)) = false := decide_eq_false a1'
          go_wp2
          go_ret
          have hf2 := HF2.out
          rw [decide_eq_false (show ¬ at_ < (l0.length : Int) by omega), Bool.and_false, Bool.false_and] at hf2
          exact ⟨by rw [← hf2]; rfl, HBB.out⟩
      · have d1 : decide (at_ ≥ 0) = false := decide_eq_false a0
        go_wp2
        go_ret
        have hf2 := HF2.out
        rw [decide_eq_false (show ¬ 0 ≤ at_ by omega), Bool.false_and, Bool.false_and] at hf2
        exact ⟨by rw [← hf2]; rfl, HBB.out⟩
end Go.Proofs.Ytebdcblchjhmpaa.K
