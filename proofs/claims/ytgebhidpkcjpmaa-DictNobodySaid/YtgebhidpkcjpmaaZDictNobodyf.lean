/- DictNobody. (The texts that the proof is made of, one behind the other: part 6 of 18.) -/
import Derived.Shelf.Abstract
import Derived.Test.YtgebhidpkcjpmaaProg
import Derived.Below
import Derived.Deep.Draws
import Derived.Deep.AppendLies
import Derived.Maps.AppendAt
import Derived.OwnWalk
import Derived.Laws.BytesArg
import Derived.Laws.MakeOwn
import Derived.Laws.OwnMore
import Derived.Deep.OwnRows
import Derived.Tactics
import Derived.Lib.ConvBytes
import Derived.Laws.Slices
import Derived.WalkKit
import Derived.KernelRfl
import Derived.RowKit3
import Derived.Deep.LoopGhost
import Derived.Deep.QuietTactic
import Derived.BigQuiet
import Derived.WideLaws
import Derived.Deep.DeepCutAuto
import Derived.Deep.CutBlock
import Derived.Deep.RegionHeld3
import Derived.Laws.Rows
import Derived.Lib.AppendStr
import Derived.ArgAppend
import Derived.Laws.IdiomCopy
import Derived.OrdersHeld
import Derived.Laws.BitsLemmas
import Derived.RowKit
import Derived.Lib.OthersKept
import Derived.WalkSmall
import Derived.Deep.RegionLaw
import Derived.BigRegion
import Derived.Laws.EntriesVeiled
import Derived.Maps.OwnSet
import Derived.Maps.OwnOps
import Derived.Maps.Views
import Derived.Test.YtgebhidpkcjpmaaZDictNobodya
import Derived.Test.YtgebhidpkcjpmaaZDictNobodyb
import Derived.Test.YtgebhidpkcjpmaaZDictNobodyc
import Derived.Test.YtgebhidpkcjpmaaZDictNobodyd
import Derived.Test.YtgebhidpkcjpmaaZDictNobodye
namespace Go.Proofs.Ytgebhidpkcjpmaa.K
open Go.RowKit Go.Proofs.YtgebhidpkcjpmaaW.PrintWords Go.Proofs.YtgebhidpkcjpmaaW.PrintLast Go.Proofs.YtgebhidpkcjpmaaW.PrintMore Go.Proofs.Ytgebhidpkcjpmaa
attribute [local go_sem] max2_int min2_int max_two min_two max_three min_three max_four min_four
set_option linter.unusedVariables false
set_option linter.unusedSimpArgs false
open Go Go.Shelf Go.Proofs.Ytgebhidpkcjpmaa.PDk
def idxE (p : S84 → Bool) (es : List S84) : Int := match es.findIdx? p with | some j => (j : Int) | none => -1
theorem rdE (es : List S84) (i : Nat) (h : i < es.length) : rd_T84 es (i : Int) = es[i] := by
  unfold rd_T84
  rw [Int.toNat_natCast, List.getD_eq_getElem?_getD, List.getElem?_eq_getElem h]; rfl
theorem idx_step (p : S84 → Bool) (es : List S84) (i : Nat) (h : i < es.length) (hn : p es[i] = false) : (es.drop i).findIdx? p = ((es.drop (i + 1)).findIdx? p).map (· + 1) := by
  rw [List.drop_eq_getElem_cons h, List.findIdx?_cons, if_neg (by simp [hn])]
theorem idx_hit (p : S84 → Bool) (es : List S84) (i : Nat) (h : i < es.length) (hn : p es[i] = true) : (es.drop i).findIdx? p = some 0 := by
  rw [List.drop_eq_getElem_cons h, List.findIdx?_cons, if_pos hn]
set_option maxHeartbeats 4000000 in
set_option maxRecDepth 100000 in
/-- slices.IndexFunc at edges, for whatever predicate that lays no more than blocks of its own. -/
theorem indexFunc_k (g : Nat) (eg : ∀ args w, (callFunc g args).run Try.prog w = .ok (.enter g args) w) (lb : Array Value) (p : S84 → Bool) (A : Option Addr) (c : Nat) (es : List S84) (w : World) (hC : Kd.C k84 w A es.length es) (hc : es.length ≤ c)
    (hp : ∀ (W : World) (x : S84), Below w.heap.size w W → Calls Try.prog g (#[.agg #[.int .u8 x.f0, .int .i64 x.f1]] ++ lb) W fun e w' => e = .returned (.bool (p x)) ∧ Below w.heap.size w w') :
    Calls Try.prog 97 #[.slice A es.length c, .func (.func g) #[] lb] w fun e w' => e = .returned (.int .i64 (idxE p es)) ∧ Below w.heap.size w w' := by
  have HC := Aside0.mk hC; have HP := Aside0.mk hp
  have hlen : (es.length : Int) ≤ 9223372036854775807 := by have := hC.2.1; omega
  clear hC hp
  have huE := Try.underlying84
  go_enter Try.func97, Try.ntmps97
  go_wp2
  go_loopg [8] es.length (fun gg v8 wr => ∃ i : Nat, v8 = .int .i64 i ∧ Aside0 (i ≤ es.length ∧ es.length ≤ gg + i) ∧ Aside0 (es.findIdx? p = ((es.drop i).findIdx? p).map (· + i)) ∧ Aside0 (Below w.heap.size w wr))
  case atStart => exact ⟨0, rfl, ⟨by omega⟩, ⟨by simp⟩, ⟨Below.refl _ _⟩⟩
  case round =>
    obtain ⟨i, rfl, hi, hf, hb⟩ := hrel
    by_cases hlt : i < es.length
    · have hcb : decide ((i : Int) < (es.length : Int)) = true := decide_eq_true (by omega)
      have q0 : (0 : Int) ≤ (i : Int) := by omega
      have q1 : (i : Int) < (es.length : Int) := by omega
      obtain ⟨ad, e0, a0, a1⟩ := at_T84 (Kd.C_below HC.out hb.out) (i : Int) q0 q1
      cases e0
      have hcall := HP.out wr (rd_T84 es (i : Int)) hb.out
      have hrd := rdE es i hlt
      generalize hx : rd_T84 es (i : Int) = x at a0 a1 hcall
      have HX : Aside0 (es[i] = x) := ⟨hrd.symm.trans hx⟩
      clear hx hrd
      rw [Int.toNat_natCast] at a0 a1
      cases hq : p x with
      | true =>
        rw [hq] at hcall
        have HQ := Aside0.mk hq; have HCL := Aside0.mk hcall
        clear hq hcall
        go_wp2
        (with_reducible refine HCL.out.mono ?_)
        (first | rintro e w' ⟨rfl, hb'⟩ | rintro e w' rfl hb')
        go_wp2
        go_ret
        refine ⟨?_, hb'⟩
        unfold idxE
        rw [hf.out, idx_hit p es i hlt (by rw [HX.out]; exact HQ.out)]
        simp
      | false =>
        rw [hq] at hcall
        have HQ := Aside0.mk hq; have HCL := Aside0.mk hcall
        clear hq hcall
        go_wp2
        (with_reducible refine HCL.out.mono ?_)
        (first | rintro e w' ⟨rfl, hb'⟩ | rintro e w' rfl hb')
        go_wp2
        go_roundg (es.length - (i + 1))
        case measure => have := hi.out; omega
        case rel =>
          refine ⟨i + 1, congrArg (Value.int .i64) (by omega), ⟨by have := hi.out; omega⟩, ⟨?_⟩, ⟨hb'⟩⟩
          rw [hf.out, idx_step p es i hlt (by rw [HX.out]; exact HQ.out), Option.map_map]
          congr 1
          funext n
          simp only [Function.comp]
          omega
    · have hcb : decide ((i : Int) < (es.length : Int)) = false := decide_eq_false (by omega)
      go_wp2
      go_ret
      refine ⟨?_, hb.out⟩
      unfold idxE
      rw [hf.out, List.drop_eq_nil_of_le (by omega)]
      rfl
theorem egHas : ∀ args w, (callFunc 98 args).run Try.prog w = .ok (.enter 98 args) w := enters_of Try.func98 (by kernel_rfl) rfl
set_option maxHeartbeats 1000000 in
set_option maxRecDepth 100000 in
/-- The closure that Has hands on: is the edge's byte the word's? Its captured variables lie in blocks B1, B2. -/
theorem hasPred (word : ByteArray) (i : Nat) (hi : i < word.size) (B1 B2 : Nat) (w : World) (h1 : B1 < w.heap.size) (h2 : B2 < w.heap.size) (c1 : w.cell? ⟨B1, 0, none⟩ = some (.string word)) (c2 : w.cell? ⟨B2, 0, none⟩ = some (.int .i64 (i : Int))) (W : World) (x : S84) (hb : Below w.heap.size w W) :
    Calls Try.prog 98 (#[.agg #[.int .u8 x.f0, .int .i64 x.f1]] ++ #[.pointer (some ⟨B1, 0, none⟩), .pointer (some ⟨B2, 0, none⟩)]) W fun e w' => e = .returned (.bool (x.f0 == ((word[i]'hi).toNat : Int))) ∧ Below w.heap.size w w' := by
  have d1 : W.cell? ⟨B1, 0, none⟩ = some (.string word) := (hb.cell (p := ⟨B1, 0, none⟩) h1).trans c1
  have d2 : W.cell? ⟨B2, 0, none⟩ = some (.int .i64 (i : Int)) := (hb.cell (p := ⟨B2, 0, none⟩) h2).trans c2
  have hB1 : B1 < W.heap.size := Nat.lt_of_lt_of_le h1 hb.size
  have hB2 : B2 < W.heap.size := Nat.lt_of_lt_of_le h2 hb.size
  have q0 : (0 : Int) ≤ (i : Int) := by omega
  have q1 : (i : Int) < (word.size : Int) := by omega
  have HB := Aside0.mk hb
  have D1 := Aside0.mk d1; have D2 := Aside0.mk d2
  have HB1 := Aside0.mk hB1; have HB2 := Aside0.mk hB2
  have huE := Try.underlying84
  clear hb d1 d2 c1 c2 h1 h2 hB1 hB2
  show Calls Try.prog 98 #[.agg #[.int .u8 x.f0, .int .i64 x.f1], .pointer (some ⟨B1, 0, none⟩), .pointer (some ⟨B2, 0, none⟩)] W _
  go_enter Try.func98, Try.ntmps98
  go_wp2_with (first | ((with_reducible refine gate_dst (N := 3) rfl ?_); refine box_event ?hg (N := 3) ?hd (cs := #[.int .u8 x.f0, .int .i64 x.f1]) (t := 84) ?hr ?_; (case hd => rfl); (case hg => rfl); (case hr => first | (go_simp; done) | (go_simp; rfl)); intro gp hgq_ w1 hp hb1; have gp_eq := Aside0.mk hgq_; clear hgq_; have c0 : w1.cell? ⟨gp, 0, none⟩ = some (.int .u8 x.f0) := (blk_cell hp 0).trans rfl; have e1 : ∀ q, (w1.drewN q).cell? ⟨B1, 0, none⟩ = some (.string word) := fun q => (hb1.cell (p := ⟨B1, 0, none⟩) HB1.out).trans D1.out; have e2 : ∀ q, (w1.drewN q).cell? ⟨B2, 0, none⟩ = some (.int .i64 (i : Int)) := fun q => (hb1.cell (p := ⟨B2, 0, none⟩) HB2.out).trans D2.out; have HBB := Aside0.mk (HB.out.trans (hb1.mono HB.out.size)); clear hb1))
  go_quiet (fail)
  go_wp2
  go_ret
  exact ⟨rfl, pw_below_drewN HBB.out nq⟩
/-- Whether an automaton takes what is left of a word, from a state on. -/
def hasFrom (l : List S82) : Int → List Nat → Bool
  | at_, [] => decide (0 ≤ at_) && decide (at_ < (l.length : Int)) && (rd_T82 l at_).f0
  | at_, b :: rest => if at_ < 0 ∨ at_ ≥ (l.length : Int) then false else match (rd_T82 l at_).f1.findIdx? (fun e => e.f0 == (b : Int)) with
    | some k => hasFrom l ((rd_T84 (rd_T82 l at_).f1 (k : Int)).f1) rest
    | none => false
def daw_Has.f (l : List S82) (word : ByteArray) : Option Bool := if l.length ≤ 140737488355328 ∧ word.size ≤ 140737488355328 then some (hasFrom l ((l.length : Int) - 1) (Utf.nats word)) else none
theorem byteE (s : ByteArray) (i : Nat) (h : i < s.size) : (Utf.nats s).drop i = (s[i]'h).toNat :: (Utf.nats s).drop (i + 1) := by
  have hl : i < (Utf.nats s).length := by simpa [Utf.nats] using h
  rw [List.drop_eq_getElem_cons hl]
  have e : (s[i]'h).toNat = (Utf.nats s).getD i 0 := by
    unfold Utf.nats
    rw [List.getD_eq_getElem?_getD, List.getElem?_map, Array.getElem?_toList, Array.getElem?_eq_getElem h]
    rfl
  rw [e, List.getD_eq_getElem?_getD, List.getElem?_eq_getElem hl]
  rfl
set_option maxHeartbeats 4000000 in
set_option maxRecDepth 100000 in
theorem daw_Has.calls (A0 : Option Addr) (c0 : Nat) (l0 : List S82) (a1 : ByteArray) (r : Bool) (w : World) (hr0 : Kd.C k82 w A0 l0.length l0) (hc0 : l0.length ≤ c0) (h : daw_Has.f l0 a1 = some r) :
    Calls Try.prog 81 #[.slice A0 l0.length c0, .string a1] w fun e w' => e = .returned (.bool r) ∧ Below w.heap.size w w' := by
  have hl2 : (l0.length : Int) ≤ 140737488355328 ∧ (a1.size : Int) ≤ 140737488355328 := by
    unfold daw_Has.f at h; split at h
    · omega
    · cases h
  obtain ⟨hl, hal⟩ := hl2
  have hr : hasFrom l0 ((l0.length : Int) - 1) (Utf.nats a1) = r := by
    unfold daw_Has.f at h; rw [if_pos (by omega)] at h; exact Option.some.inj h
  clear h
  have HR := Aside0.mk hr; have HC := Aside0.mk hr0; have HC0 := Aside0.mk hc0
  clear hr hr0 hc0
  have huS := Try.underlying82
  have huE := Try.underlying84
  go_enter Try.func81, Try.ntmps81
  go_wp2_with (first | ((with_reducible refine gate_dst (N := 3) rfl ?_); refine box_event ?hg (N := 3) ?hd (cs := #[.string a1]) (t := 9) ?hr ?_; (case hd => rfl); (case hg => rfl); (case hr => first | (go_simp; done) | (go_simp; rfl)); intro gp hgp w1 hp hb1; have hgp_eq := Aside0.mk hgp; clear hgp; have s0 : w1.cell? ⟨gp, 0, none⟩ = some (.string a1) := (blk_cell hp 0).trans rfl; have HP := Aside0.mk hp; have HB1 := Aside0.mk hb1; clear hp hb1))
  have hs : Utf.nats a1 = (Utf.nats a1).drop 0 := rfl
  go_loopg [13, 5] a1.size (fun gg v13 v5 wr => ∃ (i : Nat) (at_ : Int), v13 = .int .i64 i ∧ v5 = .int .i64 at_ ∧ Aside0 (i ≤ a1.size ∧ a1.size ≤ gg + i) ∧ Aside0 (hasFrom l0 at_ ((Utf.nats a1).drop i) = r) ∧ Aside0 (Below w1.heap.size w1 wr))
  case atStart => exact ⟨0, _, rfl, rfl, ⟨by omega⟩, HR, ⟨Below.refl _ _⟩⟩
  case round =>
    clear hs HR
    obtain ⟨i, at_, rfl, rfl, hi, hf, hb⟩ := hrel
    have hgl : gp < w1.heap.size := blk_lt HP.out
    by_cases hc : i < a1.size
    · have hcb : decide ((i : Int) < (a1.size : Int)) = true := decide_eq_true (by omega)
      have hd := byteE a1 i hc
      have hf2 := hf.out
      rw [hd, hasFrom] at hf2
      by_cases ha : at_ < 0 ∨ at_ ≥ (l0.length : Int)
      · rw [if_pos ha] at hf2
        subst hf2
        have HBB := Aside0.mk (HB1.out.trans (hb.out.mono HB1.out.size))
        clear hd hf HP HC
        by_cases a0 : at_ < 0
        · have d1 : decide (at_ < 0) = true := decide_eq_true a0
          go_wp2
          go_ret
          exact ⟨rfl, below_alloc HBB.out _⟩
        · have d1 : decide (at_ < 0) = false := decide_eq_false a0
          have d2 : decide (at_ ≥ (l0.length : Int)) = true := decide_eq_true (by omega)
          go_wp2
          go_ret
          exact ⟨rfl, below_alloc HBB.out _⟩
      · rw [if_neg ha] at hf2
        have d1 : decide (at_ < 0) = false := decide_eq_false (by omega)
        have d2 : decide (at_ ≥ (l0.length : Int)) = false := decide_eq_false (by omega)
        have q0 : 0 ≤ at_ := by omega
        have q1 : at_ < (l0.length : Int) := by omega
        have HF2 := Aside0.mk hf2; have HD := Aside0.mk hd; have HA := Aside0.mk ha
        clear hf2 hd ha hf
        have hba : Below wr.heap.size wr (wr.alloc (.cells #[.int .i64 (i : Int)] 3 (0, 0))) := below_alloc (Below.refl _ _) _
        have hb1 := hb.out.trans (hba.mono hb.out.size)
        obtain ⟨ad, A1, c1, e0, x0, x1, hl1, hC1⟩ := at_T82 (Kd.C_below HC.out (HB1.out.trans (hb1.mono HB1.out.size))) at_ q0 q1
        cases e0
        have y1 : (wr.alloc (.cells #[.int .i64 (i : Int)] 3 (0, 0))).cell? ⟨gp, 0, none⟩ = some (.string a1) := (hb1.cell (p := ⟨gp, 0, none⟩) hgl).trans s0
        have y2 : (wr.alloc (.cells #[.int .i64 (i : Int)] 3 (0, 0))).cell? ⟨wr.heap.size, 0, none⟩ = some (.int .i64 (i : Int)) := (blk_cell (heap_alloc_new wr (.cells #[.int .i64 (i : Int)] 3 (0, 0))) 0).trans rfl
        have hix := indexFunc_k _ egHas #[.pointer (some ⟨gp, 0, none⟩), .pointer (some ⟨wr.heap.size, 0, none⟩)] (fun x => x.f0 == ((a1[i]'hc).toNat : Int)) A1 c1 _ _ hC1 hl1 (fun W x hW => hasPred a1 i hc gp wr.heap.size _ (Nat.lt_of_lt_of_le hgl hb1.size) (blk_lt (heap_alloc_new wr (.cells #[.int .i64 (i : Int)] 3 (0, 0)))) y1 y2 W x hW)
        replace hix := hix.mono (fun e w' h => (⟨h.1, hb1.trans (h.2.mono hb1.size)⟩ : _ ∧ Below w1.heap.size w1 w'))
        have HC1 := Aside0.mk hC1; have HB2 := Aside0.mk hb1; have HL1 := Aside0.mk hl1
        clear hC1 y1 y2 hba hb1
        cases hfi : (rd_T82 l0 at_).f1.findIdx? (fun x => x.f0 == ((a1[i]'hc).toNat : Int)) with
        | none =>
          have hr := HF2.out
          rw [hfi] at hr
          have hie : idxE (fun x => x.f0 == ((a1[i]'hc).toNat : Int)) (rd_T82 l0 at_).f1 = -1 := by unfold idxE; rw [hfi]
          rw [hie] at hix
          have HIX := Aside0.mk hix; have HR2 := Aside0.mk hr
          clear hix hfi hie HF2 hr
          go_wp2_with (first | (go_at_call 97; (with_reducible refine (HIX.out).mono ?_)))
          (first | rintro e w2 rfl hb2 | rintro e w2 ⟨rfl, hb2⟩)
          have HB3 := Aside0.mk (HB1.out.trans (hb2.mono HB1.out.size))
          clear hb2
          go_wp2
          go_ret
          have hr := HR2.out
          subst hr
          exact ⟨rfl, HB3.out⟩
        | some k =>
          have hr := HF2.out
          rw [hfi] at hr
          have hie : idxE (fun x => x.f0 == ((a1[i]'hc).toNat : Int)) (rd_T82 l0 at_).f1 = (k : Int) := by unfold idxE; rw [hfi]
          rw [hie] at hix
          have hk := (List.findIdx?_eq_some_iff_findIdx_eq.1 hfi).1
          have HIX := Aside0.mk hix; have HR2 := Aside0.mk hr
          clear hix hfi hie HF2 hr
          go_wp2_with (first | (go_at_call 97; (with_reducible refine (HIX.out).mono ?_)))
          (first | rintro e w2 rfl hb2 | rintro e w2 ⟨rfl, hb2⟩)
          have HB3 := Aside0.mk hb2
          clear hb2 x0 x1 hl1
          obtain ⟨ad', A2, c2, e0, x0, x1, hl2, hC2⟩ := at_T82 (Kd.C_below HC.out (HB1.out.trans (HB3.out.mono HB1.out.size))) at_ q0 q1
          cases e0
          have z0 : (0 : Int) ≤ (k : Int) := by omega
          have z1 : (k : Int) < ((rd_T82 l0 at_).f1.length : Int) := by omega
          obtain ⟨ad2, e0, u0, u1⟩ := at_T84 hC2 (k : Int) z0 z1
          cases e0
          rw [Int.toNat_natCast] at u0 u1
          have d3 : decide ((k : Int) < 0) = false := decide_eq_false (by omega)
          clear hC2 hk
          go_wp2
          go_roundg (a1.size - (i + 1))
          case measure => have := hi.out; omega
          case rel =>
            exact ⟨i + 1, _, congrArg (Value.int .i64) (by omega), rfl, ⟨by have := hi.out; omega⟩, HR2, HB3⟩
    · have hcb : decide ((i : Int) < (a1.size : Int)) = false := decide_eq_false (by omega)
      have hf2 := hf.out
      have hln : (Utf.nats a1).length = a1.size := by simp [Utf.nats]
      rw [List.drop_eq_nil_of_le (by omega), hasFrom] at hf2
      have HBB := Aside0.mk (HB1.out.trans (hb.out.mono HB1.out.size))
      have HF2 := Aside0.mk hf2
      clear hf hf2 hln
      by_cases a0 : at_ ≥ 0
      · have d1 : decide (at_ ≥ 0) = true := decide_eq_true a0
        by_cases a1' : at_ < (l0.length : Int)
        · have d2 : decide (at_ < (l0.length : Int)) = true := decide_eq_true a1'
          obtain ⟨ad, A1, c1, e0, x0, _, _, _⟩ := at_T82 (Kd.C_below HC.out HBB.out) at_ (by omega) a1'
          cases e0
          have q0 : 0 ≤ at_ := a0
          go_wp2
          go_ret
          have hf2 := HF2.out
          rw [decide_eq_true q0, decide_eq_true a1', Bool.true_and, Bool.true_and] at hf2
          exact ⟨by rw [← hf2]; rfl, HBB.out⟩
        · have d2 : decide (at_ < (l0.length : Int)) = false := decide_eq_false a1'
          go_wp2
          go_ret
          have hf2 := HF2.out
          rw [decide_eq_false (show ¬ at_ < (l0.length : Int) by omega), Bool.and_false, Bool.false_and] at hf2
          exact ⟨by rw [← hf2]; rfl, HBB.out⟩
      · have d1 : decide (at_ ≥ 0) = false := decide_eq_false a0
        go_wp2
        go_ret
        have hf2 := HF2.out
        rw [decide_eq_false (show ¬ 0 ≤ at_ by omega), Bool.false_and, Bool.false_and] at hf2
        exact ⟨by rw [← hf2]; rfl, HBB.out⟩
end Go.Proofs.Ytgebhidpkcjpmaa.K

namespace Go.Proofs.Ytgebhidpkcjpmaa.K
open Go.RowKit Go.Proofs.YtgebhidpkcjpmaaW.PrintWords Go.Proofs.YtgebhidpkcjpmaaW.PrintLast Go.Proofs.YtgebhidpkcjpmaaW.PrintMore Go.Proofs.Ytgebhidpkcjpmaa
attribute [local go_sem] max2_int min2_int max_two min_two max_three min_three max_four min_four
set_option linter.unusedVariables false
set_option linter.unusedSimpArgs false
open Go.Proofs.Ytgebhidpkcjpmaa.PDk
def tosR (l : List S82) (n : Nat) : List Nat := (rd_T82 l (n : Int)).f1.map fun e => e.f1.toNat
def rkE (f : Nat → Nat → Bool × Nat) : List Nat → Nat → Bool × Nat
  | [], m => (true, m)
  | t :: ts, m => if m ≤ t then (if (f t m).1 = true then rkE f ts (f t m).2 else (false, (f t m).2)) else rkE f ts m
/-- Whether the states from n on are left as they are numbered, m being the next number; and the next number then. -/
def rk (l : List S82) : Nat → Nat → Nat → Bool × Nat
  | 0, _, m => (false, m)
  | k + 1, n, m => if (rkE (rk l k) (tosR l n) m).1 = true then (decide (n = (rkE (rk l k) (tosR l n) m).2), (rkE (rk l k) (tosR l n) m).2 + 1) else (false, (rkE (rk l k) (tosR l n) m).2)
/-- Edges lead to lower states. -/
def LowS (l : List S82) : Prop := ∀ n, n < l.length → ∀ e ∈ (rd_T82 l (n : Int)).f1, 0 ≤ e.f1 ∧ e.f1 < (n : Int)
theorem tos_low {l : List S82} (h : LowS l) {n : Nat} (hn : n < l.length) : ∀ t ∈ tosR l n, t < n := by
  intro t ht
  unfold tosR at ht
  obtain ⟨e, he, rfl⟩ := List.mem_map.1 ht
  have := h n hn e he
  omega
theorem rkE_congr {f g : Nat → Nat → Bool × Nat} : ∀ (ts : List Nat) (m : Nat), (∀ t ∈ ts, ∀ m, f t m = g t m) → rkE f ts m = rkE g ts m
  | [], m, _ => rfl
  | t :: ts, m, h => by
    unfold rkE
    rw [h t (by simp) m]
    by_cases hm : m ≤ t
    · rw [if_pos hm, if_pos hm, rkE_congr ts _ (fun u hu => h u (by simp [hu]))]
    · rw [if_neg hm, if_neg hm, rkE_congr ts _ (fun u hu => h u (by simp [hu]))]
theorem rk_fuel {l : List S82} (hl : LowS l) : ∀ (n k k' m : Nat), n < l.length → n < k → n < k' → rk l k n m = rk l k' n m := by
  intro n
  induction n using Nat.strongRecOn with
  | _ n ih =>
    intro k k' m hn hk hk'
    obtain ⟨k, rfl⟩ : ∃ q, k = q + 1 := ⟨k - 1, by omega⟩
    obtain ⟨k', rfl⟩ : ∃ q, k' = q + 1 := ⟨k' - 1, by omega⟩
    have e : rkE (rk l k) (tosR l n) m = rkE (rk l k') (tosR l n) m := rkE_congr _ _ (fun t ht m => ih t (tos_low hl hn t ht) k k' m (by have := tos_low hl hn t ht; omega) (by have := tos_low hl hn t ht; omega) (by have := tos_low hl hn t ht; omega))
    rw [rk, rk, e]
theorem rkE_le {f : Nat → Nat → Bool × Nat} (n : Nat) : ∀ (ts : List Nat) (m : Nat), m ≤ n → (∀ t ∈ ts, t < n) → (∀ t ∈ ts, ∀ m, m ≤ t → (f t m).2 ≤ t + 1) → (rkE f ts m).2 ≤ n
  | [], m, h, _, _ => h
  | t :: ts, m, h, ht, hf => by
    unfold rkE
    have h1 := ht t (by simp)
    by_cases hm : m ≤ t
    · rw [if_pos hm]
      have h2 := hf t (by simp) m hm
      split
      · exact rkE_le n ts _ (by omega) (fun u hu => ht u (by simp [hu])) (fun u hu => hf u (by simp [hu]))
      · show (f t m).2 ≤ n; omega
    · rw [if_neg hm]
      exact rkE_le n ts _ h (fun u hu => ht u (by simp [hu])) (fun u hu => hf u (by simp [hu]))
theorem rk_le {l : List S82} (hl : LowS l) : ∀ (k n m : Nat), n < l.length → m ≤ n → (rk l k n m).2 ≤ n + 1
  | 0, n, m, _, h => by show m ≤ _; omega
  | k + 1, n, m, hn, h => by
    have := rkE_le (f := rk l k) n (tosR l n) m h (tos_low hl hn) (fun t ht m hm => rk_le hl k t m (by have := tos_low hl hn t ht; omega) hm)
    rw [rk]
    split
    · show _ + 1 ≤ _; omega
    · show (rkE (rk l k) (tosR l n) m).2 ≤ _; omega
/-- The closure's world: the automaton's variable at block ba, the next number at bn, the closure's own at bl. -/
structure RkW (w0 : World) (ba bn bl : Nat) (A : Option Addr) (c : Nat) (l : List S82) (m : Nat) (w : World) : Prop where
  below : Below w0.heap.size w0 w
  ca : w.cell? ⟨ba, 0, none⟩ = some (.slice A l.length c)
  cl : w.cell? ⟨bl, 0, none⟩ = some (.func (.func 115) #[] #[.pointer (some ⟨ba, 0, none⟩), .pointer (some ⟨bn, 0, none⟩), .pointer (some ⟨bl, 0, none⟩)])
  hn : w.heap[bn]? = some (.cells #[.int .i64 (m : Int)] 3 (0, 0))
theorem RkW.step {w0 : World} {ba bn bl : Nat} {A : Option Addr} {c : Nat} {l : List S82} {m : Nat} {w w1 : World} (h : RkW w0 ba bn bl A c l m w) (hb : Below w.heap.size w w1) : RkW w0 ba bn bl A c l m w1 :=
  ⟨h.below.trans (hb.mono h.below.size), (hb.cell (p := ⟨ba, 0, none⟩) (World.block_lt_of_cell? _ _ h.ca)).trans h.ca, (hb.cell (p := ⟨bl, 0, none⟩) (World.block_lt_of_cell? _ _ h.cl)).trans h.cl, blk_below h.hn hb⟩
theorem RkW.set {w0 : World} {ba bn bl : Nat} {A : Option Addr} {c : Nat} {l : List S82} {m : Nat} {w : World} (h : RkW w0 ba bn bl A c l m w) (h1 : ba ≠ bn) (h2 : bl ≠ bn) (h3 : w0.heap.size ≤ bn) (m' : Nat) : RkW w0 ba bn bl A c l m' (w.setCell ⟨bn, 0, none⟩ (.int .i64 (m' : Int))) :=
  ⟨h.below.setCell (p := ⟨bn, 0, none⟩) h3 _, (cell_far (p := ⟨bn, 0, none⟩) (a := ⟨ba, 0, none⟩) h1 _).trans h.ca, (cell_far (p := ⟨bn, 0, none⟩) (a := ⟨bl, 0, none⟩) h2 _).trans h.cl, blk_put h.hn 0 (.int .i64 (m' : Int)) rfl⟩
set_option maxHeartbeats 4000000 in
set_option maxRecDepth 100000 in
/-- The closure, called for state n: the states from it on are left. -/
theorem ranked_k (w0 : World) (ba bn bl : Nat) (A : Option Addr) (c : Nat) (l : List S82) (hC : Kd.C k82 w0 A l.length l) (hc : l.length ≤ c) (hl : LowS l) (hs : l.length ≤ 4611686018427387904) (h1 : ba ≠ bn) (h2 : bl ≠ bn) (h3 : w0.heap.size ≤ bn) :
    ∀ (n m : Nat) (w : World), n < l.length → m ≤ n → RkW w0 ba bn bl A c l m w →
      Calls Try.prog 115 #[.int .i64 (n : Int), .pointer (some ⟨ba, 0, none⟩), .pointer (some ⟨bn, 0, none⟩), .pointer (some ⟨bl, 0, none⟩)] w fun e w' => e = .returned (.bool (rk l (n + 1) n m).1) ∧ RkW w0 ba bn bl A c l (rk l (n + 1) n m).2 w' := by
  intro n
  induction n using Nat.strongRecOn with
  | _ n ih =>
    intro m w hn hm hw
    obtain ⟨X, hX⟩ : ∃ X, rk l (n + 1) n m = X := ⟨_, rfl⟩
    rw [hX]
    have HX := Aside0.mk hX; have HC := Aside0.mk hC; have HCC := Aside0.mk hc; have HL := Aside0.mk hl; have HS := Aside0.mk hs; have H1 := Aside0.mk h1; have H2 := Aside0.mk h2; have H3 := Aside0.mk h3; have IH := Aside0.mk ih; have HM := Aside0.mk hm
    clear hX hC hc hl hs h1 h2 h3 ih hm
    have ca := hw.ca
    have q0 : (0 : Int) ≤ (n : Int) := by omega
    have q1 : (n : Int) < (l.length : Int) := by omega
    obtain ⟨ad, A1, c1, e0, _, x1', hl1, hC1⟩ := at_T82 HC.out (n : Int) q0 q1
    cases e0
    rw [Int.toNat_natCast] at x1'
    have x1 := (hw.below.cell (World.block_lt_of_cell? _ _ x1')).trans x1'
    have htl := tos_low HL.out hn
    have htn : (tosR l n).length = (rd_T82 l (n : Int)).f1.length := by unfold tosR; rw [List.length_map]
    have hte : ∀ e ∈ (rd_T82 l (n : Int)).f1, 0 ≤ e.f1 ∧ e.f1 < (n : Int) := HL.out n hn
    have htg : ∀ j (h : j < (rd_T82 l (n : Int)).f1.length), (tosR l n).drop j = ((rd_T82 l (n : Int)).f1[j]).f1.toNat :: (tosR l n).drop (j + 1) := fun j h => by
      rw [List.drop_eq_getElem_cons (by rw [htn]; exact h)]
      unfold tosR
      rw [List.getElem_map]
    generalize htos : tosR l n = ts at htl htn htg
    generalize (rd_T82 l (n : Int)).f1 = E at x1 x1' hl1 hC1 htn hte htg
    have HTS := Aside0.mk htos; have HTL := Aside0.mk htl; have HTN := Aside0.mk htn; have HTE := Aside0.mk hte; have HTG := Aside0.mk htg
    have HW := Aside0.mk hw; have HC1 := Aside0.mk hC1; have HL1 := Aside0.mk hl1
    have hEl : (E.length : Int) ≤ 9223372036854775807 := by have := hC1.2.1; omega
    clear hw hC1 hl1 x1' htos htl htn hte htg
    have huS := Try.underlying82
    have huE := Try.underlying84
    go_enter Try.func115, Try.ntmps115
    go_wp2
    go_loopg [14] E.length (fun gg v14 wr => ∃ (j x : Nat), v14 = .int .i64 j ∧ Aside0 (j ≤ E.length ∧ E.length ≤ gg + j) ∧ Aside0 (rkE (rk l n) ts m = rkE (rk l n) (ts.drop j) x) ∧ Aside0 (x ≤ n) ∧ Aside0 (RkW w0 ba bn bl (some ad) c l x wr))
    case atStart => exact ⟨0, m, rfl, ⟨by omega⟩, ⟨rfl⟩, HM, HW⟩
    case round =>
      clear HW ca x1
      obtain ⟨j, x, rfl, hj, hrk, hx, hw⟩ := hrel
      by_cases hlt : j < E.length
      · have hcb : decide ((j : Int) < (E.length : Int)) = true := decide_eq_true (by omega)
        have z0 : (0 : Int) ≤ (j : Int) := by omega
        have z1 : (j : Int) < (E.length : Int) := by omega
        obtain ⟨ad2, e0, u0, u1⟩ := at_T84 (Kd.C_below HC1.out hw.out.below) (j : Int) z0 z1
        cases e0
        rw [Int.toNat_natCast] at u0 u1
        have hrd : rd_T84 E (j : Int) = E[j] := by
          unfold rd_T84
          rw [Int.toNat_natCast, List.getD_eq_getElem?_getD, List.getElem?_eq_getElem hlt]; rfl
        rw [hrd] at u0 u1
        obtain ⟨t1, t2⟩ := HTE.out _ (List.getElem_mem hlt)
        have htd := HTG.out j hlt
        generalize E[j] = ed at u0 u1 t1 t2 htd
        obtain ⟨b0, t0⟩ := ed
        obtain ⟨t, ht⟩ : ∃ t : Nat, t0 = (t : Int) := ⟨t0.toNat, by simp only at t1; omega⟩
        subst ht
        simp only at u0 u1 t1 t2 htd
        rw [Int.toNat_natCast] at htd
        have htl : t < n := by omega
        have hwa := hw.out.step (below_alloc (Below.refl _ _) (.cells #[.int .u8 b0, .int .i64 (t : Int)] 84 (0, 0)))
        have g1 : (wr.alloc (.cells #[.int .u8 b0, .int .i64 (t : Int)] 84 (0, 0))).cell? ⟨bn, 0, none⟩ = some (.int .i64 (x : Int)) := (blk_cell hwa.hn 0).trans rfl
        have g2 := hwa.cl
        have HWA := Aside0.mk hwa; have HTD := Aside0.mk htd; have HTL2 := Aside0.mk htl
        clear hwa htd hrd t1 t2 htl
        by_cases hge : (t : Int) ≥ (x : Int)
        · have d1 : decide ((t : Int) ≥ (x : Int)) = true := decide_eq_true hge
          have hcall := IH.out t HTL2.out x _ (by have := HTL2.out; omega) (by omega) HWA.out
          rw [rk_fuel HL.out t (t + 1) n x (by have := HTL2.out; omega) (by omega) HTL2.out] at hcall
          have HCL := Aside0.mk hcall
          have hxt : (rk l n t x).2 ≤ t + 1 := rk_le HL.out n t x (by have := HTL2.out; omega) (by omega)
          have HXT := Aside0.mk hxt
          have hstep : rkE (rk l n) (ts.drop j) x = if (rk l n t x).1 = true then rkE (rk l n) (ts.drop (j + 1)) (rk l n t x).2 else (false, (rk l n t x).2) := by
            rw [HTD.out, rkE, if_pos (by omega)]
          have HST := Aside0.mk hstep
          clear hcall hxt hstep
          generalize rk l n t x = Y at HCL HXT HST
          obtain ⟨yb, yx⟩ := Y
          simp only at HCL HXT HST
          cases yb with
          | true =>
            go_wp2_with (first | (go_at_call 115; (with_reducible refine (HCL.out).mono ?_)))
            (first | rintro e w2 rfl hw2 | rintro e w2 ⟨rfl, hw2⟩)
            have HW2 := Aside0.mk hw2
            clear hw2
            go_wp2
            go_roundg (E.length - (j + 1))
            case measure => have := hj.out; omega
            case rel =>
              refine ⟨j + 1, yx, congrArg (Value.int .i64) (by omega), ⟨by have := hj.out; omega⟩, ⟨?_⟩, ⟨by have h1 := HXT.out; have h2 := HTL2.out; omega⟩, HW2⟩
              rw [hrk.out, HST.out]; exact if_pos (by first | rfl | trivial)
          | false =>
            go_wp2_with (first | (go_at_call 115; (with_reducible refine (HCL.out).mono ?_)))
            (first | rintro e w2 rfl hw2 | rintro e w2 ⟨rfl, hw2⟩)
            have HW2 := Aside0.mk hw2
            clear hw2
            go_wp2
            go_ret
            have hXe : X = (false, yx) := by
              rw [← HX.out, rk, HTS.out, hrk.out, HST.out]
              simp
            rw [hXe]
            exact ⟨rfl, HW2.out⟩
        · have d1 : decide ((t : Int) ≥ (x : Int)) = false := decide_eq_false hge
          have hstep : rkE (rk l n) (ts.drop j) x = rkE (rk l n) (ts.drop (j + 1)) x := by
            rw [HTD.out, rkE, if_neg (by omega)]
          have HST := Aside0.mk hstep
          clear hstep
          go_wp2
          go_roundg (E.length - (j + 1))
          case measure => have := hj.out; omega
          case rel =>
            exact ⟨j + 1, x, congrArg (Value.int .i64) (by omega), ⟨by have := hj.out; omega⟩, ⟨by rw [hrk.out, HST.out]⟩, hx, HWA⟩
      · have hcb : decide ((j : Int) < (E.length : Int)) = false := decide_eq_false (by omega)
        have hdr : ts.drop j = [] := List.drop_eq_nil_of_le (by have := HTN.out; omega)
        have hXe : X = (decide (n = x), x + 1) := by
          rw [← HX.out, rk, HTS.out, hrk.out, hdr]
          rfl
        have HXE := Aside0.mk hXe
        have cn : wr.cell? ⟨bn, 0, none⟩ = some (.int .i64 (x : Int)) := (blk_cell hw.out.hn 0).trans rfl
        have fn := blk_frozen hw.out.hn 0
        have hsx : (x : Int) + 1 ≤ 4611686018427387905 := by have h1 := HS.out; have h2 := hx.out; omega
        clear hXe hdr
        go_wp2
        go_ret
        have hset := hw.out.set H1.out H2.out H3.out (x + 1)
        rw [show ((x + 1 : Nat) : Int) = (x : Int) + 1 from by omega] at hset
        rw [HXE.out]
        have hbe : ((n : Int) == (x : Int)) = decide (n = x) := by rw [Bool.eq_iff_iff, beq_iff_eq, decide_eq_true_eq]; omega
        exact ⟨by rw [← hbe]; rfl, hset⟩
/-- What daw.ranked answers of states whose edges lead to lower ones. -/
def lowB (l : List S82) : Bool := (List.range l.length).all fun n => (rd_T82 l (n : Int)).f1.all fun e => decide (0 ≤ e.f1) && decide (e.f1 < (n : Int))
theorem lowB_iff (l : List S82) : lowB l = true ↔ LowS l := by
  unfold lowB LowS
  simp only [List.all_eq_true, List.mem_range, Bool.and_eq_true, decide_eq_true_eq]
def daw_ranked.f (l : List S82) : Option Bool := if lowB l = true ∧ 0 < l.length ∧ l.length ≤ 4611686018427387904 then some (rk l l.length (l.length - 1) 0).1 else none
theorem made_rk (w : World) (A : Option Addr) (c : Nat) (l : List S82) :
    RkW w w.heap.size (w.heap.size + 1) (w.heap.size + 1 + 1) A c l 0 (((w.alloc (.cells #[.slice A l.length c] 25 (0, 0))).alloc (.cells #[.int .i64 0] 3 (0, 0))).alloc (.cells #[.func (.func 115) #[] #[.pointer (some ⟨w.heap.size, 0, none⟩), .pointer (some ⟨w.heap.size + 1, 0, none⟩), .pointer (some ⟨w.heap.size + 1 + 1, 0, none⟩)]] 174 (0, 0))) := by
  generalize hF : (.func (.func 115) #[] #[.pointer (some ⟨w.heap.size, 0, none⟩), .pointer (some ⟨w.heap.size + 1, 0, none⟩), .pointer (some ⟨w.heap.size + 1 + 1, 0, none⟩)] : Value) = F
  have s1 : (w.alloc (.cells #[.slice A l.length c] 25 (0, 0))).heap.size = w.heap.size + 1 := by simp
  have b1 : Below w.heap.size w (w.alloc (.cells #[.slice A l.length c] 25 (0, 0))) := below_alloc (Below.refl _ _) _
  have n1 := heap_alloc_new w (.cells #[.slice A l.length c] 25 (0, 0))
  generalize w.alloc (.cells #[.slice A l.length c] 25 (0, 0)) = w1 at s1 b1 n1 ⊢
  have s2 : (w1.alloc (.cells #[.int .i64 0] 3 (0, 0))).heap.size = w.heap.size + 1 + 1 := by simp [s1]
  have b2 : Below w1.heap.size w1 (w1.alloc (.cells #[.int .i64 0] 3 (0, 0))) := below_alloc (Below.refl _ _) _
  have n2 := heap_alloc_new w1 (.cells #[.int .i64 0] 3 (0, 0))
  generalize w1.alloc (.cells #[.int .i64 0] 3 (0, 0)) = w2 at s2 b2 n2 ⊢
  have b3 : Below w2.heap.size w2 (w2.alloc (.cells #[F] 174 (0, 0))) := below_alloc (Below.refl _ _) _
  have n3 := heap_alloc_new w2 (.cells #[F] 174 (0, 0))
  generalize w2.alloc (.cells #[F] 174 (0, 0)) = w3 at b3 n3 ⊢
  rw [s1] at n2
  rw [s2] at n3
  refine ⟨(b1.trans (b2.mono (by omega))).trans (b3.mono (by omega)), ?_, ?_, (b3.block _ (by omega)).trans n2⟩
  · exact (blk_cell ((b3.block _ (by omega)).trans ((b2.block _ (by omega)).trans n1)) 0).trans rfl
  · rw [hF]; exact (blk_cell n3 0).trans rfl
set_option maxHeartbeats 4000000 in
set_option maxRecDepth 100000 in
theorem daw_ranked.calls (A0 : Option Addr) (c0 : Nat) (l0 : List S82) (r : Bool) (w : World) (hr0 : Kd.C k82 w A0 l0.length l0) (hc0 : l0.length ≤ c0) (h : daw_ranked.f l0 = some r) :
    Calls Try.prog 103 #[.slice A0 l0.length c0] w fun e w' => e = .returned (.bool r) ∧ Below w.heap.size w w' := by
  have hh : lowB l0 = true ∧ 0 < l0.length ∧ l0.length ≤ 4611686018427387904 := by
    unfold daw_ranked.f at h; split at h
    · assumption
    · cases h
  have hr : (rk l0 l0.length (l0.length - 1) 0).1 = r := by
    unfold daw_ranked.f at h; rw [if_pos hh] at h; exact Option.some.inj h
  obtain ⟨hl, h0, hs⟩ := hh
  rw [lowB_iff] at hl
  clear h
  have HR := Aside0.mk hr; have HC := Aside0.mk hr0; have HC0 := Aside0.mk hc0; have HL := Aside0.mk hl; have HS := Aside0.mk hs; have H0 := Aside0.mk h0
  have hsz : (l0.length : Int) ≤ 4611686018427387904 := by omega
  clear hr hr0 hc0 hl hs h0
  have hm := made_rk w A0 c0 l0
  have hcall := ranked_k w w.heap.size (w.heap.size + 1) (w.heap.size + 1 + 1) A0 c0 l0 HC.out HC0.out HL.out HS.out (by omega) (by omega) (by omega) (l0.length - 1) 0 _ (by have := H0.out; omega) (Nat.zero_le _) hm
  rw [show ((l0.length - 1 : Nat) : Int) = (l0.length : Int) - 1 from by have := H0.out; omega, show l0.length - 1 + 1 = l0.length from by have := H0.out; omega, HR.out] at hcall
  have HCL := Aside0.mk (hcall.mono (fun e w' h => (⟨h.1, h.2.below⟩ : _ ∧ Below w.heap.size w w')))
  clear hm hcall
  go_enter Try.func103, Try.ntmps103
  go_wp2_with (first | (go_at_call 115; (with_reducible refine (HCL.out).mono ?_)))
  (first | rintro e w2 rfl hw2 | rintro e w2 ⟨rfl, hw2⟩)
  go_wp2
  go_ret
  exact ⟨rfl, hw2⟩
end Go.Proofs.Ytgebhidpkcjpmaa.K

namespace Go.Proofs.Ytgebhidpkcjpmaa.K
open Go.RowKit Go.Proofs.YtgebhidpkcjpmaaW.PrintWords Go.Proofs.YtgebhidpkcjpmaaW.PrintLast Go.Proofs.YtgebhidpkcjpmaaW.PrintMore Go.Proofs.Ytgebhidpkcjpmaa
attribute [local go_sem] max2_int min2_int max_two min_two max_three min_three max_four min_four
set_option linter.unusedVariables false
set_option linter.unusedSimpArgs false
open Go.Proofs.Ytgebhidpkcjpmaa.PDk Go.Proofs.Ytgebhidpkcjpmaa.PDm
theorem wz {x : Int} (h0 : -9223372036854775808 ≤ x) (h1 : x < 9223372036854775808) : Go.RowKit.wrap64 x = x := by unfold Go.RowKit.wrap64; omega
/-- The automaton's size, and bytes that are bytes. -/
def OkL (l : List S82) : Prop := l.length ≤ 4398046511104 ∧ ∀ s ∈ l, s.f1.length ≤ 8796093022208 ∧ ∀ e ∈ s.f1, 0 ≤ e.f0 ∧ e.f0 < 256
theorem rdl (l : List S82) (i : Nat) (h : i < l.length) : rd_T82 l (i : Int) = l[i] := by
  unfold rd_T82
  rw [Int.toNat_natCast, List.getD_eq_getElem?_getD, List.getElem?_eq_getElem h]; rfl
/-- Edge j of a state i: it leads lower, and stands above the one ahead of it. -/
def edgeB (i : Nat) (es : List S84) (j : Nat) : Bool := decide (0 ≤ (rd_T84 es (j : Int)).f1) && decide ((rd_T84 es (j : Int)).f1 < (i : Int)) && (decide (j = 0) || decide ((rd_T84 es ((j - 1 : Nat) : Int)).f0 < (rd_T84 es (j : Int)).f0))
def useB (l : List S82) (s : S82) : Bool := s.f0 || (!s.f1.isEmpty) || decide (l.length ≤ 1)
def stateB (l : List S82) (i : Nat) : Bool := (List.range' 0 (rd_T82 l (i : Int)).f1.length).all (edgeB i (rd_T82 l (i : Int)).f1) && useB l (rd_T82 l (i : Int))
def plainB (l : List S82) : Bool := (List.range' 0 l.length).all (stateB l) && decide (0 < l.length)
theorem all_step (p : Nat → Bool) (j d : Nat) : (List.range' j (d + 1)).all p = (p j && (List.range' (j + 1) d).all p) := by
  rw [List.range'_succ, List.all_cons]
theorem plain_l1 (l : List S82) (i : Nat) (f0 : Bool) (es : List S84) (r : Bool) (hl : l.length ≤ 4398046511104) (he : es.length ≤ 8796093022208) (hi : i < l.length)
    (hn : Ev (fun k => daw_plain.l0 k l l (l.length : Int) ((i + 1 : Nat) : Int)) r) : ∀ (d j : Nat), j + d = es.length →
    Ev (fun k => daw_plain.l1 k l (i : Int) l (l.length : Int) (i : Int) es (es.length : Int) (j : Int) f0 es) ((List.range' j d).all (edgeB i es) && (f0 || (!es.isEmpty) || decide (l.length ≤ 1)) && r)
  | 0, j, hd => by
    have hw : Go.RowKit.wrap64 ((i : Int) + 1) = ((i + 1 : Nat) : Int) := by rw [wz (by omega) (by omega)]; omega
    have h0 : (List.range' j 0).all (edgeB i es) = true := rfl
    rw [h0, Bool.true_and]
    cases f0 with
    | true =>
      rw [Bool.true_or, Bool.true_or, Bool.true_and]
      refine Ev.step (fun k => ?_) (hn)
      simp only [daw_plain.l1]
      rw [if_neg (by omega), if_pos trivial, hw]
    | false =>
      by_cases c1 : (es.length : Int) = 0
      · have e1 : es = [] := List.eq_nil_of_length_eq_zero (by omega)
        by_cases c2 : (l.length : Int) > 1
        · refine Ev.step (f := fun _ => some false) (fun k => ?_) ?_
          · simp only [daw_plain.l1]
            rw [if_neg (by omega), if_neg (by decide), if_pos c1, if_pos c2]
          · have : (false || !es.isEmpty || decide (l.length ≤ 1)) = false := by rw [e1, decide_eq_false (by omega)]; rfl
            rw [this]; exact Ev.now _
        · refine Ev.step (fun k => ?_) (?_ : Ev (fun k => daw_plain.l0 k l l (l.length : Int) ((i + 1 : Nat) : Int)) _)
          · simp only [daw_plain.l1]
            rw [if_neg (by omega), if_neg (by decide), if_pos c1, if_neg c2, hw]
          · have : (false || !es.isEmpty || decide (l.length ≤ 1)) = true := by rw [decide_eq_true (by omega)]; simp
            rw [this, Bool.true_and]; exact hn
      · refine Ev.step (fun k => ?_) (?_ : Ev (fun k => daw_plain.l0 k l l (l.length : Int) ((i + 1 : Nat) : Int)) _)
        · simp only [daw_plain.l1]
          rw [if_neg (by omega), if_neg (by decide), if_neg c1, hw]
        · have : (false || !es.isEmpty || decide (l.length ≤ 1)) = true := by
            have : es ≠ [] := fun e => c1 (by rw [e]; rfl)
            simp [this]
          rw [this, Bool.true_and]; exact hn
  | d + 1, j, hd => by
    have ih := plain_l1 l i f0 es r hl he hi hn d (j + 1) (by omega)
    rw [all_step]
    have hw : Go.RowKit.wrap64 ((j : Int) + 1) = ((j + 1 : Nat) : Int) := by rw [wz (by omega) (by omega)]; omega
    have hfalse : edgeB i es j = false → (∀ k, daw_plain.l1 (k + 1) l (i : Int) l (l.length : Int) (i : Int) es (es.length : Int) (j : Int) f0 es = some false) → Ev (fun k => daw_plain.l1 k l (i : Int) l (l.length : Int) (i : Int) es (es.length : Int) (j : Int) f0 es) ((edgeB i es j && (List.range' (j + 1) d).all (edgeB i es)) && (f0 || (!es.isEmpty) || decide (l.length ≤ 1)) && r) := fun h hk => by
      rw [h]
      exact Ev.step (f := fun _ => some false) hk (Ev.now _)
    have htrue : edgeB i es j = true → (∀ k, daw_plain.l1 (k + 1) l (i : Int) l (l.length : Int) (i : Int) es (es.length : Int) (j : Int) f0 es = daw_plain.l1 k l (i : Int) l (l.length : Int) (i : Int) es (es.length : Int) ((j + 1 : Nat) : Int) f0 es) → Ev (fun k => daw_plain.l1 k l (i : Int) l (l.length : Int) (i : Int) es (es.length : Int) (j : Int) f0 es) ((edgeB i es j && (List.range' (j + 1) d).all (edgeB i es)) && (f0 || (!es.isEmpty) || decide (l.length ≤ 1)) && r) := fun h hk => by
      rw [h, Bool.true_and]
      exact Ev.step hk ih
    by_cases a1 : (rd_T84 es (j : Int)).f1 < 0
    · refine hfalse (by unfold edgeB; rw [decide_eq_false (by omega)]; rfl) (fun k => ?_)
      simp only [daw_plain.l1]
      rw [if_pos (by omega), if_pos (by omega), if_pos (by omega), if_pos a1]
    · by_cases a2 : (rd_T84 es (j : Int)).f1 ≥ (i : Int)
      · refine hfalse (by unfold edgeB; rw [decide_eq_false (show ¬ (rd_T84 es (j : Int)).f1 < (i : Int) by omega), Bool.and_false]; rfl) (fun k => ?_)
        simp only [daw_plain.l1]
        rw [if_pos (by omega), if_pos (by omega), if_pos (by omega), if_neg a1, if_pos a2]
      · have b1 : (decide (0 ≤ (rd_T84 es (j : Int)).f1) && decide ((rd_T84 es (j : Int)).f1 < (i : Int))) = true := by rw [decide_eq_true (by omega), decide_eq_true (by omega)]; rfl
        by_cases a3 : (j : Int) > 0
        · have hw2 : Go.RowKit.wrap64 ((j : Int) - 1) = ((j - 1 : Nat) : Int) := by rw [wz (by omega) (by omega)]; omega
          by_cases a4 : (rd_T84 es (j : Int)).f0 ≤ (rd_T84 es ((j - 1 : Nat) : Int)).f0
          · refine hfalse (by unfold edgeB; rw [b1, decide_eq_false (show ¬ j = 0 by omega), decide_eq_false (by omega)]; rfl) (fun k => ?_)
            simp only [daw_plain.l1]
            rw [if_pos (by omega), if_pos (by omega), if_pos (by omega), if_neg a1, if_neg a2, if_pos a3, hw2, if_pos (by omega), if_pos (by omega), if_pos a4]
          · refine htrue (by unfold edgeB; rw [b1, decide_eq_true (show (rd_T84 es ((j - 1 : Nat) : Int)).f0 < _ by omega), Bool.or_true]; rfl) (fun k => ?_)
            simp only [daw_plain.l1]
            rw [if_pos (by omega), if_pos (by omega), if_pos (by omega), if_neg a1, if_neg a2, if_pos a3, hw2, if_pos (by omega), if_pos (by omega), if_neg a4, hw]
        · refine htrue (by unfold edgeB; rw [b1, decide_eq_true (show j = 0 by omega)]; rfl) (fun k => ?_)
          simp only [daw_plain.l1]
          rw [if_pos (by omega), if_pos (by omega), if_pos (by omega), if_neg a1, if_neg a2, if_neg a3, hw]
theorem plain_l0 (l : List S82) (hl : OkL l) : ∀ (d i : Nat), i + d = l.length → Ev (fun k => daw_plain.l0 k l l (l.length : Int) (i : Int)) ((List.range' i d).all (stateB l) && decide (0 < l.length))
  | 0, i, hd => by
    refine Ev.step (f := fun _ => some (decide ((l.length : Int) > 0))) (fun k => ?_) ?_
    · simp only [daw_plain.l0]; rw [if_neg (by omega)]
    · have : decide ((l.length : Int) > 0) = decide (0 < l.length) := decide_eq_decide.2 (by omega)
      rw [this]; exact Ev.now _
  | d + 1, i, hd => by
    have hi : i < l.length := by omega
    have ih := plain_l0 l hl d (i + 1) (by omega)
    have hs := (hl.2 _ (List.getElem_mem hi)).1
    have h1 := plain_l1 l i l[i].f0 l[i].f1 _ hl.1 hs hi ih l[i].f1.length 0 (by omega)
    rw [all_step]
    have e : (stateB l i && (List.range' (i + 1) d).all (stateB l) && decide (0 < l.length)) = ((List.range' 0 l[i].f1.length).all (edgeB i l[i].f1) && (l[i].f0 || (!l[i].f1.isEmpty) || decide (l.length ≤ 1)) && ((List.range' (i + 1) d).all (stateB l) && decide (0 < l.length))) := by
      unfold stateB useB
      rw [rdl l i hi, Bool.and_assoc]
    rw [e]
    refine Ev.step (fun k => ?_) h1
    simp only [daw_plain.l0]
    rw [if_pos (by omega), if_pos (by omega), if_pos (by omega), rdl l i hi]
    rfl
theorem plain_ev (l : List S82) (hl : OkL l) : Ev (fun k => daw_plain.f k l) (plainB l) := plain_l0 l hl l.length 0 (by omega)
/-- What plain says: of each edge. -/
theorem plain_low {l : List S82} (h : plainB l = true) : LowS l ∧ 0 < l.length := by
  unfold plainB at h
  rw [Bool.and_eq_true, decide_eq_true_eq] at h
  refine ⟨fun n hn e he => ?_, h.2⟩
  have h1 := (List.all_eq_true.1 h.1) n (by rw [List.mem_range'_1]; omega)
  unfold stateB at h1
  rw [Bool.and_eq_true] at h1
  obtain ⟨j, hj, rfl⟩ := List.getElem_of_mem he
  have h2 := (List.all_eq_true.1 h1.1) j (by rw [List.mem_range'_1]; omega)
  unfold edgeB at h2
  rw [Bool.and_eq_true, Bool.and_eq_true, decide_eq_true_eq, decide_eq_true_eq] at h2
  have hr : rd_T84 (rd_T82 l (n : Int)).f1 (j : Int) = (rd_T82 l (n : Int)).f1[j] := by
    unfold rd_T84
    rw [Int.toNat_natCast, List.getD_eq_getElem?_getD, List.getElem?_eq_getElem hj]; rfl
  rw [hr] at h2
  exact h2.1
end Go.Proofs.Ytgebhidpkcjpmaa.K

namespace Go.Proofs.Ytgebhidpkcjpmaa.K
open Go.RowKit Go.Proofs.YtgebhidpkcjpmaaW.PrintWords Go.Proofs.YtgebhidpkcjpmaaW.PrintLast Go.Proofs.YtgebhidpkcjpmaaW.PrintMore Go.Proofs.Ytgebhidpkcjpmaa
attribute [local go_sem] max2_int min2_int max_two min_two max_three min_three max_four min_four
set_option linter.unusedVariables false
set_option linter.unusedSimpArgs false
open Go.Proofs.Ytgebhidpkcjpmaa.PDk Go.Proofs.Ytgebhidpkcjpmaa.PDm Go.Proofs.Ytgebhidpkcjpmaa.Daw Go.Maps
def ofS (s : S82) : DS := (s.f0, s.f1.map fun e => (e.f0.toNat, e.f1.toNat))
def keysL (l : List S82) : List Lit := l.map fun s => kl (ofS s)
def mayB (l : List S82) : Bool := plainB l && decide (l.map ofS).Nodup && !(rd_T82 l (((l.length : Nat) : Int) - 1)).f0 && (rk l l.length (l.length - 1) 0).1
def okB (l : List S82) : Bool := decide (l.length ≤ 4398046511104) && l.all fun s => decide (s.f1.length ≤ 8796093022208) && s.f1.all fun e => decide (0 ≤ e.f0) && decide (e.f0 < 256)
theorem okB_iff (l : List S82) : okB l = true ↔ OkL l := by
  unfold okB OkL
  simp only [Bool.and_eq_true, decide_eq_true_eq, List.all_eq_true]
def daw_May.f (l : List S82) : Option Bool := if okB l = true then some (mayB l) else none
theorem toS_ofS {l : List S82} (hl : OkL l) (hw : LowS l) (i : Nat) (h : i < l.length) : toS (ofS l[i]) = l[i] ∧ OkS (ofS l[i]) ∧ (ofS l[i]).2.length = l[i].f1.length := by
  have h1 := (hl.2 _ (List.getElem_mem h)).2
  have h2 := hw i h
  rw [rdl l i h] at h2
  have h3 := hl.1
  refine ⟨?_, fun e he => ?_, by simp [ofS]⟩
  · unfold toS ofS
    have e : (l[i].f1.map fun e => (e.f0.toNat, e.f1.toNat)).map toE = l[i].f1 := by
      rw [List.map_map]
      refine (List.map_congr_left (fun e he => ?_)).trans (List.map_id _)
      have a := h1 e he
      have b := h2 e he
      cases e
      simp only [Function.comp, toE, id, S84.mk.injEq] at a b ⊢
      omega
    rw [e]
  · unfold ofS at he
    obtain ⟨f, hf, rfl⟩ := List.mem_map.1 he
    have a := h1 f hf
    have b := h2 f hf
    exact ⟨by simp only; omega, by simp only; omega⟩
open Classical in
theorem sameKey_str (a b : Lit) (s t : List UInt8) (ha : a = .string s) (hb : b = .string t) : a.sameKey b = decide (a = b) := by
  subst ha; subst hb
  by_cases h : (Lit.string s) = .string t
  · rw [decide_eq_true h, h]; exact WideAt.sameKey_self trivial
  · rw [decide_eq_false h]; exact sameKey_ne h
open Classical in
theorem addKeys_len : ∀ (xs L : List Lit), (∀ x ∈ xs, ∃ s, x = .string s) → (∀ x ∈ L, ∃ s, x = .string s) → ((xs.foldl addKey L).length ≤ L.length + xs.length ∧ ((xs.foldl addKey L).length = L.length + xs.length ↔ xs.Nodup ∧ ∀ x ∈ xs, x ∉ L))
  | [], L, _, _ => by simp
  | x :: r, L, hx, hL => by
    obtain ⟨s, hs⟩ := hx x (by simp)
    have hany : (L.any fun y => y.sameKey x) = decide (x ∈ L) := by
      rw [Bool.eq_iff_iff, List.any_eq_true, decide_eq_true_eq]
      constructor
      · rintro ⟨y, hy, h⟩
        obtain ⟨t, ht⟩ := hL y hy
        rw [sameKey_str y x t s ht hs, decide_eq_true_eq] at h
        rw [← h]; exact hy
      · intro h
        exact ⟨x, h, by rw [sameKey_str x x s s hs hs]; simp⟩
    rw [List.foldl_cons]
    by_cases hm : x ∈ L
    · have e : addKey L x = L := by unfold addKey; rw [hany, decide_eq_true hm]; rfl
      rw [e]
      have ih := addKeys_len r L (fun y hy => hx y (by simp [hy])) hL
      refine ⟨by simp only [List.length_cons]; omega, ?_⟩
      constructor
      · intro h; simp only [List.length_cons] at h; omega
      · intro h; exact absurd hm (h.2 x (by simp))
    · have e : addKey L x = L ++ [x] := by unfold addKey; rw [hany, decide_eq_false hm]; rfl
      rw [e]
      have ih := addKeys_len r (L ++ [x]) (fun y hy => hx y (by simp [hy])) (fun y hy => by
        rcases List.mem_append.1 hy with hy | hy
        · exact hL y hy
        · rw [List.mem_singleton.1 hy]; exact ⟨s, hs⟩)
      rw [List.length_append, List.length_singleton] at ih
      refine ⟨by simp only [List.length_cons]; omega, ?_⟩
      have e2 : ((r.foldl addKey (L ++ [x])).length = L.length + (x :: r).length) ↔ ((r.foldl addKey (L ++ [x])).length = L.length + 1 + r.length) := by simp only [List.length_cons]; omega
      rw [e2, ih.2, List.nodup_cons]
      constructor
      · rintro ⟨h1, h2⟩
        refine ⟨⟨fun h => (h2 x h) (by simp), h1⟩, fun y hy => ?_⟩
        rcases List.mem_cons.1 hy with rfl | hy
        · exact hm
        · exact fun h => h2 y hy (by simp [h])
      · rintro ⟨⟨h1, h2⟩, h3⟩
        refine ⟨h2, fun y hy h => ?_⟩
        rcases List.mem_append.1 h with h | h
        · exact h3 y (by simp [hy]) h
        · rw [List.mem_singleton.1 h] at hy; exact h1 hy
/-- How many keys there are. -/
theorem keys_size (l : List S82) (hl : OkL l) (hw : LowS l) : ((size (setOf (.lit (.bool true) : DataW Unit) (keysL l)) : Nat) = l.length) ↔ (l.map ofS).Nodup := by
  have hk : ∀ x ∈ keysL l, ∃ s, x = .string s := fun x hx => by
    unfold keysL at hx
    obtain ⟨s, _, rfl⟩ := List.mem_map.1 hx
    exact ⟨_, rfl⟩
  rw [size_setOf _ _ (fun x hx => by obtain ⟨s, rfl⟩ := hk x hx; trivial)]
  have h := (addKeys_len (keysL l) [] hk (by simp)).2
  have hlen : (keysL l).length = l.length := by unfold keysL; simp
  rw [List.length_nil, Nat.zero_add, hlen] at h
  rw [h]
  have hok : ∀ s ∈ l, OkS (ofS s) := fun s hs => by
    obtain ⟨i, hi, rfl⟩ := List.getElem_of_mem hs
    exact (toS_ofS hl hw i hi).2.1
  have e : keysL l = (l.map ofS).map kl := by unfold keysL; rw [List.map_map]; rfl
  rw [e]
  constructor
  · rintro ⟨h1, _⟩
    unfold List.Nodup at h1 ⊢
    rw [List.pairwise_map] at h1
    exact h1.imp (fun h e => h (congrArg kl e))
  · intro h1
    refine ⟨?_, by simp⟩
    unfold List.Nodup at h1 ⊢
    rw [List.pairwise_map]
    refine h1.imp_of_mem (fun {a b} ha hb hab hk => ?_)
    obtain ⟨s, hs, rfl⟩ := List.mem_map.1 ha
    obtain ⟨t, ht, rfl⟩ := List.mem_map.1 hb
    exact kl_ne (hok s hs) (hok t ht) hab hk
set_option maxHeartbeats 4000000 in
set_option maxRecDepth 100000 in
theorem daw_May.calls (A0 : Option Addr) (c0 : Nat) (l0 : List S82) (r : Bool) (w : World) (hr0 : Kd.C k82 w A0 l0.length l0) (hc0 : l0.length ≤ c0) (h : daw_May.f l0 = some r) :
    Calls Try.prog 91 #[.slice A0 l0.length c0] w fun e w' => e = .returned (.bool r) ∧ Below w.heap.size w w' := by
  have hok : okB l0 = true := by
    unfold daw_May.f at h; split at h
    · assumption
    · cases h
  have hr : mayB l0 = r := by
    unfold daw_May.f at h; rw [if_pos hok] at h; exact Option.some.inj h
  rw [okB_iff] at hok
  clear h
  obtain ⟨K0, hpl⟩ := (plain_ev l0 hok).rounds
  have HR := Aside0.mk hr; have HC := Aside0.mk hr0; have HC0 := Aside0.mk hc0; have HOK := Aside0.mk hok; have HPL := Aside0.mk hpl
  have hsz : (l0.length : Int) ≤ 4398046511104 := by have := hok.1; omega
  clear hr hr0 hc0 hok hpl
  have hmm := @run_makeMap Try.prog
  have huS := Try.underlying82
  cases hpb : plainB l0 with
  | false =>
    have HPL2 := HPL.out
    rw [hpb] at HPL2
    have hX : r = false := by rw [← HR.out]; unfold mayB; rw [hpb]; rfl
    subst hX
    have HP := Aside0.mk HPL2
    clear HPL2 hpb
    go_enter Try.func91, Try.ntmps91
    go_wp2_with (first | (go_at_call 102; (with_reducible refine (daw_plain.calls K0 A0 c0 l0 false w HC.out HC0.out HP.out).mono ?_)))
    (first | rintro e w1 rfl hb1 | rintro e w1 ⟨rfl, hb1⟩)
    go_wp2
    go_ret
    exact ⟨rfl, hb1⟩
  | true =>
    have HPL2 := HPL.out
    rw [hpb] at HPL2
    obtain ⟨hlow, h0⟩ := plain_low hpb
    have HLOW := Aside0.mk hlow; have H0 := Aside0.mk h0; have HPB := Aside0.mk hpb
    have HP := Aside0.mk HPL2
    clear HPL2 hpb hlow h0
    go_enter Try.func91, Try.ntmps91
    go_wp2_with (first | (go_at_call 102; (with_reducible refine (daw_plain.calls K0 A0 c0 l0 true w HC.out HC0.out HP.out).mono ?_)))
    (first | rintro e w1 rfl hb1 | rintro e w1 ⟨rfl, hb1⟩)
    have HB1 := Aside0.mk hb1
    clear hb1
    go_wp2
    have hM0 : (w1.alloc (.map #[] 0)).ownsMap Try.prog 9 (plainElem Try.prog 4) w1.heap.size 0 (.map [] : DataW Unit) := World.ownsMap_made _ _ _ _
    have hBl := HB1.out.alloc (HB1.out.size) (.map #[] 0)
    obtain ⟨bm, hbm⟩ : ∃ bm, bm = w1.heap.size := ⟨_, rfl⟩
    rw [← hbm] at hM0 ⊢
    have HBM : Aside0 (w.heap.size ≤ bm) := ⟨by rw [hbm]; exact HB1.out.size⟩
    have HM0 := Aside0.mk hM0; have HBL := Aside0.mk hBl
    clear hM0 hBl hbm hmm
    generalize w1.alloc (.map #[] 0) = w2 at HM0 HBL ⊢
    go_loopg [13] l0.length (fun gg v13 wr => ∃ (i : Nat), v13 = .int .i64 i ∧ Aside0 (i ≤ l0.length ∧ l0.length ≤ gg + i) ∧ Aside0 (wr.ownsMap Try.prog 9 (plainElem Try.prog 4) bm i (setOf (.lit (.bool true) : DataW Unit) (keysL (l0.take i)))) ∧ Aside0 (Below w.heap.size w wr))
    case atStart => exact ⟨0, rfl, ⟨by omega⟩, HM0, HBL⟩
    case round =>
      clear HM0 HBL
      obtain ⟨i, rfl, hi, hm, hb⟩ := hrel
      by_cases hlt : i < l0.length
      · have hcb : decide ((i : Int) < (l0.length : Int)) = true := decide_eq_true (by omega)
        have z0 : (0 : Int) ≤ (i : Int) := by omega
        have z1 : (i : Int) < (l0.length : Int) := by omega
        obtain ⟨ad, A1, c1, e0, u0, u1, hl1, hC1⟩ := at_T82 (Kd.C_below HC.out hb.out) (i : Int) z0 z1
        cases e0
        rw [Int.toNat_natCast] at u0 u1
        rw [rdl l0 i hlt] at u0 u1 hl1 hC1
        obtain ⟨k1, k2, k3⟩ := toS_ofS HOK.out HLOW.out i hlt
        have hs43 := (HOK.out.2 _ (List.getElem_mem hlt)).1
        obtain ⟨K, hK5, hK6⟩ : ∃ K, (ofS l0[i]).2.length + 9 ≤ K ∧ K < 20000000000000 := ⟨(ofS l0[i]).2.length + 9, by omega, by omega⟩
        have hkey : daw_key.f K l0[i].f0 l0[i].f1 = some (keyB (ofS l0[i])) := by
          have := key_eq (ofS l0[i]) k2 (by omega) K hK5 hK6
          rw [k1] at this
          exact this
        have hkz : (keyB (ofS l0[i])).size ≤ maxLen := by
          unfold keyB keyZ
          rw [strOfNums_size, List.length_map]
          unfold keyL
          have h8 := keyE_len (ofS l0[i]).2 k2
          rw [List.length_append, put_low (by split <;> decide)]
          unfold maxLen
          simp; omega
        have hkof : keyOf Try.prog 9 (.string (keyB (ofS l0[i]))) = some (kl (ofS l0[i])) := Go.WideMaps.keyOf_string_mk Try.underlying9 hkz
        have htk : setOf (.lit (.bool true) : DataW Unit) (keysL (l0.take (i + 1))) = (setOf (.lit (.bool true) : DataW Unit) (keysL (l0.take i))).put (kl (ofS l0[i])) (.lit (.bool true)) := by
          rw [List.take_succ_eq_append_getElem hlt]
          unfold keysL
          rw [List.map_append, List.map_cons, List.map_nil, setOf_snoc]
        generalize keyB (ofS l0[i]) = kb at hkey hkof
        generalize kl (ofS l0[i]) = kk at hkof htk
        clear k1 k2 k3 hs43 hK5 hK6 hkz
        generalize l0[i] = s at u0 u1 hl1 hC1 hkey
        have hba : Below wr.heap.size wr (wr.alloc (.cells #[.bool s.f0, .slice A1 s.f1.length c1] 82 (0, 0))) := below_alloc (Below.refl _ _) _
        have hkc := (daw_key.calls K s.f0 A1 c1 s.f1 kb _ (Kd.C_below hC1 hba) hl1 hkey).mono (fun e w' h => (⟨h.1, hba.trans (h.2.mono hba.size)⟩ : _ ∧ Below wr.heap.size wr w'))
        have HKC := Aside0.mk hkc; have HKO := Aside0.mk hkof; have HTK := Aside0.mk htk; have HM := Aside0.mk hm
        have hmlt := Aside0.mk hm.out.lt
        have hnl : Aside0 (i < maxLen) := ⟨by unfold maxLen; omega⟩
        clear hC1 hl1 hkey hkof htk hba hkc hm
        go_wp2_with (first | (go_at_call 85; (with_reducible refine (HKC.out).mono ?_)))
        (first | rintro e w3 rfl hb3 | rintro e w3 ⟨rfl, hb3⟩)
        have HM3 := Aside0.mk (map_move HM.out.out (hb3.block bm hmlt.out)); have HB3 := Aside0.mk (hb.out.trans (hb3.mono hb.out.size))
        have HZ3 := Aside0.mk (Nat.le_trans hb.out.size hb3.size)
        clear hb3
        go_wp2_with (first | (at_mapUpdate; refine wpList_mapUpdate_own _ rfl _ _ _ 164 rfl 9 4 string_law Try.underlying164 _ bm i _ rfl HM3.out hnl.out _ _ _ rfl rfl HKO.out _ [] (plainElem_bool Try.underlying4 true) ?_; intro w4 hm4 hg4))
        have HM4 := Aside0.mk hm4; have HB4 := Aside0.mk (HB3.out.grown hg4 HZ3.out (fun k hk => by cases hk; exact HBM.out))
        clear hm4 hg4
        go_wp2
        go_roundg (l0.length - (i + 1))
        case measure => have := hi.out; omega
        case rel =>
          exact ⟨i + 1, congrArg (Value.int .i64) (by omega), ⟨by have := hi.out; omega⟩, ⟨by rw [HTK.out]; exact HM4.out⟩, HB4⟩
      · have hcb : decide ((i : Int) < (l0.length : Int)) = false := decide_eq_false (by omega)
        have hil : i = l0.length := by have := hi.out; omega
        subst hil
        have hmm := hm.out
        rw [List.take_length] at hmm
        have HM := Aside0.mk hmm
        have hks := keys_size l0 HOK.out HLOW.out
        clear hm hmm
        have z0 : (0 : Int) ≤ (l0.length : Int) - 1 := by have := H0.out; omega
        have z1 : (l0.length : Int) - 1 < (l0.length : Int) := by omega
        obtain ⟨ad, A1, c1, e0, u0, u1, hl1, hC1⟩ := at_T82 (Kd.C_below HC.out hb.out) ((l0.length : Int) - 1) z0 z1
        cases e0
        (try simp only [Go.IntWalk.toNatUp] at u0 u1)
        have hfin : r = (decide (l0.map ofS).Nodup && !(rd_T82 l0 ((l0.length : Int) - 1)).f0 && (rk l0 l0.length (l0.length - 1) 0).1) := by
          rw [← HR.out]; unfold mayB; rw [HPB.out, Bool.true_and]
        have HFI := Aside0.mk hfin
        clear hl1 hC1 hfin
        generalize rd_T82 l0 ((l0.length : Int) - 1) = s at u0 u1 HFI
        generalize setOf (.lit (.bool true) : DataW Unit) (keysL l0) = D at HM hks
        have hba : Below wr.heap.size wr (wr.alloc (.cells #[.bool s.f0, .slice A1 s.f1.length c1] 82 (0, 0))) := below_alloc (Below.refl _ _) _
        have HMA := Aside0.mk (map_move HM.out (hba.block bm HM.out.lt))
        have HBA := Aside0.mk (hb.out.trans (hba.mono hb.out.size))
        have HKS := Aside0.mk hks
        have hcA := Aside0.mk (Kd.C_below HC.out HBA.out)
        clear hba HM hks
        by_cases hnd : (l0.map ofS).Nodup
        · have hse : ((size D : Int) == (l0.length : Int)) = true := by rw [HKS.out.2 hnd]; exact beq_self_eq_true _
          have HND := Aside0.mk hnd
          clear hnd
          cases hsf : s.f0 with
          | true =>
            rw [hsf] at u0 HMA HBA
            have hX : r = false := by rw [HFI.out, hsf]; simp
            have HX := Aside0.mk hX
            clear hX
            go_wp2_with (first | (at_len; refine wpList_len_own _ rfl _ 164 rfl 9 4 Try.underlying164 _ bm _ D rfl HMA.out ?_))
            go_ret
            rw [HX.out]
            exact ⟨rfl, HBA.out⟩
          | false =>
            rw [hsf] at u0 HMA HBA
            have hrk : daw_ranked.f l0 = some (rk l0 l0.length (l0.length - 1) 0).1 := by
              unfold daw_ranked.f
              rw [if_pos ⟨(lowB_iff l0).2 HLOW.out, H0.out, by omega⟩]
            have hX : r = (rk l0 l0.length (l0.length - 1) 0).1 := by rw [HFI.out, hsf, decide_eq_true HND.out]; simp
            have HX := Aside0.mk hX
            have hrc := daw_ranked.calls (some ad) c0 l0 _ _ (Kd.C_below HC.out HBA.out) HC0.out hrk
            rw [← hX] at hrc
            have HRC := Aside0.mk (hrc.mono (fun e w' h => (⟨h.1, HBA.out.trans (h.2.mono HBA.out.size)⟩ : _ ∧ Below w.heap.size w w')))
            clear hX hrk hrc
            go_wp2_with (first | (at_len; refine wpList_len_own _ rfl _ 164 rfl 9 4 Try.underlying164 _ bm _ D rfl HMA.out ?_) | (go_at_call 103; (with_reducible refine (HRC.out).mono ?_)))
            (first | rintro e w3 rfl hb3 | rintro e w3 ⟨rfl, hb3⟩)
            go_wp2
            go_ret
            exact ⟨rfl, hb3⟩
        · have hse : ((size D : Int) == (l0.length : Int)) = false := by rw [beq_eq_false_iff_ne]; intro h; exact hnd (HKS.out.1 (by omega))
          have hX : r = false := by rw [HFI.out, decide_eq_false hnd]; rfl
          have HX := Aside0.mk hX
          clear hX hnd
          go_wp2_with (first | (at_len; refine wpList_len_own _ rfl _ 164 rfl 9 4 Try.underlying164 _ bm _ D rfl HMA.out ?_))
          go_ret
          rw [HX.out]
          exact ⟨rfl, HBA.out⟩
end Go.Proofs.Ytgebhidpkcjpmaa.K

namespace Go.Proofs.Ytgebhidpkcjpmaa.PIx
open Go.RowKit Go.Proofs.YtgebhidpkcjpmaaW.PrintWords Go.Proofs.YtgebhidpkcjpmaaW.PrintLast Go.Proofs.YtgebhidpkcjpmaaW.PrintMore Go.Proofs.Ytgebhidpkcjpmaa.K Go.Proofs.Ytgebhidpkcjpmaa.PDk Go.Proofs.Ytgebhidpkcjpmaa.PDm
attribute [local go_sem] max2_int min2_int max_two min_two max_three min_three max_four min_four   -- for this text's walks alone
set_option linter.unusedVariables false
set_option linter.unusedSimpArgs false



def errW : Option Int → Value
  | none => .nilIface
  | some c => .iface 0 (.int .i64 c)
theorem errW_none : errW none = .nilIface := rfl
theorem errW_some (c : Int) : errW (some c) = .iface 0 (.int .i64 c) := rfl

end Go.Proofs.Ytgebhidpkcjpmaa.PIx

