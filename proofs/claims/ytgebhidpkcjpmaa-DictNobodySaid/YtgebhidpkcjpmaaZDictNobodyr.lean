/- DictNobody. (The texts that the proof is made of, one behind the other: part 18 of 18.) -/
import Derived.Laws.EntriesVeiled
import Derived.Laws.ResultCell
import Derived.Test.YtgebhidpkcjpmaaProg
import Derived.Below
import Derived.Deep.Draws
import Derived.Deep.AppendLies
import Derived.Maps.AppendAt
import Derived.OwnWalk
import Derived.Laws.BytesArg
import Derived.Laws.MakeOwn
import Derived.Laws.OwnMore
import Derived.Deep.OwnRows
import Derived.Tactics
import Derived.Lib.ConvBytes
import Derived.Laws.Slices
import Derived.WalkKit
import Derived.KernelRfl
import Derived.RowKit3
import Derived.Deep.LoopGhost
import Derived.Deep.QuietTactic
import Derived.BigQuiet
import Derived.WideLaws
import Derived.Deep.DeepCutAuto
import Derived.Deep.CutBlock
import Derived.Deep.RegionHeld3
import Derived.Laws.Rows
import Derived.Lib.AppendStr
import Derived.ArgAppend
import Derived.Laws.IdiomCopy
import Derived.OrdersHeld
import Derived.Laws.BitsLemmas
import Derived.RowKit
import Derived.Lib.OthersKept
import Derived.WalkSmall
import Derived.Deep.RegionLaw
import Derived.BigRegion
import Derived.Test.YtgebhidpkcjpmaaRows
import Derived.ProofKit
import Derived.OpenShut
import Derived.ShutString
import Derived.ChangeOld
import Derived.SizedLaws
import Derived.Test.YtgebhidpkcjpmaaZDictNobodya
import Derived.Test.YtgebhidpkcjpmaaZDictNobodyb
import Derived.Test.YtgebhidpkcjpmaaZDictNobodyc
import Derived.Test.YtgebhidpkcjpmaaZDictNobodyd
import Derived.Test.YtgebhidpkcjpmaaZDictNobodye
import Derived.Test.YtgebhidpkcjpmaaZDictNobodyf
import Derived.Test.YtgebhidpkcjpmaaZDictNobodyg
import Derived.Test.YtgebhidpkcjpmaaZDictNobodyh
import Derived.Test.YtgebhidpkcjpmaaZDictNobodyi
import Derived.Test.YtgebhidpkcjpmaaZDictNobodyj
import Derived.Test.YtgebhidpkcjpmaaZDictNobodyk
import Derived.Test.YtgebhidpkcjpmaaZDictNobodyl
import Derived.Test.YtgebhidpkcjpmaaZDictNobodym
import Derived.Test.YtgebhidpkcjpmaaZDictNobodyn
import Derived.Test.YtgebhidpkcjpmaaZDictNobodyo
import Derived.Test.YtgebhidpkcjpmaaZDictNobodyp
import Derived.Test.YtgebhidpkcjpmaaZDictNobodyq
namespace Go.Proofs.Ytgebhidpkcjpmaa.K
open Go.RowKit Go.Proofs.YtgebhidpkcjpmaaW.PrintWords Go.Proofs.YtgebhidpkcjpmaaW.PrintLast Go.Proofs.YtgebhidpkcjpmaaW.PrintMore Go.Proofs.Ytgebhidpkcjpmaa
attribute [local go_sem] max2_int min2_int max_two min_two max_three min_three max_four min_four
set_option linter.unusedVariables false
set_option linter.unusedSimpArgs false
open Go Go.Proofs.Ytgebhidpkcjpmaa.PR13 Go.Proofs.Ytgebhidpkcjpmaa.PDk Go.Proofs.Ytgebhidpkcjpmaa.PDm Go.Proofs.Ytgebhidpkcjpmaa.PIx Go.Proofs.Ytgebhidpkcjpmaa.PFl Go.Proofs.Ytgebhidpkcjpmaa.PLg Go.Proofs.Ytgebhidpkcjpmaa.PFg Go.Proofs.Ytgebhidpkcjpmaa.PMk Go.Proofs.Ytgebhidpkcjpmaa.PEn Go.Proofs.Ytgebhidpkcjpmaa.Daw Go.Proofs.Ytgebhidpkcjpmaa.Fil Go.Proofs.Ytgebhidpkcjpmaa.Crc
def MadeQ (l : List EnS) (w : World) (e : Ending) (w' : World) : Prop := ∃ v0 v1 v2 : Value, e = .returned (.tuple #[.agg #[v0, v1, v2], .int .i64 0]) ∧ Kd.S k82 82 w' w.heap.size (fun _ => True) v0 ((build (wordsN (Wl l))).map toS) ∧ Kd.R (Kd.int .u64) 47 w' w.heap.size (fun _ => True) v1 (Cl l) ∧ Kd.R (Kd.int .i64) 3 w' w.heap.size (fun _ => True) v2 (classesL l) ∧ Below w.heap.size w w'
theorem make_k {l : List EnS} (h : Ents l) (A : Option Addr) (c : Nat) (w : World) (hC : Kd.C k49 w A l.length l) (hc : l.length ≤ c) : Calls Try.prog 14 #[.slice A l.length c] w (MadeQ l w) := by
  obtain ⟨k, hk⟩ := Ev.rounds (make_ev h)
  exact file_Make.calls k A c l _ _ _ _ w hC hc hk
theorem decode_ents {l : List EnS} {B : List Int} (he : Ev (fun k => file_Decode.f k B) ((build (wordsN (Wl l))).map toS, Cl l, classesL l, (0 : Int))) (A : Option Addr) (c : Nat) (w : World) (hC : Kd.C (Kd.int .u8) w A B.length B) (hc : B.length ≤ c) : Calls Try.prog 24 #[.slice A B.length c] w (MadeQ l w) := by
  obtain ⟨k, hk⟩ := Ev.rounds he
  exact file_Decode.calls k A c B _ _ _ _ w hC hc hk
theorem encode_k {S : List S82} {C K B : List Int} {n : Int} (he : Ev (fun k => file_Encode.f k S C K) (B, n)) (A0 A1 A2 : Option Addr) (c0 c1 c2 n0 n1 n2 : Nat) (e0 : n0 = S.length) (e1 : n1 = C.length) (e2 : n2 = K.length) (w : World) (h0 : Kd.C k82 w A0 S.length S) (h0c : S.length ≤ c0) (h1 : Kd.C (Kd.int .u64) w A1 C.length C) (h1c : C.length ≤ c1) (h2 : Kd.C (Kd.int .i64) w A2 K.length K) (h2c : K.length ≤ c2) :
    Calls Try.prog 16 #[.agg #[.slice A0 n0 c0, .slice A1 n1 c1, .slice A2 n2 c2]] w fun e w' => ∃ v0 : Value, e = .returned (.tuple #[v0, .int .i64 n]) ∧ Kd.R (Kd.int .u8) 5 w' w.heap.size (fun _ => True) v0 B ∧ Below w.heap.size w w' := by
  obtain ⟨k, hk⟩ := Ev.rounds he
  subst e0 e1 e2
  exact file_Encode.calls k A0 c0 S A1 c1 C A2 c2 K _ _ w h0 h0c h1 h1c h2 h2c hk
/-- A dictionary of entries that lies in a block. -/
def DB (l : List EnS) (W : World) (base g : Nat) (v0 v1 v2 : Value) : Prop := W.heap[g]? = some (.cells #[v0, v1, v2] 29 (0, 0)) ∧ Kd.S k82 82 W base (fun _ => True) v0 ((build (wordsN (Wl l))).map toS) ∧ Kd.R (Kd.int .u64) 47 W base (fun _ => True) v1 (Cl l) ∧ Kd.R (Kd.int .i64) 3 W base (fun _ => True) v2 (classesL l)
theorem DB.encode {l : List EnS} (h : Ents l) (hb : bytesAll (Wl l) ≤ 149000) {W : World} {base g : Nat} {A0 A1 A2 : Option Addr} {c0 c1 c2 : Nat} (hD : DB l W base g (.slice A0 (build (wordsN (Wl l))).length c0) (.slice A1 (Cl l).length c1) (.slice A2 (classesL l).length c2)) :
    Calls Try.prog 16 #[.agg #[.slice A0 (build (wordsN (Wl l))).length c0, .slice A1 (Cl l).length c1, .slice A2 (classesL l).length c2]] W fun e w' => ∃ v0 : Value, e = .returned (.tuple #[v0, .int .i64 0]) ∧ Kd.R (Kd.int .u8) 5 w' W.heap.size (fun _ => True) v0 (zs (dictB l)) ∧ Below W.heap.size W w' := by
  obtain ⟨e1, s1, s2⟩ := Kd.S_reads' hD.2.1
  obtain ⟨_, r1, r2⟩ := Kd.R_reads' hD.2.2.1
  obtain ⟨_, q1, q2⟩ := Kd.R_reads' hD.2.2.2
  exact encode_k (h.encoded hb) A0 A1 A2 c0 c1 c2 _ _ _ e1 rfl rfl W s2 (by omega) r2 r1 q2 q1
end Go.Proofs.Ytgebhidpkcjpmaa.K

namespace Go.Proofs.Ytgebhidpkcjpmaa.K
open Go.RowKit Go.Proofs.YtgebhidpkcjpmaaW.PrintWords Go.Proofs.YtgebhidpkcjpmaaW.PrintLast Go.Proofs.YtgebhidpkcjpmaaW.PrintMore Go.Proofs.Ytgebhidpkcjpmaa
attribute [local go_sem] max2_int min2_int max_two min_two max_three min_three max_four min_four
set_option linter.unusedVariables false
set_option linter.unusedSimpArgs false
open Go Go.Proofs.Ytgebhidpkcjpmaa.PR13 Go.Proofs.Ytgebhidpkcjpmaa.PDk Go.Proofs.Ytgebhidpkcjpmaa.PDm Go.Proofs.Ytgebhidpkcjpmaa.PIx Go.Proofs.Ytgebhidpkcjpmaa.PFl Go.Proofs.Ytgebhidpkcjpmaa.PLg Go.Proofs.Ytgebhidpkcjpmaa.PFg Go.Proofs.Ytgebhidpkcjpmaa.PMk Go.Proofs.Ytgebhidpkcjpmaa.PEn Go.Proofs.Ytgebhidpkcjpmaa.Daw Go.Proofs.Ytgebhidpkcjpmaa.Fil Go.Proofs.Ytgebhidpkcjpmaa.Crc
/-- An opened dictionary of entries, in a block. -/
def DX (l : List EnS) (W : World) (base g : Nat) (v0 v1 v2 : Value) : Prop := W.heap[g]? = some (.cells #[v0, v1, v2] 103 (0, 0)) ∧ Kd.S k82 82 W base (fun _ => True) v0 ((build (wordsN (Wl l))).map toS) ∧ Kd.R (Kd.int .u64) 47 W base (fun _ => True) v1 (Cl l) ∧ Kd.R (Kd.int .i64) 3 W base (fun _ => True) v2 (classesL l)
theorem DX.below {l : List EnS} {W W' : World} {base g : Nat} {v0 v1 v2 : Value} (h : DX l W base g v0 v1 v2) (hb : Below W.heap.size W W') : DX l W' base g v0 v1 v2 := ⟨(hb.block g (blk_lt h.1)).trans h.1, Kd.S_below h.2.1 hb, Kd.R_below h.2.2.1 hb, Kd.R_below h.2.2.2 hb⟩
set_option maxHeartbeats 4000000 in
set_option maxRecDepth 100000 in
theorem len_nil (w : World) : Calls Try.prog 29 #[.pointer none] w fun e w' => e = .returned (.int .i64 0) ∧ Below w.heap.size w w' := by
  go_enter Try.func29, Try.ntmps29
  go_wp2
  go_ret
  exact ⟨rfl, Below.refl _ _⟩
set_option maxHeartbeats 4000000 in
set_option maxRecDepth 100000 in
theorem find_nil (v : ByteArray) (w : World) : Calls Try.prog 28 #[.pointer none, .string v] w fun e w' => e = .returned (.tuple #[.agg #[.int .i64 0, .int .u64 0, .int .i64 0], .bool false]) ∧ Below w.heap.size w w' := by
  have huH := Try.underlying57
  go_enter Try.func28, Try.ntmps28
  go_wp2
  refine bodyPost_ret (results_ct rfl _ _ w.heap.size 57 #[.int .i64 0, .int .u64 0, .int .i64 0] (0, 0) _ rfl (heap_alloc_new w _) huH rfl (by kernel_rfl)) rfl ?_
  exact ⟨rfl, below_alloc (Below.refl _ _) _⟩
set_option maxHeartbeats 4000000 in
set_option maxRecDepth 100000 in
theorem at_nil (n : Int) (w : World) : Calls Try.prog 30 #[.pointer none, .int .i64 n] w fun e w' => e = .returned (.tuple #[.agg #[.string ⟨#[]⟩, .int .u64 0], .bool false]) ∧ Below w.heap.size w w' := by
  have huH := Try.underlying49
  go_enter Try.func30, Try.ntmps30
  go_wp2
  refine bodyPost_ret (results_ct rfl _ _ w.heap.size 49 #[.string ⟨#[]⟩, .int .u64 0] (0, 0) _ rfl (heap_alloc_new w _) huH rfl (by kernel_rfl)) rfl ?_
  exact ⟨rfl, below_alloc (Below.refl _ _) _⟩
set_option maxHeartbeats 4000000 in
set_option maxRecDepth 100000 in
theorem dlen_k {l : List EnS} {W : World} {base g : Nat} {A0 A1 A2 : Option Addr} {n0 n2 c0 c1 c2 : Nat} (hD : DX l W base g (.slice A0 n0 c0) (.slice A1 (Cl l).length c1) (.slice A2 n2 c2)) : Calls Try.prog 29 #[.pointer (some ⟨g, 0, none⟩)] W fun e w' => e = .returned (.int .i64 (l.length : Int)) ∧ Below W.heap.size W w' := by
  have huD := Try.underlying29
  have huX := Try.underlying103
  have i1 : W.cell? ⟨g, 1, none⟩ = some (.slice A1 (Cl l).length c1) := (blk_cell hD.1 1).trans rfl
  have HL := Aside0.mk (Cl_len l)
  clear hD
  go_enter Try.func29, Try.ntmps29
  go_wp2
  go_ret
  exact ⟨by first | rfl | (rw [HL.out]; rfl), Below.refl _ _⟩
/-- What a word is found as. -/
def HitR (l : List EnS) (v : ByteArray) (n c k : Int) (b : Bool) : Prop := (b = true ∧ ∃ i, ∃ hi : i < l.length, l[i].f0 = v ∧ n = (i : Int) ∧ c = l[i].f1 ∧ k = rd (classesL l) (i : Int)) ∨ (b = false ∧ n = 0 ∧ c = 0 ∧ k = 0 ∧ ∀ x ∈ l, x.f0 ≠ v)
theorem Wl_mem {l : List EnS} {v : ByteArray} : Utf.nats v ∈ wordsN (Wl l) ↔ ∃ i, ∃ hi : i < l.length, l[i].f0 = v := by
  unfold wordsN Wl
  rw [List.map_map, List.mem_map]
  constructor
  · rintro ⟨x, hx, e⟩
    obtain ⟨i, hi, rfl⟩ := List.getElem_of_mem hx
    exact ⟨i, hi, nats_inj e⟩
  · rintro ⟨i, hi, rfl⟩
    exact ⟨l[i], List.getElem_mem hi, rfl⟩
set_option maxHeartbeats 8000000 in
set_option maxRecDepth 100000 in
theorem find_k {l : List EnS} (h : Ents l) {W : World} {base g : Nat} {A0 A1 A2 : Option Addr} {c0 c1 c2 : Nat} (hD : DX l W base g (.slice A0 (build (wordsN (Wl l))).length c0) (.slice A1 (Cl l).length c1) (.slice A2 (classesL l).length c2)) (v : ByteArray) (hv : v.size ≤ 140737488355328) :
    Calls Try.prog 28 #[.pointer (some ⟨g, 0, none⟩), .string v] W fun e w' => ∃ n c k b, e = .returned (.tuple #[.agg #[.int .i64 n, .int .u64 c, .int .i64 k], .bool b]) ∧ HitR l v n c k b ∧ Below W.heap.size W w' := by
  have huD := Try.underlying29
  have huX := Try.underlying103
  have huH := Try.underlying57
  obtain ⟨hh, hhd⟩ : ∃ x, x = W.heap.size := ⟨_, rfl⟩
  obtain ⟨wA, hwA⟩ : ∃ wA, wA = W.alloc (.cells #[.int .i64 0, .int .u64 0, .int .i64 0] 57 (0, 0)) := ⟨_, rfl⟩
  have hbA : Below W.heap.size W wA := by rw [hwA]; exact below_alloc (Below.refl _ _) _
  have hgA : wA.heap[hh]? = some (.cells #[.int .i64 0, .int .u64 0, .int .i64 0] 57 (0, 0)) := by rw [hwA, hhd]; exact heap_alloc_new W _
  have HDA := Aside0.mk (hD.below hbA)
  have HWA := Aside0.mk hwA; have HBA := Aside0.mk hbA; have HGA := Aside0.mk hgA; have HHD := Aside0.mk hhd
  have i0 : (W.alloc (.cells #[.int .i64 0, .int .u64 0, .int .i64 0] 57 (0, 0))).cell? ⟨g, 0, none⟩ = some (.slice A0 (build (wordsN (Wl l))).length c0) := blk_cell_alloc ((blk_cell hD.1 0).trans rfl)
  obtain ⟨n, b, hE, hR⟩ : ∃ (n : Int) (b : Bool), Ev (fun k => index_Of.f k ((build (wordsN (Wl l))).map toS) v) (n, b) ∧ ((b = true ∧ ∃ i, ∃ hi : i < l.length, l[i].f0 = v ∧ n = (i : Int)) ∨ (b = false ∧ ∀ x ∈ l, x.f0 ≠ v)) := by
    by_cases hm : Utf.nats v ∈ wordsN (Wl l)
    · obtain ⟨i, hi, e⟩ := Wl_mem.1 hm
      have := h.ws.of_at i (by rw [Wl_len]; exact hi)
      rw [show (Wl l)[i]'(by rw [Wl_len]; exact hi) = v by unfold Wl; rw [List.getElem_map]; exact e] at this
      exact ⟨_, _, this, .inl ⟨rfl, i, hi, e, rfl⟩⟩
    · have := h.ws.of_any v hv
      rw [decide_eq_false hm] at this
      refine ⟨_, _, this, .inr ⟨rfl, fun x hx e => hm (Wl_mem.2 ?_)⟩⟩
      obtain ⟨i, hi, rfl⟩ := List.getElem_of_mem hx
      exact ⟨i, hi, e⟩
  obtain ⟨kk, hk⟩ := Ev.rounds hE
  obtain ⟨en, s1, s2⟩ := Kd.S_reads' HDA.out.2.1
  have hOF := index_Of.calls kk A0 c0 _ v n b wA s2 (by omega) hk
  rw [← en] at hOF
  have HOF := Aside0.mk hOF
  clear hD hwA hbA hgA hE hk hOF s1 s2 en hhd
  go_enter Try.func28, Try.ntmps28
  go_wp2_with (first | (go_at_call 53; rw [← HWA.out, ← HHD.out]; (with_reducible refine (HOF.out).mono ?_)))
  rintro x wB ⟨rfl, hb⟩
  have HDB := Aside0.mk (HDA.out.below hb)
  have HGB := Aside0.mk ((hb.block hh (blk_lt HGA.out)).trans HGA.out)
  have HBB := Aside0.mk (HBA.out.trans (hb.mono HBA.out.size))
  have HHW := Aside0.mk (show W.heap.size ≤ hh by have := HHD.out; omega)
  clear hb i0 HOF HGA HBA HDA HWA HHD
  have e0 := (blk_cell HGB.out 0).trans (show _ = some (.int .i64 0) from rfl)
  have e1 := (blk_cell HGB.out 1).trans (show _ = some (.int .u64 0) from rfl)
  have e2 := (blk_cell HGB.out 2).trans (show _ = some (.int .i64 0) from rfl)
  have f0 := blk_frozen HGB.out 0
  have f1 := blk_frozen HGB.out 1
  have f2 := blk_frozen HGB.out 2
  rcases hR with ⟨rfl, i, hi, ev, rfl⟩ | ⟨rfl, hno⟩
  · have hil : (i : Int) < ((Cl l).length : Int) := by rw [Cl_len]; omega
    have hkl : (i : Int) < ((classesL l).length : Int) := by unfold classesL; rw [List.length_map]; omega
    have q0 : (0 : Int) ≤ (i : Int) := by omega
    obtain ⟨p1, d1, ep1, _, _, _⟩ := Kd.R_form HDB.out.2.2.1 (by omega)
    obtain ⟨p2, d2, ep2, _, _, _⟩ := Kd.R_form HDB.out.2.2.2 (by omega)
    injection ep1 with z1 _ z2
    injection ep2 with z3 _ z4
    subst z1 z2 z3 z4
    have x1 : wB.cell? ⟨p1, i, none⟩ = some (.int .u64 (rd (Cl l) (i : Int))) := by
      obtain ⟨ad, ea, a0⟩ := Kd.at_int (Kd.R_reads' HDB.out.2.2.1).2.2 (i : Int) q0 hil
      cases ea
      rw [Int.toNat_natCast] at a0
      simp only [add_plain] at a0
      exact a0
    have x2 : wB.cell? ⟨p2, i, none⟩ = some (.int .i64 (rd (classesL l) (i : Int))) := by
      obtain ⟨ad, ea, a0⟩ := Kd.at_int (Kd.R_reads' HDB.out.2.2.2).2.2 (i : Int) q0 hkl
      cases ea
      rw [Int.toNat_natCast] at a0
      simp only [add_plain] at a0
      exact a0
    have hcx : rd (Cl l) (i : Int) = l[i].f1 := by
      rw [rd_nat, List.getD_eq_getElem?_getD, List.getElem?_eq_getElem (by rw [Cl_len]; exact hi)]
      unfold Cl
      rw [List.getElem_map]; rfl
    have HIT := Aside0.mk (show HitR l v (i : Int) (rd (Cl l) (i : Int)) (rd (classesL l) (i : Int)) true from .inl ⟨rfl, i, hi, ev, rfl, hcx, rfl⟩)
    generalize rd (Cl l) (i : Int) = x at x1 HIT
    generalize rd (classesL l) (i : Int) = y at x2 HIT
    clear hcx ev
    have HX1 := Aside0.mk x1; have HX2 := Aside0.mk x2
    have y1 : wB.cell? ⟨g, 1, none⟩ = some (.slice (some ⟨p1, 0, none⟩) (Cl l).length c1) := (blk_cell HDB.out.1 1).trans rfl
    have y2 : wB.cell? ⟨g, 2, none⟩ = some (.slice (some ⟨p2, 0, none⟩) (classesL l).length c2) := (blk_cell HDB.out.1 2).trans rfl
    have HY1 := Aside0.mk y1; have HY2 := Aside0.mk y2
    clear x1 x2 y1 y2 e0 e1 e2 f0 f1 f2 hi HDB
    have HI1 := Aside0.mk hil
    go_wp2
    refine start_ (n := 20) (S := fun w' => w'.cell? ⟨g, 1, none⟩ = some (.slice (some ⟨p1, 0, none⟩) (Cl l).length c1) ∧ w'.cell? ⟨g, 2, none⟩ = some (.slice (some ⟨p2, 0, none⟩) (classesL l).length c2) ∧ w'.cell? ⟨p1, i, none⟩ = some (.int .u64 x) ∧ w'.cell? ⟨p2, i, none⟩ = some (.int .i64 y)) (ds := [18]) #[false, false, false, false, false, false, false, false, false, false, false, false, false, false, false, false, false, false, false, false] (by kernel_rfl) rfl rfl (by exact ⟨HY1.out, HY2.out, HX1.out, HX2.out⟩) (fun hHeld => ?_)
    have HG3 := Aside0.mk (blk_drew HGB.out)
    have HB3 := Aside0.mk (below_drew HBB.out)
    clear HGB HBB HY1 HY2 HX1 HX2
    generalize wB.drew = w3 at HG3 HB3 hHeld ⊢
    (refine pure_ (i := 0) (N := some 24) (v := ?_) (a' := ?_) #[true, false, false, false, false, false, false, false, false, false, false, false, false, false, false, false, false, false, false, false] rfl rfl (by kernel_rfl) (fun _ _ _ h => h) (Or.inl ⟨by rfl, ?_⟩) ?_ ?_; rotate_left; (intro w'; go_simp; with_reducible rfl); rotate_left; (simp only [Act.put, List.setIfInBounds_toArray, List.set_cons_zero, List.set_cons_succ, i64_w, i32_w]; rfl)); (refine pure_ (i := 1) (N := some 25) (v := ?_) (a' := ?_) #[true, true, false, false, false, false, false, false, false, false, false, false, false, false, false, false, false, false, false, false] rfl rfl (by kernel_rfl) (fun _ _ _ h => h) (Or.inl ⟨by rfl, ?_⟩) ?_ ?_; rotate_left; (intro w'; go_simp; with_reducible rfl); rotate_left; (simp only [Act.put, List.setIfInBounds_toArray, List.set_cons_zero, List.set_cons_succ, i64_w, i32_w]; rfl)); (refine pure_ (i := 2) (N := some 26) (v := ?_) (a' := ?_) #[true, true, true, false, false, false, false, false, false, false, false, false, false, false, false, false, false, false, false, false] rfl rfl (by kernel_rfl) (fun _ _ _ h => h) (Or.inl ⟨by rfl, ?_⟩) ?_ ?_; rotate_left; (intro w'; go_simp; with_reducible rfl); rotate_left; (simp only [Act.put, List.setIfInBounds_toArray, List.set_cons_zero, List.set_cons_succ, i64_w, i32_w]; rfl)); (refine pure_ (i := 3) (N := some 27) (v := ?_) (a' := ?_) #[true, true, true, true, false, false, false, false, false, false, false, false, false, false, false, false, false, false, false, false] rfl rfl (by kernel_rfl) (fun _ _ _ h => h) (Or.inl ⟨by rfl, ?_⟩) ?_ ?_; rotate_left; (intro w'; go_simp; with_reducible rfl); rotate_left; (simp only [Act.put, List.setIfInBounds_toArray, List.set_cons_zero, List.set_cons_succ, i64_w, i32_w]; rfl)); (refine pure_ (i := 4) (N := some 28) (v := ?_) (a' := ?_) #[true, true, true, true, true, false, false, false, false, false, false, false, false, false, false, false, false, false, false, false] rfl rfl (by kernel_rfl) (fun _ _ _ h => h) (Or.inl ⟨by rfl, ?_⟩) ?_ ?_; rotate_left; (intro w'; go_simp; with_reducible rfl); rotate_left; (simp only [Act.put, List.setIfInBounds_toArray, List.set_cons_zero, List.set_cons_succ, i64_w, i32_w]; rfl))
    (refine take_ (i := 5) (N := some 29) (v := ?_) (a' := ?_) #[true, true, true, true, true, true, false, false, false, false, false, false, false, false, false, false, false, false, false, false] rfl rfl (by kernel_rfl) (fun _ _ _ h => h) (Or.inl ⟨by rfl, ?_⟩) hHeld ?_ ?_; rotate_left; (rintro w' ⟨s0, s1, s2, s3⟩; go_simp; with_reducible rfl); rotate_left; (simp only [Act.put, List.setIfInBounds_toArray, List.set_cons_zero, List.set_cons_succ, i64_w, i32_w]; rfl))
    (refine pure_ (i := 6) (N := some 30) (v := ?_) (a' := ?_) #[true, true, true, true, true, true, true, false, false, false, false, false, false, false, false, false, false, false, false, false] rfl rfl (by kernel_rfl) (fun _ _ _ h => h) (Or.inl ⟨by rfl, ?_⟩) ?_ ?_; rotate_left; (intro w'; go_simp; with_reducible rfl); rotate_left; (simp only [Act.put, List.setIfInBounds_toArray, List.set_cons_zero, List.set_cons_succ, i64_w, i32_w]; rfl)); (refine pure_ (i := 7) (N := some 31) (v := ?_) (a' := ?_) #[true, true, true, true, true, true, true, true, false, false, false, false, false, false, false, false, false, false, false, false] rfl rfl (by kernel_rfl) (fun _ _ _ h => h) (Or.inl ⟨by rfl, ?_⟩) ?_ ?_; rotate_left; (intro w'; go_simp; with_reducible rfl); rotate_left; (simp only [Act.put, List.setIfInBounds_toArray, List.set_cons_zero, List.set_cons_succ, i64_w, i32_w]; rfl))
    (refine take_ (i := 8) (N := some 32) (v := ?_) (a' := ?_) #[true, true, true, true, true, true, true, true, true, false, false, false, false, false, false, false, false, false, false, false] rfl rfl (by kernel_rfl) (fun _ _ _ h => h) (Or.inl ⟨by rfl, ?_⟩) hHeld ?_ ?_; rotate_left; (rintro w' ⟨s0, s1, s2, s3⟩; go_simp; with_reducible rfl); rotate_left; (simp only [Act.put, List.setIfInBounds_toArray, List.set_cons_zero, List.set_cons_succ, i64_w, i32_w]; rfl))
    (refine pure_ (i := 9) (N := some 33) (v := ?_) (a' := ?_) #[true, true, true, true, true, true, true, true, true, true, false, false, false, false, false, false, false, false, false, false] rfl rfl (by kernel_rfl) (fun _ _ _ h => h) (Or.inl ⟨by rfl, ?_⟩) ?_ ?_; rotate_left; (intro w'; go_simp; with_reducible rfl); rotate_left; (simp only [Act.put, List.setIfInBounds_toArray, List.set_cons_zero, List.set_cons_succ, i64_w, i32_w]; rfl)); (refine pure_ (i := 10) (N := some 34) (v := ?_) (a' := ?_) #[true, true, true, true, true, true, true, true, true, true, true, false, false, false, false, false, false, false, false, false] rfl rfl (by kernel_rfl) (fun _ _ _ h => h) (Or.inl ⟨by rfl, ?_⟩) ?_ ?_; rotate_left; (intro w'; go_simp; with_reducible rfl); rotate_left; (simp only [Act.put, List.setIfInBounds_toArray, List.set_cons_zero, List.set_cons_succ, i64_w, i32_w]; rfl)); (refine pure_ (i := 11) (N := some 35) (v := ?_) (a' := ?_) #[true, true, true, true, true, true, true, true, true, true, true, true, false, false, false, false, false, false, false, false] rfl rfl (by kernel_rfl) (fun _ _ _ h => h) (Or.inl ⟨by rfl, ?_⟩) ?_ ?_; rotate_left; (intro w'; go_simp; with_reducible rfl); rotate_left; (simp only [Act.put, List.setIfInBounds_toArray, List.set_cons_zero, List.set_cons_succ, i64_w, i32_w]; rfl)); (refine pure_ (i := 12) (N := some 36) (v := ?_) (a' := ?_) #[true, true, true, true, true, true, true, true, true, true, true, true, true, false, false, false, false, false, false, false] rfl rfl (by kernel_rfl) (fun _ _ _ h => h) (Or.inl ⟨by rfl, ?_⟩) ?_ ?_; rotate_left; (intro w'; go_simp; with_reducible rfl); rotate_left; (simp only [Act.put, List.setIfInBounds_toArray, List.set_cons_zero, List.set_cons_succ, i64_w, i32_w]; rfl))
    (refine take_ (i := 13) (N := some 37) (v := ?_) (a' := ?_) #[true, true, true, true, true, true, true, true, true, true, true, true, true, true, false, false, false, false, false, false] rfl rfl (by kernel_rfl) (fun _ _ _ h => h) (Or.inl ⟨by rfl, ?_⟩) hHeld ?_ ?_; rotate_left; (rintro w' ⟨s0, s1, s2, s3⟩; go_simp; with_reducible rfl); rotate_left; (simp only [Act.put, List.setIfInBounds_toArray, List.set_cons_zero, List.set_cons_succ, i64_w, i32_w]; rfl))
    (refine pure_ (i := 14) (N := some 38) (v := ?_) (a' := ?_) #[true, true, true, true, true, true, true, true, true, true, true, true, true, true, true, false, false, false, false, false] rfl rfl (by kernel_rfl) (fun _ _ _ h => h) (Or.inl ⟨by rfl, ?_⟩) ?_ ?_; rotate_left; (intro w'; go_simp; with_reducible rfl); rotate_left; (simp only [Act.put, List.setIfInBounds_toArray, List.set_cons_zero, List.set_cons_succ, i64_w, i32_w]; rfl)); (refine pure_ (i := 15) (N := some 39) (v := ?_) (a' := ?_) #[true, true, true, true, true, true, true, true, true, true, true, true, true, true, true, true, false, false, false, false] rfl rfl (by kernel_rfl) (fun _ _ _ h => h) (Or.inl ⟨by rfl, ?_⟩) ?_ ?_; rotate_left; (intro w'; go_simp; with_reducible rfl); rotate_left; (simp only [Act.put, List.setIfInBounds_toArray, List.set_cons_zero, List.set_cons_succ, i64_w, i32_w]; rfl))
    (refine take_ (i := 16) (N := some 40) (v := ?_) (a' := ?_) #[true, true, true, true, true, true, true, true, true, true, true, true, true, true, true, true, true, false, false, false] rfl rfl (by kernel_rfl) (fun _ _ _ h => h) (Or.inl ⟨by rfl, ?_⟩) hHeld ?_ ?_; rotate_left; (rintro w' ⟨s0, s1, s2, s3⟩; go_simp; with_reducible rfl); rotate_left; (simp only [Act.put, List.setIfInBounds_toArray, List.set_cons_zero, List.set_cons_succ, i64_w, i32_w]; rfl))
    (refine pure_ (i := 17) (N := some 41) (v := ?_) (a' := ?_) #[true, true, true, true, true, true, true, true, true, true, true, true, true, true, true, true, true, true, false, false] rfl rfl (by kernel_rfl) (fun _ _ _ h => h) (Or.inl ⟨by rfl, ?_⟩) ?_ ?_; rotate_left; (intro w'; go_simp; with_reducible rfl); rotate_left; (simp only [Act.put, List.setIfInBounds_toArray, List.set_cons_zero, List.set_cons_succ, i64_w, i32_w]; rfl))
    have e0 := (blk_cell HG3.out 0).trans (show _ = some (.int .i64 0) from rfl)
    have e1 := (blk_cell HG3.out 1).trans (show _ = some (.int .u64 0) from rfl)
    have e2 := (blk_cell HG3.out 2).trans (show _ = some (.int .i64 0) from rfl)
    have f0 := blk_frozen HG3.out 0
    have f1 := blk_frozen HG3.out 1
    have f2 := blk_frozen HG3.out 2
    have HG9 := Aside0.mk (put3 (x := .int .i64 (i : Int)) (y := .int .u64 x) (z := .int .i64 y) HG3.out)
    have HB9 := Aside0.mk (below3 HB3.out HHW.out (.int .i64 (i : Int)) (.int .u64 x) (.int .i64 y))
    refine last_ (i := 18) (N := none) #[true, true, true, true, true, true, true, true, true, true, true, true, true, true, true, true, true, true, true, false] rfl rfl (by kernel_rfl) (by decide) (fun K hK => ?_)
    refine skip_ (w1 := ?_) (by rfl) rfl ?_ ?_
    rotate_left
    · go_simp
      rfl
    refine hK.out _ _ ?_
    clear hK K
    (refine pure_ (i := 19) (N := some 5) (v := ?_) (a' := ?_) #[true, true, true, true, true, true, true, true, true, true, true, true, true, true, true, true, true, true, true, true] rfl rfl (by kernel_rfl) (fun _ _ _ h => h) (Or.inl ⟨by rfl, ?_⟩) ?_ ?_; rotate_left; (intro w'; go_simp; with_reducible rfl); rotate_left; (simp only [Act.put, List.setIfInBounds_toArray, List.set_cons_zero, List.set_cons_succ, i64_w, i32_w]; rfl))
    refine done_ (by kernel_rfl) ?_
    go_wp2
    refine bodyPost_ret (results_ct rfl _ _ hh 57 #[.int .i64 (i : Int), .int .u64 x, .int .i64 y] (0, 0) _ rfl HG9.out huH rfl (by kernel_rfl)) rfl ?_
    exact ⟨_, _, _, _, rfl, HIT.out, HB9.out⟩
  · have HG9 := Aside0.mk (put3 (x := .int .i64 0) (y := .int .u64 0) (z := .int .i64 0) HGB.out)
    have HB9 := Aside0.mk (below3 HBB.out HHW.out (.int .i64 0) (.int .u64 0) (.int .i64 0))
    have HNO := Aside0.mk hno
    clear hno
    go_wp2
    refine bodyPost_ret (results_ct rfl _ _ hh 57 #[.int .i64 0, .int .u64 0, .int .i64 0] (0, 0) _ rfl HG9.out huH rfl (by kernel_rfl)) rfl ?_
    exact ⟨0, 0, 0, false, rfl, .inr ⟨rfl, rfl, rfl, rfl, HNO.out⟩, HB9.out⟩
/-- What stands at a place. -/
def AtR (l : List EnS) (n : Int) (s : ByteArray) (c : Int) (b : Bool) : Prop := (b = true ∧ ∃ i, ∃ hi : i < l.length, n = (i : Int) ∧ s = l[i].f0 ∧ c = l[i].f1) ∨ (b = false ∧ (n < 0 ∨ (l.length : Int) ≤ n) ∧ s = ⟨#[]⟩ ∧ c = 0)
end Go.Proofs.Ytgebhidpkcjpmaa.K

namespace Go.Proofs.Ytgebhidpkcjpmaa.K
open Go.RowKit Go.Proofs.YtgebhidpkcjpmaaW.PrintWords Go.Proofs.YtgebhidpkcjpmaaW.PrintLast Go.Proofs.YtgebhidpkcjpmaaW.PrintMore Go.Proofs.Ytgebhidpkcjpmaa
attribute [local go_sem] max2_int min2_int max_two min_two max_three min_three max_four min_four
set_option linter.unusedVariables false
set_option linter.unusedSimpArgs false
open Go Go.Proofs.Ytgebhidpkcjpmaa.PR13 Go.Proofs.Ytgebhidpkcjpmaa.PDk Go.Proofs.Ytgebhidpkcjpmaa.PDm Go.Proofs.Ytgebhidpkcjpmaa.PIx Go.Proofs.Ytgebhidpkcjpmaa.PFl Go.Proofs.Ytgebhidpkcjpmaa.PLg Go.Proofs.Ytgebhidpkcjpmaa.PFg Go.Proofs.Ytgebhidpkcjpmaa.PMk Go.Proofs.Ytgebhidpkcjpmaa.PEn Go.Proofs.Ytgebhidpkcjpmaa.Daw Go.Proofs.Ytgebhidpkcjpmaa.Fil Go.Proofs.Ytgebhidpkcjpmaa.Crc
/-- An opened dictionary, its values told. -/
def Opn (l : List EnS) (W : World) (base g : Nat) : Prop := ∃ (A0 A1 A2 : Option Addr) (c0 c1 c2 : Nat), DX l W base g (.slice A0 (build (wordsN (Wl l))).length c0) (.slice A1 (Cl l).length c1) (.slice A2 (classesL l).length c2)
theorem Opn.below {l : List EnS} {W W' : World} {base g : Nat} (h : Opn l W base g) (hb : Below W.heap.size W W') : Opn l W' base g := by
  obtain ⟨A0, A1, A2, c0, c1, c2, h⟩ := h
  exact ⟨A0, A1, A2, c0, c1, c2, h.below hb⟩
theorem Opn.lower {l : List EnS} {W : World} {base base' g : Nat} (h : Opn l W base g) (hb : base' ≤ base) : Opn l W base' g := by
  obtain ⟨A0, A1, A2, c0, c1, c2, h1, h2, h3, h4⟩ := h
  exact ⟨A0, A1, A2, c0, c1, c2, h1, Kd.S_lower h2 hb, Kd.R_lower h3 hb, Kd.R_lower h4 hb⟩
set_option maxHeartbeats 8000000 in
set_option maxRecDepth 100000 in
theorem open_k {l : List EnS} (h : Ents l) (hb : bytesAll (Wl l) ≤ 149000) (A : Option Addr) (c : Nat) (W : World) (hC : Kd.C (Kd.int .u8) W A (zs (dictB l)).length (zs (dictB l))) (hc : (zs (dictB l)).length ≤ c) :
    Calls Try.prog 52 #[.slice A (zs (dictB l)).length c] W fun e w' => ∃ g, e = .returned (.tuple #[.pointer (some ⟨g, 0, none⟩), .int .i64 0]) ∧ Opn l w' W.heap.size g ∧ Below W.heap.size W w' := by
  have huD := Try.underlying29
  have huX := Try.underlying103
  have HDEC := Aside0.mk (decode_ents (dec_back h hb) A c W hC hc)
  clear hC hc
  go_enter Try.func52, Try.ntmps52
  go_wp2_with (first | (go_at_call 24; (with_reducible refine (HDEC.out).mono ?_)))
  rintro x wA ⟨v0, v1, v2, rfl, hS, hR1, hR2, hb1⟩
  obtain ⟨D0, d0, rfl⟩ := Kd.S_slice hS
  obtain ⟨D1, d1, rfl⟩ := Kd.R_slice hR1
  obtain ⟨D2, d2, rfl⟩ := Kd.R_slice hR2
  have hn0 : ((build (wordsN (Wl l))).map toS).length = (build (wordsN (Wl l))).length := List.length_map _
  rw [hn0] at hS ⊢
  clear hn0
  have hbB : Below wA.heap.size wA (wA.alloc (.cells #[.slice D0 (build (wordsN (Wl l))).length d0, .slice D1 (Cl l).length d1, .slice D2 (classesL l).length d2] 29 (0, 0))) := below_alloc (Below.refl _ _) _
  have hbC : Below wA.heap.size wA ((wA.alloc (.cells #[.slice D0 (build (wordsN (Wl l))).length d0, .slice D1 (Cl l).length d1, .slice D2 (classesL l).length d2] 29 (0, 0))).alloc (.cells #[.slice D0 (build (wordsN (Wl l))).length d0, .slice D1 (Cl l).length d1, .slice D2 (classesL l).length d2] 103 (0, 0))) := below_alloc hbB _
  have HOP := Aside0.mk (show Opn l ((wA.alloc (.cells #[.slice D0 (build (wordsN (Wl l))).length d0, .slice D1 (Cl l).length d1, .slice D2 (classesL l).length d2] 29 (0, 0))).alloc (.cells #[.slice D0 (build (wordsN (Wl l))).length d0, .slice D1 (Cl l).length d1, .slice D2 (classesL l).length d2] 103 (0, 0))) W.heap.size (wA.heap.size + 1) from ⟨D0, D1, D2, d0, d1, d2, heap_alloc2_new wA _ _, Kd.S_below hS hbC, Kd.R_below hR1 hbC, Kd.R_below hR2 hbC⟩)
  have HBC := Aside0.mk (hb1.trans (hbC.mono hb1.size))
  clear hS hR1 hR2 hb1 hbB hbC HDEC
  go_wp2
  go_ret2
  exact ⟨_, rfl, HOP.out, HBC.out⟩
set_option maxHeartbeats 8000000 in
set_option maxRecDepth 100000 in
theorem opened_k {l : List EnS} (h : Ents l) (hb : bytesAll (Wl l) ≤ 149000) (A : Option Addr) (c : Nat) (W : World) (hC : Kd.C k49 W A l.length l) (hc : l.length ≤ c) :
    Calls Try.prog 27 #[.slice A l.length c] W fun e w' => ∃ g, e = .returned (.pointer (some ⟨g, 0, none⟩)) ∧ Opn l w' W.heap.size g ∧ Below W.heap.size W w' := by
  have huD := Try.underlying29
  have HMK := Aside0.mk (make_k h A c W hC hc)
  clear hC hc
  go_enter Try.func27, Try.ntmps27
  go_wp2_with (first | (go_at_call 14; (with_reducible refine (HMK.out).mono ?_)))
  rintro x wD ⟨v0, v1, v2, rfl, hS, hR1, hR2, hb1⟩
  obtain ⟨D0, d0, rfl⟩ := Kd.S_slice hS
  obtain ⟨D1, d1, rfl⟩ := Kd.R_slice hR1
  obtain ⟨D2, d2, rfl⟩ := Kd.R_slice hR2
  have hn0 : ((build (wordsN (Wl l))).map toS).length = (build (wordsN (Wl l))).length := List.length_map _
  rw [hn0] at hS ⊢
  clear hn0
  obtain ⟨gd, hgd⟩ : ∃ g, g = wD.heap.size := ⟨_, rfl⟩
  obtain ⟨wE, hwE⟩ : ∃ wE, wE = wD.alloc (.cells #[.slice D0 (build (wordsN (Wl l))).length d0, .slice D1 (Cl l).length d1, .slice D2 (classesL l).length d2] 29 (0, 0)) := ⟨_, rfl⟩
  have hbE : Below wD.heap.size wD wE := by rw [hwE]; exact below_alloc (Below.refl _ _) _
  have hD : DB l wE W.heap.size gd (.slice D0 (build (wordsN (Wl l))).length d0) (.slice D1 (Cl l).length d1) (.slice D2 (classesL l).length d2) := by
    refine ⟨?_, Kd.S_below hS hbE, Kd.R_below hR1 hbE, Kd.R_below hR2 hbE⟩
    rw [hwE, hgd]; exact heap_alloc_new wD _
  have HBE := Aside0.mk (hb1.trans (hbE.mono hb1.size))
  have HENC := Aside0.mk (DB.encode h hb hD)
  have HWE := Aside0.mk hwE
  have HGD := Aside0.mk hgd
  clear hS hR1 hR2 hb1 hwE hgd hbE hD HMK
  go_wp2_with (first | (go_at_call 16; rw [← HWE.out, ← HGD.out]; (with_reducible refine (HENC.out).mono ?_)))
  rintro x wF ⟨vB, rfl, hRB, hb1⟩
  have HBF := Aside0.mk (HBE.out.trans (hb1.mono HBE.out.size))
  obtain ⟨GB, cB, rfl⟩ := Kd.R_slice hRB
  have HOPN := Aside0.mk (open_k h hb GB cB wF (Kd.R_reads' hRB).2.2 (Kd.R_reads' hRB).2.1)
  clear hRB hb1 HENC HBE HWE HGD
  go_wp2_with (first | (go_at_call 52; (with_reducible refine (HOPN.out).mono ?_)))
  rintro x wG ⟨g, rfl, hO, hb1⟩
  have HO := Aside0.mk (hO.lower HBF.out.size)
  have HBG := Aside0.mk (HBF.out.trans (hb1.mono HBF.out.size))
  clear hO hb1 HOPN HBF
  go_wp2
  go_ret
  exact ⟨g, rfl, HO.out, HBG.out⟩
end Go.Proofs.Ytgebhidpkcjpmaa.K

namespace Go.Proofs.Ytgebhidpkcjpmaa.PFw17
open Go.RowKit Go.Proofs.YtgebhidpkcjpmaaW.PrintWords Go.Proofs.YtgebhidpkcjpmaaW.PrintLast Go.Proofs.YtgebhidpkcjpmaaW.PrintMore Go.Proofs.Ytgebhidpkcjpmaa.K Go.Proofs.Ytgebhidpkcjpmaa.PDk Go.Proofs.Ytgebhidpkcjpmaa.PDm Go.Proofs.Ytgebhidpkcjpmaa.PEn Go.Proofs.Ytgebhidpkcjpmaa.PFl Go.Proofs.Ytgebhidpkcjpmaa.PIx Go.Proofs.Ytgebhidpkcjpmaa.PLg Go.Proofs.Ytgebhidpkcjpmaa.PMk Go.Proofs.Ytgebhidpkcjpmaa.PR13
attribute [local go_sem] max2_int min2_int max_two min_two max_three min_three max_four min_four   -- for this text's walks alone
set_option linter.unusedVariables false
set_option linter.unusedSimpArgs false



def errW : Option Int → Value
  | none => .nilIface
  | some c => .iface 0 (.int .i64 c)
theorem errW_none : errW none = .nilIface := rfl
theorem errW_some (c : Int) : errW (some c) = .iface 0 (.int .i64 c) := rfl

end Go.Proofs.Ytgebhidpkcjpmaa.PFw17

namespace Go.Proofs.Ytgebhidpkcjpmaa.PFw17
open Go.RowKit Go.Proofs.YtgebhidpkcjpmaaW.PrintWords Go.Proofs.YtgebhidpkcjpmaaW.PrintLast Go.Proofs.YtgebhidpkcjpmaaW.PrintMore Go.Proofs.Ytgebhidpkcjpmaa.K Go.Proofs.Ytgebhidpkcjpmaa.PDk Go.Proofs.Ytgebhidpkcjpmaa.PDm Go.Proofs.Ytgebhidpkcjpmaa.PEn Go.Proofs.Ytgebhidpkcjpmaa.PFl Go.Proofs.Ytgebhidpkcjpmaa.PIx Go.Proofs.Ytgebhidpkcjpmaa.PLg Go.Proofs.Ytgebhidpkcjpmaa.PMk Go.Proofs.Ytgebhidpkcjpmaa.PR13
attribute [local go_sem] max2_int min2_int max_two min_two max_three min_three max_four min_four   -- for this text's walks alone
set_option linter.unusedVariables false
set_option linter.unusedSimpArgs false

mutual
def manteletlaw17_few.l0 : Nat → List (S49) → Int → Option (Bool)
  | 0, _, _ => none
  | k + 1, x0, x3 => if x3 < (x0.length : Int) then (manteletlaw17_few.j1 k x0 x3 (decide (x3 < 61))) else (manteletlaw17_few.j1 k x0 x3 false)
def manteletlaw17_few.j1 : Nat → List (S49) → Int → Bool → Option (Bool)
  | 0, _, _, _ => none
  | k + 1, x0, x3, x11 => if x11 = true then (if 0 ≤ x3 then (if x3 < (x0.length : Int) then (if (((rd_T49 x0 x3).f0).size : Int) > 300 then (some false) else (manteletlaw17_few.l0 k x0 (wrap64 (x3 + 1)))) else (none)) else (none)) else (some (decide ((x0.length : Int) ≤ 60)))
end
def manteletlaw17_few.f (k : Nat) (l0 : List (S49)) : Option (Bool) := manteletlaw17_few.l0 k l0 0
end Go.Proofs.Ytgebhidpkcjpmaa.PFw17

namespace Go.Proofs.Ytgebhidpkcjpmaa.PFw17
open Go.RowKit Go.Proofs.YtgebhidpkcjpmaaW.PrintWords Go.Proofs.YtgebhidpkcjpmaaW.PrintLast Go.Proofs.YtgebhidpkcjpmaaW.PrintMore Go.Proofs.Ytgebhidpkcjpmaa.K Go.Proofs.Ytgebhidpkcjpmaa.PDk Go.Proofs.Ytgebhidpkcjpmaa.PDm Go.Proofs.Ytgebhidpkcjpmaa.PEn Go.Proofs.Ytgebhidpkcjpmaa.PFl Go.Proofs.Ytgebhidpkcjpmaa.PIx Go.Proofs.Ytgebhidpkcjpmaa.PLg Go.Proofs.Ytgebhidpkcjpmaa.PMk Go.Proofs.Ytgebhidpkcjpmaa.PR13
attribute [local go_sem] max2_int min2_int max_two min_two max_three min_three max_four min_four   -- for this text's walks alone
set_option linter.unusedVariables false
set_option linter.unusedSimpArgs false

end Go.Proofs.Ytgebhidpkcjpmaa.PFw17

namespace Go.Proofs.Ytgebhidpkcjpmaa.K
open Go.RowKit Go.Proofs.YtgebhidpkcjpmaaW.PrintWords Go.Proofs.YtgebhidpkcjpmaaW.PrintLast Go.Proofs.YtgebhidpkcjpmaaW.PrintMore Go.Proofs.Ytgebhidpkcjpmaa
attribute [local go_sem] max2_int min2_int max_two min_two max_three min_three max_four min_four
set_option linter.unusedVariables false
set_option linter.unusedSimpArgs false
open Go Go.Proofs.Ytgebhidpkcjpmaa.PR13 Go.Proofs.Ytgebhidpkcjpmaa.PDk Go.Proofs.Ytgebhidpkcjpmaa.PDm Go.Proofs.Ytgebhidpkcjpmaa.PIx Go.Proofs.Ytgebhidpkcjpmaa.PFl Go.Proofs.Ytgebhidpkcjpmaa.PLg Go.Proofs.Ytgebhidpkcjpmaa.PMk Go.Proofs.Ytgebhidpkcjpmaa.PEn Go.Proofs.Ytgebhidpkcjpmaa.PSh16 Go.Proofs.Ytgebhidpkcjpmaa.Daw Go.Proofs.Ytgebhidpkcjpmaa.Fil Go.Proofs.Ytgebhidpkcjpmaa.Crc
end Go.Proofs.Ytgebhidpkcjpmaa.K

namespace Go.Proofs.Ytgebhidpkcjpmaa.K
open Go.RowKit Go.Proofs.YtgebhidpkcjpmaaW.PrintWords Go.Proofs.YtgebhidpkcjpmaaW.PrintLast Go.Proofs.YtgebhidpkcjpmaaW.PrintMore Go.Proofs.Ytgebhidpkcjpmaa
attribute [local go_sem] max2_int min2_int max_two min_two max_three min_three max_four min_four
set_option linter.unusedVariables false
set_option linter.unusedSimpArgs false
open Go Go.Proofs.Ytgebhidpkcjpmaa.PR13 Go.Proofs.Ytgebhidpkcjpmaa.PDk Go.Proofs.Ytgebhidpkcjpmaa.PDm Go.Proofs.Ytgebhidpkcjpmaa.PIx Go.Proofs.Ytgebhidpkcjpmaa.PFl Go.Proofs.Ytgebhidpkcjpmaa.PLg Go.Proofs.Ytgebhidpkcjpmaa.PFg Go.Proofs.Ytgebhidpkcjpmaa.PMk Go.Proofs.Ytgebhidpkcjpmaa.PEn Go.Proofs.Ytgebhidpkcjpmaa.PFw17 Go.Proofs.Ytgebhidpkcjpmaa.Daw Go.Proofs.Ytgebhidpkcjpmaa.Fil Go.Proofs.Ytgebhidpkcjpmaa.Crc
def xs17 : List EnS := [⟨(⟨#[97, 98]⟩ : ByteArray), 300⟩, ⟨(⟨#[99, 98]⟩ : ByteArray), 7⟩]
theorem ents17 : Ents xs17 := by
  refine ⟨fun x hx => ?_, by decide, by decide⟩
  unfold xs17 at hx
  rcases List.mem_cons.1 hx with rfl | hx
  · decide
  · rw [List.mem_singleton.1 hx]; decide
theorem hit17 {n c k : Int} {b : Bool} (h : HitR xs17 (⟨#[99, 98]⟩ : ByteArray) n c k b) : b = true ∧ n = 1 ∧ c = 7 ∧ k = 1 := by
  rcases h with ⟨rfl, i, hi, e, rfl, rfl, rfl⟩ | ⟨_, _, _, _, hno⟩
  · have : i = 0 ∨ i = 1 := by have : i < 2 := hi; omega
    rcases this with rfl | rfl
    · exact absurd (show (⟨#[97, 98]⟩ : ByteArray) = ⟨#[99, 98]⟩ from e) (by decide)
    · exact ⟨rfl, rfl, rfl, by decide⟩
  · exact absurd rfl (hno ⟨(⟨#[99, 98]⟩ : ByteArray), 7⟩ (by unfold xs17; simp))
set_option maxHeartbeats 8000000 in
set_option maxRecDepth 100000 in
theorem shown17_k (w : World) : Calls Try.prog 25 #[] w fun e w' => e = .returned (.bool true) ∧ Below w.heap.size w w' := by
  have huH := Try.underlying57
  go_enter Try.func25, Try.ntmps25
  go_wp2_with (first | ((with_reducible refine gate_dst (N := 6) rfl ?_); refine Kd.R_lit k49 (w0 := w) w.heap.size 49 ?hg (N := 6) ?hd (xs := xs17) (inner := [.string (⟨#[97, 98]⟩ : ByteArray), .int .u64 300, .string (⟨#[99, 98]⟩ : ByteArray), .int .u64 7]) (ok := fun _ => True) (okp := fun _ => True) ?hr ?hp (fun _ hk => hk) trivial (Below.refl _ _) (Nat.le_refl _) (by decide) ?_; (case hd => rfl); (case hg => rfl); (case hr => first | (go_simp; done) | (go_simp; rfl)); (case hp => exact (Reps.c2 (k49_mkM _ _ _ (⟨(⟨#[97, 98]⟩ : ByteArray), 300⟩ : EnS)) (Reps.c2 (k49_mkM _ _ _ (⟨(⟨#[99, 98]⟩ : ByteArray), 7⟩ : EnS)) (Reps.none _ _))))))
  intro y1 w1 hY1 hb1 _ _ _ _
  obtain ⟨Y1, s1, rfl⟩ := Kd.R_slice hY1
  have hM := opened_k ents17 (by decide) Y1 s1 w1 (Kd.R_reads' hY1).2.2 (Kd.R_reads' hY1).2.1
  rw [show xs17.length = 2 from rfl] at hM ⊢
  have HM := Aside0.mk hM
  have HB1 := Aside0.mk hb1
  clear hM hY1 hb1
  go_wp2_with (first | (go_at_call 27; (with_reducible refine (HM.out).mono ?_)))
  rintro x w2 ⟨g, rfl, hO, hb⟩
  have HB2 := Aside0.mk (HB1.out.trans (hb.mono HB1.out.size))
  have HO := Aside0.mk hO
  obtain ⟨A0, A1, A2, c0, c1, c2, hD⟩ := hO
  have HF := Aside0.mk (find_k ents17 hD (⟨#[99, 98]⟩ : ByteArray) (by decide))
  clear hD hb HM HB1
  go_wp2_with (first | (go_at_call 28; (with_reducible refine (HF.out).mono ?_)))
  rintro x w3 ⟨n, c, k, b, rfl, hH, hb⟩
  obtain ⟨rfl, rfl, rfl, rfl⟩ := hit17 hH
  obtain ⟨gh, hgh⟩ : ∃ g, g = w3.heap.size := ⟨_, rfl⟩
  obtain ⟨w4, hw4⟩ : ∃ w4, w4 = w3.alloc (.cells #[.int .i64 1, .int .u64 7, .int .i64 1] 57 (0, 0)) := ⟨_, rfl⟩
  have hb4 : Below w3.heap.size w3 w4 := by rw [hw4]; exact below_alloc (Below.refl _ _) _
  have HB4 := Aside0.mk (HB2.out.trans ((hb.mono HB2.out.size).trans (hb4.mono (Nat.le_trans HB2.out.size hb.size))))
  obtain ⟨B0, B1, B2, e0, e1, e2, hD4⟩ := (HO.out.below hb).below hb4
  have HL := Aside0.mk (dlen_k hD4)
  have HW4 := Aside0.mk hw4
  clear hH hb hgh hw4 hb4 hD4 HO HF HB2
  go_wp2_with (first | (go_at_call 29; rw [← HW4.out]; (with_reducible refine (HL.out).mono ?_)))
  rintro x w5 ⟨rfl, hb⟩
  have HB5 := Aside0.mk (HB4.out.trans (hb.mono HB4.out.size))
  clear hb HL HB4 HW4
  go_wp2
  go_ret
  exact ⟨by first | rfl | simp | (simp; decide), HB5.out⟩
end Go.Proofs.Ytgebhidpkcjpmaa.K

namespace Go.Proofs.Ytgebhidpkcjpmaa.K
open Go.RowKit Go.Proofs.YtgebhidpkcjpmaaW.PrintWords Go.Proofs.YtgebhidpkcjpmaaW.PrintLast Go.Proofs.YtgebhidpkcjpmaaW.PrintMore Go.Proofs.Ytgebhidpkcjpmaa
attribute [local go_sem] max2_int min2_int max_two min_two max_three min_three max_four min_four
set_option linter.unusedVariables false
set_option linter.unusedSimpArgs false
open Go Go.Proofs.Ytgebhidpkcjpmaa.PR13 Go.Proofs.Ytgebhidpkcjpmaa.PDk Go.Proofs.Ytgebhidpkcjpmaa.PDm Go.Proofs.Ytgebhidpkcjpmaa.PIx Go.Proofs.Ytgebhidpkcjpmaa.PFl Go.Proofs.Ytgebhidpkcjpmaa.PLg Go.Proofs.Ytgebhidpkcjpmaa.PFg Go.Proofs.Ytgebhidpkcjpmaa.PMk Go.Proofs.Ytgebhidpkcjpmaa.PEn Go.Proofs.Ytgebhidpkcjpmaa.PFw17 Go.Proofs.Ytgebhidpkcjpmaa.Daw Go.Proofs.Ytgebhidpkcjpmaa.Fil Go.Proofs.Ytgebhidpkcjpmaa.Crc
set_option maxHeartbeats 8000000 in
set_option maxRecDepth 100000 in
theorem DictNobody_walk (a0 : ByteArray) (a1 : Int) (w : World) (w0 : a0.size ≤ 140737488351232) (w1 : (Lit.int .i64 a1).wf = true) :
    Calls Try.prog 10 #[.string a0, .int .i64 a1] w fun e w' => e = .returned (.bool true) ∧ Below w.heap.size w w' := by
  clear w0 w1
  have huH := Try.underlying57
  have huE := Try.underlying49
  have HSH := Aside0.mk (shown17_k w)
  go_enter Try.func10, Try.ntmps10
  go_wp2_with (first | (go_at_call 25; (with_reducible refine (HSH.out).mono ?_)))
  rintro x wA ⟨rfl, hb⟩
  have HBA := Aside0.mk hb
  clear hb HSH
  have HF := Aside0.mk (find_nil a0 wA)
  go_wp2_with (first | (go_at_call 28; (with_reducible refine (HF.out).mono ?_)))
  rintro x wB ⟨rfl, hb⟩
  obtain ⟨wC, hwC⟩ : ∃ wC, wC = wB.alloc (.cells #[.int .i64 0, .int .u64 0, .int .i64 0] 57 (0, 0)) := ⟨_, rfl⟩
  have hbC : Below wB.heap.size wB wC := by rw [hwC]; exact below_alloc (Below.refl _ _) _
  have HBC := Aside0.mk (HBA.out.trans ((hb.mono HBA.out.size).trans (hbC.mono (Nat.le_trans HBA.out.size hb.size))))
  have HAT := Aside0.mk (at_nil a1 wC)
  have HWC := Aside0.mk hwC
  clear hb hwC hbC HF HBA
  go_wp2_with (first | (go_at_call 30; rw [← HWC.out]; (with_reducible refine (HAT.out).mono ?_)))
  rintro x wD ⟨rfl, hb⟩
  obtain ⟨wE, hwE⟩ : ∃ wE, wE = wD.alloc (.cells #[.string ⟨#[]⟩, .int .u64 0] 49 (0, 0)) := ⟨_, rfl⟩
  have hbE : Below wD.heap.size wD wE := by rw [hwE]; exact below_alloc (Below.refl _ _) _
  have HBE := Aside0.mk (HBC.out.trans ((hb.mono HBC.out.size).trans (hbE.mono (Nat.le_trans HBC.out.size hb.size))))
  have HL := Aside0.mk (len_nil wE)
  have HWE := Aside0.mk hwE
  clear hb hwE hbE HAT HBC HWC
  go_wp2_with (first | (go_at_call 29; rw [← HWE.out]; (with_reducible refine (HL.out).mono ?_)))
  rintro x wF ⟨rfl, hb⟩
  have HBF := Aside0.mk (HBE.out.trans (hb.mono HBE.out.size))
  clear hb HL HBE HWE
  go_wp2
  go_ret
  exact ⟨by first | rfl | simp | (simp; decide), HBF.out⟩
end Go.Proofs.Ytgebhidpkcjpmaa.K

namespace Go.Proofs.Ytgebhidpkcjpmaa.dictNobody
open Go.ChangeShapes Go.WideShapes Go.ChangeAt Go.RowKit
open Go.ChangeMaps (open_string shut_string)
set_option linter.unusedVariables false
theorem own : ownKnob Try.prog.godebug = none := by kernel_rfl
set_option maxRecDepth 100000 in
theorem lifted (os : Os) (started : os.Started) (H : Type) (enc : TypeId × Value → H) :
    ReturnsInHanded {} Try.checked os 10 .any (Rows.dictNobodySpec.pre6 enc Try.prog Try.f10 Rows.dictNobodyRow.domain false) (Rows.dictNobodySpec.post enc Try.prog Try.f10 false true false false) := by
  refine returnsInHanded_of_change_sized (C := Try.checked) own started (by kernel_rfl) Try.func10
    (ChangeSpec.witness6 (enc := enc) (C := Try.checked) false ⟨#[], #[.string ByteArray.empty, .int .i64 0], []⟩ 8 (by kernel_rfl) (by kernel_rfl) (by kernel_rfl) (by kernel_rfl)) ?_
  intro W base args ds gs before hval0 hW hcnd hsz0 _
  have hsz : (DataW.weightsEach Try.prog (Try.f10.params.toList ++ Rows.dictNobodySpec.plain.varTypes Try.prog) (ds ++ gs)).all (· ≤ reachBytes) = true := hsz0
  have hval : ∀ (j : Nat) t v, Try.f10.params[j]? = some t → args[j]? = some v → Value.okWide Try.prog W .any base t v := hval0
  have hW' := hW
  obtain ⟨p, q, hA0, hV, rfl, hfz, hnd⟩ := hW
  have hA : DataW.TrodAll enc Try.prog W 0 (fun _ => true) true Try.f10.params.toList args.toList ds p := hA0
  rw [Try.params10] at hA hval hsz
  obtain ⟨v0, vs0, d0, ds0, p0, q0, hargs, rfl, rfl, h0, r0⟩ := trodAll_cons hA
  obtain ⟨v1, vs1, d1, ds1, p1, q1, rfl, rfl, rfl, h1, r1⟩ := trodAll_cons r0
  obtain ⟨rfl, rfl, rfl⟩ := trodAll_nil r1
  obtain rfl : args = #[v0, v1] := by cases args; simp_all
  obtain ⟨rfl, rfl⟩ := trodVars_none hV
  obtain ⟨a0, rfl, rfl, rfl, y0⟩ := open_string Try.underlying9 (hval 0 9 v0 rfl rfl) h0
  have w0 : a0.size ≤ 140737488351232 := by
    have z := sized_string hsz (j := 0) (t := 9) rfl rfl
    rw [Array.length_toList] at z
    exact z
  obtain ⟨a1, rfl, rfl, rfl, w1⟩ := open_int Try.underlying3 (hval 1 3 v1 rfl rfl) h1
  clear hA0 hval0 hsz0 hsz
  refine (K.DictNobody_walk a0 a1 W w0 w1).mono fun e W' ⟨he, bel⟩ => ?_
  subst he
  exact ⟨_, rfl, _, _, _, [], _, [], hW', trodAll_mk1 (shut_bool Try.underlying4 _), (trodAll_cons_mk (shut_string Try.underlying9 y0) (trodAll_cons_mk (shut_int Try.underlying3 w1) trodAll_mk0)), rfl, bel.frame _, fun h => by cases h⟩
theorem over : Rows.dictNobodyRow.holds Try.pinned (OpenSpec.ofChange Rows.dictNobodySpec) :=
  OpenClaim.holds_of_wide 10 Try.f10 rfl rfl rfl rfl rfl rfl rfl ⟨rfl, rfl, rfl, rfl, rfl⟩ rfl rfl rfl rfl rfl (by kernel_rfl) Try.func10 (by kernel_rfl)
    (of_decide_eq_true (by kernel_rfl)) (by unfold Func.isWrapper; first | (rw [if_pos (by decide +kernel)]; kernel_rfl) | (rw [if_neg (by decide +kernel)]; exact ⟨rfl, rfl⟩))
    (fun os started H enc _ => lifted os started H enc)
theorem proved : Rows.DictNobodySaid := over
#print axioms proved
end Go.Proofs.Ytgebhidpkcjpmaa.dictNobody
namespace Go.Proofs.Ytgebhidpkcjpmaa
/-- The row, under a short name, for the claim. -/
theorem dictNobody_holds : Rows.DictNobodySaid := dictNobody.proved
end Go.Proofs.Ytgebhidpkcjpmaa

