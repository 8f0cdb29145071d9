/- FileBack. (The texts that the proof is made of, one behind the other: part 18 of 18.) -/
import Derived.Laws.EntriesVeiled
import Derived.Laws.ResultCell
import Derived.Test.YtgebhidpkcjpmaaProg
import Derived.Below
import Derived.Deep.Draws
import Derived.Deep.AppendLies
import Derived.Maps.AppendAt
import Derived.OwnWalk
import Derived.Laws.BytesArg
import Derived.Laws.MakeOwn
import Derived.Laws.OwnMore
import Derived.Deep.OwnRows
import Derived.Tactics
import Derived.Lib.ConvBytes
import Derived.Laws.Slices
import Derived.WalkKit
import Derived.KernelRfl
import Derived.RowKit3
import Derived.Deep.LoopGhost
import Derived.Deep.QuietTactic
import Derived.BigQuiet
import Derived.WideLaws
import Derived.Deep.DeepCutAuto
import Derived.Deep.CutBlock
import Derived.Deep.RegionHeld3
import Derived.Laws.Rows
import Derived.Lib.AppendStr
import Derived.ArgAppend
import Derived.Laws.IdiomCopy
import Derived.OrdersHeld
import Derived.Laws.BitsLemmas
import Derived.RowKit
import Derived.Lib.OthersKept
import Derived.WalkSmall
import Derived.Deep.RegionLaw
import Derived.BigRegion
import Derived.Laws.BitsAllLaws
import Derived.Deep.Matrix
import Derived.SliceStrings
import Derived.Test.YtgebhidpkcjpmaaRows
import Derived.Deep.SlicePairs
import Derived.ProofKit
import Derived.OpenShut
import Derived.ShutString
import Derived.ChangeOld
import Derived.SizedLaws
import Derived.Test.YtgebhidpkcjpmaaZFileBacka
import Derived.Test.YtgebhidpkcjpmaaZFileBackb
import Derived.Test.YtgebhidpkcjpmaaZFileBackc
import Derived.Test.YtgebhidpkcjpmaaZFileBackd
import Derived.Test.YtgebhidpkcjpmaaZFileBacke
import Derived.Test.YtgebhidpkcjpmaaZFileBackf
import Derived.Test.YtgebhidpkcjpmaaZFileBackg
import Derived.Test.YtgebhidpkcjpmaaZFileBackh
import Derived.Test.YtgebhidpkcjpmaaZFileBacki
import Derived.Test.YtgebhidpkcjpmaaZFileBackj
import Derived.Test.YtgebhidpkcjpmaaZFileBackk
import Derived.Test.YtgebhidpkcjpmaaZFileBackl
import Derived.Test.YtgebhidpkcjpmaaZFileBackm
import Derived.Test.YtgebhidpkcjpmaaZFileBackn
import Derived.Test.YtgebhidpkcjpmaaZFileBacko
import Derived.Test.YtgebhidpkcjpmaaZFileBackp
import Derived.Test.YtgebhidpkcjpmaaZFileBackq
namespace Go.Proofs.Ytgebhidpkcjpmaa.K
open Go.RowKit Go.Proofs.YtgebhidpkcjpmaaW.PrintWords Go.Proofs.YtgebhidpkcjpmaaW.PrintLast Go.Proofs.YtgebhidpkcjpmaaW.PrintMore Go.Proofs.Ytgebhidpkcjpmaa
attribute [local go_sem] max2_int min2_int max_two min_two max_three min_three max_four min_four
set_option linter.unusedVariables false
set_option linter.unusedSimpArgs false
open Go Go.Proofs.Ytgebhidpkcjpmaa.PR13 Go.Proofs.Ytgebhidpkcjpmaa.PDk Go.Proofs.Ytgebhidpkcjpmaa.PDm Go.Proofs.Ytgebhidpkcjpmaa.PIx Go.Proofs.Ytgebhidpkcjpmaa.PFl Go.Proofs.Ytgebhidpkcjpmaa.PLg Go.Proofs.Ytgebhidpkcjpmaa.PFg Go.Proofs.Ytgebhidpkcjpmaa.PMk Go.Proofs.Ytgebhidpkcjpmaa.PEn Go.Proofs.Ytgebhidpkcjpmaa.Daw Go.Proofs.Ytgebhidpkcjpmaa.Fil Go.Proofs.Ytgebhidpkcjpmaa.Crc
theorem few16_k (l : List EnS) : ∃ b, (b = true → l.length ≤ 60 ∧ ∀ x ∈ l, x.f0.size ≤ 300) ∧ ∀ (A : Option Addr) (c : Nat) (w : World), Kd.C k49 w A l.length l → l.length ≤ c → Calls Try.prog 13 #[.slice A l.length c] w fun e w' => e = .returned (.bool b) ∧ Below w.heap.size w w' := by
  obtain ⟨b, h1, h2⟩ := few16 l
  obtain ⟨k, hk⟩ := Ev.rounds h1
  refine ⟨b, h2, fun A c w hC hc => (manteletlaw16_few.calls k A c l b w hC hc hk).mono ?_⟩
  rintro e w' ⟨rfl, hD⟩
  exact ⟨rfl, hD.below⟩
theorem may09_k (l : List EnS) (A : Option Addr) (c : Nat) (w : World) (hC : Kd.C k49 w A l.length l) (hc : l.length ≤ c) : Calls Try.prog 23 #[.slice A l.length c] w fun e w' => e = .returned (.int .i64 (mayR l)) ∧ Below w.heap.size w w' :=
  manteletref09_May.calls A c l _ w hC hc rfl
def MadeQ (l : List EnS) (w : World) (e : Ending) (w' : World) : Prop := ∃ v0 v1 v2 : Value, e = .returned (.tuple #[.agg #[v0, v1, v2], .int .i64 0]) ∧ Kd.S k82 82 w' w.heap.size (fun _ => True) v0 ((build (wordsN (Wl l))).map toS) ∧ Kd.R (Kd.int .u64) 47 w' w.heap.size (fun _ => True) v1 (Cl l) ∧ Kd.R (Kd.int .i64) 3 w' w.heap.size (fun _ => True) v2 (classesL l) ∧ Below w.heap.size w w'
theorem make_k {l : List EnS} (h : Ents l) (A : Option Addr) (c : Nat) (w : World) (hC : Kd.C k49 w A l.length l) (hc : l.length ≤ c) : Calls Try.prog 14 #[.slice A l.length c] w (MadeQ l w) := by
  obtain ⟨k, hk⟩ := Ev.rounds (make_ev h)
  exact file_Make.calls k A c l _ _ _ _ w hC hc hk
theorem decode_ents {l : List EnS} {B : List Int} (he : Ev (fun k => file_Decode.f k B) ((build (wordsN (Wl l))).map toS, Cl l, classesL l, (0 : Int))) (A : Option Addr) (c : Nat) (w : World) (hC : Kd.C (Kd.int .u8) w A B.length B) (hc : B.length ≤ c) : Calls Try.prog 24 #[.slice A B.length c] w (MadeQ l w) := by
  obtain ⟨k, hk⟩ := Ev.rounds he
  exact file_Decode.calls k A c B _ _ _ _ w hC hc hk
theorem decode_bad {B : List Int} (he : Ev (fun k => file_Decode.f k B) bad2) (A : Option Addr) (c : Nat) (w : World) (hC : Kd.C (Kd.int .u8) w A B.length B) (hc : B.length ≤ c) : Calls Try.prog 24 #[.slice A B.length c] w fun e w' => ∃ (A0 A1 A2 : Option Addr) (c0 c1 c2 : Nat), e = .returned (.tuple #[.agg #[.slice A0 0 c0, .slice A1 0 c1, .slice A2 0 c2], .int .i64 2]) ∧ Below w.heap.size w w' := by
  obtain ⟨k, hk⟩ := Ev.rounds he
  refine (file_Decode.calls k A c B _ _ _ _ w hC hc hk).mono ?_
  rintro e w' ⟨v0, v1, v2, rfl, h0, h1, h2, hb⟩
  obtain ⟨A0, c0, rfl⟩ := Kd.S_slice h0
  obtain ⟨A1, c1, rfl⟩ := Kd.R_slice h1
  obtain ⟨A2, c2, rfl⟩ := Kd.R_slice h2
  exact ⟨A0, A1, A2, c0, c1, c2, rfl, hb⟩
theorem encode_k {S : List S82} {C K B : List Int} {n : Int} (he : Ev (fun k => file_Encode.f k S C K) (B, n)) (A0 A1 A2 : Option Addr) (c0 c1 c2 n0 n1 n2 : Nat) (e0 : n0 = S.length) (e1 : n1 = C.length) (e2 : n2 = K.length) (w : World) (h0 : Kd.C k82 w A0 S.length S) (h0c : S.length ≤ c0) (h1 : Kd.C (Kd.int .u64) w A1 C.length C) (h1c : C.length ≤ c1) (h2 : Kd.C (Kd.int .i64) w A2 K.length K) (h2c : K.length ≤ c2) :
    Calls Try.prog 16 #[.agg #[.slice A0 n0 c0, .slice A1 n1 c1, .slice A2 n2 c2]] w fun e w' => ∃ v0 : Value, e = .returned (.tuple #[v0, .int .i64 n]) ∧ Kd.R (Kd.int .u8) 5 w' w.heap.size (fun _ => True) v0 B ∧ Below w.heap.size w w' := by
  obtain ⟨k, hk⟩ := Ev.rounds he
  subst e0 e1 e2
  exact file_Encode.calls k A0 c0 S A1 c1 C A2 c2 K _ _ w h0 h0c h1 h1c h2 h2c hk
/-- A dictionary of entries that lies in a block. -/
def DB (l : List EnS) (W : World) (base g : Nat) (v0 v1 v2 : Value) : Prop := W.heap[g]? = some (.cells #[v0, v1, v2] 29 (0, 0)) ∧ Kd.S k82 82 W base (fun _ => True) v0 ((build (wordsN (Wl l))).map toS) ∧ Kd.R (Kd.int .u64) 47 W base (fun _ => True) v1 (Cl l) ∧ Kd.R (Kd.int .i64) 3 W base (fun _ => True) v2 (classesL l)
theorem DB.below {l : List EnS} {W W' : World} {base g : Nat} {v0 v1 v2 : Value} (h : DB l W base g v0 v1 v2) (hb : Below W.heap.size W W') : DB l W' base g v0 v1 v2 := ⟨(hb.block g (blk_lt h.1)).trans h.1, Kd.S_below h.2.1 hb, Kd.R_below h.2.2.1 hb, Kd.R_below h.2.2.2 hb⟩
theorem DB.encode {l : List EnS} (h : Ents l) (hb : bytesAll (Wl l) ≤ 149000) {W : World} {base g : Nat} {A0 A1 A2 : Option Addr} {c0 c1 c2 : Nat} (hD : DB l W base g (.slice A0 (build (wordsN (Wl l))).length c0) (.slice A1 (Cl l).length c1) (.slice A2 (classesL l).length c2)) :
    Calls Try.prog 16 #[.agg #[.slice A0 (build (wordsN (Wl l))).length c0, .slice A1 (Cl l).length c1, .slice A2 (classesL l).length c2]] W fun e w' => ∃ v0 : Value, e = .returned (.tuple #[v0, .int .i64 0]) ∧ Kd.R (Kd.int .u8) 5 w' W.heap.size (fun _ => True) v0 (zs (dictB l)) ∧ Below W.heap.size W w' := by
  obtain ⟨e1, s1, s2⟩ := Kd.S_reads' hD.2.1
  obtain ⟨_, r1, r2⟩ := Kd.R_reads' hD.2.2.1
  obtain ⟨_, q1, q2⟩ := Kd.R_reads' hD.2.2.2
  exact encode_k (h.encoded hb) A0 A1 A2 c0 c1 c2 _ _ _ e1 rfl rfl W s2 (by omega) r2 r1 q2 q1
theorem dictB_ge {l : List EnS} : 14 ≤ (dictB l).length := by
  have hp := put_pos (statesB (build (wordsN (Wl l)))).length
  have e : (dictB l).length = (recB sumB magicB).length + ((recB sumB (statesB (build (wordsN (Wl l))))).length + ((recB sumB (countsB (cN l))).length + (recB sumB (kN l)).length)) := by
    unfold dictB encB; simp only [List.length_append]
  have e1 : (recB sumB magicB).length = 13 := by
    have := recB_size magicB ⟨by decide, by decide⟩
    rw [this.1, show put magicB.length = [8] from put_low (by decide)]; rfl
  have e2 : 4 ≤ (recB sumB (statesB (build (wordsN (Wl l))))).length := by
    unfold recB; rw [List.length_append, List.length_append, sumB_len]; omega
  omega
end Go.Proofs.Ytgebhidpkcjpmaa.K

namespace Go.Proofs.Ytgebhidpkcjpmaa.K
open Go.RowKit Go.Proofs.YtgebhidpkcjpmaaW.PrintWords Go.Proofs.YtgebhidpkcjpmaaW.PrintLast Go.Proofs.YtgebhidpkcjpmaaW.PrintMore Go.Proofs.Ytgebhidpkcjpmaa
attribute [local go_sem] max2_int min2_int max_two min_two max_three min_three max_four min_four
set_option linter.unusedVariables false
set_option linter.unusedSimpArgs false
open Go Go.Proofs.Ytgebhidpkcjpmaa.PR13 Go.Proofs.Ytgebhidpkcjpmaa.PDk Go.Proofs.Ytgebhidpkcjpmaa.PDm Go.Proofs.Ytgebhidpkcjpmaa.PIx Go.Proofs.Ytgebhidpkcjpmaa.PFl Go.Proofs.Ytgebhidpkcjpmaa.PLg Go.Proofs.Ytgebhidpkcjpmaa.PFg Go.Proofs.Ytgebhidpkcjpmaa.PMk Go.Proofs.Ytgebhidpkcjpmaa.PEn Go.Proofs.Ytgebhidpkcjpmaa.Daw Go.Proofs.Ytgebhidpkcjpmaa.Fil Go.Proofs.Ytgebhidpkcjpmaa.Crc
def xa : EnS := ⟨(⟨#[97]⟩ : ByteArray), 3⟩
set_option maxHeartbeats 8000000 in
set_option maxRecDepth 100000 in
theorem shown16_k (w : World) : Calls Try.prog 12 #[] w fun e w' => e = .returned (.bool true) ∧ Below w.heap.size w w' := by
  have huD := Try.underlying29
  have E1 := Aside0.mk (show ((build (wordsN (Wl []))).map toS).length = 1 by rw [show wordsN (Wl []) = [] from rfl, build_nil]; rfl)
  have E2 := Aside0.mk (show ((build (wordsN (Wl [xa]))).map toS).length = 2 by rw [show wordsN (Wl [xa]) = [[97]] from by decide, build_a]; rfl)
  have HM := Aside0.mk (show Calls Try.prog 14 #[.slice none 0 0] w (MadeQ [] w) from make_k ents_nil none 0 w (Kd.C_nil _ _) (Nat.le_refl _))
  go_enter Try.func12, Try.ntmps12
  go_wp2_with (first | (go_at_call 14; (with_reducible refine (HM.out).mono ?_)))
  rintro x wA ⟨v0, v1, v2, rfl, hS, hR1, hR2, hb⟩
  obtain ⟨D0, d0, rfl⟩ := Kd.S_slice hS
  obtain ⟨D1, d1, rfl⟩ := Kd.R_slice hR1
  obtain ⟨D2, d2, rfl⟩ := Kd.R_slice hR2
  rw [E1.out] at hS ⊢
  rw [show (Cl []).length = 0 from rfl] at hR1 ⊢
  rw [show (classesL []).length = 0 from rfl] at hR2 ⊢
  obtain ⟨g1, hg1⟩ : ∃ g, g = wA.heap.size := ⟨_, rfl⟩
  obtain ⟨wB, hwB⟩ : ∃ wB, wB = wA.alloc (.cells #[.slice D0 1 d0, .slice D1 0 d1, .slice D2 0 d2] 29 (0, 0)) := ⟨_, rfl⟩
  have hbB : Below wA.heap.size wA wB := by rw [hwB]; exact below_alloc (Below.refl _ _) _
  have HG1 := Aside0.mk (show wB.heap[g1]? = some (.cells #[.slice D0 1 d0, .slice D1 0 d1, .slice D2 0 d2] 29 (0, 0)) by rw [hwB, hg1]; exact heap_alloc_new wA _)
  have HBB := Aside0.mk (hb.trans (hbB.mono hb.size))
  have s1 := Kd.S_below hS hbB
  have s2 := Kd.R_below hR1 hbB
  have s3 := Kd.R_below hR2 hbB
  have HENC := Aside0.mk (encode_k (ents_nil.encoded (by decide)) D0 D1 D2 d0 d1 d2 1 0 0 (Kd.S_reads' s1).1 (Kd.R_reads' s2).1 (Kd.R_reads' s3).1 wB (Kd.S_reads' s1).2.2 (by rw [← (Kd.S_reads' s1).1]; exact (Kd.S_reads' s1).2.1) (Kd.R_reads' s2).2.2 (by rw [← (Kd.R_reads' s2).1]; exact (Kd.R_reads' s2).2.1) (Kd.R_reads' s3).2.2 (by rw [← (Kd.R_reads' s3).1]; exact (Kd.R_reads' s3).2.1))
  have HWB := Aside0.mk hwB; have HG1E := Aside0.mk hg1
  clear s1 s2 s3 hS hR1 hR2 hb hbB hwB hg1 HM
  go_wp2_with (first | (go_at_call 16; rw [← HWB.out, ← HG1E.out]; (with_reducible refine (HENC.out).mono ?_)))
  rintro x wC ⟨vB, rfl, hRB, hb⟩
  obtain ⟨GB, cB, rfl⟩ := Kd.R_slice hRB
  rw [show (zs (dictB [])).length = 31 by rw [zs_len, dict_nil_len]]
  have HGC := Aside0.mk ((hb.block g1 (blk_lt HG1.out)).trans HG1.out)
  have HBC := Aside0.mk (HBB.out.trans (hb.mono HBB.out.size))
  clear hRB hb HENC HBB HG1 HWB HG1E E1
  go_wp2_with (first | ((with_reducible refine gate_dst (N := 18) rfl ?_); refine Kd.R_lit k49 (w0 := wC) wC.heap.size 49 ?hg (N := 18) ?hd (xs := [xa]) (inner := [.string (⟨#[97]⟩ : ByteArray), .int .u64 3]) (ok := fun _ => True) (okp := fun _ => True) ?hr ?hp (fun _ hk => hk) trivial (Below.refl _ _) (Nat.le_refl _) (by simp) ?_; (case hd => rfl); (case hg => rfl); (case hr => first | (go_simp; done) | (go_simp; rfl)); (case hp => exact (Reps.c2 (show Kd.M k49 _ _ _ xa [.string (⟨#[97]⟩ : ByteArray), .int .u64 3] from (k49_mkM _ _ _ xa)) (Reps.none _ _)))))
  intro y1 w1 hY1 hb1 _ _ _ _
  obtain ⟨Y1, s1, rfl⟩ := Kd.R_slice hY1
  have hM := make_k (l := [xa]) ents_a Y1 s1 w1 (Kd.R_reads' hY1).2.2 (Kd.R_reads' hY1).2.1
  rw [show [xa].length = 1 from rfl] at hM ⊢
  have HM := Aside0.mk hM
  have HGD := Aside0.mk ((hb1.block g1 (blk_lt HGC.out)).trans HGC.out)
  have HBD := Aside0.mk (HBC.out.trans (hb1.mono HBC.out.size))
  clear hM hY1 hb1 HGC HBC
  go_wp2_with (first | (go_at_call 14; (with_reducible refine (HM.out).mono ?_)))
  rintro x wD ⟨v0, v1, v2, rfl, hS, hR1, hR2, hb⟩
  obtain ⟨F0, f0, rfl⟩ := Kd.S_slice hS
  obtain ⟨g3, f1, rfl, _, _, _⟩ := Kd.R_form hR1 (by decide)
  obtain ⟨F2, f2, rfl⟩ := Kd.R_slice hR2
  rw [E2.out] at hS ⊢
  rw [show (Cl [xa]).length = 1 from rfl] at hR1 ⊢
  rw [show (classesL [xa]).length = 1 from rfl] at hR2 ⊢
  have hcell : wD.cell? ⟨g3, 0, none⟩ = some (.int .u64 3) := by
    obtain ⟨ad, ea, a0⟩ := Kd.at_int (Kd.R_reads' hR1).2.2 0 (by decide) (by decide)
    cases ea
    simp only [add_plain] at a0
    exact a0
  have HGE := Aside0.mk ((hb.block g1 (blk_lt HGD.out)).trans HGD.out)
  have HBE := Aside0.mk (HBD.out.trans (hb.mono HBD.out.size))
  have i0 : (wD.alloc (.cells #[.slice F0 2 f0, .slice (some ⟨g3, 0, none⟩) 1 f1, .slice F2 1 f2] 29 (0, 0))).cell? ⟨g1, 0, none⟩ = some (.slice D0 1 d0) := blk_cell_alloc ((blk_cell HGE.out 0).trans rfl)
  have i3 : (wD.alloc (.cells #[.slice F0 2 f0, .slice (some ⟨g3, 0, none⟩) 1 f1, .slice F2 1 f2] 29 (0, 0))).cell? ⟨g3, 0, none⟩ = some (.int .u64 3) := blk_cell_alloc hcell
  have HBF := Aside0.mk (show Below w.heap.size w (wD.alloc (.cells #[.slice F0 2 f0, .slice (some ⟨g3, 0, none⟩) 1 f1, .slice F2 1 f2] 29 (0, 0))) from below_alloc HBE.out _)
  clear hS hR1 hR2 hb HM hcell HGD HBD HGE HBE E2
  go_wp2
  go_ret
  exact ⟨by simp, HBF.out⟩
end Go.Proofs.Ytgebhidpkcjpmaa.K

namespace Go.Proofs.Ytgebhidpkcjpmaa.PFileBack
open Go.RowKit Go.Proofs.YtgebhidpkcjpmaaW.PrintWords Go.Proofs.YtgebhidpkcjpmaaW.PrintLast Go.Proofs.YtgebhidpkcjpmaaW.PrintMore Go.Proofs.Ytgebhidpkcjpmaa.K Go.Proofs.Ytgebhidpkcjpmaa.PDk Go.Proofs.Ytgebhidpkcjpmaa.PDm Go.Proofs.Ytgebhidpkcjpmaa.PEn Go.Proofs.Ytgebhidpkcjpmaa.PFg Go.Proofs.Ytgebhidpkcjpmaa.PFl Go.Proofs.Ytgebhidpkcjpmaa.PIx Go.Proofs.Ytgebhidpkcjpmaa.PLg Go.Proofs.Ytgebhidpkcjpmaa.PMk Go.Proofs.Ytgebhidpkcjpmaa.PR13 Go.Proofs.Ytgebhidpkcjpmaa.PSh16
attribute [local go_sem] max2_int min2_int max_two min_two max_three min_three max_four min_four   -- for this text's walks alone
set_option linter.unusedVariables false
set_option linter.unusedSimpArgs false



def errW : Option Int → Value
  | none => .nilIface
  | some c => .iface 0 (.int .i64 c)
theorem errW_none : errW none = .nilIface := rfl
theorem errW_some (c : Int) : errW (some c) = .iface 0 (.int .i64 c) := rfl

end Go.Proofs.Ytgebhidpkcjpmaa.PFileBack

namespace Go.Proofs.Ytgebhidpkcjpmaa.PFileBack
open Go.RowKit Go.Proofs.YtgebhidpkcjpmaaW.PrintWords Go.Proofs.YtgebhidpkcjpmaaW.PrintLast Go.Proofs.YtgebhidpkcjpmaaW.PrintMore Go.Proofs.Ytgebhidpkcjpmaa.K Go.Proofs.Ytgebhidpkcjpmaa.PDk Go.Proofs.Ytgebhidpkcjpmaa.PDm Go.Proofs.Ytgebhidpkcjpmaa.PEn Go.Proofs.Ytgebhidpkcjpmaa.PFg Go.Proofs.Ytgebhidpkcjpmaa.PFl Go.Proofs.Ytgebhidpkcjpmaa.PIx Go.Proofs.Ytgebhidpkcjpmaa.PLg Go.Proofs.Ytgebhidpkcjpmaa.PMk Go.Proofs.Ytgebhidpkcjpmaa.PR13 Go.Proofs.Ytgebhidpkcjpmaa.PSh16
attribute [local go_sem] max2_int min2_int max_two min_two max_three min_three max_four min_four   -- for this text's walks alone
set_option linter.unusedVariables false
set_option linter.unusedSimpArgs false

def manteletref16_Same.f (k : Nat) (l0_0 : List (S82)) (l0_1 : List Int) (l0_2 : List Int) (l1_0 : List (S82)) (l1_1 : List Int) (l1_2 : List Int) : Option (Bool) := (manteletref14_Same.f k l0_0 l1_0).bind fun t103 => (if t103 = true then ((manteletref15_Same.f k l0_1 l1_1).bind fun t104 => (if t104 = true then ((manteletref13_Ints.f k l0_2 l1_2).bind fun t105 => (some t105)) else (some false))) else (some false))
set_option maxHeartbeats 8000000 in
set_option maxRecDepth 100000 in
theorem manteletref16_Same.calls (k : Nat) (A0_0 : Option Addr) (c0_0 : Nat) (l0_0 : List (S82)) (A0_1 : Option Addr) (c0_1 : Nat) (l0_1 : List Int) (A0_2 : Option Addr) (c0_2 : Nat) (l0_2 : List Int) (A1_0 : Option Addr) (c1_0 : Nat) (l1_0 : List (S82)) (A1_1 : Option Addr) (c1_1 : Nat) (l1_1 : List Int) (A1_2 : Option Addr) (c1_2 : Nat) (l1_2 : List Int) (r : Bool) (w : World) (hr0_0 : Kd.C k82 w A0_0 l0_0.length l0_0) (hc0_0 : l0_0.length ≤ c0_0) (hr0_1 : Kd.C (Kd.int .u64) w A0_1 l0_1.length l0_1) (hc0_1 : l0_1.length ≤ c0_1) (hr0_2 : Kd.C (Kd.int .i64) w A0_2 l0_2.length l0_2) (hc0_2 : l0_2.length ≤ c0_2) (hr1_0 : Kd.C k82 w A1_0 l1_0.length l1_0) (hc1_0 : l1_0.length ≤ c1_0) (hr1_1 : Kd.C (Kd.int .u64) w A1_1 l1_1.length l1_1) (hc1_1 : l1_1.length ≤ c1_1) (hr1_2 : Kd.C (Kd.int .i64) w A1_2 l1_2.length l1_2) (hc1_2 : l1_2.length ≤ c1_2) (h : manteletref16_Same.f k l0_0 l0_1 l0_2 l1_0 l1_1 l1_2 = some r) :
    Calls Try.prog 17 #[.agg #[.slice A0_0 l0_0.length c0_0, .slice A0_1 l0_1.length c0_1, .slice A0_2 l0_2.length c0_2], .agg #[.slice A1_0 l1_0.length c1_0, .slice A1_1 l1_1.length c1_1, .slice A1_2 l1_2.length c1_2]] w fun e w' => e = .returned (.bool r) ∧ Below w.heap.size w w' := by
  have hu33 := Try.underlying33
  have HR0_0 := Aside0.mk hr0_0
  have HC0_0 := Aside0.mk hc0_0
  clear hr0_0 hc0_0
  have HR0_1 := Aside0.mk hr0_1
  have HC0_1 := Aside0.mk hc0_1
  clear hr0_1 hc0_1
  have HR0_2 := Aside0.mk hr0_2
  have HC0_2 := Aside0.mk hc0_2
  clear hr0_2 hc0_2
  have HR1_0 := Aside0.mk hr1_0
  have HC1_0 := Aside0.mk hc1_0
  clear hr1_0 hc1_0
  have HR1_1 := Aside0.mk hr1_1
  have HC1_1 := Aside0.mk hc1_1
  clear hr1_1 hc1_1
  have HR1_2 := Aside0.mk hr1_2
  have HC1_2 := Aside0.mk hc1_2
  clear hr1_2 hc1_2
  have HB := Aside0.mk (Below.refl w.heap.size w)
  have H : ((manteletref14_Same.f k l0_0 l1_0).bind fun t103 => (if t103 = true then ((manteletref15_Same.f k l0_1 l1_1).bind fun t104 => (if t104 = true then ((manteletref13_Ints.f k l0_2 l1_2).bind fun t105 => (some t105)) else (some false))) else (some false))) = some r := h
  clear h
  replace H := Option.bind_eq_some_iff.mp H
  obtain ⟨t103, A30, H⟩ := H
  replace H : (if t103 = true then ((manteletref15_Same.f k l0_1 l1_1).bind fun t104 => (if t104 = true then ((manteletref13_Ints.f k l0_2 l1_2).bind fun t105 => (some t105)) else (some false))) else (some false)) = some r := H
  have A3 := Aside0.mk A30
  clear A30
  by_cases c4 : t103 = true
  · subst c4
    have H1 : ((manteletref15_Same.f k l0_1 l1_1).bind fun t104 => (if t104 = true then ((manteletref13_Ints.f k l0_2 l1_2).bind fun t105 => (some t105)) else (some false))) = some r := by rw [if_pos rfl] at H; exact H
    clear H
    have H := H1
    clear H1
    replace H := Option.bind_eq_some_iff.mp H
    obtain ⟨t104, A50, H⟩ := H
    replace H : (if t104 = true then ((manteletref13_Ints.f k l0_2 l1_2).bind fun t105 => (some t105)) else (some false)) = some r := H
    have A5 := Aside0.mk A50
    clear A50
    by_cases c6 : t104 = true
    · subst c6
      have H1 : ((manteletref13_Ints.f k l0_2 l1_2).bind fun t105 => (some t105)) = some r := by rw [if_pos rfl] at H; exact H
      clear H
      have H := H1
      clear H1
      replace H := Option.bind_eq_some_iff.mp H
      obtain ⟨t105, A70, H⟩ := H
      replace H : (some t105) = some r := H
      have A7 := Aside0.mk A70
      clear A70
      obtain rfl := Option.some.inj H
      go_enter Try.func17, Try.ntmps17
      go_wp2_with (first | ((with_reducible refine gate_dst (N := 2) rfl ?_); refine box_event ?hg (N := 2) ?hd (cs := #[.slice A0_0 l0_0.length c0_0, .slice A0_1 l0_1.length c0_1, .slice A0_2 l0_2.length c0_2]) (t := 33) ?hr ?_; (case hd => rfl); (case hg => rfl); (case hr => first | (go_simp; done) | (go_simp; rfl)); intro gb101 hg w8 hbox hb; have n0_ := Aside0.mk (below_step (by repeat (first | (with_reducible first | exact HB.out | apply below_alloc | apply pw_below_drewN | apply below_drew1) | exact HB.out)) hb); have n1_ := Aside0.mk (hbox); have n2_ := Aside0.mk ((by rw [hg]; exact (below_size (by repeat (first | (with_reducible first | exact HB.out | apply below_alloc | apply pw_below_drewN | apply below_drew1) | exact HB.out))) : w.heap.size ≤ gb101)); have n3_ := Aside0.mk ((by rw [hg]; exact (below_size (by repeat (first | (with_reducible first | exact HB.out | apply below_alloc | apply pw_below_drewN | apply below_drew1) | exact HB.out))) : w.heap.size ≤ gb101)); clear HB; have HB := n0_; have BK101 := n1_; have GW101 := n2_; have GE101 := n3_; clear n0_ n1_ n2_ n3_; clear hb hbox hg) | ((with_reducible refine gate_dst (N := 3) rfl ?_); refine box_event ?hg (N := 3) ?hd (cs := #[.slice A1_0 l1_0.length c1_0, .slice A1_1 l1_1.length c1_1, .slice A1_2 l1_2.length c1_2]) (t := 33) ?hr ?_; (case hd => rfl); (case hg => rfl); (case hr => first | (go_simp; done) | (go_simp; rfl)); intro gb102 hg w9 hbox hb; have n0_ := Aside0.mk (blk_below (g := gb101) (o := .cells #[.slice A0_0 l0_0.length c0_0, .slice A0_1 l0_1.length c0_1, .slice A0_2 l0_2.length c0_2] 33 (0, 0)) (by (with_reducible repeat (first | refine blk_drewN ?_ _ | refine blk_drew ?_ | refine blk_alloc ?_ _)); exact BK101.out) hb); have n1_ := Aside0.mk (below_step (by repeat (first | (with_reducible first | exact HB.out | apply below_alloc | apply pw_below_drewN | apply below_drew1 | refine below_set ?_ GE101.out) | exact HB.out)) hb); have n2_ := Aside0.mk (hbox); have n3_ := Aside0.mk ((by rw [hg]; exact (below_size (by repeat (first | (with_reducible first | exact HB.out | apply below_alloc | apply pw_below_drewN | apply below_drew1 | refine below_set ?_ GE101.out) | exact HB.out))) : w.heap.size ≤ gb102)); have n4_ := Aside0.mk ((by rw [hg]; exact (below_size (by repeat (first | (with_reducible first | exact HB.out | apply below_alloc | apply pw_below_drewN | apply below_drew1 | refine below_set ?_ GE101.out) | exact HB.out))) : w.heap.size ≤ gb102)); have n5_ := Aside0.mk ((by rw [hg]; exact Nat.ne_of_lt (blk_lt (g := gb101) (o := .cells #[.slice A0_0 l0_0.length c0_0, .slice A0_1 l0_1.length c0_1, .slice A0_2 l0_2.length c0_2] 33 (0, 0)) (by (with_reducible repeat (first | refine blk_drewN ?_ _ | refine blk_drew ?_ | refine blk_alloc ?_ _)); exact BK101.out)) : gb101 ≠ gb102)); have n6_ := Aside0.mk ((by rw [hg]; exact Nat.ne_of_gt (blk_lt (g := gb101) (o := .cells #[.slice A0_0 l0_0.length c0_0, .slice A0_1 l0_1.length c0_1, .slice A0_2 l0_2.length c0_2] 33 (0, 0)) (by (with_reducible repeat (first | refine blk_drewN ?_ _ | refine blk_drew ?_ | refine blk_alloc ?_ _)); exact BK101.out)) : gb102 ≠ gb101)); clear BK101; clear HB; have BK101 := n0_; have HB := n1_; have BK102 := n2_; have GW102 := n3_; have GE102 := n4_; have NB101_102 := n5_; have NB102_101 := n6_; clear n0_ n1_ n2_ n3_ n4_ n5_ n6_; clear hb hbox hg; have hnb10 := NB101_102.out; have hnc10 := NB102_101.out; have hcz11_0 : w9.cell? ⟨gb101, 0, none⟩ = some (.slice A0_0 l0_0.length c0_0) := (blk_cell BK101.out 0).trans rfl; have hcz11_1 : w9.cell? ⟨gb101, 1, none⟩ = some (.slice A0_1 l0_1.length c0_1) := (blk_cell BK101.out 1).trans rfl; have hcz11_2 : w9.cell? ⟨gb101, 2, none⟩ = some (.slice A0_2 l0_2.length c0_2) := (blk_cell BK101.out 2).trans rfl; have hfz11_0 := blk_frozen BK101.out 0; have hfz11_1 := blk_frozen BK101.out 1; have hfz11_2 := blk_frozen BK101.out 2; have hcz12_0 : w9.cell? ⟨gb102, 0, none⟩ = some (.slice A1_0 l1_0.length c1_0) := (blk_cell BK102.out 0).trans rfl; have hcz12_1 : w9.cell? ⟨gb102, 1, none⟩ = some (.slice A1_1 l1_1.length c1_1) := (blk_cell BK102.out 1).trans rfl; have hcz12_2 : w9.cell? ⟨gb102, 2, none⟩ = some (.slice A1_2 l1_2.length c1_2) := (blk_cell BK102.out 2).trans rfl; have hfz12_0 := blk_frozen BK102.out 0; have hfz12_1 := blk_frozen BK102.out 1; have hfz12_2 := blk_frozen BK102.out 2) | ((with_reducible refine gate_callee (f := 40) rfl ?_); refine goesL_ (some 9) rfl rfl Try.func40 (by kernel_rfl) rfl #[.slice A0_0 l0_0.length c0_0, .slice A1_0 l1_0.length c1_0] rfl (by (try simp only [List.map_toArray, List.map_cons, List.map_nil]); first | done | rfl | (simp only [List.length_drop, List.length_take]; rfl)) ?_; (with_reducible refine (manteletref14_Same.calls k _ _ l0_0 _ _ l1_0 true _ ?side1 ?side2 ?side3 ?side4 A3.out).mono ?_); (case side1 => repeat (first | exact (Kd.C_below HR0_0.out HB.out) | (with_reducible refine Kd.C_alloc ?_ _) | (with_reducible refine Kd.C_drewN ?_ _) | (with_reducible refine Kd.C_drew ?_))); (case side2 => exact HC0_0.out); (case side3 => repeat (first | exact (Kd.C_below HR1_0.out HB.out) | (with_reducible refine Kd.C_alloc ?_ _) | (with_reducible refine Kd.C_drewN ?_ _) | (with_reducible refine Kd.C_drew ?_))); (case side4 => exact HC1_0.out); rintro e w' ⟨rfl, ⟨nd, rfl⟩⟩; refine ⟨_, rfl, ?_⟩) | (go_at_call 41; (with_reducible refine (manteletref15_Same.calls k _ _ l0_1 _ _ l1_1 true _ ?side1 ?side2 ?side3 ?side4 A5.out).mono ?_); (case side1 => repeat (first | exact (Kd.C_below HR0_1.out (by repeat (first | (with_reducible first | exact HB.out | apply below_alloc | apply pw_below_drewN | apply below_drew1 | refine below_set ?_ GE101.out | refine below_set ?_ GE102.out) | exact HB.out))) | (with_reducible refine Kd.C_alloc ?_ _) | (with_reducible refine Kd.C_drewN ?_ _) | (with_reducible refine Kd.C_drew ?_))); (case side2 => exact HC0_1.out); (case side3 => repeat (first | exact (Kd.C_below HR1_1.out (by repeat (first | (with_reducible first | exact HB.out | apply below_alloc | apply pw_below_drewN | apply below_drew1 | refine below_set ?_ GE101.out | refine below_set ?_ GE102.out) | exact HB.out))) | (with_reducible refine Kd.C_alloc ?_ _) | (with_reducible refine Kd.C_drewN ?_ _) | (with_reducible refine Kd.C_drew ?_))); (case side4 => exact HC1_1.out); rintro e w' ⟨rfl, ⟨nd, rfl⟩⟩) | (go_at_call 42; (with_reducible refine (manteletref13_Ints.calls k _ _ l0_2 _ _ l1_2 t105 _ ?side1 ?side2 ?side3 ?side4 A7.out).mono ?_); (case side1 => repeat (first | exact (Kd.C_below HR0_2.out (by repeat (first | (with_reducible first | exact HB.out | apply below_alloc | apply pw_below_drewN | apply below_drew1 | refine below_set ?_ GE101.out | refine below_set ?_ GE102.out) | exact HB.out))) | (with_reducible refine Kd.C_alloc ?_ _) | (with_reducible refine Kd.C_drewN ?_ _) | (with_reducible refine Kd.C_drew ?_))); (case side2 => exact HC0_2.out); (case side3 => repeat (first | exact (Kd.C_below HR1_2.out (by repeat (first | (with_reducible first | exact HB.out | apply below_alloc | apply pw_below_drewN | apply below_drew1 | refine below_set ?_ GE101.out | refine below_set ?_ GE102.out) | exact HB.out))) | (with_reducible refine Kd.C_alloc ?_ _) | (with_reducible refine Kd.C_drewN ?_ _) | (with_reducible refine Kd.C_drew ?_))); (case side4 => exact HC1_2.out); rintro e w' ⟨rfl, ⟨nd, rfl⟩⟩))
      go_ret
      exact ⟨by first | rfl | (simp [errW_none, errW_some] <;> rfl) | (simp [*, errW_none, errW_some] <;> rfl), by repeat (first | (with_reducible first | exact HB.out | apply below_alloc | apply pw_below_drewN | apply below_drew1 | refine below_set ?_ GE101.out | refine below_set ?_ GE102.out) | exact HB.out)⟩
    · replace c6 := Bool.eq_false_iff.mpr c6
      subst c6
      have H1 : (some false) = some r := by rw [if_neg (show ¬ (false = true) by decide)] at H; exact H
      clear H
      have H := H1
      clear H1
      obtain rfl := Option.some.inj H
      go_enter Try.func17, Try.ntmps17
      go_wp2_with (first | ((with_reducible refine gate_dst (N := 2) rfl ?_); refine box_event ?hg (N := 2) ?hd (cs := #[.slice A0_0 l0_0.length c0_0, .slice A0_1 l0_1.length c0_1, .slice A0_2 l0_2.length c0_2]) (t := 33) ?hr ?_; (case hd => rfl); (case hg => rfl); (case hr => first | (go_simp; done) | (go_simp; rfl)); intro gb101 hg w13 hbox hb; have n0_ := Aside0.mk (below_step (by repeat (first | (with_reducible first | exact HB.out | apply below_alloc | apply pw_below_drewN | apply below_drew1) | exact HB.out)) hb); have n1_ := Aside0.mk (hbox); have n2_ := Aside0.mk ((by rw [hg]; exact (below_size (by repeat (first | (with_reducible first | exact HB.out | apply below_alloc | apply pw_below_drewN | apply below_drew1) | exact HB.out))) : w.heap.size ≤ gb101)); have n3_ := Aside0.mk ((by rw [hg]; exact (below_size (by repeat (first | (with_reducible first | exact HB.out | apply below_alloc | apply pw_below_drewN | apply below_drew1) | exact HB.out))) : w.heap.size ≤ gb101)); clear HB; have HB := n0_; have BK101 := n1_; have GW101 := n2_; have GE101 := n3_; clear n0_ n1_ n2_ n3_; clear hb hbox hg) | ((with_reducible refine gate_dst (N := 3) rfl ?_); refine box_event ?hg (N := 3) ?hd (cs := #[.slice A1_0 l1_0.length c1_0, .slice A1_1 l1_1.length c1_1, .slice A1_2 l1_2.length c1_2]) (t := 33) ?hr ?_; (case hd => rfl); (case hg => rfl); (case hr => first | (go_simp; done) | (go_simp; rfl)); intro gb102 hg w14 hbox hb; have n0_ := Aside0.mk (blk_below (g := gb101) (o := .cells #[.slice A0_0 l0_0.length c0_0, .slice A0_1 l0_1.length c0_1, .slice A0_2 l0_2.length c0_2] 33 (0, 0)) (by (with_reducible repeat (first | refine blk_drewN ?_ _ | refine blk_drew ?_ | refine blk_alloc ?_ _)); exact BK101.out) hb); have n1_ := Aside0.mk (below_step (by repeat (first | (with_reducible first | exact HB.out | apply below_alloc | apply pw_below_drewN | apply below_drew1 | refine below_set ?_ GE101.out) | exact HB.out)) hb); have n2_ := Aside0.mk (hbox); have n3_ := Aside0.mk ((by rw [hg]; exact (below_size (by repeat (first | (with_reducible first | exact HB.out | apply below_alloc | apply pw_below_drewN | apply below_drew1 | refine below_set ?_ GE101.out) | exact HB.out))) : w.heap.size ≤ gb102)); have n4_ := Aside0.mk ((by rw [hg]; exact (below_size (by repeat (first | (with_reducible first | exact HB.out | apply below_alloc | apply pw_below_drewN | apply below_drew1 | refine below_set ?_ GE101.out) | exact HB.out))) : w.heap.size ≤ gb102)); have n5_ := Aside0.mk ((by rw [hg]; exact Nat.ne_of_lt (blk_lt (g := gb101) (o := .cells #[.slice A0_0 l0_0.length c0_0, .slice A0_1 l0_1.length c0_1, .slice A0_2 l0_2.length c0_2] 33 (0, 0)) (by (with_reducible repeat (first | refine blk_drewN ?_ _ | refine blk_drew ?_ | refine blk_alloc ?_ _)); exact BK101.out)) : gb101 ≠ gb102)); have n6_ := Aside0.mk ((by rw [hg]; exact Nat.ne_of_gt (blk_lt (g := gb101) (o := .cells #[.slice A0_0 l0_0.length c0_0, .slice A0_1 l0_1.length c0_1, .slice A0_2 l0_2.length c0_2] 33 (0, 0)) (by (with_reducible repeat (first | refine blk_drewN ?_ _ | refine blk_drew ?_ | refine blk_alloc ?_ _)); exact BK101.out)) : gb102 ≠ gb101)); clear BK101; clear HB; have BK101 := n0_; have HB := n1_; have BK102 := n2_; have GW102 := n3_; have GE102 := n4_; have NB101_102 := n5_; have NB102_101 := n6_; clear n0_ n1_ n2_ n3_ n4_ n5_ n6_; clear hb hbox hg; have hnb15 := NB101_102.out; have hnc15 := NB102_101.out; have hcz16_0 : w14.cell? ⟨gb101, 0, none⟩ = some (.slice A0_0 l0_0.length c0_0) := (blk_cell BK101.out 0).trans rfl; have hcz16_1 : w14.cell? ⟨gb101, 1, none⟩ = some (.slice A0_1 l0_1.length c0_1) := (blk_cell BK101.out 1).trans rfl; have hcz16_2 : w14.cell? ⟨gb101, 2, none⟩ = some (.slice A0_2 l0_2.length c0_2) := (blk_cell BK101.out 2).trans rfl; have hfz16_0 := blk_frozen BK101.out 0; have hfz16_1 := blk_frozen BK101.out 1; have hfz16_2 := blk_frozen BK101.out 2; have hcz17_0 : w14.cell? ⟨gb102, 0, none⟩ = some (.slice A1_0 l1_0.length c1_0) := (blk_cell BK102.out 0).trans rfl; have hcz17_1 : w14.cell? ⟨gb102, 1, none⟩ = some (.slice A1_1 l1_1.length c1_1) := (blk_cell BK102.out 1).trans rfl; have hcz17_2 : w14.cell? ⟨gb102, 2, none⟩ = some (.slice A1_2 l1_2.length c1_2) := (blk_cell BK102.out 2).trans rfl; have hfz17_0 := blk_frozen BK102.out 0; have hfz17_1 := blk_frozen BK102.out 1; have hfz17_2 := blk_frozen BK102.out 2) | ((with_reducible refine gate_callee (f := 40) rfl ?_); refine goesL_ (some 9) rfl rfl Try.func40 (by kernel_rfl) rfl #[.slice A0_0 l0_0.length c0_0, .slice A1_0 l1_0.length c1_0] rfl (by (try simp only [List.map_toArray, List.map_cons, List.map_nil]); first | done | rfl | (simp only [List.length_drop, List.length_take]; rfl)) ?_; (with_reducible refine (manteletref14_Same.calls k _ _ l0_0 _ _ l1_0 true _ ?side1 ?side2 ?side3 ?side4 A3.out).mono ?_); (case side1 => repeat (first | exact (Kd.C_below HR0_0.out HB.out) | (with_reducible refine Kd.C_alloc ?_ _) | (with_reducible refine Kd.C_drewN ?_ _) | (with_reducible refine Kd.C_drew ?_))); (case side2 => exact HC0_0.out); (case side3 => repeat (first | exact (Kd.C_below HR1_0.out HB.out) | (with_reducible refine Kd.C_alloc ?_ _) | (with_reducible refine Kd.C_drewN ?_ _) | (with_reducible refine Kd.C_drew ?_))); (case side4 => exact HC1_0.out); rintro e w' ⟨rfl, ⟨nd, rfl⟩⟩; refine ⟨_, rfl, ?_⟩) | (go_at_call 41; (with_reducible refine (manteletref15_Same.calls k _ _ l0_1 _ _ l1_1 false _ ?side1 ?side2 ?side3 ?side4 A5.out).mono ?_); (case side1 => repeat (first | exact (Kd.C_below HR0_1.out (by repeat (first | (with_reducible first | exact HB.out | apply below_alloc | apply pw_below_drewN | apply below_drew1 | refine below_set ?_ GE101.out | refine below_set ?_ GE102.out) | exact HB.out))) | (with_reducible refine Kd.C_alloc ?_ _) | (with_reducible refine Kd.C_drewN ?_ _) | (with_reducible refine Kd.C_drew ?_))); (case side2 => exact HC0_1.out); (case side3 => repeat (first | exact (Kd.C_below HR1_1.out (by repeat (first | (with_reducible first | exact HB.out | apply below_alloc | apply pw_below_drewN | apply below_drew1 | refine below_set ?_ GE101.out | refine below_set ?_ GE102.out) | exact HB.out))) | (with_reducible refine Kd.C_alloc ?_ _) | (with_reducible refine Kd.C_drewN ?_ _) | (with_reducible refine Kd.C_drew ?_))); (case side4 => exact HC1_1.out); rintro e w' ⟨rfl, ⟨nd, rfl⟩⟩))
      go_ret
      exact ⟨by first | rfl | (simp [errW_none, errW_some] <;> rfl) | (simp [*, errW_none, errW_some] <;> rfl), by repeat (first | (with_reducible first | exact HB.out | apply below_alloc | apply pw_below_drewN | apply below_drew1 | refine below_set ?_ GE101.out | refine below_set ?_ GE102.out) | exact HB.out)⟩
  · replace c4 := Bool.eq_false_iff.mpr c4
    subst c4
    have H1 : (some false) = some r := by rw [if_neg (show ¬ (false = true) by decide)] at H; exact H
    clear H
    have H := H1
    clear H1
    obtain rfl := Option.some.inj H
    go_enter Try.func17, Try.ntmps17
    go_wp2_with (first | ((with_reducible refine gate_dst (N := 2) rfl ?_); refine box_event ?hg (N := 2) ?hd (cs := #[.slice A0_0 l0_0.length c0_0, .slice A0_1 l0_1.length c0_1, .slice A0_2 l0_2.length c0_2]) (t := 33) ?hr ?_; (case hd => rfl); (case hg => rfl); (case hr => first | (go_simp; done) | (go_simp; rfl)); intro gb101 hg w18 hbox hb; have n0_ := Aside0.mk (below_step (by repeat (first | (with_reducible first | exact HB.out | apply below_alloc | apply pw_below_drewN | apply below_drew1) | exact HB.out)) hb); have n1_ := Aside0.mk (hbox); have n2_ := Aside0.mk ((by rw [hg]; exact (below_size (by repeat (first | (with_reducible first | exact HB.out | apply below_alloc | apply pw_below_drewN | apply below_drew1) | exact HB.out))) : w.heap.size ≤ gb101)); have n3_ := Aside0.mk ((by rw [hg]; exact (below_size (by repeat (first | (with_reducible first | exact HB.out | apply below_alloc | apply pw_below_drewN | apply below_drew1) | exact HB.out))) : w.heap.size ≤ gb101)); clear HB; have HB := n0_; have BK101 := n1_; have GW101 := n2_; have GE101 := n3_; clear n0_ n1_ n2_ n3_; clear hb hbox hg) | ((with_reducible refine gate_dst (N := 3) rfl ?_); refine box_event ?hg (N := 3) ?hd (cs := #[.slice A1_0 l1_0.length c1_0, .slice A1_1 l1_1.length c1_1, .slice A1_2 l1_2.length c1_2]) (t := 33) ?hr ?_; (case hd => rfl); (case hg => rfl); (case hr => first | (go_simp; done) | (go_simp; rfl)); intro gb102 hg w19 hbox hb; have n0_ := Aside0.mk (blk_below (g := gb101) (o := .cells #[.slice A0_0 l0_0.length c0_0, .slice A0_1 l0_1.length c0_1, .slice A0_2 l0_2.length c0_2] 33 (0, 0)) (by (with_reducible repeat (first | refine blk_drewN ?_ _ | refine blk_drew ?_ | refine blk_alloc ?_ _)); exact BK101.out) hb); have n1_ := Aside0.mk (below_step (by repeat (first | (with_reducible first | exact HB.out | apply below_alloc | apply pw_below_drewN | apply below_drew1 | refine below_set ?_ GE101.out) | exact HB.out)) hb); have n2_ := Aside0.mk (hbox); have n3_ := Aside0.mk ((by rw [hg]; exact (below_size (by repeat (first | (with_reducible first | exact HB.out | apply below_alloc | apply pw_below_drewN | apply below_drew1 | refine below_set ?_ GE101.out) | exact HB.out))) : w.heap.size ≤ gb102)); have n4_ := Aside0.mk ((by rw [hg]; exact (below_size (by repeat (first | (with_reducible first | exact HB.out | apply below_alloc | apply pw_below_drewN | apply below_drew1 | refine below_set ?_ GE101.out) | exact HB.out))) : w.heap.size ≤ gb102)); have n5_ := Aside0.mk ((by rw [hg]; exact Nat.ne_of_lt (blk_lt (g := gb101) (o := .cells #[.slice A0_0 l0_0.length c0_0, .slice A0_1 l0_1.length c0_1, .slice A0_2 l0_2.length c0_2] 33 (0, 0)) (by (with_reducible repeat (first | refine blk_drewN ?_ _ | refine blk_drew ?_ | refine blk_alloc ?_ _)); exact BK101.out)) : gb101 ≠ gb102)); have n6_ := Aside0.mk ((by rw [hg]; exact Nat.ne_of_gt (blk_lt (g := gb101) (o := .cells #[.slice A0_0 l0_0.length c0_0, .slice A0_1 l0_1.length c0_1, .slice A0_2 l0_2.length c0_2] 33 (0, 0)) (by (with_reducible repeat (first | refine blk_drewN ?_ _ | refine blk_drew ?_ | refine blk_alloc ?_ _)); exact BK101.out)) : gb102 ≠ gb101)); clear BK101; clear HB; have BK101 := n0_; have HB := n1_; have BK102 := n2_; have GW102 := n3_; have GE102 := n4_; have NB101_102 := n5_; have NB102_101 := n6_; clear n0_ n1_ n2_ n3_ n4_ n5_ n6_; clear hb hbox hg; have hnb20 := NB101_102.out; have hnc20 := NB102_101.out; have hcz21_0 : w19.cell? ⟨gb101, 0, none⟩ = some (.slice A0_0 l0_0.length c0_0) := (blk_cell BK101.out 0).trans rfl; have hcz21_1 : w19.cell? ⟨gb101, 1, none⟩ = some (.slice A0_1 l0_1.length c0_1) := (blk_cell BK101.out 1).trans rfl; have hcz21_2 : w19.cell? ⟨gb101, 2, none⟩ = some (.slice A0_2 l0_2.length c0_2) := (blk_cell BK101.out 2).trans rfl; have hfz21_0 := blk_frozen BK101.out 0; have hfz21_1 := blk_frozen BK101.out 1; have hfz21_2 := blk_frozen BK101.out 2; have hcz22_0 : w19.cell? ⟨gb102, 0, none⟩ = some (.slice A1_0 l1_0.length c1_0) := (blk_cell BK102.out 0).trans rfl; have hcz22_1 : w19.cell? ⟨gb102, 1, none⟩ = some (.slice A1_1 l1_1.length c1_1) := (blk_cell BK102.out 1).trans rfl; have hcz22_2 : w19.cell? ⟨gb102, 2, none⟩ = some (.slice A1_2 l1_2.length c1_2) := (blk_cell BK102.out 2).trans rfl; have hfz22_0 := blk_frozen BK102.out 0; have hfz22_1 := blk_frozen BK102.out 1; have hfz22_2 := blk_frozen BK102.out 2) | ((with_reducible refine gate_callee (f := 40) rfl ?_); refine goesL_ (some 9) rfl rfl Try.func40 (by kernel_rfl) rfl #[.slice A0_0 l0_0.length c0_0, .slice A1_0 l1_0.length c1_0] rfl (by (try simp only [List.map_toArray, List.map_cons, List.map_nil]); first | done | rfl | (simp only [List.length_drop, List.length_take]; rfl)) ?_; (with_reducible refine (manteletref14_Same.calls k _ _ l0_0 _ _ l1_0 false _ ?side1 ?side2 ?side3 ?side4 A3.out).mono ?_); (case side1 => repeat (first | exact (Kd.C_below HR0_0.out HB.out) | (with_reducible refine Kd.C_alloc ?_ _) | (with_reducible refine Kd.C_drewN ?_ _) | (with_reducible refine Kd.C_drew ?_))); (case side2 => exact HC0_0.out); (case side3 => repeat (first | exact (Kd.C_below HR1_0.out HB.out) | (with_reducible refine Kd.C_alloc ?_ _) | (with_reducible refine Kd.C_drewN ?_ _) | (with_reducible refine Kd.C_drew ?_))); (case side4 => exact HC1_0.out); rintro e w' ⟨rfl, ⟨nd, rfl⟩⟩; refine ⟨_, rfl, ?_⟩))
    go_ret
    exact ⟨by first | rfl | (simp [errW_none, errW_some] <;> rfl) | (simp [*, errW_none, errW_some] <;> rfl), by repeat (first | (with_reducible first | exact HB.out | apply below_alloc | apply pw_below_drewN | apply below_drew1 | refine below_set ?_ GE101.out | refine below_set ?_ GE102.out) | exact HB.out)⟩

def manteletlaw16_real.f (l0_0 : List (S82)) (l0_1 : List Int) (l0_2 : List Int) : Option ((List (S82)) × List Int × List Int) := some (l0_0, l0_1, l0_2)
end Go.Proofs.Ytgebhidpkcjpmaa.PFileBack

namespace Go.Proofs.Ytgebhidpkcjpmaa.K
open Go.RowKit Go.Proofs.YtgebhidpkcjpmaaW.PrintWords Go.Proofs.YtgebhidpkcjpmaaW.PrintLast Go.Proofs.YtgebhidpkcjpmaaW.PrintMore Go.Proofs.Ytgebhidpkcjpmaa
attribute [local go_sem] max2_int min2_int max_two min_two max_three min_three max_four min_four
set_option linter.unusedVariables false
set_option linter.unusedSimpArgs false
open Go Go.Proofs.Ytgebhidpkcjpmaa.PR13 Go.Proofs.Ytgebhidpkcjpmaa.PDk Go.Proofs.Ytgebhidpkcjpmaa.PDm Go.Proofs.Ytgebhidpkcjpmaa.PIx Go.Proofs.Ytgebhidpkcjpmaa.PFl Go.Proofs.Ytgebhidpkcjpmaa.PLg Go.Proofs.Ytgebhidpkcjpmaa.PMk Go.Proofs.Ytgebhidpkcjpmaa.PEn Go.Proofs.Ytgebhidpkcjpmaa.PFileBack Go.Proofs.Ytgebhidpkcjpmaa.Daw Go.Proofs.Ytgebhidpkcjpmaa.Fil Go.Proofs.Ytgebhidpkcjpmaa.Crc
open Classical
set_option maxHeartbeats 4000000 in
set_option maxRecDepth 100000 in
theorem real_k (A0 A1 A2 : Option Addr) (n0 n1 n2 c0 c1 c2 : Nat) (w : World) : Calls Try.prog 18 #[.agg #[.slice A0 n0 c0, .slice A1 n1 c1, .slice A2 n2 c2]] w fun e w' => e = .returned (.agg #[.slice A0 n0 c0, .slice A1 n1 c1, .slice A2 n2 c2]) ∧ Below w.heap.size w w' := by
  have huD := Try.underlying29
  have huR := Try.underlying33
  go_enter Try.func18, Try.ntmps18
  go_wp2
  refine bodyPost_ret (results_cell_row rfl _ _ (w.heap.size + 1) 33 #[.slice A0 n0 c0, .slice A1 n1 c1, .slice A2 n2 c2] (0, 0) _ rfl (heap_alloc2_new w _ _) huR rfl (by kernel_rfl)) rfl ?_
  exact ⟨rfl, ((Below.refl w.heap.size w).alloc (Nat.le_refl _) _).alloc (Nat.le_of_lt (by show w.heap.size < (w.heap.push _).size; simp)) _⟩
theorem same15_l0 (x : List Int) (hx : x.length ≤ 4398046511104) : ∀ (d i : Nat), i + d = x.length → Ev (fun k => manteletref15_Same.l0 k x x (i : Int)) true
  | 0, i, hd => by
    refine Ev.step (f := fun _ => some true) (fun k => ?_) (Ev.now _)
    simp only [manteletref15_Same.l0]
    rw [if_neg (by omega)]
  | d + 1, i, hd => by
    refine Ev.step (fun k => ?_) (same15_l0 x hx d (i + 1) (by omega))
    simp only [manteletref15_Same.l0]
    rw [if_pos (by omega), if_pos (by omega), if_pos (by omega), if_pos trivial, w64 (by omega) (by omega), show ((i : Int) + 1) = ((i + 1 : Nat) : Int) from by omega]
theorem same15 (x : List Int) (hx : x.length ≤ 4398046511104) : Ev (fun k => manteletref15_Same.f k x x) true := by
  refine Ev.congr (fun k => ?_) (same15_l0 x hx x.length 0 (by omega))
  unfold manteletref15_Same.f
  rw [if_pos rfl]; rfl
theorem ints_l0 (x : List Int) (hx : x.length ≤ 4398046511104) : ∀ (d i : Nat), i + d = x.length → Ev (fun k => manteletref13_Ints.l0 k x x (i : Int)) true
  | 0, i, hd => by
    refine Ev.step (f := fun _ => some true) (fun k => ?_) (Ev.now _)
    simp only [manteletref13_Ints.l0]
    rw [if_neg (by omega)]
  | d + 1, i, hd => by
    refine Ev.step (fun k => ?_) (ints_l0 x hx d (i + 1) (by omega))
    simp only [manteletref13_Ints.l0]
    rw [if_pos (by omega), if_pos (by omega), if_pos (by omega), if_pos trivial, w64 (by omega) (by omega), show ((i : Int) + 1) = ((i + 1 : Nat) : Int) from by omega]
theorem ints_self (x : List Int) (hx : x.length ≤ 4398046511104) : Ev (fun k => manteletref13_Ints.f k x x) true := by
  refine Ev.congr (fun k => ?_) (ints_l0 x hx x.length 0 (by omega))
  unfold manteletref13_Ints.f
  rw [if_pos rfl]; rfl
theorem same16_ev {l : List EnS} (h : Ents l) (hb : bytesAll (Wl l) ≤ 149000) : Ev (fun k => manteletref16_Same.f k ((build (wordsN (Wl l))).map toS) (Cl l) (classesL l) ((build (wordsN (Wl l))).map toS) (Cl l) (classesL l)) true := by
  obtain ⟨l1, l2, l3, l4, l5, l6, l7⟩ := h.lens hb
  have hn := h.n
  have hA : OkA ((build (wordsN (Wl l))).map toS) := ⟨by rw [List.length_map]; omega, fun s hs => by
    obtain ⟨t, ht, rfl⟩ := List.mem_map.1 hs
    have := l6 t ht
    show (t.2.map toE).length ≤ _
    rw [List.length_map]; omega⟩
  have h14 := Same14 _ ((build (wordsN (Wl l))).map toS) hA
  rw [decide_eq_true rfl] at h14
  unfold manteletref16_Same.f
  refine Ev.bind h14 (Ev.congr (fun k => if_pos rfl) ?_)
  refine Ev.bind (same15 _ (by rw [Cl_len]; omega)) (Ev.congr (fun k => if_pos rfl) ?_)
  exact Ev.bind (ints_self _ (by unfold classesL; rw [List.length_map]; omega)) (Ev.now _)
theorem DB.same {l : List EnS} (h : Ents l) (hb : bytesAll (Wl l) ≤ 149000) {W : World} {b1 b2 g1 g2 : Nat} {A0 A1 A2 B0 B1 B2 : Option Addr} {c0 c1 c2 d0 d1 d2 : Nat} (hD : DB l W b1 g1 (.slice A0 (build (wordsN (Wl l))).length c0) (.slice A1 (Cl l).length c1) (.slice A2 (classesL l).length c2)) (hE : DB l W b2 g2 (.slice B0 (build (wordsN (Wl l))).length d0) (.slice B1 (Cl l).length d1) (.slice B2 (classesL l).length d2)) :
    Calls Try.prog 17 #[.agg #[.slice A0 (build (wordsN (Wl l))).length c0, .slice A1 (Cl l).length c1, .slice A2 (classesL l).length c2], .agg #[.slice B0 (build (wordsN (Wl l))).length d0, .slice B1 (Cl l).length d1, .slice B2 (classesL l).length d2]] W fun e w' => e = .returned (.bool true) ∧ Below W.heap.size W w' := by
  obtain ⟨k, hk⟩ := Ev.rounds (same16_ev h hb)
  obtain ⟨e1, s1, s2⟩ := Kd.S_reads' hD.2.1
  obtain ⟨_, r1, r2⟩ := Kd.R_reads' hD.2.2.1
  obtain ⟨_, q1, q2⟩ := Kd.R_reads' hD.2.2.2
  obtain ⟨_, t1, t2⟩ := Kd.S_reads' hE.2.1
  obtain ⟨_, u1, u2⟩ := Kd.R_reads' hE.2.2.1
  obtain ⟨_, v1, v2⟩ := Kd.R_reads' hE.2.2.2
  have := manteletref16_Same.calls k A0 c0 _ A1 c1 _ A2 c2 _ B0 d0 _ B1 d1 _ B2 d2 _ true W s2 (by omega) r2 r1 q2 q1 t2 (by omega) u2 u1 v2 v1 hk
  rw [← e1] at this
  exact this
end Go.Proofs.Ytgebhidpkcjpmaa.K

namespace Go.Proofs.Ytgebhidpkcjpmaa.K
open Go.RowKit Go.Proofs.YtgebhidpkcjpmaaW.PrintWords Go.Proofs.YtgebhidpkcjpmaaW.PrintLast Go.Proofs.YtgebhidpkcjpmaaW.PrintMore Go.Proofs.Ytgebhidpkcjpmaa
attribute [local go_sem] max2_int min2_int max_two min_two max_three min_three max_four min_four
set_option linter.unusedVariables false
set_option linter.unusedSimpArgs false
open Go Go.Proofs.Ytgebhidpkcjpmaa.PFileBack Go.Proofs.Ytgebhidpkcjpmaa.PR13 Go.Proofs.Ytgebhidpkcjpmaa.PDk Go.Proofs.Ytgebhidpkcjpmaa.PDm Go.Proofs.Ytgebhidpkcjpmaa.PIx Go.Proofs.Ytgebhidpkcjpmaa.PFl Go.Proofs.Ytgebhidpkcjpmaa.PLg Go.Proofs.Ytgebhidpkcjpmaa.PFg Go.Proofs.Ytgebhidpkcjpmaa.PMk Go.Proofs.Ytgebhidpkcjpmaa.PEn Go.Proofs.Ytgebhidpkcjpmaa.Daw Go.Proofs.Ytgebhidpkcjpmaa.Fil Go.Proofs.Ytgebhidpkcjpmaa.Crc
set_option maxHeartbeats 8000000 in
set_option maxRecDepth 100000 in
theorem FileBack_walk (A0 : Option Addr) (c0 : Nat) (l0 : List EnS) (a1 a2 : Int) (w : World) (hC0 : Kd.C k49 w A0 l0.length l0) (hc0 : l0.length ≤ c0) (hw0 : ∀ x ∈ l0, (Lit.int .u64 x.f1).wf = true) (w1 : (Lit.int .u16 a1).wf = true) (w2 : (Lit.int .u8 a2).wf = true) :
    Calls Try.prog 6 #[.slice A0 l0.length c0, .int .u16 a1, .int .u8 a2] w fun e w' => e = .returned (.bool true) ∧ Below w.heap.size w w' := by
  obtain ⟨b, hfew, hFEW⟩ := few16_k l0
  have HFEW := Aside0.mk hFEW
  clear hFEW
  have HC0 := Aside0.mk hC0; have HC0L := Aside0.mk hc0
  have r1 : 0 ≤ a1 ∧ a1 < 65536 := by have : 0 ≤ a1 ∧ a1 ≤ 65535 := (by simpa [Lit.wf, IntKind.min, IntKind.max, IntKind.bits, IntKind.signed] using w1); omega
  have r2 : 0 ≤ a2 ∧ a2 < 256 := by have : 0 ≤ a2 ∧ a2 ≤ 255 := (by simpa [Lit.wf, IntKind.min, IntKind.max, IntKind.bits, IntKind.signed] using w2); omega
  have R1 := Aside0.mk r1; have R2 := Aside0.mk r2
  have HSH := Aside0.mk (shown16_k w)
  clear hC0 hc0 w1 w2 r1 r2 hw0
  have huD := Try.underlying29
  go_enter Try.func6, Try.ntmps6
  go_wp2_with (first | (go_at_call 12; (with_reducible refine (HSH.out).mono ?_)))
  rintro x wA ⟨rfl, hb⟩
  have HBA := Aside0.mk hb
  have HF := Aside0.mk (HFEW.out A0 c0 wA (Kd.C_below HC0.out hb) HC0L.out)
  clear hb HSH HFEW
  cases b
  · go_wp2_with (first | (go_at_call 13; (with_reducible refine (HF.out).mono ?_)))
    rintro x wB ⟨rfl, hb⟩
    have HBB := Aside0.mk (HBA.out.trans (hb.mono HBA.out.size))
    clear hb HF HBA
    go_wp2
    go_ret
    exact ⟨rfl, HBB.out⟩
  go_wp2_with (first | (go_at_call 13; (with_reducible refine (HF.out).mono ?_)))
  rintro x wB ⟨rfl, hb⟩
  have HBB := Aside0.mk (HBA.out.trans (hb.mono HBA.out.size))
  have HM := Aside0.mk (may09_k l0 A0 c0 wB (Kd.C_below HC0.out HBB.out) HC0L.out)
  clear hb HF HBA
  go_wp2_with (first | (go_at_call 23; (with_reducible refine (HM.out).mono ?_)))
  rintro x wC ⟨rfl, hb⟩
  have HBC := Aside0.mk (HBB.out.trans (hb.mono HBB.out.size))
  clear hb HM HBB
  obtain ⟨m, hm⟩ : ∃ m, m = mayR l0 := ⟨_, rfl⟩
  have HMM := Aside0.mk hm
  rw [← hm]
  clear hm
  by_cases h0 : m = 0
  · subst h0
    obtain ⟨l60, lb⟩ := hfew trivial
    have hb60 := few_all l60 lb
    have hE := Ents.of_may HMM.out.symm (by omega)
    have HE := Aside0.mk hE
    have HMK := Aside0.mk (make_k hE A0 c0 wC (Kd.C_below HC0.out HBC.out) HC0L.out)
    have HSMALL := Aside0.mk (show bytesAll (Wl l0) ≤ 149000 by omega)
    clear hE hb60 lb l60 hfew HMM
    go_wp2_with (first | (go_at_call 14; (with_reducible refine (HMK.out).mono ?_)))
    rintro x wD ⟨v0, v1, v2, rfl, hS, hR1, hR2, hb⟩
    have HBD := Aside0.mk (HBC.out.trans (hb.mono HBC.out.size))
    obtain ⟨D0, d0, rfl⟩ := Kd.S_slice hS
    obtain ⟨D1, d1, rfl⟩ := Kd.R_slice hR1
    obtain ⟨D2, d2, rfl⟩ := Kd.R_slice hR2
    have hn0 : ((build (wordsN (Wl l0))).map toS).length = (build (wordsN (Wl l0))).length := List.length_map _
    rw [hn0] at hS ⊢
    clear hn0
    obtain ⟨gd, hgd⟩ : ∃ g, g = wD.heap.size := ⟨_, rfl⟩
    obtain ⟨wE, hwE⟩ : ∃ wE, wE = wD.alloc (.cells #[.slice D0 (build (wordsN (Wl l0))).length d0, .slice D1 (Cl l0).length d1, .slice D2 (classesL l0).length d2] 29 (0, 0)) := ⟨_, rfl⟩
    have hbE : Below wD.heap.size wD wE := by rw [hwE]; exact below_alloc (Below.refl _ _) _
    have hD : DB l0 wE wC.heap.size gd (.slice D0 (build (wordsN (Wl l0))).length d0) (.slice D1 (Cl l0).length d1) (.slice D2 (classesL l0).length d2) := by
      refine ⟨?_, Kd.S_below hS hbE, Kd.R_below hR1 hbE, Kd.R_below hR2 hbE⟩
      rw [hwE, hgd]; exact heap_alloc_new wD _
    have HD := Aside0.mk hD
    have HBE := Aside0.mk (HBD.out.trans (hbE.mono HBD.out.size))
    have HENC := Aside0.mk (DB.encode HE.out HSMALL.out hD)
    have HWE := Aside0.mk hwE
    have HGD := Aside0.mk hgd
    have HSZ := Aside0.mk (show gd < wE.heap.size from blk_lt hD.1)
    clear hS hR1 hR2 hb hwE hgd hbE hD HMK
    go_wp2_with (first | (go_at_call 16; rw [← HWE.out, ← HGD.out]; (with_reducible refine (HENC.out).mono ?_)))
    rintro x wF ⟨vB, rfl, hRB, hb⟩
    have HDF := Aside0.mk (HD.out.below hb)
    have HBF := Aside0.mk (HBE.out.trans (hb.mono HBE.out.size))
    have HSZF := Aside0.mk hb.size
    clear hb HENC HD
    obtain ⟨gB, cB, rfl, hgB1, hgB2, cells, hgB3⟩ := Kd.R_form hRB (by rw [zs_len]; have := dictB_ge (l := l0); omega)
    have HRB := Aside0.mk hRB
    have HGB := Aside0.mk hgB1
    obtain ⟨cc, hc1, hc2, hwc⟩ : ∃ cc : Nat, cc < (dictB l0).length ∧ cc ≤ cB ∧ (Go.RowKit.wrap64 a1).tmod ((zs (dictB l0)).length : Int) = (cc : Int) := by
      have := R1.out
      have h14 := dictB_ge (l := l0)
      have hcB := (Kd.R_reads' hRB).2.1
      rw [zs_len] at hcB
      have e1 : Go.RowKit.wrap64 a1 = a1 := wz (by omega) (by omega)
      have e2 : a1.tmod ((zs (dictB l0)).length : Int) = a1 % ((dictB l0).length : Int) := by rw [zs_len]; exact Int.tmod_eq_emod_of_nonneg (by omega)
      have e3 := Int.emod_nonneg a1 (show ((dictB l0).length : Int) ≠ 0 by omega)
      have e4 := Int.emod_lt_of_pos a1 (show (0 : Int) < ((dictB l0).length : Int) by omega)
      refine ⟨(a1 % ((dictB l0).length : Int)).toNat, by omega, by omega, ?_⟩
      rw [e1, e2]
      omega
    have HWC := Aside0.mk hwc; have HC1 := Aside0.mk hc1; have HC2 := Aside0.mk hc2
    have HDEC := Aside0.mk (decode_ents (dec_back HE.out HSMALL.out) (some ⟨gB, 0, none⟩) cB wF (Kd.R_reads' hRB).2.2 (Kd.R_reads' hRB).2.1)
    clear hRB hgB1 hgB2 hgB3 hwc hc1 hc2
    go_wp2_with (first | (go_at_call 24; (with_reducible refine (HDEC.out).mono ?_)))
    rintro x wG ⟨v0, v1, v2, rfl, hS, hR1, hR2, hb⟩
    obtain ⟨F0, f0, rfl⟩ := Kd.S_slice hS
    obtain ⟨F1, f1, rfl⟩ := Kd.R_slice hR1
    obtain ⟨F2, f2, rfl⟩ := Kd.R_slice hR2
    have hn0 : ((build (wordsN (Wl l0))).map toS).length = (build (wordsN (Wl l0))).length := List.length_map _
    rw [hn0] at hS ⊢
    clear hn0
    obtain ⟨gc, hgc⟩ : ∃ g, g = wG.heap.size := ⟨_, rfl⟩
    obtain ⟨wH, hwH⟩ : ∃ wH, wH = wG.alloc (.cells #[.slice F0 (build (wordsN (Wl l0))).length f0, .slice F1 (Cl l0).length f1, .slice F2 (classesL l0).length f2] 29 (0, 0)) := ⟨_, rfl⟩
    have hbH : Below wG.heap.size wG wH := by rw [hwH]; exact below_alloc (Below.refl _ _) _
    have HDC := Aside0.mk (show DB l0 wH wF.heap.size gc (.slice F0 (build (wordsN (Wl l0))).length f0) (.slice F1 (Cl l0).length f1) (.slice F2 (classesL l0).length f2) from by
      refine ⟨?_, Kd.S_below hS hbH, Kd.R_below hR1 hbH, Kd.R_below hR2 hbH⟩
      rw [hwH, hgc]; exact heap_alloc_new wG _)
    have HDD := Aside0.mk ((HDF.out.below hb).below hbH)
    have HBH := Aside0.mk (HBF.out.trans ((hb.mono HBF.out.size).trans (hbH.mono (Nat.le_trans HBF.out.size hb.size))))
    have HRH := Aside0.mk (Kd.R_below (Kd.R_below HRB.out hb) hbH)
    have HWH := Aside0.mk hwH; have HGC := Aside0.mk hgc
    have h2 := decode_bad (dec_cut HE.out HSMALL.out cc HC1.out) (some ⟨gB, 0, none⟩) cB wH (by have := Kd.C_take (m := cc) (Kd.R_reads' HRH.out).2.2 (by rw [zs_len]; exact Nat.le_of_lt HC1.out); rw [show zs ((dictB l0).take cc) = (zs (dictB l0)).take cc by unfold zs; rw [List.map_take]]; exact this) (by rw [zs_len, List.length_take]; have := HC1.out; have := HC2.out; omega)
    rw [show (zs ((dictB l0).take cc)).length = cc by rw [zs_len, List.length_take]; have := HC1.out; omega] at h2
    have HDEC2 := Aside0.mk h2
    have hwc := HWC.out
    have q0 : (0 : Int) ≤ (cc : Int) := by omega
    have q1 : (cc : Int) ≤ (cB : Int) := by have := HC2.out; omega
    have q2 : cc ≤ cB := HC2.out
    have hzn : ¬ ((zs (dictB l0)).length : Int) = 0 := by rw [zs_len]; have := dictB_ge (l := l0); omega
    have hz0 : (((zs (dictB l0)).length : Int) == 0) = false := by rw [beq_eq_false_iff_ne]; exact hzn
    clear h2 hS hR1 hR2 hb hbH hwH hgc HDEC HDF HBF HRB
    go_wp2_with (first | (go_at_call 24; rw [← HWH.out, ← HGC.out]; (with_reducible refine (HDEC2.out).mono ?_)))
    rintro z wI ⟨U0, U1, U2, k0, k1, k2, rfl, hb⟩
    obtain ⟨wJ, hwJ⟩ : ∃ wJ, wJ = wI.alloc (.cells #[.slice U0 0 k0, .slice U1 0 k1, .slice U2 0 k2] 29 (0, 0)) := ⟨_, rfl⟩
    have hbJ : Below wI.heap.size wI wJ := by rw [hwJ]; exact below_alloc (Below.refl _ _) _
    have HDC2 := Aside0.mk ((HDC.out.below hb).below hbJ)
    have HDD2 := Aside0.mk ((HDD.out.below hb).below hbJ)
    have HBJ := Aside0.mk (HBH.out.trans ((hb.mono HBH.out.size).trans (hbJ.mono (Nat.le_trans HBH.out.size hb.size))))
    have HRJ := Aside0.mk (Kd.R_below (Kd.R_below HRH.out hb) hbJ)
    have HWJ := Aside0.mk hwJ
    clear hb hbJ hwJ HDEC2 HDC HDD HBH HRH HWH hwc q0 q1 q2 hzn hz0 HWC HC1 HC2
    have r2 := R2.out
    obtain ⟨m, hm⟩ : ∃ m : Nat, a2 = (m : Int) := ⟨a2.toNat, by omega⟩
    have HM := Aside0.mk hm
    have HM256 := Aside0.mk (show m < 256 by omega)
    clear r2 hm
    go_wp2_with (first | ((with_reducible refine gate_dst (N := 70) rfl ?_); rw [← HWJ.out]; refine Kd.R_lit (Kd.int .u8) (w0 := wJ) wJ.heap.size 5 ?hg (N := 70) ?hd (xs := []) (inner := []) (ok := fun _ => True) (okp := fun _ => True) ?hr ?hp (fun _ hk => hk) trivial (Below.refl _ _) (Nat.le_refl _) (by simp) ?_; (case hd => rfl); (case hg => rfl); (case hr => first | (go_simp; done) | (go_simp; rfl)); (case hp => exact (Reps.none _ _))))
    intro y1 w1 hY1 hb1 _ _ _ _
    obtain ⟨Y1, s1, rfl⟩ := Kd.R_slice hY1
    have HY1 := Aside0.mk hY1; have HB1 := Aside0.mk hb1
    have HCL := Aside0.mk (Kd.C_below (Kd.R_reads' HRJ.out).2.2 hb1)
    have HLN := Aside0.mk (show (zs (dictB l0)).length ≤ 100000000 by
      have hs := recs_small _ (fine_all HE.out HSMALL.out)
      rw [← dict_recs] at hs
      rw [zs_len]
      simp only [List.length_cons, List.length_nil] at hs
      omega)
    clear hY1 hb1
    go_wp2_with ((with_reducible refine gate_builtin (b := .append) (xs := #[.tmp 70, .tmp 71]) rfl ?_); at_builtin; refine Kd.R_append_rows (Kd.int .u8) (w0 := wJ) wJ.heap.size rfl (.tmp 70) (.tmp 71) 36 5 (.int .u8 0) 1 rfl Try.underlying36 info5 rfl (by decide) (by omega) (.slice Y1 ([] : List Int).length s1) [] (zs (dictB l0)) _ _ _ (fun _ => True) (fun _ => False) rfl rfl HY1.out HCL.out (fun _ _ h => h) (fun _ h => h.elim) (fun _ _ => trivial) HB1.out (HB1.out).size (by have := HLN.out; simp; omega) ?_)
    intro y2 w2 hY2 hb2 _ _
    have HY2 := Aside0.mk hY2; have HB2 := Aside0.mk hb2
    clear hY2 hb2 HY1 HB1 HCL
    go_wp2_with ((with_reducible refine gate_builtin (b := .append) (xs := #[.tmp 72, .tmp 74]) rfl ?_); at_builtin; refine Kd.R_append (Kd.int .u8) (w0 := wJ) wJ.heap.size rfl (.tmp 72) (.tmp 74) 36 5 (.int .u8 0) 1 rfl Try.underlying36 info5 rfl (by decide) (by omega) y2 ([] ++ zs (dictB l0)) a2 [.int .u8 a2] (fun _ => True) (fun _ => False) rfl rfl rfl (fun _ hk => hk.elim) (fun _ _ => trivial) HY2.out HB2.out (HB2.out).size (by have := HLN.out; simp; omega) ?_)
    intro v3 w3 hY3 hb3 _ _
    obtain ⟨Y3, s3, rfl⟩ := Kd.R_slice hY3
    generalize hn3 : (zs (dictB l0) ++ [a2]).length = n3 at hY3 ⊢
    have HDC3 := Aside0.mk (HDC2.out.below hb3)
    have HDD3 := Aside0.mk (HDD2.out.below hb3)
    have HBK := Aside0.mk (HBJ.out.trans (hb3.mono HBJ.out.size))
    have ezs : zs (dictB l0) ++ [a2] = zs (dictB l0 ++ [m]) := by rw [zs_app, HM.out]; rfl
    rw [ezs] at hY3 hn3
    have h3 := decode_bad (dec_more HE.out HSMALL.out m HM256.out) Y3 s3 w3 (Kd.R_reads' hY3).2.2 (by rw [hn3]; exact (Kd.R_reads' hY3).2.1)
    rw [hn3] at h3
    have HDEC3 := Aside0.mk h3
    clear h3 hY3 hb3 hn3 ezs HY2 HB2 HDC2 HDD2 HBJ HRJ HWJ
    go_wp2_with (first | (go_at_call 24; (with_reducible refine (HDEC3.out).mono ?_)))
    rintro z wL ⟨V0, V1, V2, t0, t1, t2, rfl, hb⟩
    obtain ⟨wM, hwM⟩ : ∃ wM, wM = wL.alloc (.cells #[.slice V0 0 t0, .slice V1 0 t1, .slice V2 0 t2] 29 (0, 0)) := ⟨_, rfl⟩
    have hbM : Below wL.heap.size wL wM := by rw [hwM]; exact below_alloc (Below.refl _ _) _
    have HDC4 := Aside0.mk ((HDC3.out.below hb).below hbM)
    have HDD4 := Aside0.mk ((HDD3.out.below hb).below hbM)
    have HBM := Aside0.mk (HBK.out.trans ((hb.mono HBK.out.size).trans (hbM.mono (Nat.le_trans HBK.out.size hb.size))))
    have HWM := Aside0.mk hwM
    clear hb hbM hwM HDC3 HDD3 HBK HDEC3
    go_wp2
    rw [← HWM.out]
    refine start_ (n := 17) (S := fun w' => w'.cell? ⟨gc, 0, none⟩ = some (.slice F0 (build (wordsN (Wl l0))).length f0) ∧ w'.cell? ⟨gc, 1, none⟩ = some (.slice F1 (Cl l0).length f1) ∧ w'.cell? ⟨gc, 2, none⟩ = some (.slice F2 (classesL l0).length f2) ∧ w'.cell? ⟨gd, 0, none⟩ = some (.slice D0 (build (wordsN (Wl l0))).length d0) ∧ w'.cell? ⟨gd, 1, none⟩ = some (.slice D1 (Cl l0).length d1) ∧ w'.cell? ⟨gd, 2, none⟩ = some (.slice D2 (classesL l0).length d2)) (ds := []) #[false, false, false, false, false, false, false, false, false, false, false, false, false, false, false, false, false] (by kernel_rfl) rfl rfl (by exact ⟨(blk_cell (blk_drew HDC4.out.1) 0).trans rfl, (blk_cell (blk_drew HDC4.out.1) 1).trans rfl, (blk_cell (blk_drew HDC4.out.1) 2).trans rfl, (blk_cell (blk_drew HDD4.out.1) 0).trans rfl, (blk_cell (blk_drew HDD4.out.1) 1).trans rfl, (blk_cell (blk_drew HDD4.out.1) 2).trans rfl⟩) (fun hHeld => ?_)
    have HDC5 := Aside0.mk (HDC4.out.below (below_drew (Below.refl _ _)))
    have HDD5 := Aside0.mk (HDD4.out.below (below_drew (Below.refl _ _)))
    have HB5 := Aside0.mk (below_drew HBM.out)
    clear HDC4 HDD4 HBM HWM
    generalize wM.drew = w5 at HDC5 HDD5 HB5 hHeld ⊢
    (refine pure_ (i := 0) (N := some 79) (v := ?_) (a' := ?_) #[true, false, false, false, false, false, false, false, false, false, false, false, false, false, false, false, false] rfl rfl (by kernel_rfl) (fun _ _ _ h => h) (Or.inl ⟨by rfl, ?_⟩) ?_ ?_; rotate_left; (intro w'; go_simp; with_reducible rfl); rotate_left; (simp only [Act.put, List.setIfInBounds_toArray, List.set_cons_zero, List.set_cons_succ, i64_w, i32_w]; rfl)); (refine pure_ (i := 1) (N := some 80) (v := ?_) (a' := ?_) #[true, true, false, false, false, false, false, false, false, false, false, false, false, false, false, false, false] rfl rfl (by kernel_rfl) (fun _ _ _ h => h) (Or.inl ⟨by rfl, ?_⟩) ?_ ?_; rotate_left; (intro w'; go_simp; with_reducible rfl); rotate_left; (simp only [Act.put, List.setIfInBounds_toArray, List.set_cons_zero, List.set_cons_succ, i64_w, i32_w]; rfl))
    (refine take_ (i := 2) (N := some 81) (v := ?_) (a' := ?_) #[true, true, true, false, false, false, false, false, false, false, false, false, false, false, false, false, false] rfl rfl (by kernel_rfl) (fun _ _ _ h => h) (Or.inl ⟨by rfl, ?_⟩) hHeld ?_ ?_; rotate_left; (rintro w' ⟨x0, x1, x2, x3, x4, x5⟩; go_simp; with_reducible rfl); rotate_left; (simp only [Act.put, List.setIfInBounds_toArray, List.set_cons_zero, List.set_cons_succ, i64_w, i32_w]; rfl)); (refine take_ (i := 4) (N := some 83) (v := ?_) (a' := ?_) #[true, true, true, false, true, false, false, false, false, false, false, false, false, false, false, false, false] rfl rfl (by kernel_rfl) (fun _ _ _ h => h) (Or.inl ⟨by rfl, ?_⟩) hHeld ?_ ?_; rotate_left; (rintro w' ⟨x0, x1, x2, x3, x4, x5⟩; go_simp; with_reducible rfl); rotate_left; (simp only [Act.put, List.setIfInBounds_toArray, List.set_cons_zero, List.set_cons_succ, i64_w, i32_w]; rfl))
    refine one_ (i := 3) (N := some 82) #[true, true, true, true, true, false, false, false, false, false, false, false, false, false, false, false, false] rfl rfl (by kernel_rfl) (by decide) (fun K hK => ?_)
    (refine goes_ Try.func18 (by kernel_rfl) rfl #[.agg #[.slice F0 (build (wordsN (Wl l0))).length f0, .slice F1 (Cl l0).length f1, .slice F2 (classesL l0).length f2]] (by rfl) rfl rfl (by first | rfl | (simp only [List.map_toArray, List.map_cons, List.map_nil]; rfl)) ?_; with_reducible refine (real_k F0 F1 F2 _ _ _ f0 f1 f2 w5).mono ?_)
    rintro x w6 ⟨rfl, hb⟩
    refine ⟨_, rfl, ?_⟩
    have HDC6 := Aside0.mk (HDC5.out.below hb)
    have HDD6 := Aside0.mk (HDD5.out.below hb)
    have HB6 := Aside0.mk (HB5.out.trans (hb.mono HB5.out.size))
    refine hK.out _ _ ⟨(blk_cell HDC6.out.1 0).trans rfl, (blk_cell HDC6.out.1 1).trans rfl, (blk_cell HDC6.out.1 2).trans rfl, (blk_cell HDD6.out.1 0).trans rfl, (blk_cell HDD6.out.1 1).trans rfl, (blk_cell HDD6.out.1 2).trans rfl⟩ (fun hHeld => ?_)
    clear hb HDC5 HDD5 HB5
    (clear hK K; refine norm_ (a' := ?_) ?_ ?_; rotate_left; (show Act.put _ (some 82) _ = _; simp only [Act.put, List.setIfInBounds_toArray, List.set_cons_zero, List.set_cons_succ, i64_w, i32_w]; rfl))
    refine one_ (i := 5) (N := some 84) #[true, true, true, true, true, true, false, false, false, false, false, false, false, false, false, false, false] rfl rfl (by kernel_rfl) (by decide) (fun K hK => ?_)
    (refine goes_ Try.func18 (by kernel_rfl) rfl #[.agg #[.slice D0 (build (wordsN (Wl l0))).length d0, .slice D1 (Cl l0).length d1, .slice D2 (classesL l0).length d2]] (by rfl) rfl rfl (by first | rfl | (simp only [List.map_toArray, List.map_cons, List.map_nil]; rfl)) ?_; with_reducible refine (real_k D0 D1 D2 _ _ _ d0 d1 d2 w6).mono ?_)
    rintro x w7 ⟨rfl, hb⟩
    refine ⟨_, rfl, ?_⟩
    have HDC7 := Aside0.mk (HDC6.out.below hb)
    have HDD7 := Aside0.mk (HDD6.out.below hb)
    have HB7 := Aside0.mk (HB6.out.trans (hb.mono HB6.out.size))
    refine hK.out _ _ ⟨(blk_cell HDC7.out.1 0).trans rfl, (blk_cell HDC7.out.1 1).trans rfl, (blk_cell HDC7.out.1 2).trans rfl, (blk_cell HDD7.out.1 0).trans rfl, (blk_cell HDD7.out.1 1).trans rfl, (blk_cell HDD7.out.1 2).trans rfl⟩ (fun hHeld => ?_)
    clear hb HDC6 HDD6 HB6
    (clear hK K; refine norm_ (a' := ?_) ?_ ?_; rotate_left; (show Act.put _ (some 84) _ = _; simp only [Act.put, List.setIfInBounds_toArray, List.set_cons_zero, List.set_cons_succ, i64_w, i32_w]; rfl))
    have HSAME := Aside0.mk (DB.same HE.out HSMALL.out HDC7.out HDD7.out)
    refine one_ (i := 6) (N := some 85) #[true, true, true, true, true, true, true, false, false, false, false, false, false, false, false, false, false] rfl rfl (by kernel_rfl) (by decide) (fun K hK => ?_)
    (refine goes_ Try.func17 (by kernel_rfl) rfl #[.agg #[.slice F0 (build (wordsN (Wl l0))).length f0, .slice F1 (Cl l0).length f1, .slice F2 (classesL l0).length f2], .agg #[.slice D0 (build (wordsN (Wl l0))).length d0, .slice D1 (Cl l0).length d1, .slice D2 (classesL l0).length d2]] (by rfl) rfl rfl (by first | rfl | (simp only [List.map_toArray, List.map_cons, List.map_nil]; rfl)) ?_; with_reducible refine (HSAME.out).mono ?_)
    rintro x w8 ⟨rfl, hb⟩
    refine ⟨_, rfl, ?_⟩
    have HDC8 := Aside0.mk (HDC7.out.below hb)
    have HDD8 := Aside0.mk (HDD7.out.below hb)
    have HB8 := Aside0.mk (HB7.out.trans (hb.mono HB7.out.size))
    refine hK.out _ _ ⟨(blk_cell HDC8.out.1 0).trans rfl, (blk_cell HDC8.out.1 1).trans rfl, (blk_cell HDC8.out.1 2).trans rfl, (blk_cell HDD8.out.1 0).trans rfl, (blk_cell HDD8.out.1 1).trans rfl, (blk_cell HDD8.out.1 2).trans rfl⟩ (fun hHeld => ?_)
    clear hb HDC7 HDD7 HB7 HSAME
    (clear hK K; refine norm_ (a' := ?_) ?_ ?_; rotate_left; (show Act.put _ (some 85) _ = _; simp only [Act.put, List.setIfInBounds_toArray, List.set_cons_zero, List.set_cons_succ, i64_w, i32_w]; rfl))
    (refine pure_ (i := 7) (N := some 86) (v := ?_) (a' := ?_) #[true, true, true, true, true, true, true, true, false, false, false, false, false, false, false, false, false] rfl rfl (by kernel_rfl) (fun _ _ _ h => h) (Or.inl ⟨by rfl, ?_⟩) ?_ ?_; rotate_left; (intro w'; go_simp; with_reducible rfl); rotate_left; (simp only [Act.put, List.setIfInBounds_toArray, List.set_cons_zero, List.set_cons_succ, i64_w, i32_w]; rfl)); (refine pure_ (i := 8) (N := some 87) (v := ?_) (a' := ?_) #[true, true, true, true, true, true, true, true, true, false, false, false, false, false, false, false, false] rfl rfl (by kernel_rfl) (fun _ _ _ h => h) (Or.inl ⟨by rfl, ?_⟩) ?_ ?_; rotate_left; (intro w'; go_simp; with_reducible rfl); rotate_left; (simp only [Act.put, List.setIfInBounds_toArray, List.set_cons_zero, List.set_cons_succ, i64_w, i32_w]; rfl)); (refine pure_ (i := 9) (N := some 88) (v := ?_) (a' := ?_) #[true, true, true, true, true, true, true, true, true, true, false, false, false, false, false, false, false] rfl rfl (by kernel_rfl) (fun _ _ _ h => h) (Or.inl ⟨by rfl, ?_⟩) ?_ ?_; rotate_left; (intro w'; go_simp; with_reducible rfl); rotate_left; (simp only [Act.put, List.setIfInBounds_toArray, List.set_cons_zero, List.set_cons_succ, i64_w, i32_w]; rfl)); (refine pure_ (i := 10) (N := some 89) (v := ?_) (a' := ?_) #[true, true, true, true, true, true, true, true, true, true, true, false, false, false, false, false, false] rfl rfl (by kernel_rfl) (fun _ _ _ h => h) (Or.inl ⟨by rfl, ?_⟩) ?_ ?_; rotate_left; (intro w'; go_simp; with_reducible rfl); rotate_left; (simp only [Act.put, List.setIfInBounds_toArray, List.set_cons_zero, List.set_cons_succ, i64_w, i32_w]; rfl)); (refine pure_ (i := 11) (N := some 90) (v := ?_) (a' := ?_) #[true, true, true, true, true, true, true, true, true, true, true, true, false, false, false, false, false] rfl rfl (by kernel_rfl) (fun _ _ _ h => h) (Or.inl ⟨by rfl, ?_⟩) ?_ ?_; rotate_left; (intro w'; go_simp; with_reducible rfl); rotate_left; (simp only [Act.put, List.setIfInBounds_toArray, List.set_cons_zero, List.set_cons_succ, i64_w, i32_w]; rfl)); (refine pure_ (i := 12) (N := some 91) (v := ?_) (a' := ?_) #[true, true, true, true, true, true, true, true, true, true, true, true, true, false, false, false, false] rfl rfl (by kernel_rfl) (fun _ _ _ h => h) (Or.inl ⟨by rfl, ?_⟩) ?_ ?_; rotate_left; (intro w'; go_simp; with_reducible rfl); rotate_left; (simp only [Act.put, List.setIfInBounds_toArray, List.set_cons_zero, List.set_cons_succ, i64_w, i32_w]; rfl)); (refine pure_ (i := 13) (N := some 92) (v := ?_) (a' := ?_) #[true, true, true, true, true, true, true, true, true, true, true, true, true, true, false, false, false] rfl rfl (by kernel_rfl) (fun _ _ _ h => h) (Or.inl ⟨by rfl, ?_⟩) ?_ ?_; rotate_left; (intro w'; go_simp; with_reducible rfl); rotate_left; (simp only [Act.put, List.setIfInBounds_toArray, List.set_cons_zero, List.set_cons_succ, i64_w, i32_w]; rfl)); (refine pure_ (i := 14) (N := some 93) (v := ?_) (a' := ?_) #[true, true, true, true, true, true, true, true, true, true, true, true, true, true, true, false, false] rfl rfl (by kernel_rfl) (fun _ _ _ h => h) (Or.inl ⟨by rfl, ?_⟩) ?_ ?_; rotate_left; (intro w'; go_simp; with_reducible rfl); rotate_left; (simp only [Act.put, List.setIfInBounds_toArray, List.set_cons_zero, List.set_cons_succ, i64_w, i32_w]; rfl)); (refine pure_ (i := 15) (N := some 94) (v := ?_) (a' := ?_) #[true, true, true, true, true, true, true, true, true, true, true, true, true, true, true, true, false] rfl rfl (by kernel_rfl) (fun _ _ _ h => h) (Or.inl ⟨by rfl, ?_⟩) ?_ ?_; rotate_left; (intro w'; go_simp; with_reducible rfl); rotate_left; (simp only [Act.put, List.setIfInBounds_toArray, List.set_cons_zero, List.set_cons_succ, i64_w, i32_w]; rfl)); (refine pure_ (i := 16) (N := some 6) (v := ?_) (a' := ?_) #[true, true, true, true, true, true, true, true, true, true, true, true, true, true, true, true, true] rfl rfl (by kernel_rfl) (fun _ _ _ h => h) (Or.inl ⟨by rfl, ?_⟩) ?_ ?_; rotate_left; (intro w'; go_simp; with_reducible rfl); rotate_left; (simp only [Act.put, List.setIfInBounds_toArray, List.set_cons_zero, List.set_cons_succ, i64_w, i32_w]; rfl))
    refine done_ (by kernel_rfl) ?_
    go_wp2
    go_ret
    exact ⟨by simp, HB8.out⟩
  · go_wp2
    go_ret
    exact ⟨rfl, HBC.out⟩
end Go.Proofs.Ytgebhidpkcjpmaa.K

namespace Go.Proofs.Ytgebhidpkcjpmaa.K
open Go.RowKit Go.Proofs.YtgebhidpkcjpmaaW.PrintWords Go.Proofs.YtgebhidpkcjpmaaW.PrintLast Go.Proofs.YtgebhidpkcjpmaaW.PrintMore Go.Proofs.Ytgebhidpkcjpmaa
attribute [local go_sem] max2_int min2_int max_two min_two max_three min_three max_four min_four
set_option linter.unusedVariables false
set_option linter.unusedSimpArgs false
end Go.Proofs.Ytgebhidpkcjpmaa.K

namespace Go.Proofs.Ytgebhidpkcjpmaa.K
open Go.RowKit Go.Proofs.YtgebhidpkcjpmaaW.PrintWords Go.Proofs.YtgebhidpkcjpmaaW.PrintLast Go.Proofs.YtgebhidpkcjpmaaW.PrintMore Go.Proofs.Ytgebhidpkcjpmaa
attribute [local go_sem] max2_int min2_int max_two min_two max_three min_three max_four min_four
set_option linter.unusedVariables false
set_option linter.unusedSimpArgs false
open Go.Proofs.Ytgebhidpkcjpmaa Go.Proofs.Ytgebhidpkcjpmaa.PR13
theorem pick_rowE {α : Type} {n : Nat} {p : Nat → α → Prop} (h : ∀ i, i < n → ∃ x, p i x) : ∃ l : List α, l.length = n ∧ ∀ i (hi : i < l.length), p i l[i] := by
  induction n with
  | zero => exact ⟨[], rfl, fun i hi => by simp at hi⟩
  | succ n ih =>
    obtain ⟨l, h1, h2⟩ := ih (fun i hi => h i (by omega))
    obtain ⟨x, hx⟩ := h n (by omega)
    refine ⟨l ++ [x], by simp [h1], fun i hi => ?_⟩
    rw [List.length_append, List.length_singleton] at hi
    by_cases hin : i < l.length
    · rw [List.getElem_append_left hin]; exact h2 i hin
    · have : i = n := by omega
      subst this
      rw [List.getElem_append_right (by omega)]
      simpa [h1] using hx
theorem open_entriesC {H : Type} {enc : TypeId × Value → H} {P : Program} {w : World} {base : Nat} {held : Bool} {t e : TypeId} {f0 f1 : Field} {a : Option Addr} {len cap : Nat} {d : DataW H} {ps : List MemPlace}
    (ht : P.underlying t = some (.slice e)) (he : P.underlying e = some (.struct #[f0, f1])) (ce : P.cellsOf e = 2) (o0 : f0.offset = 0) (o1 : f1.offset = 1)
    (c0 : P.cellsOf f0.type = 1) (c1 : P.cellsOf f1.type = 1) (u0 : P.underlying f0.type = some .string) (u1 : P.underlying f1.type = some (.int .u64))
    (h : DataW.Trod enc P w base (fun _ => true) held t (.slice a len cap) d ps) :
    ∃ l : List S49, len = l.length ∧ l.length ≤ cap ∧ l.length ≤ maxLen ∧ Kd.C k49 w a l.length l ∧ ∀ x ∈ l, (Lit.int .u64 x.f1).wf = true := by
  obtain ⟨fuel, hf⟩ := h
  rcases Go.Deep.open_slice ht hf with ⟨hcs, _⟩ | ⟨a', len', cap', m, n, D, Pl, hcs, hb, hl, hm, hmm, hx, hel⟩
  · simp [Value.cells] at hcs
    obtain ⟨rfl, rfl, rfl⟩ := hcs
    exact ⟨[], rfl, Nat.le_refl _, Nat.zero_le _, Kd.C_nil _ _, by simp⟩
  · simp [Value.cells] at hcs
    obtain ⟨rfl, rfl, rfl⟩ := hcs
    simp only [if_true] at hmm
    have hmq := hmm.symm
    subst hmq
    obtain ⟨l, h1, h2⟩ := pick_rowE (n := len) (p := fun i (s : S49) => w.cell? (a'.add (i * 2)) = some (.string s.f0) ∧ w.cell? (a'.add (i * 2 + 1)) = some (.int .u64 s.f1) ∧ (Lit.int .u64 s.f1).wf = true) (fun i hi => by
      obtain ⟨cs', g1, g2⟩ := hel i (by omega)
      rw [ce] at g1
      obtain ⟨_, hlen, hcell⟩ := World.cells?_some g1
      obtain ⟨xs, k, hk, hxy, _, hxl, hff⟩ := DataW.trod_struct he g2
      match xs, hxl, cs', hlen with
      | [y0, y1], _, [v0, v1], _ =>
        have q0 := hff 0 f0 rfl
        have q1 := hff 1 f1 rfl
        simp [o0, o1, c0, c1] at q0 q1
        have e0 := hcell 0 (by omega)
        have e1 := hcell 1 (by omega)
        rw [add_add] at e0 e1
        obtain ⟨n0, r0, z0, s0⟩ := DataW.trod_string u0 q0
        obtain ⟨n1, r1, z1, s1⟩ := DataW.trod_int u1 q1
        injection r0 with r0 _
        injection r1 with r1 _
        exact ⟨⟨n0, n1⟩, by rw [← r0]; simpa using e0, by rw [← r1]; simpa using e1, s1⟩)
    refine ⟨l, h1.symm, by omega, by omega, ⟨rfl, by unfold maxLen at hm; omega, fun _ => ⟨a', rfl, fun j p hj => ?_⟩⟩, fun s hs2 => ?_⟩
    · obtain ⟨hjl, rfl⟩ := List.getElem?_eq_some_iff.1 hj
      obtain ⟨g0, g1, _⟩ := h2 j hjl
      refine ⟨_, rfl, k49_mk w _, fun i u hu => ?_⟩
      match i with
      | 0 => simp at hu; rw [← hu]; exact g0
      | 1 => simp at hu; rw [← hu]; exact g1
      | i + 2 => simp at hu
    · obtain ⟨i, hi, rfl⟩ := List.getElem_of_mem hs2
      exact (h2 i hi).2.2
end Go.Proofs.Ytgebhidpkcjpmaa.K

namespace Go.Proofs.Ytgebhidpkcjpmaa.fileBack
open Go.ChangeShapes Go.WideShapes Go.ChangeAt Go.RowKit
open Go.ChangeMaps (open_string shut_string)
set_option linter.unusedVariables false
theorem own : ownKnob Try.prog.godebug = none := by kernel_rfl
theorem laidOut : laidOutB Try.prog = true := by kernel_rfl
def IsRow (k : IntKind) (w : World) (a : Option Addr) (len cap : Nat) (zs : List Int) : Prop :=
  (a = none ∧ len = 0 ∧ cap = 0 ∧ zs = []) ∨
  ∃ x, a = some x ∧ len ≤ cap ∧ cap ≤ maxLen ∧ zs.length = cap ∧ (∀ i, i < zs.length → w.cell? (x.add i) = some (.int k (zs.getD i 0))) ∧ ∀ n ∈ zs, (Lit.int k n).wf = true
set_option maxRecDepth 100000 in
theorem lifted (os : Os) (started : os.Started) (H : Type) (enc : TypeId × Value → H) :
    ReturnsInHanded {} Try.checked os 6 .any (Rows.fileBackSpec.pre6 enc Try.prog Try.f6 Rows.fileBackRow.domain false) (Rows.fileBackSpec.post enc Try.prog Try.f6 false true false false) := by
  refine returnsInHanded_of_change_sized (C := Try.checked) own started (by kernel_rfl) Try.func6
    (ChangeSpec.witness6 (enc := enc) (C := Try.checked) false ⟨#[], #[.slice none 0 0, .int .u16 0, .int .u8 0], []⟩ 8 (by kernel_rfl) (by kernel_rfl) (by kernel_rfl) (by kernel_rfl)) ?_
  intro W base args ds gs before hval0 hW hcnd hsz0 _
  have hsz : (DataW.weightsEach Try.prog (Try.f6.params.toList ++ Rows.fileBackSpec.plain.varTypes Try.prog) (ds ++ gs)).all (· ≤ reachBytes) = true := hsz0
  have hval : ∀ (j : Nat) t v, Try.f6.params[j]? = some t → args[j]? = some v → Value.okWide Try.prog W .any base t v := hval0
  have hW' := hW
  obtain ⟨p, q, hA0, hV, rfl, hfz, hnd⟩ := hW
  have hA : DataW.TrodAll enc Try.prog W 0 (fun _ => true) true Try.f6.params.toList args.toList ds p := hA0
  rw [Try.params6] at hA hval hsz
  obtain ⟨v0, vs0, d0, ds0, p0, q0, hargs, rfl, rfl, h0, r0⟩ := trodAll_cons hA
  obtain ⟨v1, vs1, d1, ds1, p1, q1, rfl, rfl, rfl, h1, r1⟩ := trodAll_cons r0
  obtain ⟨v2, vs2, d2, ds2, p2, q2, rfl, rfl, rfl, h2, r2⟩ := trodAll_cons r1
  obtain ⟨rfl, rfl, rfl⟩ := trodAll_nil r2
  obtain rfl : args = #[v0, v1, v2] := by cases args; simp_all
  obtain ⟨rfl, rfl⟩ := trodVars_none hV
  obtain ⟨a0, len0, cap0, rfl⟩ := okWide_slice Try.underlying22 (hval 0 22 v0 rfl rfl)
  have k0 := h0
  have lt0 : ∀ x ∈ p0, x.block < W.heap.size := by obtain ⟨m, hm⟩ := k0; exact DataW.trod_lt m _ _ _ hm
  obtain ⟨l0, rfl, hc0, hm0, hC0, hw0⟩ := K.open_entriesC Try.underlying22 Try.underlying49 (by kernel_rfl) rfl rfl (by kernel_rfl) (by kernel_rfl) Try.underlying9 Try.underlying47 h0
  obtain ⟨a1, rfl, rfl, rfl, w1⟩ := open_int Try.underlying51 (hval 1 51 v1 rfl rfl) h1
  obtain ⟨a2, rfl, rfl, rfl, w2⟩ := open_int Try.underlying5 (hval 2 5 v2 rfl rfl) h2
  clear hA0 hval0 hsz0 hsz
  refine (K.FileBack_walk a0 cap0 l0 a1 a2 W hC0 hc0 hw0 w1 w2).mono fun e W' ⟨he, bel⟩ => ?_
  subst he
  exact ⟨_, rfl, _, _, _, [], _, [], hW', trodAll_mk1 (shut_bool Try.underlying4 _), (trodAll_cons_mk (Below.trod laidOut (by kernel_rfl) (of_decide_eq_true (by kernel_rfl)) k0 bel lt0) (trodAll_cons_mk (shut_int Try.underlying51 w1) (trodAll_cons_mk (shut_int Try.underlying5 w2) trodAll_mk0))), rfl, bel.frame _, fun h => by cases h⟩
theorem over : Rows.fileBackRow.holds Try.pinned (OpenSpec.ofChange Rows.fileBackSpec) :=
  OpenClaim.holds_of_wide 6 Try.f6 rfl rfl rfl rfl rfl rfl rfl ⟨rfl, rfl, rfl, rfl, rfl⟩ rfl rfl rfl rfl rfl (by kernel_rfl) Try.func6 (by kernel_rfl)
    (of_decide_eq_true (by kernel_rfl)) (by unfold Func.isWrapper; first | (rw [if_pos (by decide +kernel)]; kernel_rfl) | (rw [if_neg (by decide +kernel)]; exact ⟨rfl, rfl⟩))
    (fun os started H enc _ => lifted os started H enc)
theorem proved : Rows.FileBackSaid := over
#print axioms proved
end Go.Proofs.Ytgebhidpkcjpmaa.fileBack
namespace Go.Proofs.Ytgebhidpkcjpmaa
/-- The row, under a short name, for the claim. -/
theorem fileBack_holds : Rows.FileBackSaid := fileBack.proved
end Go.Proofs.Ytgebhidpkcjpmaa

