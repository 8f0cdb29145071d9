/- FileTurned. (The texts that the proof is made of, one behind the other: part 17 of 17.) -/
import Derived.Laws.EntriesVeiled
import Derived.Laws.ResultCell
import Derived.Test.YtgebhidpkcjpmaaProg
import Derived.Below
import Derived.Deep.Draws
import Derived.Deep.AppendLies
import Derived.Maps.AppendAt
import Derived.OwnWalk
import Derived.Laws.BytesArg
import Derived.Laws.MakeOwn
import Derived.Laws.OwnMore
import Derived.Deep.OwnRows
import Derived.Tactics
import Derived.Lib.ConvBytes
import Derived.Laws.Slices
import Derived.WalkKit
import Derived.KernelRfl
import Derived.RowKit3
import Derived.Deep.LoopGhost
import Derived.Deep.QuietTactic
import Derived.BigQuiet
import Derived.WideLaws
import Derived.Deep.DeepCutAuto
import Derived.Deep.CutBlock
import Derived.Deep.RegionHeld3
import Derived.Laws.Rows
import Derived.Lib.AppendStr
import Derived.ArgAppend
import Derived.Laws.IdiomCopy
import Derived.OrdersHeld
import Derived.Laws.BitsLemmas
import Derived.RowKit
import Derived.Lib.OthersKept
import Derived.WalkSmall
import Derived.Deep.RegionLaw
import Derived.BigRegion
import Derived.Laws.BitsAllLaws
import Derived.Deep.Matrix
import Derived.SliceStrings
import Derived.Test.YtgebhidpkcjpmaaRows
import Derived.Deep.SlicePairs
import Derived.ProofKit
import Derived.OpenShut
import Derived.ShutString
import Derived.ChangeOld
import Derived.SizedLaws
import Derived.Test.YtgebhidpkcjpmaaZFileTurneda
import Derived.Test.YtgebhidpkcjpmaaZFileTurnedb
import Derived.Test.YtgebhidpkcjpmaaZFileTurnedc
import Derived.Test.YtgebhidpkcjpmaaZFileTurnedd
import Derived.Test.YtgebhidpkcjpmaaZFileTurnede
import Derived.Test.YtgebhidpkcjpmaaZFileTurnedf
import Derived.Test.YtgebhidpkcjpmaaZFileTurnedg
import Derived.Test.YtgebhidpkcjpmaaZFileTurnedh
import Derived.Test.YtgebhidpkcjpmaaZFileTurnedi
import Derived.Test.YtgebhidpkcjpmaaZFileTurnedj
import Derived.Test.YtgebhidpkcjpmaaZFileTurnedk
import Derived.Test.YtgebhidpkcjpmaaZFileTurnedl
import Derived.Test.YtgebhidpkcjpmaaZFileTurnedm
import Derived.Test.YtgebhidpkcjpmaaZFileTurnedn
import Derived.Test.YtgebhidpkcjpmaaZFileTurnedo
import Derived.Test.YtgebhidpkcjpmaaZFileTurnedp
namespace Go.Proofs.Ytgebhidpkcjpmaa.K
open Go.RowKit Go.Proofs.YtgebhidpkcjpmaaW.PrintWords Go.Proofs.YtgebhidpkcjpmaaW.PrintLast Go.Proofs.YtgebhidpkcjpmaaW.PrintMore Go.Proofs.Ytgebhidpkcjpmaa
attribute [local go_sem] max2_int min2_int max_two min_two max_three min_three max_four min_four
set_option linter.unusedVariables false
set_option linter.unusedSimpArgs false
open Go Go.Proofs.Ytgebhidpkcjpmaa.PR13 Go.Proofs.Ytgebhidpkcjpmaa.PDk Go.Proofs.Ytgebhidpkcjpmaa.PDm Go.Proofs.Ytgebhidpkcjpmaa.PIx Go.Proofs.Ytgebhidpkcjpmaa.PFl Go.Proofs.Ytgebhidpkcjpmaa.PLg Go.Proofs.Ytgebhidpkcjpmaa.PFg Go.Proofs.Ytgebhidpkcjpmaa.PMk Go.Proofs.Ytgebhidpkcjpmaa.PEn Go.Proofs.Ytgebhidpkcjpmaa.Daw Go.Proofs.Ytgebhidpkcjpmaa.Fil Go.Proofs.Ytgebhidpkcjpmaa.Crc
theorem few16_k (l : List EnS) : ∃ b, (b = true → l.length ≤ 60 ∧ ∀ x ∈ l, x.f0.size ≤ 300) ∧ ∀ (A : Option Addr) (c : Nat) (w : World), Kd.C k49 w A l.length l → l.length ≤ c → Calls Try.prog 13 #[.slice A l.length c] w fun e w' => e = .returned (.bool b) ∧ Below w.heap.size w w' := by
  obtain ⟨b, h1, h2⟩ := few16 l
  obtain ⟨k, hk⟩ := Ev.rounds h1
  refine ⟨b, h2, fun A c w hC hc => (manteletlaw16_few.calls k A c l b w hC hc hk).mono ?_⟩
  rintro e w' ⟨rfl, hD⟩
  exact ⟨rfl, hD.below⟩
theorem may09_k (l : List EnS) (A : Option Addr) (c : Nat) (w : World) (hC : Kd.C k49 w A l.length l) (hc : l.length ≤ c) : Calls Try.prog 23 #[.slice A l.length c] w fun e w' => e = .returned (.int .i64 (mayR l)) ∧ Below w.heap.size w w' :=
  manteletref09_May.calls A c l _ w hC hc rfl
def MadeQ (l : List EnS) (w : World) (e : Ending) (w' : World) : Prop := ∃ v0 v1 v2 : Value, e = .returned (.tuple #[.agg #[v0, v1, v2], .int .i64 0]) ∧ Kd.S k82 82 w' w.heap.size (fun _ => True) v0 ((build (wordsN (Wl l))).map toS) ∧ Kd.R (Kd.int .u64) 47 w' w.heap.size (fun _ => True) v1 (Cl l) ∧ Kd.R (Kd.int .i64) 3 w' w.heap.size (fun _ => True) v2 (classesL l) ∧ Below w.heap.size w w'
theorem make_k {l : List EnS} (h : Ents l) (A : Option Addr) (c : Nat) (w : World) (hC : Kd.C k49 w A l.length l) (hc : l.length ≤ c) : Calls Try.prog 14 #[.slice A l.length c] w (MadeQ l w) := by
  obtain ⟨k, hk⟩ := Ev.rounds (make_ev h)
  exact file_Make.calls k A c l _ _ _ _ w hC hc hk
theorem decode_bad {B : List Int} (he : Ev (fun k => file_Decode.f k B) bad2) (A : Option Addr) (c : Nat) (w : World) (hC : Kd.C (Kd.int .u8) w A B.length B) (hc : B.length ≤ c) : Calls Try.prog 24 #[.slice A B.length c] w fun e w' => ∃ (A0 A1 A2 : Option Addr) (c0 c1 c2 : Nat), e = .returned (.tuple #[.agg #[.slice A0 0 c0, .slice A1 0 c1, .slice A2 0 c2], .int .i64 2]) ∧ Below w.heap.size w w' := by
  obtain ⟨k, hk⟩ := Ev.rounds he
  refine (file_Decode.calls k A c B _ _ _ _ w hC hc hk).mono ?_
  rintro e w' ⟨v0, v1, v2, rfl, h0, h1, h2, hb⟩
  obtain ⟨A0, c0, rfl⟩ := Kd.S_slice h0
  obtain ⟨A1, c1, rfl⟩ := Kd.R_slice h1
  obtain ⟨A2, c2, rfl⟩ := Kd.R_slice h2
  exact ⟨A0, A1, A2, c0, c1, c2, rfl, hb⟩
theorem encode_k {S : List S82} {C K B : List Int} {n : Int} (he : Ev (fun k => file_Encode.f k S C K) (B, n)) (A0 A1 A2 : Option Addr) (c0 c1 c2 n0 n1 n2 : Nat) (e0 : n0 = S.length) (e1 : n1 = C.length) (e2 : n2 = K.length) (w : World) (h0 : Kd.C k82 w A0 S.length S) (h0c : S.length ≤ c0) (h1 : Kd.C (Kd.int .u64) w A1 C.length C) (h1c : C.length ≤ c1) (h2 : Kd.C (Kd.int .i64) w A2 K.length K) (h2c : K.length ≤ c2) :
    Calls Try.prog 16 #[.agg #[.slice A0 n0 c0, .slice A1 n1 c1, .slice A2 n2 c2]] w fun e w' => ∃ v0 : Value, e = .returned (.tuple #[v0, .int .i64 n]) ∧ Kd.R (Kd.int .u8) 5 w' w.heap.size (fun _ => True) v0 B ∧ Below w.heap.size w w' := by
  obtain ⟨k, hk⟩ := Ev.rounds he
  subst e0 e1 e2
  exact file_Encode.calls k A0 c0 S A1 c1 C A2 c2 K _ _ w h0 h0c h1 h1c h2 h2c hk
/-- A dictionary of entries that lies in a block. -/
def DB (l : List EnS) (W : World) (base g : Nat) (v0 v1 v2 : Value) : Prop := W.heap[g]? = some (.cells #[v0, v1, v2] 29 (0, 0)) ∧ Kd.S k82 82 W base (fun _ => True) v0 ((build (wordsN (Wl l))).map toS) ∧ Kd.R (Kd.int .u64) 47 W base (fun _ => True) v1 (Cl l) ∧ Kd.R (Kd.int .i64) 3 W base (fun _ => True) v2 (classesL l)
theorem DB.below {l : List EnS} {W W' : World} {base g : Nat} {v0 v1 v2 : Value} (h : DB l W base g v0 v1 v2) (hb : Below W.heap.size W W') : DB l W' base g v0 v1 v2 := ⟨(hb.block g (blk_lt h.1)).trans h.1, Kd.S_below h.2.1 hb, Kd.R_below h.2.2.1 hb, Kd.R_below h.2.2.2 hb⟩
theorem DB.encode {l : List EnS} (h : Ents l) (hb : bytesAll (Wl l) ≤ 149000) {W : World} {base g : Nat} {A0 A1 A2 : Option Addr} {c0 c1 c2 : Nat} (hD : DB l W base g (.slice A0 (build (wordsN (Wl l))).length c0) (.slice A1 (Cl l).length c1) (.slice A2 (classesL l).length c2)) :
    Calls Try.prog 16 #[.agg #[.slice A0 (build (wordsN (Wl l))).length c0, .slice A1 (Cl l).length c1, .slice A2 (classesL l).length c2]] W fun e w' => ∃ v0 : Value, e = .returned (.tuple #[v0, .int .i64 0]) ∧ Kd.R (Kd.int .u8) 5 w' W.heap.size (fun _ => True) v0 (zs (dictB l)) ∧ Below W.heap.size W w' := by
  obtain ⟨e1, s1, s2⟩ := Kd.S_reads' hD.2.1
  obtain ⟨_, r1, r2⟩ := Kd.R_reads' hD.2.2.1
  obtain ⟨_, q1, q2⟩ := Kd.R_reads' hD.2.2.2
  exact encode_k (h.encoded hb) A0 A1 A2 c0 c1 c2 _ _ _ e1 rfl rfl W s2 (by omega) r2 r1 q2 q1
theorem dictB_ge {l : List EnS} : 14 ≤ (dictB l).length := by
  have hp := put_pos (statesB (build (wordsN (Wl l)))).length
  have e : (dictB l).length = (recB sumB magicB).length + ((recB sumB (statesB (build (wordsN (Wl l))))).length + ((recB sumB (countsB (cN l))).length + (recB sumB (kN l)).length)) := by
    unfold dictB encB; simp only [List.length_append]
  have e1 : (recB sumB magicB).length = 13 := by
    have := recB_size magicB ⟨by decide, by decide⟩
    rw [this.1, show put magicB.length = [8] from put_low (by decide)]; rfl
  have e2 : 4 ≤ (recB sumB (statesB (build (wordsN (Wl l))))).length := by
    unfold recB; rw [List.length_append, List.length_append, sumB_len]; omega
  omega
theorem may_off {l : List EnS} (h : Ents l) (C K : List Int) (hKl : K.length ≤ 1000000000) (hC : C.length ≠ l.length ∨ (C = Cl l ∧ K ≠ classesL l)) : Ev (fun k => file_may.f k ((build (wordsN (Wl l))).map toS) C K) false := by
  obtain ⟨cs, h1, h2, h3⟩ := h.ws.cnts
  obtain ⟨lg, g1, g2, g3⟩ := lng_built h.ws
  have hpos := h.ws.pos
  have hn := h.n
  have hcl := csL_len cs (build (wordsN (Wl l))).length
  have hlast : rd (csL cs (build (wordsN (Wl l))).length) (((build (wordsN (Wl l))).length : Int) - 1) = (l.length : Int) := by
    have := rd_csL cs (build (wordsN (Wl l))).length 0 ((build (wordsN (Wl l))).length - 1) (by omega)
    rw [show (((build (wordsN (Wl l))).length : Int) - 1) = (((build (wordsN (Wl l))).length - 1 : Nat) : Int) by omega]
    rw [← Wl_len l, ← h2]
    simpa using this
  unfold file_may.f
  refine Ev.bind h3 ?_
  refine Ev.congr (fun k => if_pos rfl) (Ev.congr (fun k => if_pos (by rw [hcl]; exact hpos)) ?_)
  dsimp only
  rw [hcl, hlast]
  rcases hC with hC | ⟨rfl, hK⟩
  · exact Ev.congr (fun k => if_neg (by omega)) (Ev.now _)
  refine Ev.congr (fun k => if_pos (by rw [Cl_len])) ?_
  have hlg : lg ((build (wordsN (Wl l))).length - 1) ≤ 255 := by
    by_cases hl : Wl l = []
    · rw [g3 hl]; exact Nat.zero_le _
    · rw [g2 hl]
      refine mlen_le.2 fun v hv => ?_
      unfold wordsN Wl at hv
      rw [List.map_map] at hv
      obtain ⟨x, hx, rfl⟩ := List.mem_map.1 hv
      have := (fineB_iff x).1 (h.fine x hx)
      show (Utf.nats x.f0).length ≤ 255
      have e : (Utf.nats x.f0).length = x.f0.size := by simp [Utf.nats]
      omega
  have hodd : (Cl l).any oddB = false := by
    rw [Bool.eq_false_iff]
    intro ha
    obtain ⟨n, hn, ho⟩ := List.any_eq_true.1 ha
    unfold Cl at hn
    obtain ⟨x, hx, rfl⟩ := List.mem_map.1 hn
    have := (fineB_iff x).1 (h.fine x hx)
    unfold oddB at ho
    simp only [Bool.or_eq_true, decide_eq_true_eq] at ho
    omega
  have hok : okE (bare (Cl l)) = true := by
    have := h.okE
    unfold okE at this ⊢
    rw [Bool.and_eq_true, decide_eq_true_eq, List.all_eq_true] at this ⊢
    refine ⟨by unfold bare Cl; simpa using this.1, fun x hx => ?_⟩
    unfold bare Cl at hx
    rw [List.map_map] at hx
    obtain ⟨y, hy, rfl⟩ := List.mem_map.1 hx
    exact this.2 y hy
  refine Ev.bind (longest_ev g1) ?_
  refine Ev.congr (fun k => if_neg (by omega)) (Ev.congr (fun k => if_neg (by rw [hodd]; decide)) ?_)
  refine Ev.bind (entries_ev (Cl l) (by rw [Cl_len]; omega)) ?_
  unfold rank_Classes.f
  rw [if_pos hok]
  simp only [Option.bind_some]
  rw [classes_bare]
  have := equal_ev K (classesL l) hKl
  rwa [decide_eq_false hK] at this
theorem encode_off {l : List EnS} (h : Ents l) (C K : List Int) (hKl : K.length ≤ 1000000000) (hC : C.length ≠ l.length ∨ (C = Cl l ∧ K ≠ classesL l)) : Ev (fun k => file_Encode.f k ((build (wordsN (Wl l))).map toS) C K) ([], 1) := by
  unfold file_Encode.f
  refine Ev.bind (may_off h C K hKl hC) ?_
  exact Ev.congr (fun k => if_neg (by decide)) (Ev.now _)
end Go.Proofs.Ytgebhidpkcjpmaa.K

namespace Go.Proofs.Ytgebhidpkcjpmaa.K
open Go.RowKit Go.Proofs.YtgebhidpkcjpmaaW.PrintWords Go.Proofs.YtgebhidpkcjpmaaW.PrintLast Go.Proofs.YtgebhidpkcjpmaaW.PrintMore Go.Proofs.Ytgebhidpkcjpmaa
attribute [local go_sem] max2_int min2_int max_two min_two max_three min_three max_four min_four
set_option linter.unusedVariables false
set_option linter.unusedSimpArgs false
open Go Go.Proofs.Ytgebhidpkcjpmaa.PR13 Go.Proofs.Ytgebhidpkcjpmaa.PDk Go.Proofs.Ytgebhidpkcjpmaa.PDm Go.Proofs.Ytgebhidpkcjpmaa.PIx Go.Proofs.Ytgebhidpkcjpmaa.PFl Go.Proofs.Ytgebhidpkcjpmaa.PLg Go.Proofs.Ytgebhidpkcjpmaa.PFg Go.Proofs.Ytgebhidpkcjpmaa.PMk Go.Proofs.Ytgebhidpkcjpmaa.PEn Go.Proofs.Ytgebhidpkcjpmaa.Daw Go.Proofs.Ytgebhidpkcjpmaa.Fil Go.Proofs.Ytgebhidpkcjpmaa.Crc
def xa : EnS := ⟨(⟨#[97]⟩ : ByteArray), 3⟩
set_option maxHeartbeats 8000000 in
set_option maxRecDepth 100000 in
theorem shown16_k (w : World) : Calls Try.prog 12 #[] w fun e w' => e = .returned (.bool true) ∧ Below w.heap.size w w' := by
  have huD := Try.underlying29
  have E1 := Aside0.mk (show ((build (wordsN (Wl []))).map toS).length = 1 by rw [show wordsN (Wl []) = [] from rfl, build_nil]; rfl)
  have E2 := Aside0.mk (show ((build (wordsN (Wl [xa]))).map toS).length = 2 by rw [show wordsN (Wl [xa]) = [[97]] from by decide, build_a]; rfl)
  have HM := Aside0.mk (show Calls Try.prog 14 #[.slice none 0 0] w (MadeQ [] w) from make_k ents_nil none 0 w (Kd.C_nil _ _) (Nat.le_refl _))
  go_enter Try.func12, Try.ntmps12
  go_wp2_with (first | (go_at_call 14; (with_reducible refine (HM.out).mono ?_)))
  rintro x wA ⟨v0, v1, v2, rfl, hS, hR1, hR2, hb⟩
  obtain ⟨D0, d0, rfl⟩ := Kd.S_slice hS
  obtain ⟨D1, d1, rfl⟩ := Kd.R_slice hR1
  obtain ⟨D2, d2, rfl⟩ := Kd.R_slice hR2
  rw [E1.out] at hS ⊢
  rw [show (Cl []).length = 0 from rfl] at hR1 ⊢
  rw [show (classesL []).length = 0 from rfl] at hR2 ⊢
  obtain ⟨g1, hg1⟩ : ∃ g, g = wA.heap.size := ⟨_, rfl⟩
  obtain ⟨wB, hwB⟩ : ∃ wB, wB = wA.alloc (.cells #[.slice D0 1 d0, .slice D1 0 d1, .slice D2 0 d2] 29 (0, 0)) := ⟨_, rfl⟩
  have hbB : Below wA.heap.size wA wB := by rw [hwB]; exact below_alloc (Below.refl _ _) _
  have HG1 := Aside0.mk (show wB.heap[g1]? = some (.cells #[.slice D0 1 d0, .slice D1 0 d1, .slice D2 0 d2] 29 (0, 0)) by rw [hwB, hg1]; exact heap_alloc_new wA _)
  have HBB := Aside0.mk (hb.trans (hbB.mono hb.size))
  have s1 := Kd.S_below hS hbB
  have s2 := Kd.R_below hR1 hbB
  have s3 := Kd.R_below hR2 hbB
  have HENC := Aside0.mk (encode_k (ents_nil.encoded (by decide)) D0 D1 D2 d0 d1 d2 1 0 0 (Kd.S_reads' s1).1 (Kd.R_reads' s2).1 (Kd.R_reads' s3).1 wB (Kd.S_reads' s1).2.2 (by rw [← (Kd.S_reads' s1).1]; exact (Kd.S_reads' s1).2.1) (Kd.R_reads' s2).2.2 (by rw [← (Kd.R_reads' s2).1]; exact (Kd.R_reads' s2).2.1) (Kd.R_reads' s3).2.2 (by rw [← (Kd.R_reads' s3).1]; exact (Kd.R_reads' s3).2.1))
  have HWB := Aside0.mk hwB; have HG1E := Aside0.mk hg1
  clear s1 s2 s3 hS hR1 hR2 hb hbB hwB hg1 HM
  go_wp2_with (first | (go_at_call 16; rw [← HWB.out, ← HG1E.out]; (with_reducible refine (HENC.out).mono ?_)))
  rintro x wC ⟨vB, rfl, hRB, hb⟩
  obtain ⟨GB, cB, rfl⟩ := Kd.R_slice hRB
  rw [show (zs (dictB [])).length = 31 by rw [zs_len, dict_nil_len]]
  have HGC := Aside0.mk ((hb.block g1 (blk_lt HG1.out)).trans HG1.out)
  have HBC := Aside0.mk (HBB.out.trans (hb.mono HBB.out.size))
  clear hRB hb HENC HBB HG1 HWB HG1E E1
  go_wp2_with (first | ((with_reducible refine gate_dst (N := 18) rfl ?_); refine Kd.R_lit k49 (w0 := wC) wC.heap.size 49 ?hg (N := 18) ?hd (xs := [xa]) (inner := [.string (⟨#[97]⟩ : ByteArray), .int .u64 3]) (ok := fun _ => True) (okp := fun _ => True) ?hr ?hp (fun _ hk => hk) trivial (Below.refl _ _) (Nat.le_refl _) (by simp) ?_; (case hd => rfl); (case hg => rfl); (case hr => first | (go_simp; done) | (go_simp; rfl)); (case hp => exact (Reps.c2 (show Kd.M k49 _ _ _ xa [.string (⟨#[97]⟩ : ByteArray), .int .u64 3] from (k49_mkM _ _ _ xa)) (Reps.none _ _)))))
  intro y1 w1 hY1 hb1 _ _ _ _
  obtain ⟨Y1, s1, rfl⟩ := Kd.R_slice hY1
  have hM := make_k (l := [xa]) ents_a Y1 s1 w1 (Kd.R_reads' hY1).2.2 (Kd.R_reads' hY1).2.1
  rw [show [xa].length = 1 from rfl] at hM ⊢
  have HM := Aside0.mk hM
  have HGD := Aside0.mk ((hb1.block g1 (blk_lt HGC.out)).trans HGC.out)
  have HBD := Aside0.mk (HBC.out.trans (hb1.mono HBC.out.size))
  clear hM hY1 hb1 HGC HBC
  go_wp2_with (first | (go_at_call 14; (with_reducible refine (HM.out).mono ?_)))
  rintro x wD ⟨v0, v1, v2, rfl, hS, hR1, hR2, hb⟩
  obtain ⟨F0, f0, rfl⟩ := Kd.S_slice hS
  obtain ⟨g3, f1, rfl, _, _, _⟩ := Kd.R_form hR1 (by decide)
  obtain ⟨F2, f2, rfl⟩ := Kd.R_slice hR2
  rw [E2.out] at hS ⊢
  rw [show (Cl [xa]).length = 1 from rfl] at hR1 ⊢
  rw [show (classesL [xa]).length = 1 from rfl] at hR2 ⊢
  have hcell : wD.cell? ⟨g3, 0, none⟩ = some (.int .u64 3) := by
    obtain ⟨ad, ea, a0⟩ := Kd.at_int (Kd.R_reads' hR1).2.2 0 (by decide) (by decide)
    cases ea
    simp only [add_plain] at a0
    exact a0
  have HGE := Aside0.mk ((hb.block g1 (blk_lt HGD.out)).trans HGD.out)
  have HBE := Aside0.mk (HBD.out.trans (hb.mono HBD.out.size))
  have i0 : (wD.alloc (.cells #[.slice F0 2 f0, .slice (some ⟨g3, 0, none⟩) 1 f1, .slice F2 1 f2] 29 (0, 0))).cell? ⟨g1, 0, none⟩ = some (.slice D0 1 d0) := blk_cell_alloc ((blk_cell HGE.out 0).trans rfl)
  have i3 : (wD.alloc (.cells #[.slice F0 2 f0, .slice (some ⟨g3, 0, none⟩) 1 f1, .slice F2 1 f2] 29 (0, 0))).cell? ⟨g3, 0, none⟩ = some (.int .u64 3) := blk_cell_alloc hcell
  have HBF := Aside0.mk (show Below w.heap.size w (wD.alloc (.cells #[.slice F0 2 f0, .slice (some ⟨g3, 0, none⟩) 1 f1, .slice F2 1 f2] 29 (0, 0))) from below_alloc HBE.out _)
  clear hS hR1 hR2 hb HM hcell HGD HBD HGE HBE E2
  go_wp2
  go_ret
  exact ⟨by simp, HBF.out⟩
end Go.Proofs.Ytgebhidpkcjpmaa.K

namespace Go.Proofs.Ytgebhidpkcjpmaa.K
open Go.RowKit Go.Proofs.YtgebhidpkcjpmaaW.PrintWords Go.Proofs.YtgebhidpkcjpmaaW.PrintLast Go.Proofs.YtgebhidpkcjpmaaW.PrintMore Go.Proofs.Ytgebhidpkcjpmaa
attribute [local go_sem] max2_int min2_int max_two min_two max_three min_three max_four min_four
set_option linter.unusedVariables false
set_option linter.unusedSimpArgs false
open Go Go.Proofs.Ytgebhidpkcjpmaa.PR13 Go.Proofs.Ytgebhidpkcjpmaa.PDk Go.Proofs.Ytgebhidpkcjpmaa.PDm Go.Proofs.Ytgebhidpkcjpmaa.PIx Go.Proofs.Ytgebhidpkcjpmaa.PFl Go.Proofs.Ytgebhidpkcjpmaa.PLg Go.Proofs.Ytgebhidpkcjpmaa.PFg Go.Proofs.Ytgebhidpkcjpmaa.PMk Go.Proofs.Ytgebhidpkcjpmaa.PEn Go.Proofs.Ytgebhidpkcjpmaa.Daw Go.Proofs.Ytgebhidpkcjpmaa.Fil Go.Proofs.Ytgebhidpkcjpmaa.Crc
theorem turned_byte {x : Nat} (hx : x < 256) {a : Int} (h0 : 0 ≤ a) (h1 : a < 256) : ∃ y : Nat, y < 256 ∧ y ≠ x ∧ Go.bits .xor .u8 (x : Int) (Go.bits .or .u8 a 1) = (y : Int) := by
  obtain ⟨m, rfl⟩ : ∃ m : Nat, a = (m : Int) := ⟨a.toNat, by omega⟩
  have ho : Go.bits .or .u8 (m : Int) 1 = ((m ||| 1 : Nat) : Int) := u8_or_nat m 1 (by omega) (by omega)
  have hl : m ||| 1 < 256 := Nat.or_lt_two_pow (n := 8) (by omega) (by omega)
  have hg : 1 ≤ m ||| 1 := Nat.right_le_or
  refine ⟨x ^^^ (m ||| 1), Nat.xor_lt_two_pow (n := 8) hx hl, fun e => ?_, ?_⟩
  · have : x ^^^ (x ^^^ (m ||| 1)) = 0 := by rw [e, Nat.xor_self]
    rw [← Nat.xor_assoc, Nat.xor_self, Nat.zero_xor] at this
    omega
  · rw [ho]; exact u8_xor_nat x _ hx hl
set_option maxHeartbeats 8000000 in
set_option maxRecDepth 100000 in
theorem FileTurned_walk (A0 : Option Addr) (c0 : Nat) (l0 : List EnS) (a1 a2 : Int) (w : World) (hC0 : Kd.C k49 w A0 l0.length l0) (hc0 : l0.length ≤ c0) (hw0 : ∀ x ∈ l0, (Lit.int .u64 x.f1).wf = true) (w1 : (Lit.int .u16 a1).wf = true) (w2 : (Lit.int .u8 a2).wf = true) :
    Calls Try.prog 7 #[.slice A0 l0.length c0, .int .u16 a1, .int .u8 a2] w fun e w' => e = .returned (.bool true) ∧ Below w.heap.size w w' := by
  obtain ⟨b, hfew, hFEW⟩ := few16_k l0
  have HFEW := Aside0.mk hFEW
  clear hFEW
  have HC0 := Aside0.mk hC0; have HC0L := Aside0.mk hc0
  have r1 : 0 ≤ a1 ∧ a1 < 65536 := by have : 0 ≤ a1 ∧ a1 ≤ 65535 := (by simpa [Lit.wf, IntKind.min, IntKind.max, IntKind.bits, IntKind.signed] using w1); omega
  have r2 : 0 ≤ a2 ∧ a2 < 256 := by have : 0 ≤ a2 ∧ a2 ≤ 255 := (by simpa [Lit.wf, IntKind.min, IntKind.max, IntKind.bits, IntKind.signed] using w2); omega
  have R1 := Aside0.mk r1; have R2 := Aside0.mk r2
  have HSH := Aside0.mk (shown16_k w)
  clear hC0 hc0 w1 w2 r1 r2 hw0
  have huD := Try.underlying29
  go_enter Try.func7, Try.ntmps7
  go_wp2_with (first | (go_at_call 12; (with_reducible refine (HSH.out).mono ?_)))
  rintro x wA ⟨rfl, hb⟩
  have HBA := Aside0.mk hb
  have HF := Aside0.mk (HFEW.out A0 c0 wA (Kd.C_below HC0.out hb) HC0L.out)
  clear hb HSH HFEW
  cases b
  · go_wp2_with (first | (go_at_call 13; (with_reducible refine (HF.out).mono ?_)))
    rintro x wB ⟨rfl, hb⟩
    have HBB := Aside0.mk (HBA.out.trans (hb.mono HBA.out.size))
    clear hb HF HBA
    go_wp2
    go_ret
    exact ⟨rfl, HBB.out⟩
  go_wp2_with (first | (go_at_call 13; (with_reducible refine (HF.out).mono ?_)))
  rintro x wB ⟨rfl, hb⟩
  have HBB := Aside0.mk (HBA.out.trans (hb.mono HBA.out.size))
  have HM := Aside0.mk (may09_k l0 A0 c0 wB (Kd.C_below HC0.out HBB.out) HC0L.out)
  clear hb HF HBA
  go_wp2_with (first | (go_at_call 23; (with_reducible refine (HM.out).mono ?_)))
  rintro x wC ⟨rfl, hb⟩
  have HBC := Aside0.mk (HBB.out.trans (hb.mono HBB.out.size))
  clear hb HM HBB
  obtain ⟨m, hm⟩ : ∃ m, m = mayR l0 := ⟨_, rfl⟩
  have HMM := Aside0.mk hm
  rw [← hm]
  clear hm
  by_cases h0 : m = 0
  · subst h0
    obtain ⟨l60, lb⟩ := hfew trivial
    have hb60 := few_all l60 lb
    have hE := Ents.of_may HMM.out.symm (by omega)
    have HE := Aside0.mk hE
    have HMK := Aside0.mk (make_k hE A0 c0 wC (Kd.C_below HC0.out HBC.out) HC0L.out)
    have HSMALL := Aside0.mk (show bytesAll (Wl l0) ≤ 149000 by omega)
    clear hE hb60 lb l60 hfew HMM
    go_wp2_with (first | (go_at_call 14; (with_reducible refine (HMK.out).mono ?_)))
    rintro x wD ⟨v0, v1, v2, rfl, hS, hR1, hR2, hb⟩
    have HBD := Aside0.mk (HBC.out.trans (hb.mono HBC.out.size))
    obtain ⟨D0, d0, rfl⟩ := Kd.S_slice hS
    obtain ⟨D1, d1, rfl⟩ := Kd.R_slice hR1
    obtain ⟨D2, d2, rfl⟩ := Kd.R_slice hR2
    have hn0 : ((build (wordsN (Wl l0))).map toS).length = (build (wordsN (Wl l0))).length := List.length_map _
    rw [hn0] at hS ⊢
    clear hn0
    obtain ⟨gd, hgd⟩ : ∃ g, g = wD.heap.size := ⟨_, rfl⟩
    obtain ⟨wE, hwE⟩ : ∃ wE, wE = wD.alloc (.cells #[.slice D0 (build (wordsN (Wl l0))).length d0, .slice D1 (Cl l0).length d1, .slice D2 (classesL l0).length d2] 29 (0, 0)) := ⟨_, rfl⟩
    have hbE : Below wD.heap.size wD wE := by rw [hwE]; exact below_alloc (Below.refl _ _) _
    have hD : DB l0 wE wC.heap.size gd (.slice D0 (build (wordsN (Wl l0))).length d0) (.slice D1 (Cl l0).length d1) (.slice D2 (classesL l0).length d2) := by
      refine ⟨?_, Kd.S_below hS hbE, Kd.R_below hR1 hbE, Kd.R_below hR2 hbE⟩
      rw [hwE, hgd]; exact heap_alloc_new wD _
    have HD := Aside0.mk hD
    have HBE := Aside0.mk (HBD.out.trans (hbE.mono HBD.out.size))
    have HENC := Aside0.mk (DB.encode HE.out HSMALL.out hD)
    have HWE := Aside0.mk hwE
    have HGD := Aside0.mk hgd
    have HSZ := Aside0.mk (show gd < wE.heap.size from blk_lt hD.1)
    have hz14 : ¬ (((zs (dictB l0)).length : Int) < 14) := by rw [zs_len]; have := dictB_ge (l := l0); omega
    have hz14b : decide (((zs (dictB l0)).length : Int) < 14) = false := decide_eq_false hz14
    clear hS hR1 hR2 hb hwE hgd hbE hD HMK
    go_wp2_with (first | (go_at_call 16; rw [← HWE.out, ← HGD.out]; (with_reducible refine (HENC.out).mono ?_)))
    rintro x wF ⟨vB, rfl, hRB, hb⟩
    have HEF := Aside0.mk hb
    have HBF := Aside0.mk (HBE.out.trans (hb.mono HBE.out.size))
    have HSZF := Aside0.mk hb.size
    clear hb HENC
    obtain ⟨gB, cB, rfl, hgB1, hgB2, cells, hgB3⟩ := Kd.R_form hRB (by rw [zs_len]; have := dictB_ge (l := l0); omega)
    have HRB := Aside0.mk hRB
    have HGB := Aside0.mk hgB1
    obtain ⟨kk, hk1, hk2, hwk⟩ : ∃ kk : Nat, 1 ≤ kk ∧ kk ≤ 12 ∧ Go.RowKit.wrap64 (1 + (Go.RowKit.wrap64 a1).tmod 12) = (kk : Int) := by
      have := R1.out
      have e1 : Go.RowKit.wrap64 a1 = a1 := wz (by omega) (by omega)
      have e2 : a1.tmod 12 = a1 % 12 := Int.tmod_eq_emod_of_nonneg (by omega)
      refine ⟨(1 + a1 % 12).toNat, by omega, by omega, ?_⟩
      rw [e1, e2, wz (by omega) (by omega)]
      omega
    have h14 := dictB_ge (l := l0)
    obtain ⟨x, hx⟩ : ∃ x, (dictB l0)[kk]? = some x := ⟨_, List.getElem?_eq_getElem (by omega)⟩
    have hx256 : x < 256 := dictB_lt HE.out _ (List.mem_of_getElem? hx)
    obtain ⟨y, hy256, hyx, hxor⟩ : ∃ y : Nat, y < 256 ∧ y ≠ x ∧ Go.bits .xor .u8 (x : Int) (Go.bits .or .u8 a2 1) = (y : Int) := turned_byte hx256 R2.out.1 R2.out.2
    have hkl : (kk : Int) < ((zs (dictB l0)).length : Int) := by rw [zs_len]; omega
    have hk0 : (0 : Int) ≤ (kk : Int) := by omega
    have hcell : wF.cell? ⟨gB, kk, none⟩ = some (.int .u8 (x : Int)) := by
      obtain ⟨ad, ea, a0⟩ := Kd.at_int (Kd.R_reads' hRB).2.2 (kk : Int) hk0 hkl
      cases ea
      rw [Int.toNat_natCast, zs_rd (dictB l0) kk (by omega)] at a0
      have e : (dictB l0)[kk]'(by omega) = x := by have := hx; rw [List.getElem?_eq_getElem (by omega)] at this; exact Option.some.inj this
      rw [e] at a0
      simp only [add_plain] at a0
      exact a0
    obtain ⟨wG, hwG⟩ : ∃ wG, wG = wF.setCell ⟨gB, kk, none⟩ (.int .u8 (y : Int)) := ⟨_, rfl⟩
    have hRG : Kd.R (Kd.int .u8) 5 wG wE.heap.size (fun _ => True) (.slice (some ⟨gB, 0, none⟩) (zs (dictB l0)).length cB) (zs ((dictB l0).set kk y)) := by
      have := Kd.R_putg hRB (kk : Int) (y : Int)
      rw [Int.toNat_natCast] at this
      rw [hwG, show zs ((dictB l0).set kk y) = (zs (dictB l0)).set kk (y : Int) by unfold zs; rw [List.map_set]; rfl]
      exact this.1
    have HBG := Aside0.mk (show Below w.heap.size w wG by rw [hwG]; exact HBF.out.setCell (p := ⟨gB, kk, none⟩) (Nat.le_trans HBE.out.size HGB.out) _)
    have HEG := Aside0.mk (show Below wE.heap.size wE wG by rw [hwG]; exact HEF.out.setCell (p := ⟨gB, kk, none⟩) HGB.out _)
    have hDEC := (decode_bad (dec_turned HE.out HSMALL.out kk y hk1 hk2 hy256 (by rw [hx]; exact fun e => hyx (Option.some.inj e).symm)) (some ⟨gB, 0, none⟩) cB wG (by have := (Kd.R_reads' hRG).2.2; exact this) (by have := (Kd.R_reads' hRG).2.1; rw [zs_len, List.length_set, ← zs_len]; exact this))
    rw [show (zs ((dictB l0).set kk y)).length = (zs (dictB l0)).length by rw [zs_len, zs_len, List.length_set]] at hDEC
    have HDEC := Aside0.mk hDEC
    have HWG := Aside0.mk hwG; have HX := Aside0.mk hx; have H14 := Aside0.mk h14; have HYX := Aside0.mk hyx
    have hfr : wF.frozen? ⟨gB, kk, none⟩ = false := blk_frozen hgB3 kk
    clear hDEC hRB hgB1 hgB2 hgB3 hRG hwG hx h14 hyx hx256 hy256
    go_wp2_with (first | (go_at_call 24; rw [← HWG.out]; (with_reducible refine (HDEC.out).mono ?_)))
    rintro z wH ⟨U0, U1, U2, k0, k1, k2, rfl, hb⟩
    have HDH := Aside0.mk (HD.out.below (HEG.out.trans (hb.mono HEG.out.size)))
    have HBH := Aside0.mk (HBG.out.trans (hb.mono HBG.out.size))
    clear hb HD HDEC HBE HBD HBC HBF HBG HEF HEG hcell hfr hxor hkl hk0 hk1 hk2 hwk HWG HWE
    have e0 : wH.cell? ⟨gd, 0, none⟩ = some (.slice D0 (build (wordsN (Wl l0))).length d0) := (blk_cell HDH.out.1 0).trans rfl
    have e1 : wH.cell? ⟨gd, 1, none⟩ = some (.slice D1 (Cl l0).length d1) := (blk_cell HDH.out.1 1).trans rfl
    have e2 : wH.cell? ⟨gd, 2, none⟩ = some (.slice D2 (classesL l0).length d2) := (blk_cell HDH.out.1 2).trans rfl
    obtain ⟨wI, hwI⟩ : ∃ wI, wI = wH.alloc (.cells #[.slice U0 0 k0, .slice U1 0 k1, .slice U2 0 k2] 29 (0, 0)) := ⟨_, rfl⟩
    have hbI : Below wH.heap.size wH wI := by rw [hwI]; exact below_alloc (Below.refl _ _) _
    have i0 : (wH.alloc (.cells #[.slice U0 0 k0, .slice U1 0 k1, .slice U2 0 k2] 29 (0, 0))).cell? ⟨gd, 0, none⟩ = some (.slice D0 (build (wordsN (Wl l0))).length d0) := blk_cell_alloc e0
    have i1 : (wH.alloc (.cells #[.slice U0 0 k0, .slice U1 0 k1, .slice U2 0 k2] 29 (0, 0))).cell? ⟨gd, 1, none⟩ = some (.slice D1 (Cl l0).length d1) := blk_cell_alloc e1
    have i2 : (wH.alloc (.cells #[.slice U0 0 k0, .slice U1 0 k1, .slice U2 0 k2] 29 (0, 0))).cell? ⟨gd, 2, none⟩ = some (.slice D2 (classesL l0).length d2) := blk_cell_alloc e2
    obtain ⟨wJ, hwJ⟩ : ∃ wJ, wJ = wI.alloc (.cells #[.slice D0 (build (wordsN (Wl l0))).length d0, .slice D1 (Cl l0).length d1, .slice D2 (classesL l0).length d2] 29 (0, 0)) := ⟨_, rfl⟩
    have hbJ : Below wI.heap.size wI wJ := by rw [hwJ]; exact below_alloc (Below.refl _ _) _
    have HDJ := Aside0.mk ((HDH.out.below hbI).below hbJ)
    have HBI := Aside0.mk (HBH.out.trans (hbI.mono HBH.out.size))
    have HBJ := Aside0.mk (HBI.out.trans (hbJ.mono HBI.out.size))
    obtain ⟨gm, hgm⟩ : ∃ g, g = wI.heap.size := ⟨_, rfl⟩
    have HGM := Aside0.mk (show wJ.heap[gm]? = some (.cells #[.slice D0 (build (wordsN (Wl l0))).length d0, .slice D1 (Cl l0).length d1, .slice D2 (classesL l0).length d2] 29 (0, 0)) by rw [hwJ, hgm]; exact heap_alloc_new wI _)
    have HGMD := Aside0.mk (show gd < gm by have := blk_lt (HDH.out.below hbI).1; omega)
    have HGMW := Aside0.mk (show w.heap.size ≤ gm by have := HBI.out.size; omega)
    have HWI := Aside0.mk hwI; have HWJ := Aside0.mk hwJ; have HGMI := Aside0.mk (show gm = wH.heap.size + 1 by rw [hgm, hwI]; show (wH.heap.push _).size = _; rw [Array.size_push])
    clear hbI hbJ hwI hwJ hgm e0 e1 e2 HDH
    have i3 : wJ.cell? ⟨gd, 1, none⟩ = some (.slice D1 (Cl l0).length d1) := (blk_cell HDJ.out.1 1).trans rfl
    go_wp2_with (first | ((with_reducible refine gate_dst (N := 72) rfl ?_); rw [← HWI.out, ← HWJ.out, ← HGMI.out]; refine Kd.R_lit (Kd.int .u64) (w0 := wJ) wJ.heap.size 47 ?hg (N := 72) ?hd (xs := []) (inner := []) (ok := fun _ => True) (okp := fun _ => True) ?hr ?hp (fun _ hk => hk) trivial (Below.refl _ _) (Nat.le_refl _) (by simp) ?_; (case hd => rfl); (case hg => rfl); (case hr => first | (go_simp; done) | (go_simp; rfl)); (case hp => exact (Reps.none _ _))))
    intro y1 w1 hY1 hb1 _ _ _ _
    obtain ⟨Y1, s1, rfl⟩ := Kd.R_slice hY1
    have HY1 := Aside0.mk hY1; have HB1 := Aside0.mk hb1
    have i3 : w1.cell? ⟨gd, 1, none⟩ = some (.slice D1 (Cl l0).length d1) := (blk_cell (HDJ.out.below hb1).1 1).trans rfl
    have HCL := Aside0.mk (Kd.C_below (Kd.R_reads' HDJ.out.2.2.1).2.2 hb1)
    have HLN := Aside0.mk (show (Cl l0).length ≤ 1000000 by rw [Cl_len]; exact HE.out.n)
    clear hY1 hb1 i0 i1 i2 i3
    have i3 : w1.cell? ⟨gd, 1, none⟩ = some (.slice D1 (Cl l0).length d1) := (blk_cell (HDJ.out.below HB1.out).1 1).trans rfl
    go_wp2_with ((with_reducible refine gate_builtin (b := .append) (xs := #[.tmp 72, .tmp 74]) rfl ?_); at_builtin; refine Kd.R_append_rows (Kd.int .u64) (w0 := wJ) wJ.heap.size rfl (.tmp 72) (.tmp 74) 26 47 (.int .u64 0) 8 rfl Try.underlying26 info47 rfl (by decide) (by omega) (.slice Y1 ([] : List Int).length s1) [] (Cl l0) _ _ _ (fun _ => True) (fun _ => False) rfl rfl HY1.out HCL.out (fun _ _ h => h) (fun _ h => h.elim) (fun _ _ => trivial) HB1.out (HB1.out).size (by have := HLN.out; simp; omega) ?_)
    intro y2 w2 hY2 hb2 _ _
    have HY2 := Aside0.mk hY2; have HB2 := Aside0.mk hb2
    clear hY2 hb2 HY1 HB1 HCL i3
    go_wp2_with ((with_reducible refine gate_builtin (b := .append) (xs := #[.tmp 75, .tmp 76]) rfl ?_); at_builtin; refine Kd.R_append (Kd.int .u64) (w0 := wJ) wJ.heap.size rfl (.tmp 75) (.tmp 76) 26 47 (.int .u64 0) 8 rfl Try.underlying26 info47 rfl (by decide) (by omega) y2 ([] ++ Cl l0) 1 [.int .u64 1] (fun _ => True) (fun _ => False) rfl rfl rfl (fun _ hk => hk.elim) (fun _ _ => trivial) HY2.out HB2.out (HB2.out).size (by have := HLN.out; simp; omega) ?_)
    intro v3 w3 hY3 hb3 _ _
    obtain ⟨Y3, s3, rfl⟩ := Kd.R_slice hY3
    generalize hn3 : (Cl l0 ++ [1]).length = n3 at hY3 ⊢
    have HDW := Aside0.mk (HDJ.out.below hb3)
    have hgm := (hb3.block gm (blk_lt HGM.out)).trans HGM.out
    have HGK := Aside0.mk (blk_put hgm 1 (.slice Y3 n3 s3) rfl)
    have c1 : w3.cell? ⟨gm, 1, none⟩ = some (.slice D1 (Cl l0).length d1) := (blk_cell hgm 1).trans rfl
    have f1 := blk_frozen hgm 1
    obtain ⟨wK, hwK⟩ : ∃ wK, wK = w3.setCell ⟨gm, 1, none⟩ (.slice Y3 n3 s3) := ⟨_, rfl⟩
    have HWK := Aside0.mk hwK
    have k0' : (w3.setCell ⟨gm, 1, none⟩ (.slice Y3 n3 s3)).cell? ⟨gm, 0, none⟩ = some (.slice D0 (build (wordsN (Wl l0))).length d0) := (blk_cell HGK.out 0).trans rfl
    have k1' : (w3.setCell ⟨gm, 1, none⟩ (.slice Y3 n3 s3)).cell? ⟨gm, 1, none⟩ = some (.slice Y3 n3 s3) := (blk_cell HGK.out 1).trans rfl
    have k2' : (w3.setCell ⟨gm, 1, none⟩ (.slice Y3 n3 s3)).cell? ⟨gm, 2, none⟩ = some (.slice D2 (classesL l0).length d2) := (blk_cell HGK.out 2).trans rfl
    have hS3 := Kd.S_set HDW.out.2.1 hgm (by decide) 1 (.slice Y3 n3 s3)
    have hK3 := Kd.R_set HDW.out.2.2.2 hgm (by decide) 1 (.slice Y3 n3 s3)
    have hC3 := Kd.R_set hY3 hgm (by decide) 1 (.slice Y3 n3 s3)
    have hCD := Kd.R_set HDW.out.2.2.1 hgm (by decide) 1 (.slice Y3 n3 s3)
    rw [← hwK] at hS3 hK3 hC3 hCD
    have HDK := Aside0.mk (show DB l0 wK wC.heap.size gd (.slice D0 (build (wordsN (Wl l0))).length d0) (.slice D1 (Cl l0).length d1) (.slice D2 (classesL l0).length d2) from ⟨by rw [hwK]; exact (Below.heap_setCell w3 ⟨gm, 1, none⟩ _ gd (by have := HGMD.out; show gd ≠ gm; omega)).trans HDW.out.1, hS3, hCD, hK3⟩)
    have HBK := Aside0.mk (show Below w.heap.size w wK by rw [hwK]; exact (HBJ.out.trans (hb3.mono HBJ.out.size)).setCell (p := ⟨gm, 1, none⟩) HGMW.out _)
    have HEN2 := Aside0.mk (encode_k (encode_off HE.out (Cl l0 ++ [1]) (classesL l0) (by have := HE.out.n; unfold classesL; rw [List.length_map]; omega) (.inl (by rw [List.length_append, Cl_len]; simp))) D0 Y3 D2 d0 s3 d2 _ _ _ (Kd.S_reads' hS3).1 hn3.symm rfl wK (Kd.S_reads' hS3).2.2 (by rw [← (Kd.S_reads' hS3).1]; exact (Kd.S_reads' hS3).2.1) (Kd.R_reads' hC3).2.2 (by rw [hn3]; exact (Kd.R_reads' hC3).2.1) (Kd.R_reads' hK3).2.2 (Kd.R_reads' hK3).2.1)
    clear hY3 hb3 hgm hwK hS3 hK3 hC3 hCD HY2 HB2 HGM HDJ HBJ HBI HDW HGK HBH HWI HWJ HGMI
    go_wp2_with (first | (go_at_call 16; rw [← HWK.out]; (with_reducible refine (HEN2.out).mono ?_)))
    rintro z wL ⟨vE, rfl, _, hb⟩
    have HDL := Aside0.mk (HDK.out.below hb)
    have HBL := Aside0.mk (HBK.out.trans (hb.mono HBK.out.size))
    clear hb HDK HBK HEN2 HWK c1 f1 k0' k1' k2' HGMD HGMW
    have i0 : wL.cell? ⟨gd, 0, none⟩ = some (.slice D0 (build (wordsN (Wl l0))).length d0) := (blk_cell HDL.out.1 0).trans rfl
    have i1 : wL.cell? ⟨gd, 1, none⟩ = some (.slice D1 (Cl l0).length d1) := (blk_cell HDL.out.1 1).trans rfl
    have i2 : wL.cell? ⟨gd, 2, none⟩ = some (.slice D2 (classesL l0).length d2) := (blk_cell HDL.out.1 2).trans rfl
    obtain ⟨wM, hwM⟩ : ∃ wM, wM = wL.alloc (.cells #[.slice D0 (build (wordsN (Wl l0))).length d0, .slice D1 (Cl l0).length d1, .slice D2 (classesL l0).length d2] 29 (0, 0)) := ⟨_, rfl⟩
    have hbM : Below wL.heap.size wL wM := by rw [hwM]; exact below_alloc (Below.refl _ _) _
    have HDM := Aside0.mk (HDL.out.below hbM)
    have HBM := Aside0.mk (HBL.out.trans (hbM.mono HBL.out.size))
    obtain ⟨gn, hgn⟩ : ∃ g, g = wL.heap.size := ⟨_, rfl⟩
    have HGN := Aside0.mk (show wM.heap[gn]? = some (.cells #[.slice D0 (build (wordsN (Wl l0))).length d0, .slice D1 (Cl l0).length d1, .slice D2 (classesL l0).length d2] 29 (0, 0)) by rw [hwM, hgn]; exact heap_alloc_new wL _)
    have HGND := Aside0.mk (show gd < gn by have := blk_lt HDL.out.1; omega)
    have HGNW := Aside0.mk (show w.heap.size ≤ gn by have := HBL.out.size; omega)
    have HWM := Aside0.mk hwM; have HGNI := Aside0.mk hgn
    clear hbM hwM hgn HDL HBL
    go_wp2_with (first | ((with_reducible refine gate_dst (N := 85) rfl ?_); rw [← HWM.out, ← HGNI.out]; refine Kd.R_lit (Kd.int .i64) (w0 := wM) wM.heap.size 3 ?hg (N := 85) ?hd (xs := []) (inner := []) (ok := fun _ => True) (okp := fun _ => True) ?hr ?hp (fun _ hk => hk) trivial (Below.refl _ _) (Nat.le_refl _) (by simp) ?_; (case hd => rfl); (case hg => rfl); (case hr => first | (go_simp; done) | (go_simp; rfl)); (case hp => exact (Reps.none _ _))))
    intro y1 w1 hY1 hb1 _ _ _ _
    obtain ⟨Y1, s1, rfl⟩ := Kd.R_slice hY1
    have HY1 := Aside0.mk hY1; have HB1 := Aside0.mk hb1
    have HKL := Aside0.mk (Kd.C_below (Kd.R_reads' HDM.out.2.2.2).2.2 hb1)
    have HLN2 := Aside0.mk (show (classesL l0).length ≤ 1000000 by unfold classesL; rw [List.length_map]; exact HE.out.n)
    clear hY1 hb1 i0 i1 i2
    have i3 : w1.cell? ⟨gd, 2, none⟩ = some (.slice D2 (classesL l0).length d2) := (blk_cell (HDM.out.below HB1.out).1 2).trans rfl
    go_wp2_with ((with_reducible refine gate_builtin (b := .append) (xs := #[.tmp 85, .tmp 87]) rfl ?_); at_builtin; refine Kd.R_append_rows (Kd.int .i64) (w0 := wM) wM.heap.size rfl (.tmp 85) (.tmp 87) 27 3 (.int .i64 0) 8 rfl Try.underlying27 info3 rfl (by decide) (by omega) (.slice Y1 ([] : List Int).length s1) [] (classesL l0) _ _ _ (fun _ => True) (fun _ => False) rfl rfl HY1.out HKL.out (fun _ _ h => h) (fun _ h => h.elim) (fun _ _ => trivial) HB1.out (HB1.out).size (by have := HLN2.out; simp; omega) ?_)
    intro y2 w2 hY2 hb2 _ _
    have HY2 := Aside0.mk hY2; have HB2 := Aside0.mk hb2
    clear hY2 hb2 HY1 HB1 HKL i3
    go_wp2_with ((with_reducible refine gate_builtin (b := .append) (xs := #[.tmp 88, .tmp 89]) rfl ?_); at_builtin; refine Kd.R_append (Kd.int .i64) (w0 := wM) wM.heap.size rfl (.tmp 88) (.tmp 89) 27 3 (.int .i64 0) 8 rfl Try.underlying27 info3 rfl (by decide) (by omega) y2 ([] ++ classesL l0) 0 [.int .i64 0] (fun _ => True) (fun _ => False) rfl rfl rfl (fun _ hk => hk.elim) (fun _ _ => trivial) HY2.out HB2.out (HB2.out).size (by have := HLN2.out; simp; omega) ?_)
    intro v3 w3 hY3 hb3 _ _
    obtain ⟨Y3, s3, rfl⟩ := Kd.R_slice hY3
    generalize hn3 : (classesL l0 ++ [0]).length = n3 at hY3 ⊢
    have HDW := Aside0.mk (HDM.out.below hb3)
    have hgm := (hb3.block gn (blk_lt HGN.out)).trans HGN.out
    have HGK := Aside0.mk (blk_put hgm 2 (.slice Y3 n3 s3) rfl)
    have c1 : w3.cell? ⟨gn, 2, none⟩ = some (.slice D2 (classesL l0).length d2) := (blk_cell hgm 2).trans rfl
    have f1 := blk_frozen hgm 2
    obtain ⟨wK, hwK⟩ : ∃ wK, wK = w3.setCell ⟨gn, 2, none⟩ (.slice Y3 n3 s3) := ⟨_, rfl⟩
    have HWK := Aside0.mk hwK
    have k0' : (w3.setCell ⟨gn, 2, none⟩ (.slice Y3 n3 s3)).cell? ⟨gn, 0, none⟩ = some (.slice D0 (build (wordsN (Wl l0))).length d0) := (blk_cell HGK.out 0).trans rfl
    have k1' : (w3.setCell ⟨gn, 2, none⟩ (.slice Y3 n3 s3)).cell? ⟨gn, 1, none⟩ = some (.slice D1 (Cl l0).length d1) := (blk_cell HGK.out 1).trans rfl
    have k2' : (w3.setCell ⟨gn, 2, none⟩ (.slice Y3 n3 s3)).cell? ⟨gn, 2, none⟩ = some (.slice Y3 n3 s3) := (blk_cell HGK.out 2).trans rfl
    have hS3 := Kd.S_set HDW.out.2.1 hgm (by decide) 2 (.slice Y3 n3 s3)
    have hC3 := Kd.R_set HDW.out.2.2.1 hgm (by decide) 2 (.slice Y3 n3 s3)
    have hK3 := Kd.R_set hY3 hgm (by decide) 2 (.slice Y3 n3 s3)
    rw [← hwK] at hS3 hK3 hC3
    have HBK := Aside0.mk (show Below w.heap.size w wK by rw [hwK]; exact (HBM.out.trans (hb3.mono HBM.out.size)).setCell (p := ⟨gn, 2, none⟩) HGNW.out _)
    have HEN2 := Aside0.mk (encode_k (encode_off HE.out (Cl l0) (classesL l0 ++ [0]) (by have := HLN2.out; rw [List.length_append]; simp; omega) (.inr ⟨rfl, fun e => by have := congrArg List.length e; simp at this⟩)) D0 D1 Y3 d0 d1 s3 _ _ _ (Kd.S_reads' hS3).1 rfl hn3.symm wK (Kd.S_reads' hS3).2.2 (by rw [← (Kd.S_reads' hS3).1]; exact (Kd.S_reads' hS3).2.1) (Kd.R_reads' hC3).2.2 (Kd.R_reads' hC3).2.1 (Kd.R_reads' hK3).2.2 (by rw [hn3]; exact (Kd.R_reads' hK3).2.1))
    clear hY3 hb3 hgm hwK hS3 hK3 hC3 HY2 HB2 HGN HDM HBM HDW HGK HWM HGNI
    go_wp2_with (first | (go_at_call 16; rw [← HWK.out]; (with_reducible refine (HEN2.out).mono ?_)))
    rintro z wN ⟨vF, rfl, _, hb⟩
    have HBN := Aside0.mk (HBK.out.trans (hb.mono HBK.out.size))
    clear hb HBK HEN2 HWK c1 f1 k0' k1' k2'
    go_wp2
    go_ret
    exact ⟨rfl, HBN.out⟩
  · go_wp2
    go_ret
    exact ⟨rfl, HBC.out⟩
end Go.Proofs.Ytgebhidpkcjpmaa.K

namespace Go.Proofs.Ytgebhidpkcjpmaa.K
open Go.RowKit Go.Proofs.YtgebhidpkcjpmaaW.PrintWords Go.Proofs.YtgebhidpkcjpmaaW.PrintLast Go.Proofs.YtgebhidpkcjpmaaW.PrintMore Go.Proofs.Ytgebhidpkcjpmaa
attribute [local go_sem] max2_int min2_int max_two min_two max_three min_three max_four min_four
set_option linter.unusedVariables false
set_option linter.unusedSimpArgs false
end Go.Proofs.Ytgebhidpkcjpmaa.K

namespace Go.Proofs.Ytgebhidpkcjpmaa.K
open Go.RowKit Go.Proofs.YtgebhidpkcjpmaaW.PrintWords Go.Proofs.YtgebhidpkcjpmaaW.PrintLast Go.Proofs.YtgebhidpkcjpmaaW.PrintMore Go.Proofs.Ytgebhidpkcjpmaa
attribute [local go_sem] max2_int min2_int max_two min_two max_three min_three max_four min_four
set_option linter.unusedVariables false
set_option linter.unusedSimpArgs false
open Go.Proofs.Ytgebhidpkcjpmaa Go.Proofs.Ytgebhidpkcjpmaa.PR13
theorem pick_rowE {α : Type} {n : Nat} {p : Nat → α → Prop} (h : ∀ i, i < n → ∃ x, p i x) : ∃ l : List α, l.length = n ∧ ∀ i (hi : i < l.length), p i l[i] := by
  induction n with
  | zero => exact ⟨[], rfl, fun i hi => by simp at hi⟩
  | succ n ih =>
    obtain ⟨l, h1, h2⟩ := ih (fun i hi => h i (by omega))
    obtain ⟨x, hx⟩ := h n (by omega)
    refine ⟨l ++ [x], by simp [h1], fun i hi => ?_⟩
    rw [List.length_append, List.length_singleton] at hi
    by_cases hin : i < l.length
    · rw [List.getElem_append_left hin]; exact h2 i hin
    · have : i = n := by omega
      subst this
      rw [List.getElem_append_right (by omega)]
      simpa [h1] using hx
theorem open_entriesC {H : Type} {enc : TypeId × Value → H} {P : Program} {w : World} {base : Nat} {held : Bool} {t e : TypeId} {f0 f1 : Field} {a : Option Addr} {len cap : Nat} {d : DataW H} {ps : List MemPlace}
    (ht : P.underlying t = some (.slice e)) (he : P.underlying e = some (.struct #[f0, f1])) (ce : P.cellsOf e = 2) (o0 : f0.offset = 0) (o1 : f1.offset = 1)
    (c0 : P.cellsOf f0.type = 1) (c1 : P.cellsOf f1.type = 1) (u0 : P.underlying f0.type = some .string) (u1 : P.underlying f1.type = some (.int .u64))
    (h : DataW.Trod enc P w base (fun _ => true) held t (.slice a len cap) d ps) :
    ∃ l : List S49, len = l.length ∧ l.length ≤ cap ∧ l.length ≤ maxLen ∧ Kd.C k49 w a l.length l ∧ ∀ x ∈ l, (Lit.int .u64 x.f1).wf = true := by
  obtain ⟨fuel, hf⟩ := h
  rcases Go.Deep.open_slice ht hf with ⟨hcs, _⟩ | ⟨a', len', cap', m, n, D, Pl, hcs, hb, hl, hm, hmm, hx, hel⟩
  · simp [Value.cells] at hcs
    obtain ⟨rfl, rfl, rfl⟩ := hcs
    exact ⟨[], rfl, Nat.le_refl _, Nat.zero_le _, Kd.C_nil _ _, by simp⟩
  · simp [Value.cells] at hcs
    obtain ⟨rfl, rfl, rfl⟩ := hcs
    simp only [if_true] at hmm
    have hmq := hmm.symm
    subst hmq
    obtain ⟨l, h1, h2⟩ := pick_rowE (n := len) (p := fun i (s : S49) => w.cell? (a'.add (i * 2)) = some (.string s.f0) ∧ w.cell? (a'.add (i * 2 + 1)) = some (.int .u64 s.f1) ∧ (Lit.int .u64 s.f1).wf = true) (fun i hi => by
      obtain ⟨cs', g1, g2⟩ := hel i (by omega)
      rw [ce] at g1
      obtain ⟨_, hlen, hcell⟩ := World.cells?_some g1
      obtain ⟨xs, k, hk, hxy, _, hxl, hff⟩ := DataW.trod_struct he g2
      match xs, hxl, cs', hlen with
      | [y0, y1], _, [v0, v1], _ =>
        have q0 := hff 0 f0 rfl
        have q1 := hff 1 f1 rfl
        simp [o0, o1, c0, c1] at q0 q1
        have e0 := hcell 0 (by omega)
        have e1 := hcell 1 (by omega)
        rw [add_add] at e0 e1
        obtain ⟨n0, r0, z0, s0⟩ := DataW.trod_string u0 q0
        obtain ⟨n1, r1, z1, s1⟩ := DataW.trod_int u1 q1
        injection r0 with r0 _
        injection r1 with r1 _
        exact ⟨⟨n0, n1⟩, by rw [← r0]; simpa using e0, by rw [← r1]; simpa using e1, s1⟩)
    refine ⟨l, h1.symm, by omega, by omega, ⟨rfl, by unfold maxLen at hm; omega, fun _ => ⟨a', rfl, fun j p hj => ?_⟩⟩, fun s hs2 => ?_⟩
    · obtain ⟨hjl, rfl⟩ := List.getElem?_eq_some_iff.1 hj
      obtain ⟨g0, g1, _⟩ := h2 j hjl
      refine ⟨_, rfl, k49_mk w _, fun i u hu => ?_⟩
      match i with
      | 0 => simp at hu; rw [← hu]; exact g0
      | 1 => simp at hu; rw [← hu]; exact g1
      | i + 2 => simp at hu
    · obtain ⟨i, hi, rfl⟩ := List.getElem_of_mem hs2
      exact (h2 i hi).2.2
end Go.Proofs.Ytgebhidpkcjpmaa.K

namespace Go.Proofs.Ytgebhidpkcjpmaa.fileTurned
open Go.ChangeShapes Go.WideShapes Go.ChangeAt Go.RowKit
open Go.ChangeMaps (open_string shut_string)
set_option linter.unusedVariables false
theorem own : ownKnob Try.prog.godebug = none := by kernel_rfl
theorem laidOut : laidOutB Try.prog = true := by kernel_rfl
def IsRow (k : IntKind) (w : World) (a : Option Addr) (len cap : Nat) (zs : List Int) : Prop :=
  (a = none ∧ len = 0 ∧ cap = 0 ∧ zs = []) ∨
  ∃ x, a = some x ∧ len ≤ cap ∧ cap ≤ maxLen ∧ zs.length = cap ∧ (∀ i, i < zs.length → w.cell? (x.add i) = some (.int k (zs.getD i 0))) ∧ ∀ n ∈ zs, (Lit.int k n).wf = true
set_option maxRecDepth 100000 in
theorem lifted (os : Os) (started : os.Started) (H : Type) (enc : TypeId × Value → H) :
    ReturnsInHanded {} Try.checked os 7 .any (Rows.fileTurnedSpec.pre6 enc Try.prog Try.f7 Rows.fileTurnedRow.domain false) (Rows.fileTurnedSpec.post enc Try.prog Try.f7 false true false false) := by
  refine returnsInHanded_of_change_sized (C := Try.checked) own started (by kernel_rfl) Try.func7
    (ChangeSpec.witness6 (enc := enc) (C := Try.checked) false ⟨#[], #[.slice none 0 0, .int .u16 0, .int .u8 0], []⟩ 8 (by kernel_rfl) (by kernel_rfl) (by kernel_rfl) (by kernel_rfl)) ?_
  intro W base args ds gs before hval0 hW hcnd hsz0 _
  have hsz : (DataW.weightsEach Try.prog (Try.f7.params.toList ++ Rows.fileTurnedSpec.plain.varTypes Try.prog) (ds ++ gs)).all (· ≤ reachBytes) = true := hsz0
  have hval : ∀ (j : Nat) t v, Try.f7.params[j]? = some t → args[j]? = some v → Value.okWide Try.prog W .any base t v := hval0
  have hW' := hW
  obtain ⟨p, q, hA0, hV, rfl, hfz, hnd⟩ := hW
  have hA : DataW.TrodAll enc Try.prog W 0 (fun _ => true) true Try.f7.params.toList args.toList ds p := hA0
  rw [Try.params7] at hA hval hsz
  obtain ⟨v0, vs0, d0, ds0, p0, q0, hargs, rfl, rfl, h0, r0⟩ := trodAll_cons hA
  obtain ⟨v1, vs1, d1, ds1, p1, q1, rfl, rfl, rfl, h1, r1⟩ := trodAll_cons r0
  obtain ⟨v2, vs2, d2, ds2, p2, q2, rfl, rfl, rfl, h2, r2⟩ := trodAll_cons r1
  obtain ⟨rfl, rfl, rfl⟩ := trodAll_nil r2
  obtain rfl : args = #[v0, v1, v2] := by cases args; simp_all
  obtain ⟨rfl, rfl⟩ := trodVars_none hV
  obtain ⟨a0, len0, cap0, rfl⟩ := okWide_slice Try.underlying22 (hval 0 22 v0 rfl rfl)
  have k0 := h0
  have lt0 : ∀ x ∈ p0, x.block < W.heap.size := by obtain ⟨m, hm⟩ := k0; exact DataW.trod_lt m _ _ _ hm
  obtain ⟨l0, rfl, hc0, hm0, hC0, hw0⟩ := K.open_entriesC Try.underlying22 Try.underlying49 (by kernel_rfl) rfl rfl (by kernel_rfl) (by kernel_rfl) Try.underlying9 Try.underlying47 h0
  obtain ⟨a1, rfl, rfl, rfl, w1⟩ := open_int Try.underlying51 (hval 1 51 v1 rfl rfl) h1
  obtain ⟨a2, rfl, rfl, rfl, w2⟩ := open_int Try.underlying5 (hval 2 5 v2 rfl rfl) h2
  clear hA0 hval0 hsz0 hsz
  refine (K.FileTurned_walk a0 cap0 l0 a1 a2 W hC0 hc0 hw0 w1 w2).mono fun e W' ⟨he, bel⟩ => ?_
  subst he
  exact ⟨_, rfl, _, _, _, [], _, [], hW', trodAll_mk1 (shut_bool Try.underlying4 _), (trodAll_cons_mk (Below.trod laidOut (by kernel_rfl) (of_decide_eq_true (by kernel_rfl)) k0 bel lt0) (trodAll_cons_mk (shut_int Try.underlying51 w1) (trodAll_cons_mk (shut_int Try.underlying5 w2) trodAll_mk0))), rfl, bel.frame _, fun h => by cases h⟩
theorem over : Rows.fileTurnedRow.holds Try.pinned (OpenSpec.ofChange Rows.fileTurnedSpec) :=
  OpenClaim.holds_of_wide 7 Try.f7 rfl rfl rfl rfl rfl rfl rfl ⟨rfl, rfl, rfl, rfl, rfl⟩ rfl rfl rfl rfl rfl (by kernel_rfl) Try.func7 (by kernel_rfl)
    (of_decide_eq_true (by kernel_rfl)) (by unfold Func.isWrapper; first | (rw [if_pos (by decide +kernel)]; kernel_rfl) | (rw [if_neg (by decide +kernel)]; exact ⟨rfl, rfl⟩))
    (fun os started H enc _ => lifted os started H enc)
theorem proved : Rows.FileTurnedSaid := over
#print axioms proved
end Go.Proofs.Ytgebhidpkcjpmaa.fileTurned
namespace Go.Proofs.Ytgebhidpkcjpmaa
/-- The row, under a short name, for the claim. -/
theorem fileTurned_holds : Rows.FileTurnedSaid := fileTurned.proved
end Go.Proofs.Ytgebhidpkcjpmaa

