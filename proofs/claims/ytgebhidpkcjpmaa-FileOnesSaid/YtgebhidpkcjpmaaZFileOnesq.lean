/- FileOnes. (The texts that the proof is made of, one behind the other: part 17 of 17.) -/
import Derived.Test.YtgebhidpkcjpmaaProg
import Derived.Below
import Derived.Deep.Draws
import Derived.Deep.AppendLies
import Derived.Maps.AppendAt
import Derived.OwnWalk
import Derived.Laws.BytesArg
import Derived.Laws.MakeOwn
import Derived.Laws.OwnMore
import Derived.Deep.OwnRows
import Derived.Tactics
import Derived.Lib.ConvBytes
import Derived.Laws.Slices
import Derived.WalkKit
import Derived.KernelRfl
import Derived.RowKit3
import Derived.Deep.LoopGhost
import Derived.Deep.QuietTactic
import Derived.BigQuiet
import Derived.WideLaws
import Derived.Deep.DeepCutAuto
import Derived.Deep.CutBlock
import Derived.Deep.RegionHeld3
import Derived.Laws.Rows
import Derived.Lib.AppendStr
import Derived.ArgAppend
import Derived.Laws.IdiomCopy
import Derived.OrdersHeld
import Derived.Laws.BitsLemmas
import Derived.RowKit
import Derived.Lib.OthersKept
import Derived.WalkSmall
import Derived.Deep.RegionLaw
import Derived.BigRegion
import Derived.Deep.Matrix
import Derived.SliceStrings
import Derived.Test.YtgebhidpkcjpmaaRows
import Derived.Deep.SlicePairs
import Derived.ProofKit
import Derived.OpenShut
import Derived.ShutString
import Derived.ChangeOld
import Derived.SizedLaws
import Derived.Test.YtgebhidpkcjpmaaZFileOnesa
import Derived.Test.YtgebhidpkcjpmaaZFileOnesb
import Derived.Test.YtgebhidpkcjpmaaZFileOnesc
import Derived.Test.YtgebhidpkcjpmaaZFileOnesd
import Derived.Test.YtgebhidpkcjpmaaZFileOnese
import Derived.Test.YtgebhidpkcjpmaaZFileOnesf
import Derived.Test.YtgebhidpkcjpmaaZFileOnesg
import Derived.Test.YtgebhidpkcjpmaaZFileOnesh
import Derived.Test.YtgebhidpkcjpmaaZFileOnesi
import Derived.Test.YtgebhidpkcjpmaaZFileOnesj
import Derived.Test.YtgebhidpkcjpmaaZFileOnesk
import Derived.Test.YtgebhidpkcjpmaaZFileOnesl
import Derived.Test.YtgebhidpkcjpmaaZFileOnesm
import Derived.Test.YtgebhidpkcjpmaaZFileOnesn
import Derived.Test.YtgebhidpkcjpmaaZFileOneso
import Derived.Test.YtgebhidpkcjpmaaZFileOnesp
namespace Go.Proofs.Ytgebhidpkcjpmaa.PFileOnes
open Go.RowKit Go.Proofs.YtgebhidpkcjpmaaW.PrintWords Go.Proofs.YtgebhidpkcjpmaaW.PrintLast Go.Proofs.YtgebhidpkcjpmaaW.PrintMore Go.Proofs.Ytgebhidpkcjpmaa.K Go.Proofs.Ytgebhidpkcjpmaa.PDk Go.Proofs.Ytgebhidpkcjpmaa.PDm Go.Proofs.Ytgebhidpkcjpmaa.PEn Go.Proofs.Ytgebhidpkcjpmaa.PFl Go.Proofs.Ytgebhidpkcjpmaa.PIx Go.Proofs.Ytgebhidpkcjpmaa.PLg Go.Proofs.Ytgebhidpkcjpmaa.PMk Go.Proofs.Ytgebhidpkcjpmaa.PR13
attribute [local go_sem] max2_int min2_int max_two min_two max_three min_three max_four min_four   -- for this text's walks alone
set_option linter.unusedVariables false
set_option linter.unusedSimpArgs false

end Go.Proofs.Ytgebhidpkcjpmaa.PFileOnes

namespace Go.Proofs.Ytgebhidpkcjpmaa.K
open Go.RowKit Go.Proofs.YtgebhidpkcjpmaaW.PrintWords Go.Proofs.YtgebhidpkcjpmaaW.PrintLast Go.Proofs.YtgebhidpkcjpmaaW.PrintMore Go.Proofs.Ytgebhidpkcjpmaa
attribute [local go_sem] max2_int min2_int max_two min_two max_three min_three max_four min_four
set_option linter.unusedVariables false
set_option linter.unusedSimpArgs false
open Go Go.Proofs.Ytgebhidpkcjpmaa.PR13 Go.Proofs.Ytgebhidpkcjpmaa.PDk Go.Proofs.Ytgebhidpkcjpmaa.PDm Go.Proofs.Ytgebhidpkcjpmaa.PIx Go.Proofs.Ytgebhidpkcjpmaa.PFl Go.Proofs.Ytgebhidpkcjpmaa.PLg Go.Proofs.Ytgebhidpkcjpmaa.PMk Go.Proofs.Ytgebhidpkcjpmaa.PEn Go.Proofs.Ytgebhidpkcjpmaa.PSh16 Go.Proofs.Ytgebhidpkcjpmaa.PFileOnes Go.Proofs.Ytgebhidpkcjpmaa.Daw Go.Proofs.Ytgebhidpkcjpmaa.Fil Go.Proofs.Ytgebhidpkcjpmaa.Crc
open Classical
theorem str_zs {a b : List Nat} (ha : ∀ x ∈ a, x < 256) (hb : ∀ x ∈ b, x < 256) : ((strOfNums (zs a)).toList == (strOfNums (zs b)).toList) = decide (a = b) := by
  have e : ∀ a : List Nat, (∀ x ∈ a, x < 256) → Utf.nats (strOfNums (zs a)) = a := fun a ha => by
    rw [nats_str]
    unfold zs
    rw [List.map_map]
    refine (List.map_congr_left fun n hn => ?_).trans (List.map_id a)
    have := ha n hn
    show (Int.ofNat n).toNat % 256 = n
    simp; omega
  rw [str_eq, decide_eq_decide, e a ha, e b hb]
theorem ones_false (l k : List EnS) (a b : List Int) (i : Int) : Ev (fun n => manteletlaw16_FileOnes.l0 n l k true a 0 b 0 false i) (((strOfNums a).toList == (strOfNums b).toList) == false) := by
  refine Ev.step (f := fun _ => some (((strOfNums a).toList == (strOfNums b).toList) == false)) (fun n => ?_) (Ev.now _)
  simp only [manteletlaw16_FileOnes.l0]
  by_cases h : i < (l.length : Int)
  · rw [if_pos h, if_neg (by decide), if_pos trivial, if_pos trivial, if_pos trivial]
  · rw [if_neg h, if_pos trivial, if_pos trivial, if_pos trivial]
theorem ones_l0 (l k : List EnS) (hlk : l.length = k.length) (hl : l.length ≤ 1000000) (a b : List Int) : ∀ (d i : Nat), i + d = l.length → Ev (fun n => manteletlaw16_FileOnes.l0 n l k true a 0 b 0 true (i : Int)) (((strOfNums a).toList == (strOfNums b).toList) == decide (l.drop i = k.drop i))
  | 0, i, hi => by
    rw [List.drop_eq_nil_of_le (by omega), List.drop_eq_nil_of_le (by omega), decide_eq_true rfl]
    refine Ev.step (f := fun _ => some (((strOfNums a).toList == (strOfNums b).toList) == true)) (fun n => ?_) (Ev.now _)
    simp only [manteletlaw16_FileOnes.l0]
    rw [if_neg (by omega), if_pos trivial, if_pos trivial, if_pos trivial]
  | d + 1, i, hi => by
    have hlt : i < l.length := by omega
    have hkt : i < k.length := by omega
    have ih := ones_l0 l k hlk hl a b d (i + 1) (by omega)
    have hf := ones_false l k a b ((i + 1 : Nat) : Int)
    have hs : ∀ n, manteletlaw16_FileOnes.l0 (n + 1) l k true a 0 b 0 true (i : Int) = manteletlaw16_FileOnes.l0 n l k true a 0 b 0 (decide (l[i] = k[i])) ((i + 1 : Nat) : Int) := fun n => by
      simp only [manteletlaw16_FileOnes.l0]
      rw [if_pos (by omega), if_pos trivial, if_pos (by omega), if_pos (by omega), rdEn l i hlt, rdEn k i hkt, wz (by omega) (by omega)]
      have e : (l[i].f0.toList == k[i].f0.toList && l[i].f1 == k[i].f1) = decide (l[i] = k[i]) := by
        rw [str_eq]
        generalize l[i] = x
        generalize k[i] = y
        obtain ⟨x0, x1⟩ := x
        obtain ⟨y0, y1⟩ := y
        rw [Bool.eq_iff_iff, Bool.and_eq_true, decide_eq_true_eq, decide_eq_true_eq, beq_iff_eq]
        constructor
        · rintro ⟨h1, h2⟩
          dsimp only at h1 h2
          rw [nats_inj h1, h2]
        · intro h
          injection h with h1 h2
          dsimp only
          rw [h1, h2]; exact ⟨rfl, rfl⟩
      rw [e]; rfl
    rw [List.drop_eq_getElem_cons hlt, List.drop_eq_getElem_cons hkt]
    by_cases he : l[i] = k[i]
    · have e2 : decide (l[i] :: l.drop (i + 1) = k[i] :: k.drop (i + 1)) = decide (l.drop (i + 1) = k.drop (i + 1)) := decide_eq_decide.2 ⟨fun h => (List.cons.inj h).2, fun h => by rw [he, h]⟩
      rw [e2]
      rw [decide_eq_true he] at hs
      exact Ev.step hs ih
    · have e2 : decide (l[i] :: l.drop (i + 1) = k[i] :: k.drop (i + 1)) = false := decide_eq_false fun h => he (List.cons.inj h).1
      rw [e2]
      rw [decide_eq_false he] at hs
      exact Ev.step hs hf
theorem sumB_lt (p : List Nat) : ∀ x ∈ sumB p, x < 256 := by
  intro x hx
  unfold sumB at hx
  simp only [List.mem_cons, List.not_mem_nil, or_false] at hx
  rcases hx with rfl | rfl | rfl | rfl <;> omega
theorem recB_lt {p : List Nat} (h : ∀ x ∈ p, x < 256) : ∀ x ∈ recB sumB p, x < 256 := by
  intro x hx
  unfold recB at hx
  rcases List.mem_append.1 hx with hx | hx
  · exact put_lt _ x hx
  · rcases List.mem_append.1 hx with hx | hx
    · exact h x hx
    · exact sumB_lt p x hx
theorem stsB_lt : ∀ (l : List DS) (i : Nat), (∀ s ∈ l, ∀ e ∈ s.2, e.1 < 256) → ∀ x ∈ stsB i l, x < 256
  | [], i, _, x, hx => by simp [stsB] at hx
  | s :: l, i, hl, x, hx => by
    unfold stsB stB at hx
    rcases List.mem_append.1 hx with hx | hx
    · rcases List.mem_append.1 hx with hx | hx
      · exact put_lt _ x hx
      · obtain ⟨e, he, hx⟩ := List.mem_flatMap.1 hx
        unfold edB at hx
        rcases List.mem_cons.1 hx with rfl | hx
        · exact hl s (by simp) e he
        · exact put_lt _ x hx
    · exact stsB_lt l (i + 1) (fun t ht => hl t (by simp [ht])) x hx
theorem statesB_lt {b : List DS} (h : ∀ s ∈ b, ∀ e ∈ s.2, e.1 < 256) : ∀ x ∈ statesB b, x < 256 := by
  intro x hx
  unfold statesB at hx
  rcases List.mem_append.1 hx with hx | hx
  · exact put_lt _ x hx
  · exact stsB_lt b 0 h x hx
theorem countsB_lt (c : List Nat) : ∀ x ∈ countsB c, x < 256 := by
  intro x hx
  unfold countsB at hx
  rcases List.mem_append.1 hx with hx | hx
  · exact put_lt _ x hx
  · obtain ⟨n, _, hx⟩ := List.mem_flatMap.1 hx
    exact put_lt _ x hx
theorem kN_lt (l : List EnS) : ∀ n ∈ kN l, n < 256 := fun n hn => by
  obtain ⟨x, hx, rfl⟩ := List.mem_map.1 hn
  unfold classesL at hx
  obtain ⟨y, _, rfl⟩ := List.mem_map.1 hx
  have h1 := cls_nonneg (l.map S49.f1) y.f1
  have h2 := cls_le255 (l.map S49.f1) y.f1
  omega
theorem Ents.byt {l : List EnS} (h : Ents l) : ∀ s ∈ build (wordsN (Wl l)), ∀ e ∈ s.2, e.1 < 256 := fun s hs e he => build_byt (wordsN (Wl l)) (wordsN_byt (Wl l)) s hs e he
theorem dictB_lt {l : List EnS} (h : Ents l) : ∀ x ∈ dictB l, x < 256 := by
  intro x hx
  unfold dictB encB at hx
  rcases List.mem_append.1 hx with hx | hx
  · exact recB_lt (by decide) x hx
  rcases List.mem_append.1 hx with hx | hx
  · exact recB_lt (statesB_lt h.byt) x hx
  rcases List.mem_append.1 hx with hx | hx
  · exact recB_lt (countsB_lt _) x hx
  · exact recB_lt (kN_lt l) x hx
theorem ones_f (l k : List EnS) : Ev (fun n => manteletlaw16_FileOnes.f n l k) true := by
  unfold manteletlaw16_FileOnes.f manteletref09_May.f
  simp only [Option.bind_some]
  obtain ⟨b1, hf1, hb1⟩ := few16 l
  obtain ⟨b2, hf2, hb2⟩ := few16 k
  have hj : Ev (fun n => manteletlaw16_FileOnes.j0 n l k true true) true := Ev.step (f := fun _ => some true) (fun n => by simp only [manteletlaw16_FileOnes.j0]; rw [if_pos trivial]) (Ev.now _)
  refine Ev.bind shown16 (Ev.bind hf1 ?_)
  cases b1 with
  | false => exact Ev.congr (fun n => if_neg (by decide)) hj
  | true =>
    refine Ev.congr (fun n => if_pos rfl) (Ev.bind hf2 ?_)
    cases b2 with
    | false => exact Ev.congr (fun n => if_neg (by decide)) hj
    | true =>
      refine Ev.congr (fun n => if_pos rfl) ?_
      obtain ⟨l60, lb⟩ := hb1 rfl
      obtain ⟨k60, kb⟩ := hb2 rfl
      by_cases h1 : mayR l = 0
      · refine Ev.congr (fun n => if_pos h1) ?_
        by_cases h2 : mayR k = 0
        · have ba := few_all l60 lb
          have bb := few_all k60 kb
          have ea := Ents.of_may h1 (by omega)
          have eb := Ents.of_may h2 (by omega)
          have e2 : (mayR k != 0) = false := by rw [h2]; rfl
          rw [e2]
          have hkey : Ev (fun n => manteletlaw16_FileOnes.l0 n l k true (zs (dictB l)) 0 (zs (dictB k)) 0 ((l.length : Int) == (k.length : Int)) 0) true := by
            have hst := str_zs (dictB_lt ea) (dictB_lt eb)
            by_cases hlk : l.length = k.length
            · have e3 : ((l.length : Int) == (k.length : Int)) = true := by rw [hlk]; exact beq_self_eq_true _
              rw [e3]
              have h0 := ones_l0 l k hlk (by omega) (zs (dictB l)) (zs (dictB k)) l.length 0 (by omega)
              rw [hst, List.drop_zero, List.drop_zero] at h0
              have : (decide (dictB l = dictB k) == decide (l = k)) = true := by
                rw [beq_iff_eq, decide_eq_decide]
                exact ⟨dict_inj ea eb, fun h => by rw [h]⟩
              rw [this] at h0
              exact h0
            · have e3 : ((l.length : Int) == (k.length : Int)) = false := by rw [beq_eq_false_iff_ne]; omega
              rw [e3]
              have h0 := ones_false l k (zs (dictB l)) (zs (dictB k)) 0
              rw [hst] at h0
              have : (decide (dictB l = dictB k) == false) = true := by
                rw [beq_iff_eq]
                exact decide_eq_false fun h => hlk (by rw [dict_inj ea eb h])
              rw [this] at h0
              exact h0
          refine Ev.step (fun n => by simp only [manteletlaw16_FileOnes.j0]; rw [if_neg (by decide)]) (Ev.bind (make_ev ea) (Ev.bind (make_ev eb) (Ev.bind (ea.encoded (by omega)) (Ev.bind (eb.encoded (by omega)) hkey))))
        · have e2 : (mayR k != 0) = true := by simpa using h2
          rw [e2]
          exact hj
      · exact Ev.congr (fun n => if_neg h1) hj
theorem FileOnes_walk (A0 : Option Addr) (c0 : Nat) (l0 : List S49) (A1 : Option Addr) (c1 : Nat) (l1 : List S49) (w : World) (hC0 : Kd.C k49 w A0 l0.length l0) (hc0 : l0.length ≤ c0) (hw0 : ∀ x ∈ l0, (Lit.int .u64 x.f1).wf = true) (hC1 : Kd.C k49 w A1 l1.length l1) (hc1 : l1.length ≤ c1) (hw1 : ∀ x ∈ l1, (Lit.int .u64 x.f1).wf = true) :
    Calls Try.prog 5 #[.slice A0 l0.length c0, .slice A1 l1.length c1] w fun e w' => e = .returned (.bool true) ∧ Below w.heap.size w w' := by
  obtain ⟨k, hk⟩ := Ev.rounds (ones_f l0 l1)
  exact manteletlaw16_FileOnes.calls k A0 c0 l0 A1 c1 l1 true w hC0 hc0 hC1 hc1 hk
end Go.Proofs.Ytgebhidpkcjpmaa.K

namespace Go.Proofs.Ytgebhidpkcjpmaa.K
open Go.RowKit Go.Proofs.YtgebhidpkcjpmaaW.PrintWords Go.Proofs.YtgebhidpkcjpmaaW.PrintLast Go.Proofs.YtgebhidpkcjpmaaW.PrintMore Go.Proofs.Ytgebhidpkcjpmaa
attribute [local go_sem] max2_int min2_int max_two min_two max_three min_three max_four min_four
set_option linter.unusedVariables false
set_option linter.unusedSimpArgs false
end Go.Proofs.Ytgebhidpkcjpmaa.K

namespace Go.Proofs.Ytgebhidpkcjpmaa.K
open Go.RowKit Go.Proofs.YtgebhidpkcjpmaaW.PrintWords Go.Proofs.YtgebhidpkcjpmaaW.PrintLast Go.Proofs.YtgebhidpkcjpmaaW.PrintMore Go.Proofs.Ytgebhidpkcjpmaa
attribute [local go_sem] max2_int min2_int max_two min_two max_three min_three max_four min_four
set_option linter.unusedVariables false
set_option linter.unusedSimpArgs false
open Go.Proofs.Ytgebhidpkcjpmaa Go.Proofs.Ytgebhidpkcjpmaa.PR13
theorem pick_rowE {α : Type} {n : Nat} {p : Nat → α → Prop} (h : ∀ i, i < n → ∃ x, p i x) : ∃ l : List α, l.length = n ∧ ∀ i (hi : i < l.length), p i l[i] := by
  induction n with
  | zero => exact ⟨[], rfl, fun i hi => by simp at hi⟩
  | succ n ih =>
    obtain ⟨l, h1, h2⟩ := ih (fun i hi => h i (by omega))
    obtain ⟨x, hx⟩ := h n (by omega)
    refine ⟨l ++ [x], by simp [h1], fun i hi => ?_⟩
    rw [List.length_append, List.length_singleton] at hi
    by_cases hin : i < l.length
    · rw [List.getElem_append_left hin]; exact h2 i hin
    · have : i = n := by omega
      subst this
      rw [List.getElem_append_right (by omega)]
      simpa [h1] using hx
theorem open_entriesC {H : Type} {enc : TypeId × Value → H} {P : Program} {w : World} {base : Nat} {held : Bool} {t e : TypeId} {f0 f1 : Field} {a : Option Addr} {len cap : Nat} {d : DataW H} {ps : List MemPlace}
    (ht : P.underlying t = some (.slice e)) (he : P.underlying e = some (.struct #[f0, f1])) (ce : P.cellsOf e = 2) (o0 : f0.offset = 0) (o1 : f1.offset = 1)
    (c0 : P.cellsOf f0.type = 1) (c1 : P.cellsOf f1.type = 1) (u0 : P.underlying f0.type = some .string) (u1 : P.underlying f1.type = some (.int .u64))
    (h : DataW.Trod enc P w base (fun _ => true) held t (.slice a len cap) d ps) :
    ∃ l : List S49, len = l.length ∧ l.length ≤ cap ∧ l.length ≤ maxLen ∧ Kd.C k49 w a l.length l ∧ ∀ x ∈ l, (Lit.int .u64 x.f1).wf = true := by
  obtain ⟨fuel, hf⟩ := h
  rcases Go.Deep.open_slice ht hf with ⟨hcs, _⟩ | ⟨a', len', cap', m, n, D, Pl, hcs, hb, hl, hm, hmm, hx, hel⟩
  · simp [Value.cells] at hcs
    obtain ⟨rfl, rfl, rfl⟩ := hcs
    exact ⟨[], rfl, Nat.le_refl _, Nat.zero_le _, Kd.C_nil _ _, by simp⟩
  · simp [Value.cells] at hcs
    obtain ⟨rfl, rfl, rfl⟩ := hcs
    simp only [if_true] at hmm
    have hmq := hmm.symm
    subst hmq
    obtain ⟨l, h1, h2⟩ := pick_rowE (n := len) (p := fun i (s : S49) => w.cell? (a'.add (i * 2)) = some (.string s.f0) ∧ w.cell? (a'.add (i * 2 + 1)) = some (.int .u64 s.f1) ∧ (Lit.int .u64 s.f1).wf = true) (fun i hi => by
      obtain ⟨cs', g1, g2⟩ := hel i (by omega)
      rw [ce] at g1
      obtain ⟨_, hlen, hcell⟩ := World.cells?_some g1
      obtain ⟨xs, k, hk, hxy, _, hxl, hff⟩ := DataW.trod_struct he g2
      match xs, hxl, cs', hlen with
      | [y0, y1], _, [v0, v1], _ =>
        have q0 := hff 0 f0 rfl
        have q1 := hff 1 f1 rfl
        simp [o0, o1, c0, c1] at q0 q1
        have e0 := hcell 0 (by omega)
        have e1 := hcell 1 (by omega)
        rw [add_add] at e0 e1
        obtain ⟨n0, r0, z0, s0⟩ := DataW.trod_string u0 q0
        obtain ⟨n1, r1, z1, s1⟩ := DataW.trod_int u1 q1
        injection r0 with r0 _
        injection r1 with r1 _
        exact ⟨⟨n0, n1⟩, by rw [← r0]; simpa using e0, by rw [← r1]; simpa using e1, s1⟩)
    refine ⟨l, h1.symm, by omega, by omega, ⟨rfl, by unfold maxLen at hm; omega, fun _ => ⟨a', rfl, fun j p hj => ?_⟩⟩, fun s hs2 => ?_⟩
    · obtain ⟨hjl, rfl⟩ := List.getElem?_eq_some_iff.1 hj
      obtain ⟨g0, g1, _⟩ := h2 j hjl
      refine ⟨_, rfl, k49_mk w _, fun i u hu => ?_⟩
      match i with
      | 0 => simp at hu; rw [← hu]; exact g0
      | 1 => simp at hu; rw [← hu]; exact g1
      | i + 2 => simp at hu
    · obtain ⟨i, hi, rfl⟩ := List.getElem_of_mem hs2
      exact (h2 i hi).2.2
end Go.Proofs.Ytgebhidpkcjpmaa.K

namespace Go.Proofs.Ytgebhidpkcjpmaa.fileOnes
open Go.ChangeShapes Go.WideShapes Go.ChangeAt Go.RowKit
open Go.ChangeMaps (open_string shut_string)
set_option linter.unusedVariables false
theorem own : ownKnob Try.prog.godebug = none := by kernel_rfl
theorem laidOut : laidOutB Try.prog = true := by kernel_rfl
def IsRow (k : IntKind) (w : World) (a : Option Addr) (len cap : Nat) (zs : List Int) : Prop :=
  (a = none ∧ len = 0 ∧ cap = 0 ∧ zs = []) ∨
  ∃ x, a = some x ∧ len ≤ cap ∧ cap ≤ maxLen ∧ zs.length = cap ∧ (∀ i, i < zs.length → w.cell? (x.add i) = some (.int k (zs.getD i 0))) ∧ ∀ n ∈ zs, (Lit.int k n).wf = true
set_option maxRecDepth 100000 in
theorem lifted (os : Os) (started : os.Started) (H : Type) (enc : TypeId × Value → H) :
    ReturnsInHanded {} Try.checked os 5 .any (Rows.fileOnesSpec.pre6 enc Try.prog Try.f5 Rows.fileOnesRow.domain false) (Rows.fileOnesSpec.post enc Try.prog Try.f5 false true false false) := by
  refine returnsInHanded_of_change_sized (C := Try.checked) own started (by kernel_rfl) Try.func5
    (ChangeSpec.witness6 (enc := enc) (C := Try.checked) false ⟨#[], #[.slice none 0 0, .slice none 0 0], []⟩ 8 (by kernel_rfl) (by kernel_rfl) (by kernel_rfl) (by kernel_rfl)) ?_
  intro W base args ds gs before hval0 hW hcnd hsz0 _
  have hsz : (DataW.weightsEach Try.prog (Try.f5.params.toList ++ Rows.fileOnesSpec.plain.varTypes Try.prog) (ds ++ gs)).all (· ≤ reachBytes) = true := hsz0
  have hval : ∀ (j : Nat) t v, Try.f5.params[j]? = some t → args[j]? = some v → Value.okWide Try.prog W .any base t v := hval0
  have hW' := hW
  obtain ⟨p, q, hA0, hV, rfl, hfz, hnd⟩ := hW
  have hA : DataW.TrodAll enc Try.prog W 0 (fun _ => true) true Try.f5.params.toList args.toList ds p := hA0
  rw [Try.params5] at hA hval hsz
  obtain ⟨v0, vs0, d0, ds0, p0, q0, hargs, rfl, rfl, h0, r0⟩ := trodAll_cons hA
  obtain ⟨v1, vs1, d1, ds1, p1, q1, rfl, rfl, rfl, h1, r1⟩ := trodAll_cons r0
  obtain ⟨rfl, rfl, rfl⟩ := trodAll_nil r1
  obtain rfl : args = #[v0, v1] := by cases args; simp_all
  obtain ⟨rfl, rfl⟩ := trodVars_none hV
  obtain ⟨a0, len0, cap0, rfl⟩ := okWide_slice Try.underlying22 (hval 0 22 v0 rfl rfl)
  have k0 := h0
  have lt0 : ∀ x ∈ p0, x.block < W.heap.size := by obtain ⟨m, hm⟩ := k0; exact DataW.trod_lt m _ _ _ hm
  obtain ⟨l0, rfl, hc0, hm0, hC0, hw0⟩ := K.open_entriesC Try.underlying22 Try.underlying49 (by kernel_rfl) rfl rfl (by kernel_rfl) (by kernel_rfl) Try.underlying9 Try.underlying47 h0
  obtain ⟨a1, len1, cap1, rfl⟩ := okWide_slice Try.underlying22 (hval 1 22 v1 rfl rfl)
  have k1 := h1
  have lt1 : ∀ x ∈ p1, x.block < W.heap.size := by obtain ⟨m, hm⟩ := k1; exact DataW.trod_lt m _ _ _ hm
  obtain ⟨l1, rfl, hc1, hm1, hC1, hw1⟩ := K.open_entriesC Try.underlying22 Try.underlying49 (by kernel_rfl) rfl rfl (by kernel_rfl) (by kernel_rfl) Try.underlying9 Try.underlying47 h1
  clear hA0 hval0 hsz0 hsz
  refine (K.FileOnes_walk a0 cap0 l0 a1 cap1 l1 W hC0 hc0 hw0 hC1 hc1 hw1).mono fun e W' ⟨he, bel⟩ => ?_
  subst he
  exact ⟨_, rfl, _, _, _, [], _, [], hW', trodAll_mk1 (shut_bool Try.underlying4 _), (trodAll_cons_mk (Below.trod laidOut (by kernel_rfl) (of_decide_eq_true (by kernel_rfl)) k0 bel lt0) (trodAll_cons_mk (Below.trod laidOut (by kernel_rfl) (of_decide_eq_true (by kernel_rfl)) k1 bel lt1) trodAll_mk0)), rfl, bel.frame _, fun h => by cases h⟩
theorem over : Rows.fileOnesRow.holds Try.pinned (OpenSpec.ofChange Rows.fileOnesSpec) :=
  OpenClaim.holds_of_wide 5 Try.f5 rfl rfl rfl rfl rfl rfl rfl ⟨rfl, rfl, rfl, rfl, rfl⟩ rfl rfl rfl rfl rfl (by kernel_rfl) Try.func5 (by kernel_rfl)
    (of_decide_eq_true (by kernel_rfl)) (by unfold Func.isWrapper; first | (rw [if_pos (by decide +kernel)]; kernel_rfl) | (rw [if_neg (by decide +kernel)]; exact ⟨rfl, rfl⟩))
    (fun os started H enc _ => lifted os started H enc)
theorem proved : Rows.FileOnesSaid := over
#print axioms proved
end Go.Proofs.Ytgebhidpkcjpmaa.fileOnes
namespace Go.Proofs.Ytgebhidpkcjpmaa
/-- The row, under a short name, for the claim. -/
theorem fileOnes_holds : Rows.FileOnesSaid := fileOnes.proved
end Go.Proofs.Ytgebhidpkcjpmaa

