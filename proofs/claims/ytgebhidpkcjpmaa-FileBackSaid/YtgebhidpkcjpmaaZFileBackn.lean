/- FileBack. (The texts that the proof is made of, one behind the other: part 14 of 18.) -/
import Derived.Test.YtgebhidpkcjpmaaProg
import Derived.Below
import Derived.Deep.Draws
import Derived.Deep.AppendLies
import Derived.Maps.AppendAt
import Derived.OwnWalk
import Derived.Laws.BytesArg
import Derived.Laws.MakeOwn
import Derived.Laws.OwnMore
import Derived.Deep.OwnRows
import Derived.Tactics
import Derived.Lib.ConvBytes
import Derived.Laws.Slices
import Derived.WalkKit
import Derived.KernelRfl
import Derived.RowKit3
import Derived.Deep.LoopGhost
import Derived.Deep.QuietTactic
import Derived.BigQuiet
import Derived.WideLaws
import Derived.Deep.DeepCutAuto
import Derived.Deep.CutBlock
import Derived.Deep.RegionHeld3
import Derived.Laws.Rows
import Derived.Lib.AppendStr
import Derived.ArgAppend
import Derived.Laws.IdiomCopy
import Derived.OrdersHeld
import Derived.Laws.BitsLemmas
import Derived.RowKit
import Derived.Lib.OthersKept
import Derived.WalkSmall
import Derived.Deep.RegionLaw
import Derived.BigRegion
import Derived.Lib.SlBytesConst
import Derived.Test.YtgebhidpkcjpmaaZFileBacka
import Derived.Test.YtgebhidpkcjpmaaZFileBackb
import Derived.Test.YtgebhidpkcjpmaaZFileBackc
import Derived.Test.YtgebhidpkcjpmaaZFileBackd
import Derived.Test.YtgebhidpkcjpmaaZFileBacke
import Derived.Test.YtgebhidpkcjpmaaZFileBackf
import Derived.Test.YtgebhidpkcjpmaaZFileBackg
import Derived.Test.YtgebhidpkcjpmaaZFileBackh
import Derived.Test.YtgebhidpkcjpmaaZFileBacki
import Derived.Test.YtgebhidpkcjpmaaZFileBackj
import Derived.Test.YtgebhidpkcjpmaaZFileBackk
import Derived.Test.YtgebhidpkcjpmaaZFileBackl
import Derived.Test.YtgebhidpkcjpmaaZFileBackm
namespace Go.Proofs.Ytgebhidpkcjpmaa.K
open Go.RowKit Go.Proofs.YtgebhidpkcjpmaaW.PrintWords Go.Proofs.YtgebhidpkcjpmaaW.PrintLast Go.Proofs.YtgebhidpkcjpmaaW.PrintMore Go.Proofs.Ytgebhidpkcjpmaa
attribute [local go_sem] max2_int min2_int max_two min_two max_three min_three max_four min_four
set_option linter.unusedVariables false
set_option linter.unusedSimpArgs false
open Go Go.Proofs.Ytgebhidpkcjpmaa.PR13 Go.Proofs.Ytgebhidpkcjpmaa.PDk Go.Proofs.Ytgebhidpkcjpmaa.PDm Go.Proofs.Ytgebhidpkcjpmaa.PIx Go.Proofs.Ytgebhidpkcjpmaa.PFl Go.Proofs.Ytgebhidpkcjpmaa.PLg Go.Proofs.Ytgebhidpkcjpmaa.PMk Go.Proofs.Ytgebhidpkcjpmaa.Daw Go.Proofs.Ytgebhidpkcjpmaa.Fil Go.Proofs.Ytgebhidpkcjpmaa.Crc
abbrev EnS := S49
def Wl (l : List EnS) : List ByteArray := l.map fun x => x.f0
def Cl (l : List EnS) : List Int := l.map fun x => x.f1
theorem Wl_len (l : List EnS) : (Wl l).length = l.length := List.length_map ..
theorem Cl_len (l : List EnS) : (Cl l).length = l.length := List.length_map ..
/-- Entries that may be a run's, of not too many bytes. -/
structure Ents (l : List EnS) : Prop where
  fine : ∀ x ∈ l, fineB x = true
  rise : (wordsN (Wl l)).Pairwise (· < ·)
  all : bytesAll (Wl l) ≤ 1000000
theorem fineB_iff (x : EnS) : fineB x = true ↔ x.f0.size ≠ 0 ∧ x.f0.size ≤ 255 ∧ 1 ≤ x.f1 ∧ x.f1 ≤ 4611686018427387904 := by
  unfold fineB
  simp only [Bool.and_eq_true, decide_eq_true_eq]
  constructor
  · rintro ⟨⟨⟨a, b⟩, c⟩, d⟩; exact ⟨a, b, c, d⟩
  · rintro ⟨a, b, c, d⟩; exact ⟨⟨⟨a, b⟩, c⟩, d⟩
theorem nats_nil_iff (s : ByteArray) : Utf.nats s = [] ↔ s.size = 0 := by
  have : (Utf.nats s).length = s.size := by simp [Utf.nats]
  constructor
  · intro h; rw [h] at this; simpa using this.symm
  · intro h; rw [h] at this; exact List.length_eq_zero_iff.1 this
theorem rises_pair {l : List EnS} (h : risesB l = true) : (wordsN (Wl l)).Pairwise (· < ·) := by
  unfold risesB at h
  rw [List.all_eq_true] at h
  have hl : (Wl l).length = l.length := Wl_len l
  have key : ∀ i, i ≤ l.length → ((wordsN (Wl l)).take i).Pairwise (· < ·) := by
    intro i
    induction i with
    | zero => intro _; simp
    | succ i ih =>
      intro hi
      refine rise_next (Wl l) i (by omega) (ih (by omega)) (fun hp => ?_)
      have := of_decide_eq_true (h (i - 1) (by rw [List.mem_range]; omega))
      rw [rdEn l (i - 1) (by omega), show i - 1 + 1 = i by omega, rdEn l i (by omega)] at this
      have e1 : (Wl l).getD (i - 1) ⟨#[]⟩ = l[i - 1].f0 := by
        rw [List.getD_eq_getElem?_getD, List.getElem?_eq_getElem (by omega)]; simp [Wl]
      have e2 : (Wl l)[i] = l[i].f0 := by simp [Wl]
      rw [e1, e2]; exact this
  have := key l.length (Nat.le_refl _)
  rwa [List.take_of_length_le (by unfold wordsN; rw [List.length_map]; omega)] at this
theorem pair_rises {l : List EnS} (h : (wordsN (Wl l)).Pairwise (· < ·)) : risesB l = true := by
  unfold risesB
  rw [List.all_eq_true]
  intro i hi
  rw [List.mem_range] at hi
  have hlen : (wordsN (Wl l)).length = l.length := by unfold wordsN Wl; simp
  have := List.pairwise_iff_getElem.1 h i (i + 1) (by omega) (by omega) (by omega)
  rw [rdEn l i (by omega), rdEn l (i + 1) (by omega)]
  apply decide_eq_true
  simpa [wordsN, Wl] using this
theorem mayR_zero {l : List EnS} (h : mayR l = 0) : (∀ x ∈ l, fineB x = true) ∧ (wordsN (Wl l)).Pairwise (· < ·) := by
  unfold mayR at h
  by_cases ha : (l.any fun x => !fineB x) = true
  · rw [if_pos ha] at h; cases h
  · rw [if_neg ha] at h
    by_cases hr : risesB l = true
    · refine ⟨fun x hx => ?_, rises_pair hr⟩
      cases hf : fineB x with
      | true => rfl
      | false => exact absurd (List.any_eq_true.2 ⟨x, hx, by rw [hf]; rfl⟩) ha
    · rw [if_neg hr] at h; cases h
namespace Ents
theorem of_may {l : List EnS} (h : mayR l = 0) (hb : bytesAll (Wl l) ≤ 1000000) : Ents l := ⟨(mayR_zero h).1, (mayR_zero h).2, hb⟩
variable {l : List EnS} (h : Ents l)
include h
theorem may : mayR l = 0 := by
  unfold mayR
  rw [if_neg, if_pos (pair_rises h.rise)]
  intro ha
  obtain ⟨x, hx, h2⟩ := List.any_eq_true.1 ha
  rw [h.fine x hx] at h2; cases h2
theorem ne : [] ∉ wordsN (Wl l) := by
  intro hm
  unfold wordsN Wl at hm
  rw [List.map_map] at hm
  obtain ⟨x, hx, he⟩ := List.mem_map.1 hm
  exact ((fineB_iff x).1 (h.fine x hx)).1 ((nats_nil_iff _).1 he)
theorem ws : Ws (Wl l) := ⟨h.all, h.ne, h.rise⟩
theorem n : l.length ≤ 1000000 := by have := h.ws.n; rwa [Wl_len] at this
theorem okE : okE l = true := by
  have := h.n
  unfold K.okE
  rw [Bool.and_eq_true, decide_eq_true_eq, List.all_eq_true]
  refine ⟨by omega, fun x hx => ?_⟩
  have := (fineB_iff x).1 (h.fine x hx)
  simp [Lit.wf, IntKind.min, IntKind.max, IntKind.bits, IntKind.signed]
  omega
end Ents
def bare (c : List Int) : List EnS := c.map fun n => ⟨⟨#[]⟩, n⟩
theorem entries_l0 (c : List Int) (hc : c.length ≤ 1000000000) : ∀ (d i : Nat), i + d = c.length → Ev (fun k => file_entries.l0 k (bare (c.take i)) c (c.length : Int) (i : Int)) (bare c)
  | 0, i, hi => by
    refine Ev.step (f := fun _ => some (bare c)) (fun k => ?_) (Ev.now _)
    simp only [file_entries.l0]
    rw [if_neg (by omega), List.take_of_length_le (by omega)]
  | d + 1, i, hi => by
    have hlt : i < c.length := by omega
    have ih := entries_l0 c hc d (i + 1) (by omega)
    refine Ev.step (fun k => ?_) ih
    simp only [file_entries.l0]
    rw [if_pos (by omega), if_pos (by omega), if_pos (by omega), if_pos (by unfold bare; rw [List.length_map, List.length_take]; omega), wz (by omega) (by omega)]
    have e : bare (c.take i) ++ [(⟨(⟨#[]⟩ : ByteArray), rd c (i : Int)⟩ : EnS)] = bare (c.take (i + 1)) := by
      rw [List.take_succ_eq_append_getElem hlt, rd_nat, List.getD_eq_getElem?_getD, List.getElem?_eq_getElem hlt]
      unfold bare
      rw [List.map_append]; rfl
    rw [e]; rfl
theorem entries_ev (c : List Int) (hc : c.length ≤ 1000000000) : Ev (fun k => file_entries.f k c) (bare c) := by
  unfold file_entries.f
  exact entries_l0 c hc c.length 0 (by omega)
theorem equal_l0 (a b : List Int) (hab : a.length = b.length) (ha : a.length ≤ 1000000000) : ∀ (d i : Nat), i + d = a.length → Ev (fun k => slices_Equal_int_int.l0 k a b (a.length : Int) (i : Int)) (decide (a.drop i = b.drop i))
  | 0, i, hi => by
    refine Ev.step (f := fun _ => some (decide (a.drop i = b.drop i))) (fun k => ?_) (Ev.now _)
    simp only [slices_Equal_int_int.l0]
    rw [if_neg (by omega), List.drop_eq_nil_of_le (by omega), List.drop_eq_nil_of_le (by omega)]
    rfl
  | d + 1, i, hi => by
    have hlt : i < a.length := by omega
    have hlb : i < b.length := by omega
    have ih := equal_l0 a b hab ha d (i + 1) (by omega)
    have ea : rd a (i : Int) = a[i] := by rw [rd_nat, List.getD_eq_getElem?_getD, List.getElem?_eq_getElem hlt]; rfl
    have eb : rd b (i : Int) = b[i] := by rw [rd_nat, List.getD_eq_getElem?_getD, List.getElem?_eq_getElem hlb]; rfl
    rw [List.drop_eq_getElem_cons hlt, List.drop_eq_getElem_cons hlb]
    by_cases he : a[i] = b[i]
    · have e2 : decide (a[i] :: a.drop (i + 1) = b[i] :: b.drop (i + 1)) = decide (a.drop (i + 1) = b.drop (i + 1)) := decide_eq_decide.2 ⟨fun h => (List.cons.inj h).2, fun h => by rw [he, h]⟩
      rw [e2]
      refine Ev.step (fun k => ?_) ih
      simp only [slices_Equal_int_int.l0]
      rw [if_pos (by omega), if_pos (by omega), if_pos (by omega), if_pos (by omega), ea, eb, if_pos he, wz (by omega) (by omega)]
      rfl
    · have e2 : decide (a[i] :: a.drop (i + 1) = b[i] :: b.drop (i + 1)) = false := decide_eq_false fun h => he (List.cons.inj h).1
      rw [e2]
      refine Ev.step (f := fun _ => some false) (fun k => ?_) (Ev.now _)
      simp only [slices_Equal_int_int.l0]
      rw [if_pos (by omega), if_pos (by omega), if_pos (by omega), if_pos (by omega), ea, eb, if_neg he]
theorem equal_ev (a b : List Int) (ha : a.length ≤ 1000000000) : Ev (fun k => slices_Equal_int_int.f k a b) (decide (a = b)) := by
  unfold slices_Equal_int_int.f
  by_cases hab : a.length = b.length
  · refine Ev.congr (fun k => if_pos (by omega)) ?_
    have := equal_l0 a b hab ha a.length 0 (by omega)
    simpa using this
  · have e : decide (a = b) = false := decide_eq_false (fun h => hab (by rw [h]))
    rw [e]
    exact Ev.congr (fun k => if_neg (by omega)) (Ev.now _)
theorem classes_bare (l : List EnS) : classesL (bare (Cl l)) = classesL l := by
  have e : (bare (Cl l)).map S49.f1 = l.map S49.f1 := by
    unfold bare Cl
    rw [List.map_map, List.map_map]; rfl
  unfold classesL
  rw [e]
  unfold bare Cl
  rw [List.map_map, List.map_map]
  rfl
theorem make_l0 (l : List EnS) (hl : l.length ≤ 1000000) : ∀ (d i : Nat), i + d = l.length → ∀ r, (daw_Build.f (Wl l)).bind (fun bt112 => ((rank_Classes.f l).bind fun t116 => (some (bt112.1, Cl l, t116, (0 : Int))))) = some r → Ev (fun k => file_Make.l0 k l (Wl (l.take i)) l (l.length : Int) (i : Int) (Cl (l.take i))) r
  | 0, i, hi, r, hr => by
    rw [List.take_of_length_le (by omega)]
    refine Ev.step (f := fun _ => some r) (fun k => ?_) (Ev.now _)
    simp only [file_Make.l0]
    rw [if_neg (by omega)]
    exact hr
  | d + 1, i, hi, r, hr => by
    have hlt : i < l.length := by omega
    have ih := make_l0 l hl d (i + 1) (by omega) r hr
    have e1 : Wl (l.take (i + 1)) = Wl (l.take i) ++ [l[i].f0] := by rw [List.take_succ_eq_append_getElem hlt]; unfold Wl; rw [List.map_append]; rfl
    have e2 : Cl (l.take (i + 1)) = Cl (l.take i) ++ [l[i].f1] := by rw [List.take_succ_eq_append_getElem hlt]; unfold Cl; rw [List.map_append]; rfl
    rw [e1, e2] at ih
    refine Ev.step (fun k => ?_) ih
    simp only [file_Make.l0]
    rw [if_pos (by omega), if_pos (by omega), if_pos (by omega), if_pos (by rw [Wl_len, List.length_take]; omega), if_pos (by rw [Cl_len, List.length_take]; omega), rdEn l i hlt, wz (by omega) (by omega)]
    rfl
theorem make_ev {l : List EnS} (h : Ents l) : Ev (fun k => file_Make.f k l) ((build (wordsN (Wl l))).map toS, Cl l, classesL l, 0) := by
  unfold file_Make.f run_May.f
  simp only [Option.bind_some]
  refine Ev.congr (fun k => if_pos h.may) ?_
  refine make_l0 l h.n l.length 0 (by omega) _ ?_
  unfold daw_Build.f
  rw [if_pos h.all, Option.bind_some]
  unfold rank_Classes.f
  rw [if_pos h.okE, Option.bind_some]
  unfold buildR
  rw [if_neg h.ne, if_pos h.rise]
theorem lng_built {L : List ByteArray} (h : Ws L) : ∃ lg, Lng (build (wordsN L)) lg ∧ (L ≠ [] → lg ((build (wordsN L)).length - 1) = mlen (wordsN L)) ∧ (L = [] → lg ((build (wordsN L)).length - 1) = 0) := by
  by_cases hl : L = []
  · subst hl
    rw [show wordsN [] = [] from rfl, build_nil]
    refine ⟨fun _ => 0, ⟨fun i hi e he => ?_, fun i hi => ?_, fun _ _ => Nat.zero_le _, fun i hi => ?_, by decide, by decide⟩, fun h => absurd rfl h, fun _ => rfl⟩
    all_goals
      have : i = 0 := by simpa using hi
      subst this
    · simp at he
    · rfl
    · simp
  · have hk := h.known hl
    have hs := h.small
    refine ⟨_, lng_good hk.good h.pos (by omega) hk.cnt.few, fun _ => ?_, fun h2 => absurd h2 hl⟩
    show mlen (wl _ _) = _
    rw [h.root hl]
theorem may_ev {l : List EnS} (h : Ents l) : Ev (fun k => file_may.f k ((build (wordsN (Wl l))).map toS) (Cl l) (classesL l)) true := by
  obtain ⟨cs, h1, h2, h3⟩ := h.ws.cnts
  obtain ⟨lg, g1, g2, g3⟩ := lng_built h.ws
  have hpos := h.ws.pos
  have hn := h.n
  have hcl := csL_len cs (build (wordsN (Wl l))).length
  have hlast : rd (csL cs (build (wordsN (Wl l))).length) (((build (wordsN (Wl l))).length : Int) - 1) = ((Cl l).length : Int) := by
    have := rd_csL cs (build (wordsN (Wl l))).length 0 ((build (wordsN (Wl l))).length - 1) (by omega)
    rw [show (((build (wordsN (Wl l))).length : Int) - 1) = (((build (wordsN (Wl l))).length - 1 : Nat) : Int) by omega]
    rw [Cl_len, ← Wl_len l, ← h2]
    simpa using this
  have hlg : lg ((build (wordsN (Wl l))).length - 1) ≤ 255 := by
    by_cases hl : Wl l = []
    · rw [g3 hl]; exact Nat.zero_le _
    · rw [g2 hl]
      refine mlen_le.2 fun v hv => ?_
      unfold wordsN Wl at hv
      rw [List.map_map] at hv
      obtain ⟨x, hx, rfl⟩ := List.mem_map.1 hv
      have := (fineB_iff x).1 (h.fine x hx)
      show (Utf.nats x.f0).length ≤ 255
      have e : (Utf.nats x.f0).length = x.f0.size := by simp [Utf.nats]
      omega
  have hodd : (Cl l).any oddB = false := by
    rw [Bool.eq_false_iff]
    intro ha
    obtain ⟨n, hn, ho⟩ := List.any_eq_true.1 ha
    unfold Cl at hn
    obtain ⟨x, hx, rfl⟩ := List.mem_map.1 hn
    have := (fineB_iff x).1 (h.fine x hx)
    unfold oddB at ho
    simp only [Bool.or_eq_true, decide_eq_true_eq] at ho
    omega
  have hok : okE (bare (Cl l)) = true := by
    have := h.okE
    unfold okE at this ⊢
    rw [Bool.and_eq_true, decide_eq_true_eq, List.all_eq_true] at this ⊢
    refine ⟨by unfold bare Cl; simpa using this.1, fun x hx => ?_⟩
    unfold bare Cl at hx
    rw [List.map_map] at hx
    obtain ⟨y, hy, rfl⟩ := List.mem_map.1 hx
    exact this.2 y hy
  unfold file_may.f
  refine Ev.bind h3 ?_
  refine Ev.congr (fun k => if_pos rfl) (Ev.congr (fun k => if_pos (by rw [hcl]; exact hpos)) (Ev.congr (fun k => if_pos (by rw [hcl]; exact hlast)) ?_))
  refine Ev.bind (longest_ev g1) ?_
  refine Ev.congr (fun k => if_neg (by omega)) (Ev.congr (fun k => if_neg (by rw [hodd]; decide)) ?_)
  refine Ev.bind (entries_ev (Cl l) (by rw [Cl_len]; omega)) ?_
  unfold rank_Classes.f
  rw [if_pos hok]
  simp only [Option.bind_some]
  rw [classes_bare]
  have := equal_ev (classesL l) (classesL l) (by unfold classesL; rw [List.length_map]; omega)
  rwa [decide_eq_true rfl] at this
theorem few_l0 (l : List EnS) : ∀ (d i : Nat), i + d = l.length → ∃ b, Ev (fun k => manteletlaw16_few.l0 k l (i : Int)) b ∧ (b = true → l.length ≤ 60 ∧ ∀ x ∈ l.drop i, x.f0.size ≤ 300)
  | 0, i, hd => by
    refine ⟨decide ((l.length : Int) ≤ 60), Ev.step (f := fun k => manteletlaw16_few.j1 k l (i : Int) false) (fun k => ?_) (Ev.step (f := fun _ => some (decide ((l.length : Int) ≤ 60))) (fun k => ?_) (Ev.now _)), fun h => ?_⟩
    · simp only [manteletlaw16_few.l0]; rw [if_neg (by omega)]
    · simp only [manteletlaw16_few.j1]; rw [if_neg (by decide)]
    · have := of_decide_eq_true h
      rw [List.drop_eq_nil_of_le (by omega)]
      exact ⟨by omega, by simp⟩
  | d + 1, i, hd => by
    have hi : i < l.length := by omega
    by_cases h61 : i < 61
    · have s1 : ∀ k, manteletlaw16_few.l0 (k + 1) l (i : Int) = manteletlaw16_few.j1 k l (i : Int) true := fun k => by
        simp only [manteletlaw16_few.l0]; rw [if_pos (by omega), decide_eq_true (by omega)]
      by_cases h20 : l[i].f0.size > 300
      · refine ⟨false, Ev.step s1 (Ev.step (f := fun _ => some false) (fun k => ?_) (Ev.now _)), fun h => by cases h⟩
        simp only [manteletlaw16_few.j1]; rw [if_pos trivial, if_pos (by omega), if_pos (by omega), rdEn l i hi, if_pos (by omega)]
      · obtain ⟨b, h1, h2⟩ := few_l0 l d (i + 1) (by omega)
        refine ⟨b, Ev.step s1 (Ev.step (fun k => ?_) h1), fun h => ⟨(h2 h).1, fun x hx => ?_⟩⟩
        · simp only [manteletlaw16_few.j1]; rw [if_pos trivial, if_pos (by omega), if_pos (by omega), rdEn l i hi, if_neg (by omega), wz (by omega) (by omega)]; rfl
        · rw [List.drop_eq_getElem_cons hi] at hx
          rcases List.mem_cons.1 hx with rfl | hx
          · omega
          · exact (h2 h).2 x hx
    · refine ⟨decide ((l.length : Int) ≤ 60), Ev.step (f := fun k => manteletlaw16_few.j1 k l (i : Int) false) (fun k => ?_) (Ev.step (f := fun _ => some (decide ((l.length : Int) ≤ 60))) (fun k => ?_) (Ev.now _)), fun h => ?_⟩
      · simp only [manteletlaw16_few.l0]; rw [if_pos (by omega), decide_eq_false (by omega)]
      · simp only [manteletlaw16_few.j1]; rw [if_neg (by decide)]
      · have := of_decide_eq_true h
        omega
theorem few16 (l : List EnS) : ∃ b, Ev (fun k => manteletlaw16_few.f k l) b ∧ (b = true → l.length ≤ 60 ∧ ∀ x ∈ l, x.f0.size ≤ 300) := by
  obtain ⟨b, h1, h2⟩ := few_l0 l l.length 0 (by omega)
  refine ⟨b, ?_, h2⟩
  unfold manteletlaw16_few.f
  exact h1
theorem all_le : ∀ (L : List ByteArray) (m : Nat), (∀ x ∈ L, x.size ≤ m) → bytesAll L ≤ 1 + L.length * (m + 1)
  | [], m, _ => by simp [bytesAll]
  | a :: L, m, h => by
    have ih := all_le L m fun x hx => h x (by simp [hx])
    have ha := h a (by simp)
    unfold bytesAll at ih ⊢
    simp only [List.map_cons, List.sum_cons, List.length_cons, Nat.succ_mul]
    omega
theorem few_all {l : List EnS} (h1 : l.length ≤ 60) (h2 : ∀ x ∈ l, x.f0.size ≤ 300) : bytesAll (Wl l) ≤ 20000 := by
  have := all_le (Wl l) 300 fun x hx => by
    obtain ⟨y, hy, rfl⟩ := List.mem_map.1 hx
    exact h2 y hy
  rw [Wl_len] at this
  omega
end Go.Proofs.Ytgebhidpkcjpmaa.K

namespace Go.Proofs.Ytgebhidpkcjpmaa.Daw
set_option linter.unusedVariables false
set_option linter.unusedSimpArgs false
def edN (l : List DS) : Nat := (l.map fun s => s.2.length).sum
theorem edN_cons (s : DS) (l : List DS) : edN (s :: l) = s.2.length + edN l := by simp [edN]
theorem edN_app (a b : List DS) : edN (a ++ b) = edN a + edN b := by simp [edN]
theorem edN_rep (n : Nat) : edN (List.replicate n (false, [])) = 0 := by
  unfold edN
  rw [List.map_replicate]
  induction n with
  | zero => rfl
  | succ n ih => rw [List.replicate_succ, List.sum_cons, ih]; rfl
theorem num_ed (left : List DS) (s : DS) : edN (num left s).1 ≤ edN left + s.2.length := by
  unfold num
  split
  · exact Nat.le_add_right _ _
  · rw [edN_app, edN_cons]; simp [edN]
theorem leave_ed (w : List Nat) (n : Nat) : ∀ (k : Nat) (left path : List DS), path.length = k → edN (leave w n left path).1 + edN (leave w n left path).2 + (leave w n left path).2.length ≤ edN left + edN path + path.length ∧ (path ≠ [] → (leave w n left path).2 ≠ []) := by
  intro k
  induction k with
  | zero =>
    intro left path hp
    rw [List.length_eq_zero_iff.1 hp]
    unfold leave
    exact ⟨Nat.le_refl _, fun h => absurd rfl h⟩
  | succ k ih =>
    intro left path hp
    match path, hp with
    | [s], _ => unfold leave; exact ⟨Nat.le_refl _, fun _ => by simp⟩
    | s :: u :: r, hp =>
      unfold leave
      by_cases hn : n < r.length + 1
      · rw [if_pos hn]
        have h1 := ih (num left s).1 ((u.1, u.2 ++ [(w.getD r.length 0, (num left s).2)]) :: r) (by simpa using hp)
        have h2 := num_ed left s
        refine ⟨Nat.le_trans h1.1 ?_, fun _ => h1.2 (by simp)⟩
        rw [edN_cons, edN_cons, edN_cons]
        simp only [List.length_append, List.length_cons, List.length_nil]
        omega
      · rw [if_neg hn]
        exact ⟨Nat.le_refl _, fun _ => by simp⟩
theorem ends_ed : ∀ p : List DS, edN (ends p) = edN p ∧ (ends p).length = p.length
  | [] => ⟨rfl, rfl⟩
  | s :: r => ⟨by unfold ends; rw [edN_cons, edN_cons], rfl⟩
def phi (x : B) : Nat := edN x.left + edN x.path + x.path.length
theorem add_phi (x : B) (w : List Nat) (hp : x.path ≠ []) : phi (add x w) ≤ phi x + w.length ∧ (add x w).path ≠ [] := by
  obtain ⟨h1, h2⟩ := leave_ed x.word (common w x.word) x.path.length x.left x.path rfl
  have h3 := h2 hp
  unfold phi add
  dsimp only
  generalize leave x.word (common w x.word) x.left x.path = y at h1 h3 ⊢
  have hl : 0 < y.2.length := List.length_pos_iff.2 h3
  obtain ⟨e1, e2⟩ := ends_ed (List.replicate (w.length + 1 - y.2.length) (false, []) ++ y.2)
  rw [e1, e2, edN_app, edN_rep, List.length_append, List.length_replicate]
  refine ⟨by omega, fun he => ?_⟩
  rw [he] at e2
  rw [List.length_append, List.length_replicate] at e2
  simp only [List.length_nil] at e2
  omega
theorem adds_phi : ∀ (l : List (List Nat)) (x : B), x.path ≠ [] → phi (l.foldl add x) ≤ phi x + (l.map List.length).sum ∧ (l.foldl add x).path ≠ []
  | [], x, h => ⟨by simp, h⟩
  | w :: l, x, h => by
    obtain ⟨h1, h2⟩ := add_phi x w h
    obtain ⟨h3, h4⟩ := adds_phi l (add x w) h2
    rw [List.foldl_cons]
    refine ⟨?_, h4⟩
    simp only [List.map_cons, List.sum_cons]
    omega
theorem build_ed (l : List (List Nat)) : edN (build l) ≤ 1 + (l.map List.length).sum := by
  obtain ⟨h1, h2⟩ := adds_phi l start (by decide)
  have h0 : phi start = 1 := rfl
  rw [h0] at h1
  unfold phi at h1
  generalize hx : l.foldl add start = x at h1 h2
  unfold build finish
  rw [hx]
  obtain ⟨h3, h4⟩ := leave_ed x.word 0 x.path.length x.left x.path rfl
  generalize leave x.word 0 x.left x.path = y at h3 h4
  obtain ⟨yl, yp⟩ := y
  match yp, h3, h4 with
  | [], _, h4 => exact absurd rfl (h4 h2)
  | s :: r, h3, _ =>
    have h5 := num_ed yl s
    show edN (num yl s).1 ≤ _
    rw [edN_cons] at h3
    simp only [List.length_cons] at h3
    omega
end Go.Proofs.Ytgebhidpkcjpmaa.Daw
namespace Go.Proofs.Ytgebhidpkcjpmaa.Fil
open Go.Proofs.Ytgebhidpkcjpmaa.Daw
/-- The states' bytes, at most. -/
theorem put_small {n : Nat} (h : n < 2097152) : (put n).length ≤ 3 := by
  rw [put]
  split
  · simp
  · rw [put]
    split
    · simp
    · rw [put_low (by omega)]; simp
theorem stsB_len : ∀ (b : List DS) (i : Nat), i + b.length < 2097152 → (∀ s ∈ b, s.2.length < 1000000) → (stsB i b).length ≤ 3 * b.length + 4 * edN b
  | [], i, _, _ => by simp [stsB]
  | s :: b, i, hi, hs => by
    have ih := stsB_len b (i + 1) (by simp only [List.length_cons] at hi; omega) (fun t ht => hs t (by simp [ht]))
    have h1 : (put (hdN s)).length ≤ 3 := put_small (by have := hs s (by simp); unfold hdN; split <;> omega)
    have h2 : ∀ es : List DE, (es.flatMap (edB i)).length ≤ 4 * es.length := fun es => by
      induction es with
      | nil => simp
      | cons e es ih =>
        rw [List.flatMap_cons, List.length_append, List.length_cons]
        have : (edB i e).length ≤ 4 := by
          unfold edB
          have := put_small (n := i - e.2) (by omega)
          simp only [List.length_cons]; omega
        omega
    unfold stsB stB
    rw [edN_cons, List.length_append, List.length_append, List.length_cons]
    have := h2 s.2
    omega
theorem statesB_len (b : List DS) (hb : b.length < 2097152) (hs : ∀ s ∈ b, s.2.length < 1000000) : (statesB b).length ≤ 3 + 3 * b.length + 4 * edN b := by
  unfold statesB
  rw [List.length_append]
  have := put_small hb
  have := stsB_len b 0 (by omega) hs
  omega
end Go.Proofs.Ytgebhidpkcjpmaa.Fil

namespace Go.Proofs.Ytgebhidpkcjpmaa.PEn
open Go.RowKit Go.Proofs.YtgebhidpkcjpmaaW.PrintWords Go.Proofs.YtgebhidpkcjpmaaW.PrintLast Go.Proofs.YtgebhidpkcjpmaaW.PrintMore Go.Proofs.Ytgebhidpkcjpmaa.K Go.Proofs.Ytgebhidpkcjpmaa.PDk Go.Proofs.Ytgebhidpkcjpmaa.PDm Go.Proofs.Ytgebhidpkcjpmaa.PFl Go.Proofs.Ytgebhidpkcjpmaa.PIx Go.Proofs.Ytgebhidpkcjpmaa.PLg Go.Proofs.Ytgebhidpkcjpmaa.PR13
attribute [local go_sem] max2_int min2_int max_two min_two max_three min_three max_four min_four   -- for this text's walks alone
set_option linter.unusedVariables false
set_option linter.unusedSimpArgs false



def errW : Option Int → Value
  | none => .nilIface
  | some c => .iface 0 (.int .i64 c)
theorem errW_none : errW none = .nilIface := rfl
theorem errW_some (c : Int) : errW (some c) = .iface 0 (.int .i64 c) := rfl

def rd_L1 (xs : List (List Int)) (i : Int) : (List Int) := xs.getD i.toNat ([] : List Int)
theorem at_L1 {w : World} {A : Option Addr} {n : Nat} {xs : List (List Int)} (h : Kd.C (Kd.slice 5 (Kd.int .u8)) w A n xs) (i : Int) (h0 : 0 ≤ i) (h1 : i < n) : ∃ ad A0 c0, A = some ad ∧ w.cell? (ad.add i.toNat) = some (.slice A0 (rd_L1 xs i).length c0) ∧ (rd_L1 xs i).length ≤ c0 ∧ (Kd.int .u8).C w A0 (rd_L1 xs i).length (rd_L1 xs i) := by
  obtain ⟨ad, c, e, _, hK, hc0⟩ := Kd.C_get h ([] : List Int) i h0 h1
  have hc : ∀ j u, c[j]? = some u → w.cell? (ad.add (i.toNat * 1 + j)) = some u := hc0
  obtain ⟨A0, c0, rfl, l0, g0⟩ := hK
  exact ⟨ad, A0, c0, e, by have hq := hc 0 _ rfl; rwa [Nat.mul_one, Nat.add_zero] at hq, l0, g0⟩

end Go.Proofs.Ytgebhidpkcjpmaa.PEn

namespace Go.Proofs.Ytgebhidpkcjpmaa.PEn
open Go.RowKit Go.Proofs.YtgebhidpkcjpmaaW.PrintWords Go.Proofs.YtgebhidpkcjpmaaW.PrintLast Go.Proofs.YtgebhidpkcjpmaaW.PrintMore Go.Proofs.Ytgebhidpkcjpmaa.K Go.Proofs.Ytgebhidpkcjpmaa.PDk Go.Proofs.Ytgebhidpkcjpmaa.PDm Go.Proofs.Ytgebhidpkcjpmaa.PFl Go.Proofs.Ytgebhidpkcjpmaa.PIx Go.Proofs.Ytgebhidpkcjpmaa.PLg Go.Proofs.Ytgebhidpkcjpmaa.PR13
attribute [local go_sem] max2_int min2_int max_two min_two max_three min_three max_four min_four   -- for this text's walks alone
set_option linter.unusedVariables false
set_option linter.unusedSimpArgs false

mutual
def file_Encode.l0 : Nat → List Int → List Int → Int → Int → List (S82) → List Int → List Int → Option (List Int × Int)
  | 0, _, _, _, _, _, _, _ => none
  | k + 1, x4, x24, x25, x26, x102000, x102001, x102002 => if x26 < x25 then (if 0 ≤ x26 then (if x26 < (x24.length : Int) then ((num_Put.f k x4 (rd x24 x26)).bind fun t107 => (file_Encode.l0 k t107 x24 x25 (wrap64 (x26 + 1)) x102000 x102001 x102002)) else (none)) else (none)) else (file_Encode.l1 k x4 ([] : List Int) x102002 (x102002.length : Int) 0 x102000 x102001 x102002)
def file_Encode.l1 : Nat → List Int → List Int → List Int → Int → Int → List (S82) → List Int → List Int → Option (List Int × Int)
  | 0, _, _, _, _, _, _, _, _ => none
  | k + 1, x4, x7, x35, x36, x37, x102000, x102001, x102002 => if x37 < x36 then (if 0 ≤ x37 then (if x37 < (x35.length : Int) then (if x7.length < 140737488355328 then (file_Encode.l1 k x4 (x7 ++ [(rd x35 x37) % 256]) x35 x36 (wrap64 (x37 + 1)) x102000 x102001 x102002) else (none)) else (none)) else (none)) else ((file_states.f k x102000).bind fun t117 => ((some (([(([77, 65, 78, 84, 69, 76, 69, 84] : List Int)), t117, x4, x7] : List (List Int)) : List (List Int))).bind fun y120 => (file_Encode.l2 k ([] : List Int) y120 (y120.length : Int) 0)))
def file_Encode.l2 : Nat → List Int → List (List Int) → Int → Int → Option (List Int × Int)
  | 0, _, _, _, _ => none
  | k + 1, x10, x54, x55, x56 => if x56 < x55 then (if 0 ≤ x56 then (if x56 < (x54.length : Int) then ((frame_Put.f k x10 (rd_L1 x54 x56)).bind fun bt124 => (if bt124.2 = 0 then (file_Encode.l2 k bt124.1 x54 x55 (wrap64 (x56 + 1))) else (some (([] : List Int), bt124.2)))) else (none)) else (none)) else (some (x10, 0))
end
def file_Encode.f (k : Nat) (l0_0 : List (S82)) (l0_1 : List Int) (l0_2 : List Int) : Option (List Int × Int) := (file_may.f k l0_0 l0_1 l0_2).bind fun t102 => (if t102 = true then ((num_Put.f k ([] : List Int) (IntKind.u64.wrap ((l0_1.length : Int)))).bind fun t103 => (file_Encode.l0 k t103 l0_1 (l0_1.length : Int) 0 l0_0 l0_1 l0_2)) else (some (([] : List Int), 1)))
set_option maxHeartbeats 8000000 in
set_option maxRecDepth 100000 in
theorem file_Encode.calls (k : Nat) (A0_0 : Option Addr) (c0_0 : Nat) (l0_0 : List (S82)) (A0_1 : Option Addr) (c0_1 : Nat) (l0_1 : List Int) (A0_2 : Option Addr) (c0_2 : Nat) (l0_2 : List Int) (r1 : List Int) (r2 : Int) (w : World) (hr0_0 : Kd.C k82 w A0_0 l0_0.length l0_0) (hc0_0 : l0_0.length ≤ c0_0) (hr0_1 : Kd.C (Kd.int .u64) w A0_1 l0_1.length l0_1) (hc0_1 : l0_1.length ≤ c0_1) (hr0_2 : Kd.C (Kd.int .i64) w A0_2 l0_2.length l0_2) (hc0_2 : l0_2.length ≤ c0_2) (h : file_Encode.f k l0_0 l0_1 l0_2 = some (r1, r2)) :
    Calls Try.prog 16 #[.agg #[.slice A0_0 l0_0.length c0_0, .slice A0_1 l0_1.length c0_1, .slice A0_2 l0_2.length c0_2]] w fun e w' => ∃ v0_ : Value, e = .returned (.tuple #[v0_, .int .i64 r2]) ∧ Kd.R (Kd.int .u8) 5 w' w.heap.size (fun _ => True) v0_ r1 ∧ Below w.heap.size w w' := by
  have hu29 := Try.underlying29
  have HR0_0 := Aside0.mk hr0_0
  have HC0_0 := Aside0.mk hc0_0
  clear hr0_0 hc0_0
  have HR0_1 := Aside0.mk hr0_1
  have HC0_1 := Aside0.mk hc0_1
  clear hr0_1 hc0_1
  have HR0_2 := Aside0.mk hr0_2
  have HC0_2 := Aside0.mk hc0_2
  clear hr0_2 hc0_2
  have HB := Aside0.mk (Below.refl w.heap.size w)
  have H : ((file_may.f k l0_0 l0_1 l0_2).bind fun t102 => (if t102 = true then ((num_Put.f k ([] : List Int) (IntKind.u64.wrap ((l0_1.length : Int)))).bind fun t103 => (file_Encode.l0 k t103 l0_1 (l0_1.length : Int) 0 l0_0 l0_1 l0_2)) else (some (([] : List Int), 1)))) = some (r1, r2) := h
  clear h
  replace H := Option.bind_eq_some_iff.mp H
  obtain ⟨t102, A20, H⟩ := H
  replace H : (if t102 = true then ((num_Put.f k ([] : List Int) (IntKind.u64.wrap ((l0_1.length : Int)))).bind fun t103 => (file_Encode.l0 k t103 l0_1 (l0_1.length : Int) 0 l0_0 l0_1 l0_2)) else (some (([] : List Int), 1))) = some (r1, r2) := H
  have A2 := Aside0.mk A20
  clear A20
  by_cases c3 : t102 = true
  · subst c3
    have H1 : ((num_Put.f k ([] : List Int) (IntKind.u64.wrap ((l0_1.length : Int)))).bind fun t103 => (file_Encode.l0 k t103 l0_1 (l0_1.length : Int) 0 l0_0 l0_1 l0_2)) = some (r1, r2) := by rw [if_pos rfl] at H; exact H
    clear H
    have H := H1
    clear H1
    replace H := Option.bind_eq_some_iff.mp H
    obtain ⟨t103, A40, H⟩ := H
    replace H : (file_Encode.l0 k t103 l0_1 (l0_1.length : Int) 0 l0_0 l0_1 l0_2) = some (r1, r2) := H
    have A4 := Aside0.mk A40
    clear A40
    have H' := Aside0.mk H
    clear H
    go_enter Try.func16, Try.ntmps16
    go_wp2_with (first | ((with_reducible refine gate_dst (N := 1) rfl ?_); refine box_event ?hg (N := 1) ?hd (cs := #[.slice A0_0 l0_0.length c0_0, .slice A0_1 l0_1.length c0_1, .slice A0_2 l0_2.length c0_2]) (t := 29) ?hr ?_; (case hd => rfl); (case hg => rfl); (case hr => first | (go_simp; done) | (go_simp; rfl)); intro gb101 hg w5 hbox hb; have n0_ := Aside0.mk (below_step (by repeat (first | (with_reducible first | exact HB.out | apply below_alloc | apply pw_below_drewN | apply below_drew1) | exact HB.out)) hb); have n1_ := Aside0.mk (hbox); have n2_ := Aside0.mk ((by rw [hg]; exact (below_size (by repeat (first | (with_reducible first | exact HB.out | apply below_alloc | apply pw_below_drewN | apply below_drew1) | exact HB.out))) : w.heap.size ≤ gb101)); have n3_ := Aside0.mk ((by rw [hg]; exact (below_size (by repeat (first | (with_reducible first | exact HB.out | apply below_alloc | apply pw_below_drewN | apply below_drew1) | exact HB.out))) : w.heap.size ≤ gb101)); clear HB; have HB := n0_; have BK101 := n1_; have GW101 := n2_; have GE101 := n3_; clear n0_ n1_ n2_ n3_; clear hb hbox hg; have hcz6_0 : w5.cell? ⟨gb101, 0, none⟩ = some (.slice A0_0 l0_0.length c0_0) := (blk_cell BK101.out 0).trans rfl; have hcz6_1 : w5.cell? ⟨gb101, 1, none⟩ = some (.slice A0_1 l0_1.length c0_1) := (blk_cell BK101.out 1).trans rfl; have hcz6_2 : w5.cell? ⟨gb101, 2, none⟩ = some (.slice A0_2 l0_2.length c0_2) := (blk_cell BK101.out 2).trans rfl; have hfz6_0 := blk_frozen BK101.out 0; have hfz6_1 := blk_frozen BK101.out 1; have hfz6_2 := blk_frozen BK101.out 2) | ((with_reducible refine gate_callee (f := 36) rfl ?_); refine goesL_ (some 16) rfl rfl Try.func36 (by kernel_rfl) rfl #[.agg #[.slice A0_0 l0_0.length c0_0, .slice A0_1 l0_1.length c0_1, .slice A0_2 l0_2.length c0_2]] rfl (by (try simp only [List.map_toArray, List.map_cons, List.map_nil]); first | done | rfl | (simp only [List.length_drop, List.length_take]; rfl)) ?_; (with_reducible refine (file_may.calls k _ _ l0_0 _ _ l0_1 _ _ l0_2 true _ ?side1 ?side2 ?side3 ?side4 ?side5 ?side6 A2.out).mono ?_); (case side1 => repeat (first | exact (Kd.C_below HR0_0.out HB.out) | (with_reducible refine Kd.C_alloc ?_ _) | (with_reducible refine Kd.C_drewN ?_ _) | (with_reducible refine Kd.C_drew ?_))); (case side2 => exact HC0_0.out); (case side3 => repeat (first | exact (Kd.C_below HR0_1.out HB.out) | (with_reducible refine Kd.C_alloc ?_ _) | (with_reducible refine Kd.C_drewN ?_ _) | (with_reducible refine Kd.C_drew ?_))); (case side4 => exact HC0_1.out); (case side5 => repeat (first | exact (Kd.C_below HR0_2.out HB.out) | (with_reducible refine Kd.C_alloc ?_ _) | (with_reducible refine Kd.C_drewN ?_ _) | (with_reducible refine Kd.C_drew ?_))); (case side6 => exact HC0_2.out); rintro e w7 ⟨rfl, hb⟩; refine ⟨_, rfl, ?_⟩; have n0_ := Aside0.mk (blk_below (g := gb101) (o := .cells #[.slice A0_0 l0_0.length c0_0, .slice A0_1 l0_1.length c0_1, .slice A0_2 l0_2.length c0_2] 29 (0, 0)) (by (with_reducible repeat (first | refine blk_drewN ?_ _ | refine blk_drew ?_ | refine blk_alloc ?_ _)); exact BK101.out) hb); have n1_ := Aside0.mk (below_step (by repeat (first | (with_reducible first | exact HB.out | apply below_alloc | apply pw_below_drewN | apply below_drew1 | refine below_set ?_ GE101.out) | exact HB.out)) hb); clear BK101; clear HB; have BK101 := n0_; have HB := n1_; clear n0_ n1_; (try clear hb); (try clear hb2); (try clear hk); (try clear hi); have hcz8_0 : w7.cell? ⟨gb101, 0, none⟩ = some (.slice A0_0 l0_0.length c0_0) := (blk_cell BK101.out 0).trans rfl; have hcz8_1 : w7.cell? ⟨gb101, 1, none⟩ = some (.slice A0_1 l0_1.length c0_1) := (blk_cell BK101.out 1).trans rfl; have hcz8_2 : w7.cell? ⟨gb101, 2, none⟩ = some (.slice A0_2 l0_2.length c0_2) := (blk_cell BK101.out 2).trans rfl; have hfz8_0 := blk_frozen BK101.out 0; have hfz8_1 := blk_frozen BK101.out 1; have hfz8_2 := blk_frozen BK101.out 2) | ((with_reducible refine gate_callee (f := 37) rfl ?_); refine goesL_ (some 22) rfl rfl Try.func37 (by kernel_rfl) rfl #[.slice none 0 0, .int .u64 (IntKind.u64.wrap ((l0_1.length : Int)))] rfl (by (try simp only [List.map_toArray, List.map_cons, List.map_nil]); first | done | rfl | (simp only [List.length_drop, List.length_take]; rfl)) ?_; (refine (num_Put.calls k _ _ ([] : List Int) (IntKind.u64.wrap ((l0_1.length : Int))) t103 _ ?side1 ?side2 A4.out).mono ?_); (case side1 => exact Kd.C_nil _ _); (case side2 => exact Nat.le_refl _); rintro e w9 ⟨v104, rfl, ho0, hb⟩; refine ⟨_, rfl, ?_⟩; have n0_ := Aside0.mk (Kd.R_lower ho0 (below_size (by repeat (first | (with_reducible first | exact HB.out | apply below_alloc | apply pw_below_drewN | apply below_drew1 | refine below_set ?_ GE101.out) | exact HB.out)))); have n1_ := Aside0.mk (blk_below (g := gb101) (o := .cells #[.slice A0_0 l0_0.length c0_0, .slice A0_1 l0_1.length c0_1, .slice A0_2 l0_2.length c0_2] 29 (0, 0)) (by (with_reducible repeat (first | refine blk_drewN ?_ _ | refine blk_drew ?_ | refine blk_alloc ?_ _)); exact BK101.out) hb); have n2_ := Aside0.mk (below_step (by repeat (first | (with_reducible first | exact HB.out | apply below_alloc | apply pw_below_drewN | apply below_drew1 | refine below_set ?_ GE101.out) | exact HB.out)) hb); clear BK101; clear HB; have HO105 := n0_; have BK101 := n1_; have HB := n2_; clear n0_ n1_ n2_; (try clear hb); (try clear hb2); (try clear hk); (try clear hi); (try clear ho0); have hcz10_0 : w9.cell? ⟨gb101, 0, none⟩ = some (.slice A0_0 l0_0.length c0_0) := (blk_cell BK101.out 0).trans rfl; have hcz10_1 : w9.cell? ⟨gb101, 1, none⟩ = some (.slice A0_1 l0_1.length c0_1) := (blk_cell BK101.out 1).trans rfl; have hcz10_2 : w9.cell? ⟨gb101, 2, none⟩ = some (.slice A0_2 l0_2.length c0_2) := (blk_cell BK101.out 2).trans rfl; have hfz10_0 := blk_frozen BK101.out 0; have hfz10_1 := blk_frozen BK101.out 1; have hfz10_2 := blk_frozen BK101.out 2))
    go_loopg [4, 26] k (fun kq v4 v26 w' => ∃ (x4_1 : List Int) (x26_1 : Int), v26 = .int .i64 x26_1 ∧ Aside0 (file_Encode.l0 kq x4_1 l0_1 (l0_1.length : Int) x26_1 l0_0 l0_1 l0_2 = some (r1, r2)) ∧ Aside0 (kq ≤ k) ∧ Aside0 (Kd.R (Kd.int .u8) 5 w' w.heap.size (fun _ => True) v4 x4_1) ∧ Aside0 (w'.heap[gb101]? = some (.cells #[(.slice A0_0 l0_0.length c0_0), (.slice A0_1 l0_1.length c0_1), (.slice A0_2 l0_2.length c0_2)] 29 (0, 0))) ∧ Aside0 (Below w.heap.size w w'))
    case atStart => exact ⟨(t103), (0), (by first | rfl | (simp; done) | (simp [*]; done)), H', ⟨Nat.le_refl _⟩, ⟨by (with_reducible repeat (first | apply Kd.R_alloc | apply Kd.R_drewN | apply Kd.R_drew)); exact HO105.out⟩, ⟨by (with_reducible repeat (first | refine blk_drewN ?_ _ | refine blk_drew ?_ | refine blk_alloc ?_ _)); exact BK101.out⟩, ⟨by repeat (first | (with_reducible first | exact HB.out | apply below_alloc | apply pw_below_drewN | apply below_drew1 | refine below_set ?_ GE101.out) | exact HB.out)⟩⟩
    case round =>
      clear H'
      try clear c1
      try clear p2
      try clear c3
      try clear hcz10_0
      try clear hcz10_1
      try clear hcz10_2
      try clear hcz6_0
      try clear hcz6_1
      try clear hcz6_2
      try clear hcz8_0
      try clear hcz8_1
      try clear hcz8_2
      try clear hfz10_0
      try clear hfz10_1
      try clear hfz10_2
      try clear hfz6_0
      try clear hfz6_1
      try clear hfz6_2
      try clear hfz8_0
      try clear hfz8_1
      try clear hfz8_2
      obtain ⟨x4_1, x26_1, rfl, HA, HK1, HO_4, BK101, HB⟩ := hrel
      cases gk with
      | zero => exact absurd HA.out (by simp [file_Encode.l0])
      | succ k1 =>
        have H := HA.out
        clear HA
        simp only [file_Encode.l0] at H
        by_cases c11 : x26_1 < (l0_1.length : Int)
        · rw [if_pos c11] at H
          have c11b0 : decide (x26_1 < (l0_1.length : Int)) = true := decide_eq_true c11
          clear c11
          by_cases c12 : 0 ≤ x26_1
          · rw [if_pos c12] at H
            have c12b0 : decide (0 ≤ x26_1) = true := decide_eq_true c12
            clear c12
            by_cases c13 : x26_1 < (l0_1.length : Int)
            · rw [if_pos c13] at H
              have c13b0 : decide (x26_1 < (l0_1.length : Int)) = true := decide_eq_true c13
              clear c13
              replace H := Option.bind_eq_some_iff.mp H
              obtain ⟨t107, A140, H⟩ := H
              replace H : (file_Encode.l0 k1 t107 l0_1 (l0_1.length : Int) (wrap64 (x26_1 + 1)) l0_0 l0_1 l0_2) = some (r1, r2) := H
              have A14 := Aside0.mk A140
              clear A140
              have H' := Aside0.mk H
              clear H
              have p106 : 0 ≤ (x26_1 : Int) := of_decide_eq_true (by first | (with_reducible assumption) | assumption)
              have q106 : x26_1 < (l0_1.length : Int) := of_decide_eq_true (by first | (with_reducible assumption) | assumption)
              obtain ⟨ad106, e106, hx106_0⟩ := Kd.at_int HR0_1.out x26_1 p106 q106
              cases e106
              replace hx106_0 := (HB.out.cell (World.block_lt_of_cell? w _ hx106_0)).trans hx106_0
              replace p106 := eq_true p106
              replace q106 := eq_true q106
              obtain ⟨Ao15, co15, eo15⟩ := Kd.R_slice HO_4.out
              subst eo15
              go_wp2_with (first | ((with_reducible refine gate_callee (f := 37) rfl ?_); refine goesL_ (some 32) rfl rfl Try.func37 (by kernel_rfl) rfl #[.slice Ao15 x4_1.length co15, .int .u64 (rd l0_1 x26_1)] rfl (by (try simp only [List.map_toArray, List.map_cons, List.map_nil]); first | done | rfl | (simp only [List.length_drop, List.length_take]; rfl)) ?_; (with_reducible refine (num_Put.calls k1 _ _ x4_1 (rd l0_1 x26_1) t107 _ ?side1 ?side2 A14.out).mono ?_); (case side1 => repeat (first | exact (Kd.R_reads' HO_4.out).2.2 | (with_reducible refine Kd.C_alloc ?_ _) | (with_reducible refine Kd.C_drewN ?_ _) | (with_reducible refine Kd.C_drew ?_))); (case side2 => exact (Kd.R_reads' HO_4.out).2.1); rintro e w16 ⟨v108, rfl, ho0, hb⟩; refine ⟨_, rfl, ?_⟩; have n0_ := Aside0.mk (Kd.R_elder' (by (with_reducible repeat (first | apply Kd.R_alloc | apply Kd.R_drewN | apply Kd.R_drew)); exact HO_4.out) (Kd.R_base ho0) hb); have n1_ := Aside0.mk (Kd.R_lower (Kd.R_new' ho0 (Kd.R_lt (by (with_reducible repeat (first | apply Kd.R_alloc | apply Kd.R_drewN | apply Kd.R_drew)); exact HO_4.out))) (below_size (by repeat (first | (with_reducible first | exact HB.out | apply below_alloc | apply pw_below_drewN | apply below_drew1 | refine below_set ?_ GE101.out) | exact HB.out)))); have n2_ := Aside0.mk (blk_below (g := gb101) (o := .cells #[.slice A0_0 l0_0.length c0_0, .slice (some ad106) l0_1.length c0_1, .slice A0_2 l0_2.length c0_2] 29 (0, 0)) (by (with_reducible repeat (first | refine blk_drewN ?_ _ | refine blk_drew ?_ | refine blk_alloc ?_ _)); exact BK101.out) hb); have n3_ := Aside0.mk (below_step (by repeat (first | (with_reducible first | exact HB.out | apply below_alloc | apply pw_below_drewN | apply below_drew1 | refine below_set ?_ GE101.out) | exact HB.out)) hb); clear HO_4; clear BK101; clear HB; have HO_4 := n0_; have HO109 := n1_; have BK101 := n2_; have HB := n3_; clear n0_ n1_ n2_ n3_; (try clear hb); (try clear hb2); (try clear hk); (try clear hi); (try clear ho0)))
              go_roundg k1
              case measure => have := HK1.out; omega
              case rel => exact ⟨(t107), (wrap64 (x26_1 + 1)), (by first | rfl | (simp; done) | (simp [*]; done)), H', ⟨by have := HK1.out; omega⟩, ⟨by (with_reducible repeat (first | apply Kd.R_alloc | apply Kd.R_drewN | apply Kd.R_drew)); exact Kd.R_mono HO109.out (fun _ hk => trivial)⟩, ⟨by (with_reducible repeat (first | refine blk_drewN ?_ _ | refine blk_drew ?_ | refine blk_alloc ?_ _)); exact BK101.out⟩, ⟨by repeat (first | (with_reducible first | exact HB.out | apply below_alloc | apply pw_below_drewN | apply below_drew1 | refine below_set ?_ GE101.out) | exact HB.out)⟩⟩
            · rw [if_neg c13] at H
              exact absurd H (by simp)
          · rw [if_neg c12] at H
            exact absurd H (by simp)
        · rw [if_neg c11] at H
          have c11b0 : decide (x26_1 < (l0_1.length : Int)) = false := decide_eq_false c11
          clear c11
          have H' := Aside0.mk H
          clear H
          have hcz17_0 : wr.cell? ⟨gb101, 0, none⟩ = some (.slice A0_0 l0_0.length c0_0) := (blk_cell BK101.out 0).trans rfl
          have hcz17_1 : wr.cell? ⟨gb101, 1, none⟩ = some (.slice A0_1 l0_1.length c0_1) := (blk_cell BK101.out 1).trans rfl
          have hcz17_2 : wr.cell? ⟨gb101, 2, none⟩ = some (.slice A0_2 l0_2.length c0_2) := (blk_cell BK101.out 2).trans rfl
          have hfz17_0 := blk_frozen BK101.out 0
          have hfz17_1 := blk_frozen BK101.out 1
          have hfz17_2 := blk_frozen BK101.out 2
          go_wp2
          go_loopg [7, 37] k1 (fun kq v7 v37 w' => ∃ (x7_2 : List Int) (x37_2 : Int), v37 = .int .i64 x37_2 ∧ Aside0 (file_Encode.l1 kq x4_1 x7_2 l0_2 (l0_2.length : Int) x37_2 l0_0 l0_1 l0_2 = some (r1, r2)) ∧ Aside0 (kq ≤ k1) ∧ Aside0 (Kd.R (Kd.int .u8) 5 w' w.heap.size (fun k_ => some k_ ≠ (v7 : Value).ownBlock) u4 x4_1) ∧ Aside0 (Kd.R (Kd.int .u8) 5 w' w.heap.size (fun k_ => some k_ ≠ (u4 : Value).ownBlock) v7 x7_2) ∧ Aside0 (w'.heap[gb101]? = some (.cells #[(.slice A0_0 l0_0.length c0_0), (.slice A0_1 l0_1.length c0_1), (.slice A0_2 l0_2.length c0_2)] 29 (0, 0))) ∧ Aside0 (Below w.heap.size w w'))
          case atStart => exact ⟨(([] : List Int)), (0), (by first | rfl | (simp; done) | (simp [*]; done)), H', ⟨Nat.le_refl _⟩, ⟨by (with_reducible repeat (first | apply Kd.R_alloc | apply Kd.R_drewN | apply Kd.R_drew)); exact Kd.R_mono HO_4.out (fun _ hk => (by simp [Value.ownBlock]))⟩, ⟨by first | exact Kd.R_nil _ _ _ _ _ | exact Kd.N_nil _ _ _ _ _ | exact Kd.V_nil _ _ _ _ _ | exact Kd.Q_nil _ _ _ _ _ | exact Kd.S_nil _ _ _ _ _⟩, ⟨by (with_reducible repeat (first | refine blk_drewN ?_ _ | refine blk_drew ?_ | refine blk_alloc ?_ _)); exact BK101.out⟩, ⟨by repeat (first | (with_reducible first | exact HB.out | apply below_alloc | apply pw_below_drewN | apply below_drew1 | refine below_set ?_ GE101.out) | exact HB.out)⟩⟩
          case round =>
            clear H'
            try clear c1
            try clear p1
            try clear q1
            try clear hx1
            try clear p2
            try clear c3
            try clear p6
            try clear p10
            try clear q10
            try clear hx10
            try clear c11
            try clear c11b0
            try clear c12
            try clear c12b0
            try clear c13
            try clear c13b0
            try clear c16
            try clear hcz10_0
            try clear hcz10_1
            try clear hcz10_2
            try clear hcz17_0
            try clear hcz17_1
            try clear hcz17_2
            try clear hcz6_0
            try clear hcz6_1
            try clear hcz6_2
            try clear hcz8_0
            try clear hcz8_1
            try clear hcz8_2
            try clear hfz10_0
            try clear hfz10_1
            try clear hfz10_2
            try clear hfz17_0
            try clear hfz17_1
            try clear hfz17_2
            try clear hfz6_0
            try clear hfz6_1
            try clear hfz6_2
            try clear hfz8_0
            try clear hfz8_1
            try clear hfz8_2
            try clear hx106_0
            try clear p106
            try clear p2
            try clear q106
            obtain ⟨x7_2, x37_2, rfl, HA, HK2, HO_4, HO_7, BK101, HB⟩ := hrel
            cases gk with
            | zero => exact absurd HA.out (by simp [file_Encode.l1])
            | succ k2 =>
              have H := HA.out
              clear HA
              simp only [file_Encode.l1] at H
              by_cases c18 : x37_2 < (l0_2.length : Int)
              · rw [if_pos c18] at H
                have c18b0 : decide (x37_2 < (l0_2.length : Int)) = true := decide_eq_true c18
                clear c18
                by_cases c19 : 0 ≤ x37_2
                · rw [if_pos c19] at H
                  have c19b0 : decide (0 ≤ x37_2) = true := decide_eq_true c19
                  clear c19
                  by_cases c20 : x37_2 < (l0_2.length : Int)
                  · rw [if_pos c20] at H
                    have c20b0 : decide (x37_2 < (l0_2.length : Int)) = true := decide_eq_true c20
                    clear c20
                    by_cases c21 : x7_2.length < 140737488355328
                    · rw [if_pos c21] at H
                      have LMc21 := Aside0.mk c21
                      clear c21
                      obtain ⟨y111, hy111⟩ : ∃ y_ : List Int, y_ = (x7_2 ++ [(rd l0_2 x37_2) % 256]) := ⟨_, rfl⟩
                      replace H : (file_Encode.l1 k2 x4_1 y111 l0_2 (l0_2.length : Int) (wrap64 (x37_2 + 1)) l0_0 l0_1 l0_2) = some (r1, r2) := by first | (rw [hy111]; with_reducible exact H) | (have H2_ := (Option.bind_some _ _).symm.trans H; rw [hy111]; with_reducible exact H2_) | (have H2_ := (Option.bind_some _ _).symm.trans H; with_reducible exact H2_) | with_reducible exact H | (rw [hy111]; exact H) | exact H
                      have Ny111 := Aside0.mk hy111
                      clear hy111
                      have H' := Aside0.mk H
                      clear H
                      have p110 : 0 ≤ (x37_2 : Int) := of_decide_eq_true (by first | (with_reducible assumption) | assumption)
                      have q110 : x37_2 < (l0_2.length : Int) := of_decide_eq_true (by first | (with_reducible assumption) | assumption)
                      obtain ⟨ad110, e110, hx110_0⟩ := Kd.at_int HR0_2.out x37_2 p110 q110
                      cases e110
                      replace hx110_0 := (HB.out.cell (World.block_lt_of_cell? w _ hx110_0)).trans hx110_0
                      replace p110 := eq_true p110
                      replace q110 := eq_true q110
                      go_wp2_with (first | ((with_reducible refine gate_builtin (b := .append) (xs := #[.tmp 41, .tmp 44]) rfl ?_); at_builtin; refine Kd.R_append (Kd.int .u8) (w0 := w) w.heap.size rfl (.tmp 41) (.tmp 44) 36 5 (.int .u8 0) 1 rfl Try.underlying36 info5 rfl (by decide) (by omega) u7 x7_2 ((rd l0_2 x37_2) % 256) [.int .u8 ((rd l0_2 x37_2) % 256)] (fun k_ => some k_ ≠ (u4 : Value).ownBlock) (fun _ => False) rfl rfl ?aP (fun _ hk => hk.elim) ?aF ?aO ?aB ?aS ?aL ?_; (case aP => exact rfl); (case aB => exact (by repeat (first | (with_reducible first | exact HB.out | apply below_alloc | apply pw_below_drewN | apply below_drew1 | refine below_set ?_ GE101.out) | exact HB.out))); (case aF => exact (fun k_ hk => Kd.fresh' (Kd.R_lt (by (with_reducible repeat (first | apply Kd.R_alloc | apply Kd.R_drewN | apply Kd.R_drew)); exact HO_4.out)) k_ hk)); (case aO => exact (by (with_reducible repeat (first | apply Kd.R_alloc | apply Kd.R_drewN | apply Kd.R_drew)); exact HO_7.out)); (case aS => exact (below_size (by repeat (first | (with_reducible first | exact HB.out | apply below_alloc | apply pw_below_drewN | apply below_drew1 | refine below_set ?_ GE101.out) | exact HB.out)))); (case aL => have := LMc21.out; omega); intro v112 w22 ho hb hg hat; rw [← Ny111.out] at ho; have n0_ := Aside0.mk (Kd.R_after (ok := (fun _ => True)) (by (with_reducible repeat (first | apply Kd.R_alloc | apply Kd.R_drewN | apply Kd.R_drew)); exact Kd.R_mono HO_4.out (fun _ hk => ⟨trivial, hk⟩)) hg hat); have n1_ := Aside0.mk (blk_grown (g := gb101) (o := .cells #[.slice A0_0 l0_0.length c0_0, .slice A0_1 l0_1.length c0_1, .slice (some ad110) l0_2.length c0_2] 29 (0, 0)) (by (with_reducible repeat (first | refine blk_drewN ?_ _ | refine blk_drew ?_ | refine blk_alloc ?_ _)); exact BK101.out) hg (Kd.R_ne HO_7.out BK101.out (by decide))); have n2_ := Aside0.mk (hb); have n3_ := Aside0.mk (ho); clear HO_4; clear BK101; clear HB; clear HO_7; have HO_4 := n0_; have BK101 := n1_; have HB := n2_; have HO113 := n3_; clear n0_ n1_ n2_ n3_; clear ho hb hg hat))
                      go_roundg k2
                      case measure => have := HK1.out; have := HK2.out; omega
                      case rel => exact ⟨(y111), (wrap64 (x37_2 + 1)), (by first | rfl | (simp; done) | (simp [*]; done)), H', ⟨by have := HK1.out; have := HK2.out; omega⟩, ⟨by (with_reducible repeat (first | apply Kd.R_alloc | apply Kd.R_drewN | apply Kd.R_drew)); exact Kd.R_mono HO_4.out (fun _ hk => hk.2)⟩, ⟨by (with_reducible repeat (first | apply Kd.R_alloc | apply Kd.R_drewN | apply Kd.R_drew)); exact HO113.out⟩, ⟨by (with_reducible repeat (first | refine blk_drewN ?_ _ | refine blk_drew ?_ | refine blk_alloc ?_ _)); exact BK101.out⟩, ⟨by repeat (first | (with_reducible first | exact HB.out | apply below_alloc | apply pw_below_drewN | apply below_drew1 | refine below_set ?_ GE101.out) | exact HB.out)⟩⟩
                    · rw [if_neg c21] at H
                      exact absurd H (by simp)
                  · rw [if_neg c20] at H
                    exact absurd H (by simp)
                · rw [if_neg c19] at H
                  exact absurd H (by simp)
              · rw [if_neg c18] at H
                have c18b0 : decide (x37_2 < (l0_2.length : Int)) = false := decide_eq_false c18
                clear c18
                obtain ⟨y114, hy114⟩ : ∃ y_ : List Int, y_ = (([77, 65, 78, 84, 69, 76, 69, 84] : List Int)) := ⟨_, rfl⟩
                replace H : ((file_states.f k2 l0_0).bind fun t117 => ((some (([y114, t117, x4_1, x7_2] : List (List Int)) : List (List Int))).bind fun y120 => (file_Encode.l2 k2 ([] : List Int) y120 (y120.length : Int) 0))) = some (r1, r2) := by first | (rw [hy114]; with_reducible exact H) | (have H2_ := (Option.bind_some _ _).symm.trans H; rw [hy114]; with_reducible exact H2_) | (have H2_ := (Option.bind_some _ _).symm.trans H; with_reducible exact H2_) | with_reducible exact H | (rw [hy114]; exact H) | exact H
                have Ny114 := Aside0.mk hy114
                clear hy114
                replace H := Option.bind_eq_some_iff.mp H
                obtain ⟨t117, A230, H⟩ := H
                replace H : ((some (([y114, t117, x4_1, x7_2] : List (List Int)) : List (List Int))).bind fun y120 => (file_Encode.l2 k2 ([] : List Int) y120 (y120.length : Int) 0)) = some (r1, r2) := H
                have A23 := Aside0.mk A230
                clear A230
                obtain ⟨y120, hy120⟩ : ∃ y_ : List (List Int), y_ = (([y114, t117, x4_1, x7_2] : List (List Int))) := ⟨_, rfl⟩
                replace H : (file_Encode.l2 k2 ([] : List Int) y120 (y120.length : Int) 0) = some (r1, r2) := by first | (rw [hy120]; with_reducible exact H) | (have H2_ := (Option.bind_some _ _).symm.trans H; rw [hy120]; with_reducible exact H2_) | (have H2_ := (Option.bind_some _ _).symm.trans H; with_reducible exact H2_) | with_reducible exact H | (rw [hy120]; exact H) | exact H
                have Ny120 := Aside0.mk hy120
                clear hy120
                have H' := Aside0.mk H
                clear H
                obtain ⟨Ac, cc, ec⟩ := Kd.R_slice HO_4.out
                subst ec
                obtain ⟨Ak, ck, ek⟩ := Kd.R_slice HO_7.out
                subst ek
                obtain ⟨W1, hW1⟩ : ∃ W1, W1 = wr.alloc (.cells #[.int .u8 77, .int .u8 65, .int .u8 78, .int .u8 84, .int .u8 69, .int .u8 76, .int .u8 69, .int .u8 84] 5 (8, 9)) := ⟨_, rfl⟩
                have hcv := Lib.run_convert_bytes_const (P := Try.prog) wr 36 5 #[.int .u8 77, .int .u8 65, .int .u8 78, .int .u8 84, .int .u8 69, .int .u8 76, .int .u8 69, .int .u8 84] 8 8 Try.underlying36 Try.underlying5
                change _ = Result.ok _ (wr.alloc (.cells #[.int .u8 77, .int .u8 65, .int .u8 78, .int .u8 84, .int .u8 69, .int .u8 76, .int .u8 69, .int .u8 84] 5 (8, 9))) at hcv
                rw [← hW1] at hcv
                have hg1 : W1.heap[wr.heap.size]? = some (.cells #[.int .u8 77, .int .u8 65, .int .u8 78, .int .u8 84, .int .u8 69, .int .u8 76, .int .u8 69, .int .u8 84] 5 (8, 9)) := by rw [hW1]; exact heap_alloc_new wr _
                have hbw : Below wr.heap.size wr W1 := by rw [hW1]; exact below_alloc (Below.refl _ _) _
                have HBW := Aside0.mk hbw
                have HB1 := Aside0.mk (HB.out.trans (hbw.mono HB.out.size))
                have HCM := Aside0.mk (show Kd.C (Kd.int .u8) W1 (some ⟨wr.heap.size, 0, none⟩) 8 [77, 65, 78, 84, 69, 76, 69, 84] from Kd.C_of_reads (d := (0 : Int)) (h1 := fun _ => rfl) ⟨rfl, by decide, fun _ => ⟨⟨wr.heap.size, 0, none⟩, rfl, fun j hj => by
                  rw [Addr.add_lit]
                  show W1.cell? ⟨wr.heap.size, 0 + j, none⟩ = _
                  rw [cell_of_row W1 _ _ _ _ _ hg1, Nat.zero_add]
                  match j, hj with
                  | 0, _ => rfl
                  | 1, _ => rfl
                  | 2, _ => rfl
                  | 3, _ => rfl
                  | 4, _ => rfl
                  | 5, _ => rfl
                  | 6, _ => rfl
                  | 7, _ => rfl⟩⟩)
                have BKW := Aside0.mk ((hbw.block _ (Array.getElem?_eq_some_iff.1 BK101.out).1).trans BK101.out)
                have HCC := Aside0.mk (Kd.C_below (Kd.R_reads' HO_4.out).2.2 hbw)
                have HCK := Aside0.mk (Kd.C_below (Kd.R_reads' HO_7.out).2.2 hbw)
                have HLC := Aside0.mk (Kd.R_reads' HO_4.out).2.1
                have HLK := Aside0.mk (Kd.R_reads' HO_7.out).2.1
                have HST := Aside0.mk (file_states.calls k2 A0_0 c0_0 l0_0 t117 W1 (Kd.C_below HR0_0.out HB1.out) HC0_0.out A23.out)
                have hl4 : (y120.length : Int) = 4 := by rw [Ny120.out]; rfl
                have hH := H'.out
                rw [hl4] at hH
                have HH := Aside0.mk hH
                have HY := Aside0.mk (show y120 = [[77, 65, 78, 84, 69, 76, 69, 84], t117, x4_1, x7_2] by rw [Ny120.out, Ny114.out])
                have HL4 := Aside0.mk hl4
                have h0 : W1.cell? ⟨gb101, 0, none⟩ = some (.slice A0_0 l0_0.length c0_0) := (blk_cell BKW.out 0).trans rfl
                clear hW1 hg1 hbw H' hH HO_4 HO_7 hl4 HB BK101
                go_wp2_with (first | (go_at_call 38; (with_reducible refine (HST.out).mono ?_)))
                (first | rintro x w2 v rfl hRs hb2 | rintro x w2 ⟨v, rfl, hRs, hb2⟩)
                obtain ⟨As, cs, es⟩ := Kd.R_slice hRs
                subst es
                have HRS := Aside0.mk hRs
                have HB2 := Aside0.mk hb2
                clear hRs hb2 hcv
                go_wp2
                obtain ⟨WL, hWL⟩ : ∃ WL, WL = w2.alloc (.cells #[.slice (some ⟨wr.heap.size, 0, none⟩) 8 8, .slice As t117.length cs, .slice Ac x4_1.length cc, .slice Ak x7_2.length ck] 36 (0, 0)) := ⟨_, rfl⟩
                rw [← hWL]
                have hgL : WL.heap[w2.heap.size]? = some (.cells #[.slice (some ⟨wr.heap.size, 0, none⟩) 8 8, .slice As t117.length cs, .slice Ac x4_1.length cc, .slice Ak x7_2.length ck] 36 (0, 0)) := by rw [hWL]; exact heap_alloc_new w2 _
                have hbL2 : Below w2.heap.size w2 WL := by rw [hWL]; exact below_alloc (Below.refl _ _) _
                have hbL1 : Below W1.heap.size W1 WL := HB2.out.trans (hbL2.mono HB2.out.size)
                have HBL := Aside0.mk (HB1.out.trans (hbL1.mono HB1.out.size))
                have HCL := Aside0.mk (show Kd.C (Kd.slice 5 (Kd.int .u8)) WL (some ⟨w2.heap.size, 0, none⟩) 4 y120 by
                  rw [HY.out]
                  refine ⟨rfl, by decide, fun _ => ⟨_, rfl, fun j p hj => ?_⟩⟩
                  have key : ∀ (A : Option Addr) (c : Nat) (xs : List Int), (#[.slice (some ⟨wr.heap.size, 0, none⟩) 8 8, .slice As t117.length cs, .slice Ac x4_1.length cc, .slice Ak x7_2.length ck] : Array Value)[j]? = some (.slice A xs.length c) → xs.length ≤ c → Kd.C (Kd.int .u8) WL A xs.length xs → ∃ cl : List Value, cl.length = (Kd.slice 5 (Kd.int .u8)).sz ∧ (Kd.slice 5 (Kd.int .u8)).K WL xs cl ∧ ∀ i u, cl[i]? = some u → WL.cell? ((⟨w2.heap.size, 0, none⟩ : Addr).add (j * (Kd.slice 5 (Kd.int .u8)).sz + i)) = some u := fun A c xs h1 h2 h3 => by
                    refine ⟨[.slice A xs.length c], rfl, ⟨A, c, rfl, h2, h3⟩, fun i u hu => ?_⟩
                    cases i with
                    | zero =>
                      injection hu with hu
                      subst hu
                      rw [Addr.add_lit]
                      show WL.cell? ⟨w2.heap.size, 0 + (j * 1 + 0), none⟩ = _
                      rw [cell_of_row WL _ _ _ _ _ hgL, Nat.zero_add, Nat.mul_one, Nat.add_zero]
                      exact h1
                    | succ i => simp at hu
                  match j, hj with
                  | 0, hj => injection hj with hj; subst hj; exact key _ 8 [77, 65, 78, 84, 69, 76, 69, 84] rfl (by decide) (Kd.C_below HCM.out hbL1)
                  | 1, hj => injection hj with hj; subst hj; exact key _ cs _ rfl (Kd.R_reads' HRS.out).2.1 (Kd.C_below (Kd.R_reads' HRS.out).2.2 hbL2)
                  | 2, hj => injection hj with hj; subst hj; exact key _ cc _ rfl HLC.out (Kd.C_below HCC.out hbL1)
                  | 3, hj => injection hj with hj; subst hj; exact key _ ck _ rfl HLK.out (Kd.C_below HCK.out hbL1)
                  | j + 4, hj => simp at hj)
                generalize (⟨w2.heap.size, 0, none⟩ : Addr) = adL at HCL ⊢
                clear hWL hgL hbL2 hbL1 HRS HB2 HCM HCC HCK HLC HLK HST BKW h0
                go_loopg [10, 56] k2 (fun kq v10 v56 w' => ∃ (x10 : List Int) (x56 : Int), v56 = .int .i64 x56 ∧ Aside0 (file_Encode.l2 kq x10 y120 4 x56 = some (r1, r2)) ∧ Aside0 (kq ≤ k2) ∧ Aside0 (Kd.R (Kd.int .u8) 5 w' w.heap.size (fun _ => True) v10 x10) ∧ Aside0 (Below WL.heap.size WL w'))
                case atStart => exact ⟨[], 0, rfl, HH, ⟨Nat.le_refl _⟩, ⟨Kd.R_nil _ _ _ _ _⟩, ⟨Below.refl _ _⟩⟩
                case round =>
                  obtain ⟨x10, x56, rfl, HA, HK3, HR10, HBR⟩ := hrel
                  cases gk with
                  | zero => exact absurd HA.out (by simp [file_Encode.l2])
                  | succ k3 =>
                    have H := HA.out
                    clear HA
                    simp only [file_Encode.l2] at H
                    by_cases c35 : x56 < 4
                    · rw [if_pos c35] at H
                      by_cases c36 : 0 ≤ x56
                      · rw [if_pos c36] at H
                        have c37 : x56 < (y120.length : Int) := by rw [HL4.out]; exact c35
                        rw [if_pos c37] at H
                        obtain ⟨⟨b1, b2⟩, hp, H⟩ := Option.bind_eq_some_iff.mp H
                        obtain ⟨ad, Ab, cb, ead, hcell, hle, hCb⟩ := at_L1 (Kd.C_below HCL.out HBR.out) x56 c36 (by omega)
                        cases ead
                        obtain ⟨Ax, cx, ex⟩ := Kd.R_slice HR10.out
                        subst ex
                        have HP := Aside0.mk (frame_Put.calls k3 Ax cx x10 Ab cb (rd_L1 y120 x56) b1 b2 wr (Kd.R_reads' HR10.out).2.2 (Kd.R_reads' HR10.out).2.1 hCb hle hp)
                        have HBT := Aside0.mk (HBL.out.trans (HBR.out.mono HBL.out.size))
                        have hcb : decide (x56 < 4) = true := decide_eq_true c35
                        have HC36 := Aside0.mk c36
                        generalize rd_L1 y120 x56 = pl at hcell HP
                        clear hCb hle hp HR10 c37
                        by_cases e0 : b2 = 0
                        · rw [if_pos e0] at H
                          subst e0
                          have HH2 := Aside0.mk H
                          clear H
                          go_wp2_with (first | (go_at_call 39; (with_reducible refine (HP.out).mono ?_)))
                          (first | rintro x w5 v rfl hR5 hb5 | rintro x w5 ⟨v, rfl, hR5, hb5⟩)
                          obtain ⟨A5, c5, e5⟩ := Kd.R_slice hR5
                          subst e5
                          have HR5 := Aside0.mk hR5
                          have HB5 := Aside0.mk hb5
                          clear hR5 hb5
                          go_wp2
                          go_roundg k3
                          case measure => omega
                          case rel => exact ⟨b1, wrap64 (x56 + 1), (by first | rfl | exact congrArg (Value.int .i64) (by have := HC36.out; unfold wrap64; omega)), HH2, ⟨by have := HK3.out; omega⟩, ⟨Kd.R_lower HR5.out HBT.out.size⟩, ⟨HBR.out.trans (HB5.out.mono HBR.out.size)⟩⟩
                        · rw [if_neg e0] at H
                          have H1 := congrArg Prod.fst (Option.some.inj H)
                          have H2 := congrArg Prod.snd (Option.some.inj H)
                          dsimp only at H1 H2
                          subst H1 H2
                          have hd : decide (b2 = 0) = false := decide_eq_false e0
                          have hd2 : (b2 == 0) = false := by simpa using e0
                          clear H
                          go_wp2_with (first | (go_at_call 39; (with_reducible refine (HP.out).mono ?_)))
                          (first | rintro x w5 v rfl hR5 hb5 | rintro x w5 ⟨v, rfl, hR5, hb5⟩)
                          have HB5 := Aside0.mk hb5
                          clear hR5 hb5
                          go_wp2
                          go_ret2
                          exact ⟨_, rfl, Kd.R_nil _ _ _ _ _, HBT.out.trans (HB5.out.mono HBT.out.size)⟩
                      · rw [if_neg c36] at H; cases H
                    · rw [if_neg c35] at H
                      have H1 := congrArg Prod.fst (Option.some.inj H)
                      have H2 := congrArg Prod.snd (Option.some.inj H)
                      dsimp only at H1 H2
                      subst H1 H2
                      have hcb : decide (x56 < 4) = false := decide_eq_false c35
                      have HBT := Aside0.mk (HBL.out.trans (HBR.out.mono HBL.out.size))
                      clear H
                      go_wp2
                      go_ret2
                      exact ⟨_, rfl, HR10.out, HBT.out⟩
  · replace c3 := Bool.eq_false_iff.mpr c3
    subst c3
    have H1 : (some (([] : List Int), 1)) = some (r1, r2) := by rw [if_neg (show ¬ (false = true) by decide)] at H; exact H
    clear H
    have H := H1
    clear H1
    simp only [Option.some.injEq, Prod.mk.injEq] at H
    obtain ⟨rfl, rfl⟩ := H
    go_enter Try.func16, Try.ntmps16
    go_wp2_with (first | ((with_reducible refine gate_dst (N := 1) rfl ?_); refine box_event ?hg (N := 1) ?hd (cs := #[.slice A0_0 l0_0.length c0_0, .slice A0_1 l0_1.length c0_1, .slice A0_2 l0_2.length c0_2]) (t := 29) ?hr ?_; (case hd => rfl); (case hg => rfl); (case hr => first | (go_simp; done) | (go_simp; rfl)); intro gb101 hg w44 hbox hb; have n0_ := Aside0.mk (below_step (by repeat (first | (with_reducible first | exact HB.out | apply below_alloc | apply pw_below_drewN | apply below_drew1) | exact HB.out)) hb); have n1_ := Aside0.mk (hbox); have n2_ := Aside0.mk ((by rw [hg]; exact (below_size (by repeat (first | (with_reducible first | exact HB.out | apply below_alloc | apply pw_below_drewN | apply below_drew1) | exact HB.out))) : w.heap.size ≤ gb101)); have n3_ := Aside0.mk ((by rw [hg]; exact (below_size (by repeat (first | (with_reducible first | exact HB.out | apply below_alloc | apply pw_below_drewN | apply below_drew1) | exact HB.out))) : w.heap.size ≤ gb101)); clear HB; have HB := n0_; have BK101 := n1_; have GW101 := n2_; have GE101 := n3_; clear n0_ n1_ n2_ n3_; clear hb hbox hg; have hcz45_0 : w44.cell? ⟨gb101, 0, none⟩ = some (.slice A0_0 l0_0.length c0_0) := (blk_cell BK101.out 0).trans rfl; have hcz45_1 : w44.cell? ⟨gb101, 1, none⟩ = some (.slice A0_1 l0_1.length c0_1) := (blk_cell BK101.out 1).trans rfl; have hcz45_2 : w44.cell? ⟨gb101, 2, none⟩ = some (.slice A0_2 l0_2.length c0_2) := (blk_cell BK101.out 2).trans rfl; have hfz45_0 := blk_frozen BK101.out 0; have hfz45_1 := blk_frozen BK101.out 1; have hfz45_2 := blk_frozen BK101.out 2) | ((with_reducible refine gate_callee (f := 36) rfl ?_); refine goesL_ (some 16) rfl rfl Try.func36 (by kernel_rfl) rfl #[.agg #[.slice A0_0 l0_0.length c0_0, .slice A0_1 l0_1.length c0_1, .slice A0_2 l0_2.length c0_2]] rfl (by (try simp only [List.map_toArray, List.map_cons, List.map_nil]); first | done | rfl | (simp only [List.length_drop, List.length_take]; rfl)) ?_; (with_reducible refine (file_may.calls k _ _ l0_0 _ _ l0_1 _ _ l0_2 false _ ?side1 ?side2 ?side3 ?side4 ?side5 ?side6 A2.out).mono ?_); (case side1 => repeat (first | exact (Kd.C_below HR0_0.out HB.out) | (with_reducible refine Kd.C_alloc ?_ _) | (with_reducible refine Kd.C_drewN ?_ _) | (with_reducible refine Kd.C_drew ?_))); (case side2 => exact HC0_0.out); (case side3 => repeat (first | exact (Kd.C_below HR0_1.out HB.out) | (with_reducible refine Kd.C_alloc ?_ _) | (with_reducible refine Kd.C_drewN ?_ _) | (with_reducible refine Kd.C_drew ?_))); (case side4 => exact HC0_1.out); (case side5 => repeat (first | exact (Kd.C_below HR0_2.out HB.out) | (with_reducible refine Kd.C_alloc ?_ _) | (with_reducible refine Kd.C_drewN ?_ _) | (with_reducible refine Kd.C_drew ?_))); (case side6 => exact HC0_2.out); rintro e w46 ⟨rfl, hb⟩; refine ⟨_, rfl, ?_⟩; have n0_ := Aside0.mk (blk_below (g := gb101) (o := .cells #[.slice A0_0 l0_0.length c0_0, .slice A0_1 l0_1.length c0_1, .slice A0_2 l0_2.length c0_2] 29 (0, 0)) (by (with_reducible repeat (first | refine blk_drewN ?_ _ | refine blk_drew ?_ | refine blk_alloc ?_ _)); exact BK101.out) hb); have n1_ := Aside0.mk (below_step (by repeat (first | (with_reducible first | exact HB.out | apply below_alloc | apply pw_below_drewN | apply below_drew1 | refine below_set ?_ GE101.out) | exact HB.out)) hb); clear BK101; clear HB; have BK101 := n0_; have HB := n1_; clear n0_ n1_; (try clear hb); (try clear hb2); (try clear hk); (try clear hi)))
    go_ret2
    exact ⟨_, by first | rfl | (simp [errW_none, errW_some] <;> rfl) | (simp [*, errW_none, errW_some] <;> rfl), by first | exact Kd.R_nil _ _ _ _ _ | exact Kd.N_nil _ _ _ _ _ | exact Kd.V_nil _ _ _ _ _ | exact Kd.Q_nil _ _ _ _ _ | exact Kd.S_nil _ _ _ _ _, by repeat (first | (with_reducible first | exact HB.out | apply below_alloc | apply pw_below_drewN | apply below_drew1 | refine below_set ?_ GE101.out) | exact HB.out)⟩

end Go.Proofs.Ytgebhidpkcjpmaa.PEn

namespace Go.Proofs.Ytgebhidpkcjpmaa.PEn
open Go.RowKit Go.Proofs.YtgebhidpkcjpmaaW.PrintWords Go.Proofs.YtgebhidpkcjpmaaW.PrintLast Go.Proofs.YtgebhidpkcjpmaaW.PrintMore Go.Proofs.Ytgebhidpkcjpmaa.K Go.Proofs.Ytgebhidpkcjpmaa.PDk Go.Proofs.Ytgebhidpkcjpmaa.PDm Go.Proofs.Ytgebhidpkcjpmaa.PFl Go.Proofs.Ytgebhidpkcjpmaa.PIx Go.Proofs.Ytgebhidpkcjpmaa.PLg Go.Proofs.Ytgebhidpkcjpmaa.PR13
attribute [local go_sem] max2_int min2_int max_two min_two max_three min_three max_four min_four   -- for this text's walks alone
set_option linter.unusedVariables false
set_option linter.unusedSimpArgs false

end Go.Proofs.Ytgebhidpkcjpmaa.PEn

namespace Go.Proofs.Ytgebhidpkcjpmaa.K
open Go.RowKit Go.Proofs.YtgebhidpkcjpmaaW.PrintWords Go.Proofs.YtgebhidpkcjpmaaW.PrintLast Go.Proofs.YtgebhidpkcjpmaaW.PrintMore Go.Proofs.Ytgebhidpkcjpmaa
attribute [local go_sem] max2_int min2_int max_two min_two max_three min_three max_four min_four
set_option linter.unusedVariables false
set_option linter.unusedSimpArgs false
open Go Go.Proofs.Ytgebhidpkcjpmaa.PR13 Go.Proofs.Ytgebhidpkcjpmaa.PDk Go.Proofs.Ytgebhidpkcjpmaa.PDm Go.Proofs.Ytgebhidpkcjpmaa.PIx Go.Proofs.Ytgebhidpkcjpmaa.PFl Go.Proofs.Ytgebhidpkcjpmaa.PLg Go.Proofs.Ytgebhidpkcjpmaa.PMk Go.Proofs.Ytgebhidpkcjpmaa.PEn Go.Proofs.Ytgebhidpkcjpmaa.Daw Go.Proofs.Ytgebhidpkcjpmaa.Fil Go.Proofs.Ytgebhidpkcjpmaa.Crc
theorem zs_rd (c : List Nat) (i : Nat) (h : i < c.length) : rd (zs c) (i : Int) = (c[i] : Int) := by
  rw [rd_nat, List.getD_eq_getElem?_getD]
  unfold zs
  rw [List.getElem?_map, List.getElem?_eq_getElem h]; rfl
section
variable {S : List S82} {r : List Int × Int}
theorem enc_l1 (x4 : List Int) (c : List Int) (kk : List Nat) (hk : kk.length ≤ 1000000000) (hb : ∀ n ∈ kk, n < 256) (hn : Ev (fun k => (file_states.f k S).bind fun t117 => ((some (([(([77, 65, 78, 84, 69, 76, 69, 84] : List Int)), t117, x4, zs kk] : List (List Int)) : List (List Int))).bind fun y120 => (file_Encode.l2 k ([] : List Int) y120 (y120.length : Int) 0))) r) :
    ∀ (d i : Nat), i + d = kk.length → Ev (fun k => file_Encode.l1 k x4 (zs (kk.take i)) (zs kk) (kk.length : Int) (i : Int) S c (zs kk)) r
  | 0, i, hi => by
    rw [List.take_of_length_le (by omega)]
    refine Ev.step (fun k => ?_) hn
    simp only [file_Encode.l1]
    rw [if_neg (by omega)]
  | d + 1, i, hi => by
    have hlt : i < kk.length := by omega
    have hby := hb _ (List.getElem_mem hlt)
    have ih := enc_l1 x4 c kk hk hb hn d (i + 1) (by omega)
    have e : zs (kk.take (i + 1)) = zs (kk.take i) ++ [(kk[i] : Int) % 256] := by
      rw [List.take_succ_eq_append_getElem hlt, zs_app, show (kk[i] : Int) % 256 = (kk[i] : Int) by omega]; rfl
    rw [e] at ih
    refine Ev.step (fun k => ?_) ih
    simp only [file_Encode.l1]
    rw [if_pos (by omega), if_pos (by omega), if_pos (by rw [zs_len]; omega), if_pos (by rw [zs_len, List.length_take]; omega), zs_rd kk i hlt, wz (by omega) (by omega)]
    rfl
theorem enc_l0 (c kk : List Nat) (hc : c.length ≤ 1000000000) (hb : ∀ n ∈ c, n < 18446744073709551616) (hn : ∀ x4, x4 = zs (countsB c) → Ev (fun k => file_Encode.l1 k x4 [] (zs kk) (kk.length : Int) 0 S (zs c) (zs kk)) r) :
    ∀ (d i : Nat), i + d = c.length → Ev (fun k => file_Encode.l0 k (zs (put c.length ++ (c.take i).flatMap put)) (zs c) (c.length : Int) (i : Int) S (zs c) (zs kk)) r
  | 0, i, hi => by
    rw [List.take_of_length_le (by omega)]
    refine Ev.step (fun k => ?_) (hn _ rfl)
    simp only [file_Encode.l0]
    rw [if_neg (by omega), zs_len]
    rfl
  | d + 1, i, hi => by
    have hlt : i < c.length := by omega
    have hby := hb _ (List.getElem_mem hlt)
    have ih := enc_l0 c kk hc hb hn d (i + 1) (by omega)
    have e : zs (put c.length ++ (c.take (i + 1)).flatMap put) = zs (put c.length ++ (c.take i).flatMap put) ++ zs (put c[i]) := by
      rw [List.take_succ_eq_append_getElem hlt, List.flatMap_append, ← List.append_assoc, zs_app (put c.length ++ (c.take i).flatMap put)]
      simp
    have hfl : ∀ l : List Nat, (∀ n ∈ l, n < 18446744073709551616) → (l.flatMap put).length ≤ 11 * l.length := fun l hl => by
      induction l with
      | nil => simp
      | cons a l ih =>
        rw [List.flatMap_cons, List.length_append, List.length_cons]
        have h1 := put10 a (hl a (by simp))
        have h2 := ih fun n hn => hl n (by simp [hn])
        omega
    have h1 := hfl (c.take i) fun n hn => hb n (List.mem_of_mem_take hn)
    have h2 := put10 c.length (by omega)
    rw [List.length_take] at h1
    have hp := put_ev (zs (put c.length ++ (c.take i).flatMap put)) c[i] hby (by rw [zs_len, List.length_append]; omega)
    rw [← e] at hp
    refine Ev.step (f := fun k => (num_Put.f k (zs (put c.length ++ (c.take i).flatMap put)) (c[i] : Int)).bind fun t107 => (file_Encode.l0 k t107 (zs c) (c.length : Int) ((i + 1 : Nat) : Int) S (zs c) (zs kk))) (fun k => ?_) (Ev.bind hp ih)
    simp only [file_Encode.l0]
    rw [if_pos (by omega), if_pos (by omega), if_pos (by rw [zs_len]; omega), zs_rd c i hlt, wz (x := (i : Int) + 1) (by omega) (by omega)]
    rfl
end
theorem enc_l2_end (y : List (List Int)) (x : List Int) (n : Int) (i : Int) (h : ¬ i < n) : Ev (fun k => file_Encode.l2 k x y n i) (x, 0) := by
  refine Ev.step (f := fun _ => some (x, (0 : Int))) (fun k => ?_) (Ev.now _)
  simp only [file_Encode.l2]
  rw [if_neg h]
theorem enc_l2_step {r : List Int × Int} (y : List (List Int)) (x : List Int) (p : List Nat) (i : Nat) (hn : y.length = 4) (hi : i < 4) (hy : rd_L1 y (i : Int) = zs p) (hp : ∀ x ∈ p, x < 256) (hl : p.length ≤ 1048576) (hx : x.length < 70368744000000)
    (h : Ev (fun k => file_Encode.l2 k (x ++ zs (recB sumB p)) y 4 ((i + 1 : Nat) : Int)) r) : Ev (fun k => file_Encode.l2 k x y 4 (i : Int)) r := by
  refine Ev.step (f := fun k => (frame_Put.f k x (zs p)).bind fun bt124 => (if bt124.2 = 0 then (file_Encode.l2 k bt124.1 y 4 ((i + 1 : Nat) : Int)) else (some (([] : List Int), bt124.2)))) (fun k => ?_) (Ev.bind (frame_ev x p hp hl hx) (Ev.congr (fun k => if_pos rfl) h))
  simp only [file_Encode.l2]
  rw [if_pos (by omega), if_pos (by omega), if_pos (by rw [hn]; omega), hy, wz (by omega) (by omega)]
  rfl
theorem recB_len (p : List Nat) (hl : p.length ≤ 1048576) : (recB sumB p).length ≤ 1048600 := by
  unfold recB
  have := put10 p.length (by omega)
  rw [List.length_append, List.length_append, sumB_len]; omega
theorem encode_ev (b : List DS) (c kk : List Nat) (hm : Ev (fun k => file_may.f k (b.map toS) (zs c) (zs kk)) true) (hlow : Low 0 b) (hbl : b.length ≤ 1000000000) (hw : ∀ s ∈ b, s.2.length ≤ 1000000000) (hwt : wt b ≤ 10000000000000) (hby : ∀ s ∈ b, ∀ e ∈ s.2, e.1 < 256)
    (hc : c.length ≤ 1000000000) (hcb : ∀ n ∈ c, n < 18446744073709551616) (hk : kk.length ≤ 1048576) (hkb : ∀ n ∈ kk, n < 256) (h1 : (statesB b).length ≤ 1048576) (h2 : (countsB c).length ≤ 1048576) :
    Ev (fun k => file_Encode.f k (b.map toS) (zs c) (zs kk)) (zs (encB sumB b c kk), 0) := by
  have hst : ∀ x ∈ statesB b, x < 256 := by
    have key : ∀ (l : List DS) (i : Nat), (∀ s ∈ l, ∀ e ∈ s.2, e.1 < 256) → ∀ x ∈ stsB i l, x < 256 := by
      intro l
      induction l with
      | nil => intro i _ x hx; simp [stsB] at hx
      | cons s l ih =>
        intro i hl x hx
        unfold stsB stB at hx
        rcases List.mem_append.1 hx with hx | hx
        · rcases List.mem_append.1 hx with hx | hx
          · exact put_lt _ x hx
          · obtain ⟨e, he, hx⟩ := List.mem_flatMap.1 hx
            unfold edB at hx
            rcases List.mem_cons.1 hx with rfl | hx
            · exact hl s (by simp) e he
            · exact put_lt _ x hx
        · exact ih (i + 1) (fun t ht => hl t (by simp [ht])) x hx
    intro x hx
    unfold statesB at hx
    rcases List.mem_append.1 hx with hx | hx
    · exact put_lt _ x hx
    · exact key b 0 hby x hx
  have hct : ∀ x ∈ countsB c, x < 256 := by
    intro x hx
    unfold countsB at hx
    rcases List.mem_append.1 hx with hx | hx
    · exact put_lt _ x hx
    · obtain ⟨n, _, hx⟩ := List.mem_flatMap.1 hx
      exact put_lt _ x hx
  unfold file_Encode.f
  refine Ev.bind hm ?_
  refine Ev.congr (fun k => if_pos rfl) ?_
  refine Ev.bind (put_evI [] _ c.length (by rw [zs_len]) (by omega) (by simp)) ?_
  rw [List.nil_append, zs_len]
  have h0 := enc_l0 (S := b.map toS) (r := (zs (encB sumB b c kk), 0)) c kk hc hcb (fun x4 hx4 => ?_) c.length 0 (by omega)
  · simpa using h0
  have hh1 := enc_l1 (S := b.map toS) (r := (zs (encB sumB b c kk), 0)) x4 (zs c) kk (by omega) hkb ?_ kk.length 0 (by omega)
  · simpa [zs] using hh1
  refine Ev.bind (states_ev b hlow hbl hw hwt) ?_
  simp only [Option.bind_some]
  subst hx4
  have hy4 : ((([(([77, 65, 78, 84, 69, 76, 69, 84] : List Int)), zs (statesB b), zs (countsB c), zs kk] : List (List Int)).length : Nat) : Int) = 4 := rfl
  rw [hy4]
  have l0 := recB_len magicB (by decide)
  have l1 := recB_len _ h1
  have l2 := recB_len _ h2
  have e3 : zs (encB sumB b c kk) = [] ++ zs (recB sumB magicB) ++ zs (recB sumB (statesB b)) ++ zs (recB sumB (countsB c)) ++ zs (recB sumB kk) := by
    unfold encB
    rw [zs_app, zs_app, zs_app, List.nil_append, List.append_assoc, List.append_assoc]
  rw [e3]
  refine enc_l2_step _ [] magicB 0 rfl (by decide) rfl (by decide) (by decide) (by decide) ?_
  refine enc_l2_step _ _ (statesB b) 1 rfl (by decide) rfl hst h1 (by rw [List.length_append, zs_len]; simp; omega) ?_
  refine enc_l2_step _ _ (countsB c) 2 rfl (by decide) rfl hct h2 (by rw [List.length_append, List.length_append, zs_len, zs_len]; simp; omega) ?_
  refine enc_l2_step _ _ kk 3 rfl (by decide) rfl hkb hk (by rw [List.length_append, List.length_append, List.length_append, zs_len, zs_len, zs_len]; simp; omega) ?_
  exact enc_l2_end _ _ _ _ (by decide)
end Go.Proofs.Ytgebhidpkcjpmaa.K

namespace Go.Proofs.Ytgebhidpkcjpmaa.PSh16
open Go.RowKit Go.Proofs.YtgebhidpkcjpmaaW.PrintWords Go.Proofs.YtgebhidpkcjpmaaW.PrintLast Go.Proofs.YtgebhidpkcjpmaaW.PrintMore Go.Proofs.Ytgebhidpkcjpmaa.K Go.Proofs.Ytgebhidpkcjpmaa.PDk Go.Proofs.Ytgebhidpkcjpmaa.PDm Go.Proofs.Ytgebhidpkcjpmaa.PEn Go.Proofs.Ytgebhidpkcjpmaa.PFl Go.Proofs.Ytgebhidpkcjpmaa.PIx Go.Proofs.Ytgebhidpkcjpmaa.PLg Go.Proofs.Ytgebhidpkcjpmaa.PMk Go.Proofs.Ytgebhidpkcjpmaa.PR13
attribute [local go_sem] max2_int min2_int max_two min_two max_three min_three max_four min_four   -- for this text's walks alone
set_option linter.unusedVariables false
set_option linter.unusedSimpArgs false



def errW : Option Int → Value
  | none => .nilIface
  | some c => .iface 0 (.int .i64 c)
theorem errW_none : errW none = .nilIface := rfl
theorem errW_some (c : Int) : errW (some c) = .iface 0 (.int .i64 c) := rfl

end Go.Proofs.Ytgebhidpkcjpmaa.PSh16

namespace Go.Proofs.Ytgebhidpkcjpmaa.PSh16
open Go.RowKit Go.Proofs.YtgebhidpkcjpmaaW.PrintWords Go.Proofs.YtgebhidpkcjpmaaW.PrintLast Go.Proofs.YtgebhidpkcjpmaaW.PrintMore Go.Proofs.Ytgebhidpkcjpmaa.K Go.Proofs.Ytgebhidpkcjpmaa.PDk Go.Proofs.Ytgebhidpkcjpmaa.PDm Go.Proofs.Ytgebhidpkcjpmaa.PEn Go.Proofs.Ytgebhidpkcjpmaa.PFl Go.Proofs.Ytgebhidpkcjpmaa.PIx Go.Proofs.Ytgebhidpkcjpmaa.PLg Go.Proofs.Ytgebhidpkcjpmaa.PMk Go.Proofs.Ytgebhidpkcjpmaa.PR13
attribute [local go_sem] max2_int min2_int max_two min_two max_three min_three max_four min_four   -- for this text's walks alone
set_option linter.unusedVariables false
set_option linter.unusedSimpArgs false

def manteletlaw16_shown.f (k : Nat)  : Option (Bool) := (file_Make.f k ([] : List (S49))).bind fun bt101 => ((file_Encode.f k bt101.1 bt101.2.1 bt101.2.2.1).bind fun bt112 => ((file_Make.f k (([(⟨(⟨#[97]⟩ : ByteArray), 3⟩ : S49)] : List (S49)))).bind fun bt119 => (if bt101.2.2.2 = 0 then (if bt112.2 = 0 then (if bt119.2.2.2 = 0 then (if (bt101.1.length : Int) = 1 then (if (bt112.1.length : Int) = 31 then (if (bt119.1.length : Int) = 2 then (if (bt119.2.1.length : Int) = 1 then (if 0 < (bt119.2.1.length : Int) then (some ((rd bt119.2.1 0) == 3)) else (none)) else (some false)) else (some false)) else (some false)) else (some false)) else (some false)) else (some false)) else (some false))))
end Go.Proofs.Ytgebhidpkcjpmaa.PSh16

namespace Go.Proofs.Ytgebhidpkcjpmaa.PSh16
open Go.RowKit Go.Proofs.YtgebhidpkcjpmaaW.PrintWords Go.Proofs.YtgebhidpkcjpmaaW.PrintLast Go.Proofs.YtgebhidpkcjpmaaW.PrintMore Go.Proofs.Ytgebhidpkcjpmaa.K Go.Proofs.Ytgebhidpkcjpmaa.PDk Go.Proofs.Ytgebhidpkcjpmaa.PDm Go.Proofs.Ytgebhidpkcjpmaa.PEn Go.Proofs.Ytgebhidpkcjpmaa.PFl Go.Proofs.Ytgebhidpkcjpmaa.PIx Go.Proofs.Ytgebhidpkcjpmaa.PLg Go.Proofs.Ytgebhidpkcjpmaa.PMk Go.Proofs.Ytgebhidpkcjpmaa.PR13
attribute [local go_sem] max2_int min2_int max_two min_two max_three min_three max_four min_four   -- for this text's walks alone
set_option linter.unusedVariables false
set_option linter.unusedSimpArgs false

end Go.Proofs.Ytgebhidpkcjpmaa.PSh16

namespace Go.Proofs.Ytgebhidpkcjpmaa.K
open Go.RowKit Go.Proofs.YtgebhidpkcjpmaaW.PrintWords Go.Proofs.YtgebhidpkcjpmaaW.PrintLast Go.Proofs.YtgebhidpkcjpmaaW.PrintMore Go.Proofs.Ytgebhidpkcjpmaa
attribute [local go_sem] max2_int min2_int max_two min_two max_three min_three max_four min_four
set_option linter.unusedVariables false
set_option linter.unusedSimpArgs false
open Go Go.Proofs.Ytgebhidpkcjpmaa.PR13 Go.Proofs.Ytgebhidpkcjpmaa.PDk Go.Proofs.Ytgebhidpkcjpmaa.PDm Go.Proofs.Ytgebhidpkcjpmaa.PIx Go.Proofs.Ytgebhidpkcjpmaa.PFl Go.Proofs.Ytgebhidpkcjpmaa.PLg Go.Proofs.Ytgebhidpkcjpmaa.PMk Go.Proofs.Ytgebhidpkcjpmaa.PEn Go.Proofs.Ytgebhidpkcjpmaa.PSh16 Go.Proofs.Ytgebhidpkcjpmaa.Daw Go.Proofs.Ytgebhidpkcjpmaa.Fil Go.Proofs.Ytgebhidpkcjpmaa.Crc
def cN (l : List EnS) : List Nat := (Cl l).map Int.toNat
def kN (l : List EnS) : List Nat := (classesL l).map Int.toNat
/-- The dictionary of entries, as bytes. -/
def dictB (l : List EnS) : List Nat := encB sumB (build (wordsN (Wl l))) (cN l) (kN l)
theorem zs_toNat {c : List Int} (h : ∀ n ∈ c, 0 ≤ n) : zs (c.map Int.toNat) = c := by
  unfold zs
  rw [List.map_map]
  refine (List.map_congr_left fun n hn => ?_).trans (List.map_id c)
  have := h n hn
  show Int.ofNat n.toNat = n
  simp; omega
namespace Ents
variable {l : List EnS} (h : Ents l)
include h
theorem cl_pos (n : Int) (hn : n ∈ Cl l) : 1 ≤ n ∧ n ≤ 4611686018427387904 := by
  obtain ⟨x, hx, rfl⟩ := List.mem_map.1 hn
  exact ((fineB_iff x).1 (h.fine x hx)).2.2
theorem zs_c : zs (cN l) = Cl l := zs_toNat fun n hn => by have := h.cl_pos n hn; omega
omit h in
theorem zs_k : zs (kN l) = classesL l := zs_toNat fun n hn => by
  unfold classesL at hn
  obtain ⟨x, _, rfl⟩ := List.mem_map.1 hn
  exact cls_nonneg _ _
theorem low : Low 0 (build (wordsN (Wl l))) := fun k s hk e he => by
  have := ((build_good (Wl l) h.ne h.rise).2.1 k s hk).1.1 e he
  omega
theorem encoded (hb : bytesAll (Wl l) ≤ 149000) : Ev (fun k => file_Encode.f k ((build (wordsN (Wl l))).map toS) (Cl l) (classesL l)) (zs (dictB l), 0) := by
  obtain ⟨g1, g2, g3, g4⟩ := build_good (Wl l) h.ne h.rise
  have hsum := sum_all (Wl l)
  have hn := h.n
  have hn2 : 2 * l.length + 1 ≤ bytesAll (Wl l) := by
    have key : ∀ L : List ByteArray, (∀ x ∈ L, 1 ≤ x.size) → 2 * L.length + 1 ≤ bytesAll L := by
      intro L
      induction L with
      | nil => intro _; simp [bytesAll]
      | cons a L ih =>
        intro hL
        have h1 := ih fun x hx => hL x (by simp [hx])
        have h2 := hL a (by simp)
        unfold bytesAll at h1 ⊢
        simp only [List.map_cons, List.sum_cons, List.length_cons]; omega
    have := key (Wl l) fun x hx => by
      obtain ⟨y, hy, rfl⟩ := List.mem_map.1 hx
      have := ((fineB_iff y).1 (h.fine y hy)).1
      omega
    rwa [Wl_len] at this
  have hgs : ∀ s ∈ build (wordsN (Wl l)), s.2.length ≤ 256 ∧ Byt s := fun s hs => by
    obtain ⟨i, hi, rfl⟩ := List.getElem_of_mem hs
    exact (g2 i _ (List.getElem?_eq_getElem hi)).2.2
  have hed := build_ed (wordsN (Wl l))
  have hle : ((wordsN (Wl l)).map List.length).sum = ((Wl l).map ByteArray.size).sum := by
    unfold wordsN
    rw [List.map_map]
    congr 1
    apply List.map_congr_left
    intro s _
    simp [Utf.nats]
  rw [hle] at hed
  have hwt : wt (build (wordsN (Wl l))) = edN (build (wordsN (Wl l))) + (build (wordsN (Wl l))).length := by
    generalize build (wordsN (Wl l)) = b
    induction b with
    | nil => rfl
    | cons s b ih => rw [wt_cons, edN_cons, ih, List.length_cons]; omega
  have hst := statesB_len (build (wordsN (Wl l))) (by omega) fun s hs => by have := (hgs s hs).1; omega
  have hcl : (cN l).length = l.length := by unfold cN; rw [List.length_map, Cl_len]
  have hkl : (kN l).length = l.length := by unfold kN classesL; simp
  have hcb : ∀ n ∈ cN l, n < 18446744073709551616 := fun n hn => by
    obtain ⟨x, hx, rfl⟩ := List.mem_map.1 hn
    have := h.cl_pos x hx
    omega
  have hct : (countsB (cN l)).length ≤ 11 * (l.length + 1) := by
    have hfl : ∀ l : List Nat, (∀ n ∈ l, n < 18446744073709551616) → (l.flatMap put).length ≤ 11 * l.length := fun l hl => by
      induction l with
      | nil => simp
      | cons a l ih =>
        rw [List.flatMap_cons, List.length_append, List.length_cons]
        have h1 := put10 a (hl a (by simp))
        have h2 := ih fun n hn => hl n (by simp [hn])
        omega
    unfold countsB
    have h1 := hfl _ hcb
    have h2 := put10 (cN l).length (by omega)
    rw [List.length_append]
    omega
  have hm := may_ev h
  rw [← h.zs_c, ← zs_k] at hm ⊢
  refine encode_ev _ _ _ hm h.low (by omega) (fun s hs => by have := (hgs s hs).1; omega) (by omega) (fun s hs e he => (hgs s hs).2 e he) (by omega) hcb (by omega) (fun n hn => ?_) (by omega) (by omega)
  obtain ⟨x, hx, rfl⟩ := List.mem_map.1 hn
  unfold classesL at hx
  obtain ⟨y, _, rfl⟩ := List.mem_map.1 hx
  have h1 := cls_nonneg (l.map S49.f1) y.f1
  have h2 := cls_le255 (l.map S49.f1) y.f1
  omega
end Ents
end Go.Proofs.Ytgebhidpkcjpmaa.K

namespace Go.Proofs.Ytgebhidpkcjpmaa.K
open Go.RowKit Go.Proofs.YtgebhidpkcjpmaaW.PrintWords Go.Proofs.YtgebhidpkcjpmaaW.PrintLast Go.Proofs.YtgebhidpkcjpmaaW.PrintMore Go.Proofs.Ytgebhidpkcjpmaa
attribute [local go_sem] max2_int min2_int max_two min_two max_three min_three max_four min_four
set_option linter.unusedVariables false
set_option linter.unusedSimpArgs false
open Go Go.Proofs.Ytgebhidpkcjpmaa.PR13 Go.Proofs.Ytgebhidpkcjpmaa.PDk Go.Proofs.Ytgebhidpkcjpmaa.PDm Go.Proofs.Ytgebhidpkcjpmaa.PIx Go.Proofs.Ytgebhidpkcjpmaa.PFl Go.Proofs.Ytgebhidpkcjpmaa.PLg Go.Proofs.Ytgebhidpkcjpmaa.PMk Go.Proofs.Ytgebhidpkcjpmaa.PEn Go.Proofs.Ytgebhidpkcjpmaa.PSh16 Go.Proofs.Ytgebhidpkcjpmaa.Daw Go.Proofs.Ytgebhidpkcjpmaa.Fil Go.Proofs.Ytgebhidpkcjpmaa.Crc
theorem ents_nil : Ents [] := ⟨by simp, by decide, by decide⟩
theorem dict_nil_len : (dictB []).length = 31 := by
  unfold dictB
  rw [show wordsN (Wl []) = [] from rfl, build_nil]
  have hs : statesB [(false, [])] = [1, 0] := by
    unfold statesB stsB stB hdN
    simp [stsB, put_low]
  have hc : countsB (cN []) = [0] := by
    unfold countsB cN Cl
    simp [put_low]
  have hk : kN [] = [] := rfl
  unfold encB
  rw [hs, hc, hk]
  unfold recB
  have hm : magicB.length = 8 := rfl
  simp only [List.length_append, sumB_len, hm, List.length_cons, List.length_nil, put_low (show 8 < 128 by decide), put_low (show 0 + 1 < 128 by decide), put_low (show 0 < 128 by decide), put_low (show 0 + 1 + 1 < 128 by decide)]
theorem ents_a : Ents [(⟨(⟨#[97]⟩ : ByteArray), 3⟩ : EnS)] := by
  refine ⟨fun x hx => ?_, by decide, by decide⟩
  rw [List.mem_singleton.1 hx]
  decide
theorem build_a : build [[97]] = [(true, []), (false, [(97, 0)])] := by
  simp [build, finish, add, Daw.start, leave, common, num, ends]
end Go.Proofs.Ytgebhidpkcjpmaa.K

