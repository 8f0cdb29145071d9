/- IndexTells. (The texts that the proof is made of, one behind the other: part 15 of 15.) -/
import Derived.Test.YtebdcblchjhmpaaProg
import Derived.Below
import Derived.Deep.Draws
import Derived.Deep.AppendLies
import Derived.Maps.AppendAt
import Derived.OwnWalk
import Derived.Laws.BytesArg
import Derived.Laws.MakeOwn
import Derived.Laws.OwnMore
import Derived.Deep.OwnRows
import Derived.Tactics
import Derived.Lib.ConvBytes
import Derived.Laws.Slices
import Derived.WalkKit
import Derived.KernelRfl
import Derived.RowKit3
import Derived.Deep.LoopGhost
import Derived.Deep.QuietTactic
import Derived.BigQuiet
import Derived.WideLaws
import Derived.Deep.DeepCutAuto
import Derived.Deep.CutBlock
import Derived.Deep.RegionHeld3
import Derived.Laws.Rows
import Derived.Lib.AppendStr
import Derived.ArgAppend
import Derived.Laws.IdiomCopy
import Derived.OrdersHeld
import Derived.Laws.BitsLemmas
import Derived.RowKit
import Derived.Lib.OthersKept
import Derived.WalkSmall
import Derived.Deep.RegionLaw
import Derived.BigRegion
import Derived.Deep.Matrix
import Derived.SliceStrings
import Derived.Test.YtebdcblchjhmpaaRows
import Derived.ProofKit
import Derived.OpenShut
import Derived.ShutString
import Derived.ChangeOld
import Derived.SizedLaws
import Derived.Test.YtebdcblchjhmpaaZIndexTellsa
import Derived.Test.YtebdcblchjhmpaaZIndexTellsb
import Derived.Test.YtebdcblchjhmpaaZIndexTellsc
import Derived.Test.YtebdcblchjhmpaaZIndexTellsd
import Derived.Test.YtebdcblchjhmpaaZIndexTellse
import Derived.Test.YtebdcblchjhmpaaZIndexTellsf
import Derived.Test.YtebdcblchjhmpaaZIndexTellsg
import Derived.Test.YtebdcblchjhmpaaZIndexTellsh
import Derived.Test.YtebdcblchjhmpaaZIndexTellsi
import Derived.Test.YtebdcblchjhmpaaZIndexTellsj
import Derived.Test.YtebdcblchjhmpaaZIndexTellsk
import Derived.Test.YtebdcblchjhmpaaZIndexTellsl
import Derived.Test.YtebdcblchjhmpaaZIndexTellsm
import Derived.Test.YtebdcblchjhmpaaZIndexTellsn
namespace Go.Proofs.Ytebdcblchjhmpaa.K
open Go.RowKit Go.Proofs.YtebdcblchjhmpaaW.PrintWords Go.Proofs.YtebdcblchjhmpaaW.PrintLast Go.Proofs.YtebdcblchjhmpaaW.PrintMore Go.Proofs.Ytebdcblchjhmpaa
attribute [local go_sem] max2_int min2_int max_two min_two max_three min_three max_four min_four
set_option linter.unusedVariables false
set_option linter.unusedSimpArgs false
open Go.Proofs.Ytebdcblchjhmpaa.PDk Go.Proofs.Ytebdcblchjhmpaa.PDm Go.Proofs.Ytebdcblchjhmpaa.PIx Go.Proofs.Ytebdcblchjhmpaa.PSh14 Go.Proofs.Ytebdcblchjhmpaa.PSh15 Go.Proofs.Ytebdcblchjhmpaa.Daw
theorem refStates_eq (l : List ByteArray) (h0 : [] ∉ wordsN l) (h : (wordsN l).Pairwise (· < ·)) : refStates l = build (wordsN l) := by
  unfold refStates
  by_cases hl : l = []
  · subst hl
    rw [show wordsN [] = [] from rfl, build_nil]
    simp [refLeave, refE, grp, rfind]
  · refine ref_is_build (wordsN l) (words_rise h0 h) (by unfold wordsN; simpa using hl) _ (fun w hw => ?_)
    obtain ⟨x, hx, rfl⟩ := List.mem_map.1 hw
    rw [nats_len]
    exact bytes_mem hx
theorem few15_l0 (l : List ByteArray) : ∀ (d i : Nat), i + d = l.length → ∃ b, Ev (fun k => manteletlaw15_few.l0 k l (i : Int)) b ∧ (b = true → l.length ≤ 60 ∧ ∀ x ∈ l.drop i, x.size ≤ 20)
  | 0, i, hd => by
    refine ⟨decide ((l.length : Int) ≤ 60), Ev.step (f := fun k => manteletlaw15_few.j1 k l (i : Int) false) (fun k => ?_) (Ev.step (f := fun _ => some (decide ((l.length : Int) ≤ 60))) (fun k => ?_) (Ev.now _)), fun h => ?_⟩
    · simp only [manteletlaw15_few.l0]; rw [if_neg (by omega)]
    · simp only [manteletlaw15_few.j1]; rw [if_neg (by decide)]
    · have := of_decide_eq_true h
      rw [List.drop_eq_nil_of_le (by omega)]
      exact ⟨by omega, by simp⟩
  | d + 1, i, hd => by
    have hi : i < l.length := by omega
    by_cases h61 : i < 61
    · have s1 : ∀ k, manteletlaw15_few.l0 (k + 1) l (i : Int) = manteletlaw15_few.j1 k l (i : Int) true := fun k => by
        simp only [manteletlaw15_few.l0]; rw [if_pos (by omega), decide_eq_true (by omega)]
      by_cases h20 : l[i].size > 20
      · refine ⟨false, Ev.step s1 (Ev.step (f := fun _ => some false) (fun k => ?_) (Ev.now _)), fun h => by cases h⟩
        simp only [manteletlaw15_few.j1]; rw [if_pos trivial, if_pos (by omega), if_pos (by omega), rdS l i hi, if_pos (by omega)]
      · obtain ⟨b, h1, h2⟩ := few15_l0 l d (i + 1) (by omega)
        refine ⟨b, Ev.step s1 (Ev.step (fun k => ?_) h1), fun h => ⟨(h2 h).1, fun x hx => ?_⟩⟩
        · simp only [manteletlaw15_few.j1]; rw [if_pos trivial, if_pos (by omega), if_pos (by omega), rdS l i hi, if_neg (by omega), w64 (by omega) (by omega)]; rfl
        · rw [List.drop_eq_getElem_cons hi] at hx
          rcases List.mem_cons.1 hx with rfl | hx
          · omega
          · exact (h2 h).2 x hx
    · refine ⟨decide ((l.length : Int) ≤ 60), Ev.step (f := fun k => manteletlaw15_few.j1 k l (i : Int) false) (fun k => ?_) (Ev.step (f := fun _ => some (decide ((l.length : Int) ≤ 60))) (fun k => ?_) (Ev.now _)), fun h => ?_⟩
      · simp only [manteletlaw15_few.l0]; rw [if_pos (by omega), decide_eq_false (by omega)]
      · simp only [manteletlaw15_few.j1]; rw [if_neg (by decide)]
      · have := of_decide_eq_true h
        omega
theorem few15 (l : List ByteArray) : ∃ b, Ev (fun k => manteletlaw15_few.f k l) b ∧ (b = true → l.length ≤ 60 ∧ ∀ x ∈ l, x.size ≤ 20) := by
  have := few15_l0 l l.length 0 (by omega)
  rw [List.drop_zero] at this
  exact this
theorem few_bytes15 (L : List ByteArray) (h1 : L.length ≤ 60) (h2 : ∀ x ∈ L, x.size ≤ 20) : (L.map ByteArray.size).sum ≤ 1200 ∧ bytesAll L ≤ 2000 := by
  have : ∀ L : List ByteArray, (∀ x ∈ L, x.size ≤ 20) → (L.map ByteArray.size).sum ≤ 20 * L.length ∧ bytesAll L ≤ 1 + 21 * L.length := by
    intro L
    induction L with
    | nil => intro _; simp [bytesAll]
    | cons a l ih =>
      intro h
      have h3 := h a (by simp)
      obtain ⟨i1, i2⟩ := ih (fun x hx => h x (by simp [hx]))
      unfold bytesAll at i2 ⊢
      simp; omega
  obtain ⟨i1, i2⟩ := this L h2
  omega
/-- Words that the statements let in. -/
structure Few (l : List ByteArray) : Prop where
  n : l.length ≤ 60
  b : ∀ x ∈ l, x.size ≤ 20
  ne : [] ∉ wordsN l
  rise : (wordsN l).Pairwise (· < ·)
namespace Few
variable {l : List ByteArray} (h : Few l)
include h
theorem sum : (l.map ByteArray.size).sum ≤ 1200 := (few_bytes15 l h.n h.b).1
theorem all : bytesAll l ≤ 2000 := (few_bytes15 l h.n h.b).2
theorem may : daw_May.f ((build (wordsN l)).map toS) = some true := by
  have hs : (l.map ByteArray.size).sum ≤ 1000000 := by have := h.sum; omega
  unfold daw_May.f
  rw [if_pos (ok_built l h.ne h.rise hs).1, may_built l h.ne h.rise hs]
theorem made : manteletref14_Build.f l = some ((build (wordsN l)).map toS, 0) := by
  unfold manteletref14_Build.f
  rw [if_pos (by have := h.all; omega)]
  unfold refR
  rw [if_neg h.ne, if_pos h.rise, refStates_eq l h.ne h.rise]
theorem known (hl : l ≠ []) : Known (build (wordsN l)) := by
  obtain ⟨g1, g2, g3, g4⟩ := build_good l h.ne h.rise
  have hne : wordsN l ≠ [] := by unfold wordsN; simpa using hl
  have hg : Daw.Good (build (wordsN l)) := ⟨g1, fun i s hs => ⟨(g2 i s hs).1, (g2 i s hs).2.1 hl⟩⟩
  have hsum := h.sum
  refine ⟨hg, ⟨fun i hi e he => (g2 i _ (List.getElem?_eq_getElem hi)).1.1 e he, fun i hi => cnt_eq hg hi, fun i hi => ?_, fun i hi => ?_, by omega⟩⟩
  · have := cnt_le (wordsN l) (words_rise h.ne h.rise) hne hi
    have h2 := h.n
    have h3 : (wordsN l).length = l.length := by unfold wordsN; simp
    omega
  · have := (g2 i _ (List.getElem?_eq_getElem hi)).2.2.1
    omega
theorem pos : 0 < (build (wordsN l)).length := (build_good l h.ne h.rise).2.2.1
theorem small : (build (wordsN l)).length ≤ 1201 := by have := (build_good l h.ne h.rise).2.2.2; have := h.sum; omega
theorem root (hl : l ≠ []) : wl (build (wordsN l)) ((build (wordsN l)).length - 1) = wordsN l :=
  cnt_root (wordsN l) (words_rise h.ne h.rise) (by unfold wordsN; simpa using hl)
/-- The counts. -/
theorem cnts : ∃ cs, Cnt (build (wordsN l)) cs ∧ cs ((build (wordsN l)).length - 1) = l.length ∧ Ev (fun k => index_Counts.f k ((build (wordsN l)).map toS)) (csL cs (build (wordsN l)).length, 0) := by
  by_cases hl : l = []
  · subst hl
    have hm := h.may
    rw [show wordsN [] = [] from rfl, build_nil] at hm ⊢
    have hc : Cnt [((false, []) : DS)] (fun _ => 0) := by
      refine ⟨fun i hi e he => ?_, fun i hi => ?_, fun _ _ => Nat.zero_le _, fun i hi => ?_, by decide⟩
      all_goals
        have : i = 0 := by simpa using hi
        subst this
      · simp at he
      · rfl
      · simp
    exact ⟨_, hc, rfl, counts_ev hc hm⟩
  · refine ⟨Daw.cnt _, (h.known hl).cnt, ?_, counts_ev (h.known hl).cnt h.may⟩
    unfold Daw.cnt
    rw [h.root hl]; unfold wordsN; simp
theorem of (hl : l ≠ []) (v : ByteArray) (hv : v.size ≤ 140737488355328) : Ev (fun k => index_Of.f k ((build (wordsN l)).map toS) v) (if Utf.nats v ∈ wordsN l then (((wordsN l).idxOf (Utf.nats v) : Nat) : Int) else 0, decide (Utf.nats v ∈ wordsN l)) := by
  have hh := has_built l h.ne h.rise (by have := h.sum; omega) v hv
  have := of_ev (h.known hl) h.may h.pos v hv (by rw [h.root hl]; exact hh)
  rwa [h.root hl] at this
end Few
theorem str_ints (s : ByteArray) : strOfNums (intsL (Utf.nats s)) = s := by
  apply nats_inj
  rw [nats_str]
  unfold intsL
  rw [List.map_map]
  refine (List.map_congr_left (fun x hx => ?_)).trans (List.map_id _)
  have := Utf.nats_lt s x hx
  show (Int.ofNat x).toNat % 256 = x
  simp; omega
theorem word_out {b : List DS} {cs : Nat → Nat} (h : Cnt b cs) (hm : daw_May.f (b.map toS) = some true) (h0 : 0 < b.length) (a1 : Int) (ha : -9223372036854775808 ≤ a1 ∧ a1 < 9223372036854775808) (ho : a1 < 0 ∨ (cs (b.length - 1) : Int) ≤ a1) :
    Ev (fun k => index_Word.f k (b.map toS) a1) ((⟨#[]⟩ : ByteArray), false) := by
  unfold index_Word.f
  refine Ev.bind (counts_ev h hm) ?_
  have hlen := h.len
  have hw := Aside0.mk (show Go.RowKit.wrap64 (((b.map toS).length : Int) - 1) = ((b.length - 1 : Nat) : Int) by rw [List.length_map, wx (by omega) (by omega)]; omega)
  have hrd := Aside0.mk (by have := rd_csL cs b.length 0 (b.length - 1) (by omega); simpa using this)
  have hcsl := csL_len cs b.length
  have hj : ∀ x, Ev (fun k => index_Word.j0 k (b.map toS) x (csL cs b.length) true) ((⟨#[]⟩ : ByteArray), false) := fun x => Ev.step (f := fun _ => some ((⟨#[]⟩ : ByteArray), false)) (fun k => by simp only [index_Word.j0]; rw [if_pos trivial]) (Ev.now _)
  by_cases c0 : a1 < 0
  · refine Ev.congr (fun k => ?_) (hj a1)
    rw [if_pos rfl, if_pos c0]
  · obtain ⟨n, rfl⟩ : ∃ n : Nat, a1 = (n : Int) := ⟨a1.toNat, by omega⟩
    have z1 : (0 : Int) ≤ ((b.length - 1 : Nat) : Int) := by omega
    have z2 : ((b.length - 1 : Nat) : Int) < (((csL cs b.length).length : Nat) : Int) := by rw [hcsl]; omega
    have hu := Aside0.mk (u64_small (x := (n : Int)) (by omega) (by omega))
    have z3 : (n : Int) ≥ ((cs (b.length - 1) : Nat) : Int) := by omega
    refine Ev.congr (fun k => ?_) (hj (n : Int))
    rw [if_pos rfl, if_neg c0, hw.out, if_pos z1, if_pos z2, hu.out, hrd.out, decide_eq_true z3]
namespace Few
variable {l : List ByteArray} (h : Few l)
include h
theorem word_no (n : Int) (hn : -9223372036854775808 ≤ n ∧ n < 9223372036854775808) (ho : n < 0 ∨ (l.length : Int) ≤ n) : Ev (fun k => index_Word.f k ((build (wordsN l)).map toS) n) ((⟨#[]⟩ : ByteArray), false) := by
  obtain ⟨cs, h1, h2, h3⟩ := h.cnts
  exact word_out h1 h.may h.pos n hn (by rw [h2]; exact ho)
theorem word (n : Nat) (hn : n < l.length) : Ev (fun k => index_Word.f k ((build (wordsN l)).map toS) (n : Int)) (l[n], true) := by
  have hl : l ≠ [] := by rintro rfl; simp at hn
  have h60 := h.n
  have := word_ev (h.known hl) h.may h.pos (n : Int) (by omega)
  rw [if_pos (by omega), h.root hl, Int.toNat_natCast] at this
  have e : (wordsN l)[n]? = some (Utf.nats l[n]) := by unfold wordsN; rw [List.getElem?_map, List.getElem?_eq_getElem hn]; rfl
  rw [e] at this
  simp only [str_ints] at this
  exact this
/-- A word of the list: its place is where it stands. -/
theorem of_at (i : Nat) (hi : i < l.length) : Ev (fun k => index_Of.f k ((build (wordsN l)).map toS) l[i]) ((i : Int), true) := by
  have hl : l ≠ [] := by rintro rfl; simp at hi
  have hsz := h.b l[i] (List.getElem_mem hi)
  have := h.of hl l[i] (by omega)
  have hm : Utf.nats l[i] ∈ wordsN l := List.mem_map_of_mem (List.getElem_mem hi)
  have hwl : i < (wordsN l).length := by unfold wordsN; simpa using hi
  have e : (wordsN l)[i] = Utf.nats l[i] := by simp [wordsN]
  have hix : (wordsN l).idxOf (Utf.nats l[i]) = i := by
    have hnd : (wordsN l).Nodup := h.rise.imp (fun {a b} hab e => by subst e; exact List.lt_irrefl a hab)
    rw [← e]
    exact List.Nodup.idxOf_getElem hnd i hwl
  rw [if_pos hm, decide_eq_true hm, hix] at this
  exact this
end Few
theorem few_shown : Few [(⟨#[97, 98]⟩ : ByteArray), (⟨#[99, 98]⟩ : ByteArray)] := by
  have hw : wordsN [⟨#[97, 98]⟩, ⟨#[99, 98]⟩] = [[97, 98], [99, 98]] := by decide
  refine ⟨by decide, fun x hx => ?_, by rw [hw]; decide, by rw [hw]; decide⟩
  rcases List.mem_cons.1 hx with rfl | hx
  · decide
  · rw [List.mem_singleton.1 hx]; decide
theorem shown15 : Ev manteletlaw15_shown.f true := by
  unfold manteletlaw15_shown.f
  have hf := few_shown
  have h1 := hf.of_at 1 (by decide)
  have h2 := hf.word 0 (by decide)
  refine Ev.congr (f := fun k => (index_Of.f k ((build (wordsN [(⟨#[97, 98]⟩ : ByteArray), (⟨#[99, 98]⟩ : ByteArray)])).map toS) (⟨#[99, 98]⟩ : ByteArray)).bind fun bt108 => ((index_Word.f k ((build (wordsN [(⟨#[97, 98]⟩ : ByteArray), (⟨#[99, 98]⟩ : ByteArray)])).map toS) 0).bind fun bt110 => (if bt108.1 = 1 then (if bt108.2 = true then (if bt110.1.toList = ([97, 98] : List UInt8) then (some bt110.2) else (some false)) else (some false)) else (some false)))) (fun k => by rw [hf.made]; rfl) ?_
  refine Ev.bind h1 (Ev.bind h2 ?_)
  refine Ev.congr (fun k => ?_) (Ev.now true)
  rw [if_pos (by decide), if_pos rfl, if_pos (by rw [ByteArray.toList_eq]; rfl)]
end Go.Proofs.Ytebdcblchjhmpaa.K

namespace Go.Proofs.Ytebdcblchjhmpaa.K
open Go.RowKit Go.Proofs.YtebdcblchjhmpaaW.PrintWords Go.Proofs.YtebdcblchjhmpaaW.PrintLast Go.Proofs.Ytebdcblchjhmpaa.PIndexTells Go.Proofs.Ytebdcblchjhmpaa.PDk Go.Proofs.Ytebdcblchjhmpaa.PDm Go.Proofs.Ytebdcblchjhmpaa.PIx Go.Proofs.Ytebdcblchjhmpaa.PSh15 Go.Proofs.Ytebdcblchjhmpaa.PTk14 Go.Proofs.Ytebdcblchjhmpaa.PR15 Go.Proofs.Ytebdcblchjhmpaa.Daw Go.Proofs.Ytebdcblchjhmpaa
set_option linter.unusedSimpArgs false
set_option linter.unusedVariables false
def strW (w : List Nat) : ByteArray := strOfNums (intsL w)
theorem strW_nats (s : ByteArray) : strW (Utf.nats s) = s := str_ints s
theorem strW_size (w : List Nat) : (strW w).size = w.length := by unfold strW intsL; rw [strOfNums_size, List.length_map]
theorem strW_cons (c : Nat) (v : List Nat) : strOfNums [(c : Int)] ++ strW v = strW (c :: v) := by
  apply nats_inj
  have e : ∀ s t : ByteArray, Utf.nats (s ++ t) = Utf.nats s ++ Utf.nats t := fun s t => by simp [Utf.nats, ByteArray.data_append]
  rw [e]
  unfold strW
  rw [nats_str, nats_str, nats_str]
  unfold intsL
  simp
section
variable {b : List DS}
theorem wl_len (h : Daw.Good b) : ∀ (n i : Nat), i < n → i < b.length → ∀ v ∈ wl b i, v.length ≤ i
  | 0, i, hn, _, _, _ => by omega
  | n + 1, i, hn, hi, v, hv => by
    rw [wl_eq h hi] at hv
    rcases List.mem_append.1 hv with hv | hv
    · split at hv
      · rw [List.mem_singleton.1 hv]; exact Nat.zero_le _
      · simp at hv
    · obtain ⟨e, he, hv⟩ := List.mem_flatMap.1 hv
      obtain ⟨u, hu, rfl⟩ := List.mem_map.1 hv
      have hlow := (h.2 i _ (List.getElem?_eq_getElem hi)).1.1 e he
      have := wl_len h n e.2 (by omega) (by omega) u hu
      rw [List.length_cons]; omega
def tkAcc (b : List DS) (i j : Nat) (h : i < b.length) : List ByteArray := ((if b[i].1 = true then [[]] else []) ++ (b[i].2.take j).flatMap fun e : DE => (wl b e.2).map (e.1 :: ·)).map strW
theorem tkAcc_all (h : Daw.Good b) (i : Nat) (hi : i < b.length) (j : Nat) (hj : b[i].2.length ≤ j) : tkAcc b i j hi = (wl b i).map strW := by
  unfold tkAcc
  rw [List.take_of_length_le hj, wl_eq h hi]
theorem tkAcc_len (h : Daw.Good b) (i : Nat) (hi : i < b.length) (j : Nat) : (tkAcc b i j hi).length ≤ Daw.cnt b i := by
  unfold tkAcc Daw.cnt
  rw [List.length_map, List.length_append]
  conv => rhs; rw [wl_eq h hi, ← List.take_append_drop j b[i].2, List.flatMap_append]
  rw [List.length_append, List.length_append]; omega
theorem tkAcc_succ (i : Nat) (hi : i < b.length) (j : Nat) (hj : j < b[i].2.length) : tkAcc b i (j + 1) hi = tkAcc b i j hi ++ ((wl b b[i].2[j].2).map strW).map (fun s => strOfNums [(b[i].2[j].1 : Int)] ++ s) := by
  unfold tkAcc
  rw [List.take_succ_eq_append_getElem hj, List.flatMap_append, ← List.append_assoc, List.map_append]
  congr 1
  rw [List.flatMap_cons, List.flatMap_nil, List.append_nil, List.map_map, List.map_map]
  refine List.map_congr_left (fun v _ => ?_)
  exact (strW_cons _ v).symm
theorem tk_l1 {R : List S31} {i x8 : Int} {acc : List ByteArray} {T : List ByteArray} {c t : Int} {r : List ByteArray} (hT : ∀ s ∈ T, s.size ≤ 1000000) (hl : acc.length + T.length ≤ 1000000)
    (hn : Ev (fun k => manteletref14_Taken.l0 k R i 100000 (acc ++ T.map (fun s => strOfNums [c] ++ s)) (wrap64 (x8 + 1))) r) :
    ∀ (d m : Nat), m + d = T.length → Ev (fun k => manteletref14_Taken.l1 k R i 100000 (acc ++ (T.take m).map (fun s => strOfNums [c] ++ s)) x8 T (m : Int) c t) r
  | 0, m, hd => by
    refine Ev.step (fun k => ?_) hn
    simp only [manteletref14_Taken.l1]
    rw [if_neg (by omega), List.take_of_length_le (by omega)]
  | d + 1, m, hd => by
    have hm : m < T.length := by omega
    have ih := tk_l1 (t := t) hT hl hn d (m + 1) (by omega)
    have hs := hT _ (List.getElem_mem hm)
    have hlen : (acc ++ (T.take m).map (fun s => strOfNums [c] ++ s)).length = acc.length + m := by rw [List.length_append, List.length_map, List.length_take]; omega
    have h1 : (strOfNums [c]).size = 1 := by rw [strOfNums_size]; rfl
    refine Ev.step (fun k => ?_) ih
    simp only [manteletref14_Taken.l1]
    rw [if_pos (by omega), Option.bind_some, if_pos (by omega), rdS T m hm, if_pos (by rw [h1]; omega), if_pos (by rw [hlen]; omega), w64 (by omega) (by omega), List.append_assoc, List.take_succ_eq_append_getElem hm, List.map_append, show ((m : Int) + 1) = ((m + 1 : Nat) : Int) from by omega]
    rfl
theorem tk_l0 (h : Daw.Good b) (hlen : b.length ≤ 1000000) (hc : ∀ j, j < b.length → Daw.cnt b j ≤ 100000) (i : Nat) (hi : i < b.length) (hf : b[i].2.length ≤ 1000000) (IH : ∀ j, j < i → Ev (fun k => manteletref14_Taken.f k (b.map toS) (j : Int) 100000) ((wl b j).map strW)) :
    ∀ (d j : Nat), j + d = b[i].2.length → Ev (fun k => manteletref14_Taken.l0 k (b.map toS) (i : Int) 100000 (tkAcc b i j hi) (j : Int)) ((wl b i).map strW)
  | 0, j, hd => by
    have hl1 : (toS b[i]).f1.length = b[i].2.length := by simp [toS]
    refine Ev.step (f := fun k => manteletref14_Taken.j2 k (b.map toS) (i : Int) 100000 (tkAcc b i j hi) (j : Int) false) (fun k => ?_) (Ev.step (f := fun _ => some (tkAcc b i j hi)) (fun k => ?_) (by rw [tkAcc_all h i hi j (by omega)]; exact Ev.now _))
    · simp only [manteletref14_Taken.l0]
      rw [if_pos (by omega), if_pos (by rw [List.length_map]; omega), rdS31 _ i (by rw [List.length_map]; exact hi), toS_get i hi, if_neg (by rw [hl1]; omega)]
    · simp only [manteletref14_Taken.j2]
      rw [if_neg (by decide)]
  | d + 1, j, hd => by
    have hj : j < b[i].2.length := by omega
    have hl1 : (toS b[i]).f1.length = b[i].2.length := by simp [toS]
    have hlow := (h.2 i _ (List.getElem?_eq_getElem hi)).1.1 _ (List.getElem_mem hj)
    have ih := tk_l0 h hlen hc i hi hf IH d (j + 1) (by omega)
    rw [tkAcc_succ i hi j hj] at ih
    have hge : rd_T33 (toS b[i]).f1 (j : Int) = toE b[i].2[j] := by
      rw [rdS33 _ j (by rw [hl1]; exact hj)]; simp [toS]
    have ha := tkAcc_len h i hi j
    have hci := hc i hi
    have hce := hc b[i].2[j].2 (by omega)
    have hTl : ((wl b b[i].2[j].2).map strW).length = Daw.cnt b b[i].2[j].2 := by rw [List.length_map]; rfl
    have e1 := tk_l1 (R := b.map toS) (i := (i : Int)) (x8 := (j : Int)) (acc := tkAcc b i j hi) (T := (wl b b[i].2[j].2).map strW) (c := (b[i].2[j].1 : Int)) (t := (b[i].2[j].2 : Int)) (fun s hs => by
      obtain ⟨v, hv, rfl⟩ := List.mem_map.1 hs
      have := wl_len h _ _ (Nat.lt_succ_self _) (by omega) v hv
      rw [strW_size]; omega) (by rw [hTl]; omega) (by rw [w64 (by omega) (by omega), show ((j : Int) + 1) = ((j + 1 : Nat) : Int) from by omega]; exact ih) _ 0 (Nat.zero_add _)
    rw [List.take_zero, List.map_nil, List.append_nil] at e1
    refine Ev.step (f := fun k => manteletref14_Taken.j2 k (b.map toS) (i : Int) 100000 (tkAcc b i j hi) (j : Int) true) (fun k => ?_) ?_
    · simp only [manteletref14_Taken.l0]
      rw [if_pos (by omega), if_pos (by rw [List.length_map]; omega), rdS31 _ i (by rw [List.length_map]; exact hi), toS_get i hi, if_pos (by rw [hl1]; omega), decide_eq_true (by omega)]
    · apply Ev.step
      · intro k
        simp only [manteletref14_Taken.j2]
        rw [if_pos trivial, if_pos (by omega), if_pos (by rw [List.length_map]; omega), if_pos (by omega), rdS31 _ i (by rw [List.length_map]; exact hi), toS_get i hi, if_pos (by rw [hl1]; omega), hge, toE_f1, toE_f0]
      · exact Ev.bind (IH _ hlow) e1
theorem taken_ev (h : Daw.Good b) (hlen : b.length ≤ 1000000) (hc : ∀ j, j < b.length → Daw.cnt b j ≤ 100000) (hf : ∀ i (hi : i < b.length), b[i].2.length ≤ 1000000) : ∀ (n i : Nat), i < n → i < b.length → Ev (fun k => manteletref14_Taken.f k (b.map toS) (i : Int) 100000) ((wl b i).map strW)
  | 0, i, hn, _ => by omega
  | n + 1, i, hn, hi => by
    have e0 := tk_l0 h hlen hc i hi (hf i hi) (fun j hj => taken_ev h hlen hc hf n j (by omega) (by omega)) b[i].2.length 0 (by omega)
    refine Ev.step (f := fun k => manteletref14_Taken.j0 k (b.map toS) (i : Int) 100000 (tkAcc b i 0 hi)) (fun k => ?_) (Ev.step (fun k => ?_) e0)
    · simp only [manteletref14_Taken.f]
      rw [if_pos (by omega), if_pos (by rw [List.length_map]; omega), rdS31 _ i (by rw [List.length_map]; exact hi), toS_get i hi]
      unfold tkAcc
      by_cases c : b[i].1 = true
      · rw [if_pos (by simpa [toS] using c), if_pos (by simp), if_pos c]; rfl
      · rw [if_neg (by simpa [toS] using c), if_neg c]; rfl
    · simp only [manteletref14_Taken.j0]; rfl
theorem add01_f {a c : Nat} (h : a + c ≤ 4611686018427387904) : manteletref01_Add.f (a : Int) (c : Int) = some (((a + c : Nat) : Int), true) := by
  unfold manteletref01_Add.f
  rw [if_neg (by omega), if_neg (by omega), u64_small (by omega) (by omega), if_neg (by omega)]
  simp
variable {cs : Nat → Nat}
theorem rc_l1 (h : Cnt b cs) (i : Nat) (hi : i < b.length) {r : List Int × Int} (hn : Ev (fun k => manteletref15_Counts.l0 k (b.map toS) (csL cs (i + 1)) ((i + 1 : Nat) : Int)) r) :
    ∀ (d j : Nat), j + d = b[i].2.length → Ev (fun k => manteletref15_Counts.l1 k (b.map toS) (csL cs i) (i : Int) ((Daw.own b[i] + ((b[i].2.take j).map fun e => cs e.2).sum : Nat) : Int) (j : Int)) r
  | 0, j, hd => by
    have hl := h.len
    have ht : b[i].2.take j = b[i].2 := List.take_of_length_le (by omega)
    have heq := h.eq i hi
    have hl1 : (toS b[i]).f1.length = b[i].2.length := by simp [toS]
    refine Ev.step (fun k => ?_) hn
    simp only [manteletref15_Counts.l1]
    rw [if_pos (by omega), if_pos (by rw [List.length_map]; omega), rdS31 _ i (by rw [List.length_map]; exact hi), toS_get i hi, if_neg (by rw [hl1]; omega), if_pos (by rw [csL_len]; omega), ht, ← heq, w64 (by omega) (by omega), csL_succ, show ((i : Int) + 1) = ((i + 1 : Nat) : Int) from by omega]
  | d + 1, j, hd => by
    have hl := h.len
    have hfw := h.few i hi
    have hj : j < b[i].2.length := by omega
    have ih := rc_l1 h i hi hn d (j + 1) (by omega)
    have hl1 : (toS b[i]).f1.length = b[i].2.length := by simp [toS]
    have hlow := h.low i hi _ (List.getElem_mem hj)
    have hle := h.le i hi
    have heq := h.eq i hi
    have s1 := sum_take_le (fun e => cs e.2) b[i].2 (j + 1)
    have s2 := sum_take_succ (fun e => cs e.2) b[i].2 j hj
    have hge : rd_T33 (toS b[i]).f1 (j : Int) = toE b[i].2[j] := by
      rw [rdS33 _ j (by rw [hl1]; exact hj)]; simp [toS]
    have hrd : rd (csL cs i) ((b[i].2[j].2 : Nat) : Int) = (cs b[i].2[j].2 : Int) := by
      have := rd_csL cs i 0 b[i].2[j].2 hlow
      simpa using this
    refine Ev.step (fun k => ?_) ih
    simp only [manteletref15_Counts.l1]
    rw [if_pos (by omega), if_pos (by rw [List.length_map]; omega), rdS31 _ i (by rw [List.length_map]; exact hi), toS_get i hi, if_pos (by rw [hl1]; omega), if_pos (by omega), hge, toE_f1, if_pos (by omega), if_pos (by rw [csL_len]; omega), hrd, add01_f (by omega), Option.bind_some, if_pos rfl, w64 (by omega) (by omega)]
    rw [s2, show ((j : Int) + 1) = ((j + 1 : Nat) : Int) from by omega, Nat.add_assoc]
theorem rc_l0 (h : Cnt b cs) : ∀ (d i : Nat), i + d = b.length → Ev (fun k => manteletref15_Counts.l0 k (b.map toS) (csL cs i) (i : Int)) (csL cs b.length, 0)
  | 0, i, hd => by
    have : i = b.length := by omega
    subst this
    refine Ev.step (f := fun _ => some (csL cs b.length, 0)) (fun k => ?_) (Ev.now _)
    simp only [manteletref15_Counts.l0]
    rw [if_neg (by rw [List.length_map]; omega)]
  | d + 1, i, hd => by
    have hi : i < b.length := by omega
    have ih := rc_l0 h d (i + 1) (by omega)
    have e1 := rc_l1 h i hi ih b[i].2.length 0 (by omega)
    rw [List.take_zero, List.map_nil, List.sum_nil, Nat.add_zero] at e1
    refine Ev.step (f := fun k => manteletref15_Counts.j1 k (b.map toS) (csL cs i) (i : Int) ((Daw.own b[i] : Nat) : Int)) (fun k => ?_) (Ev.step (fun k => ?_) e1)
    · simp only [manteletref15_Counts.l0]
      rw [if_pos (by rw [List.length_map]; omega), if_pos (by omega), rdS31 _ i (by rw [List.length_map]; exact hi), toS_get i hi]
      unfold Daw.own
      by_cases c : b[i].1 = true
      · rw [if_pos (by simpa [toS] using c), if_pos c]; rfl
      · rw [if_neg (by simpa [toS] using c), if_neg c]; rfl
    · simp only [manteletref15_Counts.j1]; rfl
theorem rc_ev (h : Cnt b cs) : Ev (fun k => manteletref15_Counts.f k (b.map toS)) (csL cs b.length, 0) := by
  have := rc_l0 h b.length 0 (by omega)
  unfold manteletref15_Counts.f
  exact this
end
theorem same15_l0 (x : List Int) (hx : x.length ≤ 4398046511104) : ∀ (d i : Nat), i + d = x.length → Ev (fun k => manteletref15_Same.l0 k x x (i : Int)) true
  | 0, i, hd => by
    refine Ev.step (f := fun _ => some true) (fun k => ?_) (Ev.now _)
    simp only [manteletref15_Same.l0]
    rw [if_neg (by omega)]
  | d + 1, i, hd => by
    refine Ev.step (fun k => ?_) (same15_l0 x hx d (i + 1) (by omega))
    simp only [manteletref15_Same.l0]
    rw [if_pos (by omega), if_pos (by omega), if_pos (by omega), if_pos trivial, w64 (by omega) (by omega), show ((i : Int) + 1) = ((i + 1 : Nat) : Int) from by omega]
theorem same15 (x : List Int) (hx : x.length ≤ 4398046511104) : Ev (fun k => manteletref15_Same.f k x x) true := by
  refine Ev.congr (fun k => ?_) (same15_l0 x hx x.length 0 (by omega))
  unfold manteletref15_Same.f
  rw [if_pos rfl]; rfl
theorem rof_l0 (v : ByteArray) (T : List ByteArray) (hT : T.length ≤ 1000000) : ∀ (d i : Nat), i + d = T.length → (∀ j (h : j < T.length), j < i → T[j] ≠ v) → Ev (fun k => manteletref15_Of.l0 k v T (i : Int)) (if Utf.nats v ∈ wordsN T then (((wordsN T).idxOf (Utf.nats v) : Nat) : Int) else 0, decide (Utf.nats v ∈ wordsN T))
  | 0, i, hd, hn => by
    have hv : Utf.nats v ∉ wordsN T := fun hm => by
      obtain ⟨x, hx, e⟩ := List.mem_map.1 hm
      obtain ⟨j, hj, e2⟩ := List.getElem_of_mem hx
      exact hn j hj (by omega) (e2.trans (nats_inj e))
    rw [if_neg hv, decide_eq_false hv]
    refine Ev.step (f := fun _ => some (0, false)) (fun k => ?_) (Ev.now _)
    simp only [manteletref15_Of.l0]
    rw [if_neg (by omega)]
  | d + 1, i, hd, hn => by
    have hi : i < T.length := by omega
    by_cases hc : T[i] = v
    · have hm : Utf.nats v ∈ wordsN T := List.mem_map_of_mem (hc ▸ List.getElem_mem hi)
      have hwl : (wordsN T).length = T.length := by unfold wordsN; simp
      have hat : ∀ j (hj : j < (wordsN T).length), (wordsN T)[j] = Utf.nats (T[j]'(by omega)) := fun j hj => by simp [wordsN]
      have hix : (wordsN T).idxOf (Utf.nats v) = i := by
        have h1 : (wordsN T).idxOf (Utf.nats v) < (wordsN T).length := List.idxOf_lt_length_of_mem hm
        have h2 : (wordsN T)[(wordsN T).idxOf (Utf.nats v)] = Utf.nats v := List.getElem_idxOf h1
        rcases Nat.lt_trichotomy ((wordsN T).idxOf (Utf.nats v)) i with h4 | h4 | h4
        · rw [hat _ h1] at h2
          exact absurd (nats_inj h2) (hn _ (by omega) h4)
        · exact h4
        · have := List.not_of_lt_findIdx (p := fun y => y == Utf.nats v) (xs := wordsN T) (i := i) h4
          rw [hat i (by omega), hc] at this
          simp at this
      rw [if_pos hm, decide_eq_true hm, hix]
      refine Ev.step (f := fun _ => some ((i : Int), true)) (fun k => ?_) (Ev.now _)
      simp only [manteletref15_Of.l0]
      rw [if_pos (by omega), if_pos (by omega), rdS T i hi, if_pos (by rw [hc])]
    · have ih := rof_l0 v T hT d (i + 1) (by omega) (fun j h hj => by
        by_cases hji : j = i
        · subst hji; exact hc
        · exact hn j h (by omega))
      refine Ev.step (fun k => ?_) ih
      simp only [manteletref15_Of.l0]
      rw [if_pos (by omega), if_pos (by omega), rdS T i hi, if_neg (fun h => hc (toList_inj2 h)), w64 (by omega) (by omega), show ((i : Int) + 1) = ((i + 1 : Nat) : Int) from by omega]
namespace Few
variable {l : List ByteArray} (h : Few l)
include h
theorem taken : Ev (fun k => manteletref14_Taken.f k ((build (wordsN l)).map toS) (wrap64 ((((build (wordsN l)).map toS).length : Int) - 1)) 100000) l := by
  have hp := h.pos
  have hs := h.small
  have hw : wrap64 ((((build (wordsN l)).map toS).length : Int) - 1) = (((build (wordsN l)).length - 1 : Nat) : Int) := by
    rw [List.length_map, w64 (by omega) (by omega)]; omega
  rw [hw]
  by_cases hl : l = []
  · subst hl
    rw [show wordsN [] = [] from rfl, build_nil]
    have e : ([((false, []) : DS)].map toS) = [(⟨false, []⟩ : S31)] := rfl
    rw [e]
    refine Ev.step (f := fun k => manteletref14_Taken.j0 k [(⟨false, []⟩ : S31)] 0 100000 []) (fun k => ?_) (Ev.step (f := fun k => manteletref14_Taken.l0 k [(⟨false, []⟩ : S31)] 0 100000 [] 0) (fun k => ?_) (Ev.step (f := fun k => manteletref14_Taken.j2 k [(⟨false, []⟩ : S31)] 0 100000 [] 0 false) (fun k => ?_) (Ev.step (f := fun _ => some []) (fun k => ?_) (Ev.now _))))
    · simp only [manteletref14_Taken.f]; rfl
    · simp only [manteletref14_Taken.j0]
    · simp only [manteletref14_Taken.l0]; rfl
    · simp only [manteletref14_Taken.j2]; rw [if_neg (by decide)]
  · have K := h.known hl
    have hne : wordsN l ≠ [] := by unfold wordsN; simpa using hl
    obtain ⟨g1, g2, g3, g4⟩ := build_good l h.ne h.rise
    have hwl : (wordsN l).length = l.length := by unfold wordsN; simp
    have := taken_ev K.good (by omega) (fun j hj => by have := cnt_le (wordsN l) (words_rise h.ne h.rise) hne hj; have := h.n; omega) (fun i hi => by have := (g2 i _ (List.getElem?_eq_getElem hi)).2.2.1; omega) _ ((build (wordsN l)).length - 1) (Nat.lt_succ_self _) (by omega)
    rw [h.root hl] at this
    have e : (wordsN l).map strW = l := by
      unfold wordsN
      rw [List.map_map]
      exact (List.map_congr_left (fun s _ => strW_nats s)).trans (List.map_id _)
    rwa [e] at this
/-- index.Of, for all words. -/
theorem of_all (v : ByteArray) (hv : v.size ≤ 140737488355328) : Ev (fun k => index_Of.f k ((build (wordsN l)).map toS) v) (if Utf.nats v ∈ wordsN l then (((wordsN l).idxOf (Utf.nats v) : Nat) : Int) else 0, decide (Utf.nats v ∈ wordsN l)) := by
  by_cases hl : l = []
  · subst hl
    have hm := h.may
    have hcn := h.cnts
    have hh := has_built [] h.ne h.rise (by simp) v hv
    rw [show wordsN [] = [] from rfl, build_nil] at hm hh hcn ⊢
    obtain ⟨cs, c1, c2, c3⟩ := hcn
    unfold index_Of.f
    refine Ev.bind c3 (Ev.congr (f := fun k => index_Of.j0 k ([((false, []) : DS)].map toS) v (csL cs 1) true) (fun k => ?_) (Ev.step (f := fun _ => some (0, false)) (fun k => by simp only [index_Of.j0]; rw [if_pos trivial]) (by simp; exact Ev.now _)))
    rw [if_pos rfl, hh, Option.bind_some]; rfl
  · exact h.of hl v hv
theorem rof (v : ByteArray) : Ev (fun k => manteletref15_Of.f k ((build (wordsN l)).map toS) v) (if Utf.nats v ∈ wordsN l then (((wordsN l).idxOf (Utf.nats v) : Nat) : Int) else 0, decide (Utf.nats v ∈ wordsN l)) := by
  unfold manteletref15_Of.f
  exact Ev.bind h.taken (rof_l0 v l (by have := h.n; omega) l.length 0 (by omega) (fun j _ hj => absurd hj (by omega)))
theorem word_all (n : Int) (hn : -9223372036854775808 ≤ n ∧ n < 9223372036854775808) : ∃ x : ByteArray × Bool, Ev (fun k => index_Word.f k ((build (wordsN l)).map toS) n) x ∧ Ev (fun k => manteletref15_Word.f k ((build (wordsN l)).map toS) n) x := by
  by_cases c : 0 ≤ n ∧ n < (l.length : Int)
  · obtain ⟨m, rfl⟩ : ∃ m : Nat, n = (m : Int) := ⟨n.toNat, by omega⟩
    have hm : m < l.length := by omega
    refine ⟨(l[m], true), h.word m hm, ?_⟩
    unfold manteletref15_Word.f
    refine Ev.bind h.taken (Ev.congr (fun k => ?_) (Ev.now _))
    rw [if_neg (by omega), if_neg (by omega), if_pos (by omega), if_pos (by omega), rdS l m hm]
  · refine ⟨((⟨#[]⟩ : ByteArray), false), h.word_no n hn (by omega), ?_⟩
    unfold manteletref15_Word.f
    refine Ev.bind h.taken (Ev.congr (fun k => ?_) (Ev.now _))
    by_cases c0 : n < 0
    · rw [if_pos c0]
    · rw [if_neg c0, if_pos (by omega)]
end Few
theorem wf_i64t {x : Int} (h : (Lit.int .i64 x).wf = true) : -9223372036854775808 ≤ x ∧ x < 9223372036854775808 := by
  simp only [Lit.wf, IntKind.min, IntKind.max, IntKind.signed, IntKind.bits, Bool.and_eq_true, decide_eq_true_eq] at h
  simp at h; omega
theorem IndexTells_walk (A0 : Option Addr) (c0 : Nat) (l0 : List ByteArray) (a1 : ByteArray) (a2 : Int) (w : World) (hC : Kd.C Kd.string w A0 l0.length l0) (hc : l0.length ≤ c0) (hwf : ∀ x ∈ l0, x.size ≤ maxLen) (w1 : a1.size ≤ 140737488351232) (w2 : (Lit.int .i64 a2).wf = true) :
    Calls Try.prog 6 #[.slice A0 l0.length c0, .string a1, .int .i64 a2] w fun e w' => e = .returned (.bool true) ∧ Below w.heap.size w w' := by
  obtain ⟨b, hb1, hb2⟩ := few15 l0
  have hEv : Ev (fun k => manteletlaw15_IndexTells.f k l0 a1 a2) true := by
    unfold manteletlaw15_IndexTells.f
    refine Ev.bind shown15 (Ev.bind hb1 ?_)
    cases b with
    | false => exact Ev.congr (fun k => by rw [if_neg (by decide)]) (Ev.now true)
    | true =>
      obtain ⟨f1, f2⟩ := hb2 rfl
      have hall := (few_bytes15 l0 f1 f2).2
      by_cases c1 : [] ∈ wordsN l0
      · have hb : manteletref14_Build.f l0 = some ([], 1) := by unfold manteletref14_Build.f; rw [if_pos (by omega)]; unfold refR; rw [if_pos c1]
        refine Ev.congr (fun k => ?_) (Ev.now true)
        rw [if_pos rfl, hb, Option.bind_some, if_neg (by decide)]
      · by_cases c2 : (wordsN l0).Pairwise (· < ·)
        · have hf : Few l0 := ⟨f1, f2, c1, c2⟩
          obtain ⟨cs, k1, k2, k3⟩ := hf.cnts
          obtain ⟨x, x1, x2⟩ := hf.word_all a2 (wf_i64t w2)
          have hs := same15 (csL cs (build (wordsN l0)).length) (by rw [csL_len]; have := hf.small; omega)
          simp only [hf.made, Option.bind_some, if_true]
          refine Ev.bind k3 (Ev.bind (rc_ev k1) (Ev.bind (hf.of_all a1 (by omega)) (Ev.bind (hf.rof a1) (Ev.bind x1 (Ev.bind x2 (Ev.bind hs (Ev.congr (fun k => ?_) (Ev.now true))))))))
          simp
        · have hb : manteletref14_Build.f l0 = some ([], 9) := by unfold manteletref14_Build.f; rw [if_pos (by omega)]; unfold refR; rw [if_neg c1, if_neg c2]
          refine Ev.congr (fun k => ?_) (Ev.now true)
          rw [if_pos rfl, hb, Option.bind_some, if_neg (by decide)]
  obtain ⟨k, hk⟩ := hEv.rounds
  exact manteletlaw15_IndexTells.calls k A0 c0 l0 a1 a2 true w hC hc hk
end Go.Proofs.Ytebdcblchjhmpaa.K

namespace Go.Proofs.Ytebdcblchjhmpaa.K
open Go.RowKit Go.Proofs.YtebdcblchjhmpaaW.PrintWords Go.Proofs.YtebdcblchjhmpaaW.PrintLast Go.Proofs.YtebdcblchjhmpaaW.PrintMore Go.Proofs.Ytebdcblchjhmpaa
attribute [local go_sem] max2_int min2_int max_two min_two max_three min_three max_four min_four
set_option linter.unusedVariables false
set_option linter.unusedSimpArgs false
theorem open_strsC {H : Type} {enc : TypeId × Value → H} {P : Program} {w : World} {base : Nat} {held : Bool} {t e : TypeId} {a : Option Addr} {len cap : Nat} {d : DataW H} {ps : List MemPlace}
    (ht : P.underlying t = some (.slice e)) (he : P.underlying e = some .string) (ce : P.cellsOf e = 1)
    (h : DataW.Trod enc P w base (fun _ => true) held t (.slice a len cap) d ps) :
    ∃ l : List ByteArray, len = l.length ∧ l.length ≤ cap ∧ l.length ≤ maxLen ∧ Kd.C Kd.string w a l.length l ∧ ∀ x ∈ l, x.size ≤ maxLen := by
  obtain ⟨fuel, hf⟩ := h
  rcases Go.ChangeShapes.open_strings ht he ce hf with ⟨hcs, _⟩ | ⟨a', len', cap', ss, hcs, hb, hl, hm, hsl, _, hx, hs⟩
  · simp [Value.cells] at hcs
    obtain ⟨rfl, rfl, rfl⟩ := hcs
    exact ⟨[], rfl, Nat.le_refl _, Nat.zero_le _, ⟨rfl, Nat.zero_le _, fun h => absurd h (by simp)⟩, by simp⟩
  · simp [Value.cells] at hcs
    obtain ⟨rfl, rfl, rfl⟩ := hcs
    simp only [if_true] at hsl
    have hlen : (ss.take len).length = len := by rw [List.length_take]; omega
    refine ⟨ss.take len, hlen.symm, by omega, by omega, ?_, fun x hx => hs x (List.mem_of_mem_take hx)⟩
    refine Kd.C_of_reads (d := ByteArray.empty) (h1 := fun _ => rfl) ⟨rfl, by rw [hlen]; unfold maxLen at hm; omega, fun _ => ⟨a', rfl, fun j hj => ?_⟩⟩
    rw [hlen] at hj
    rw [hx j (by omega)]
    congr 2
    rw [List.getD_eq_getElem?_getD, List.getD_eq_getElem?_getD, List.getElem?_take, if_pos hj]
end Go.Proofs.Ytebdcblchjhmpaa.K

namespace Go.Proofs.Ytebdcblchjhmpaa.indexTells
open Go.ChangeShapes Go.WideShapes Go.ChangeAt Go.RowKit
open Go.ChangeMaps (open_string shut_string)
set_option linter.unusedVariables false
theorem own : ownKnob Try.prog.godebug = none := by kernel_rfl
theorem laidOut : laidOutB Try.prog = true := by kernel_rfl
def IsRow (k : IntKind) (w : World) (a : Option Addr) (len cap : Nat) (zs : List Int) : Prop :=
  (a = none ∧ len = 0 ∧ cap = 0 ∧ zs = []) ∨
  ∃ x, a = some x ∧ len ≤ cap ∧ cap ≤ maxLen ∧ zs.length = cap ∧ (∀ i, i < zs.length → w.cell? (x.add i) = some (.int k (zs.getD i 0))) ∧ ∀ n ∈ zs, (Lit.int k n).wf = true
set_option maxRecDepth 100000 in
theorem lifted (os : Os) (started : os.Started) (H : Type) (enc : TypeId × Value → H) :
    ReturnsInHanded {} Try.checked os 6 .any (Rows.indexTellsSpec.pre6 enc Try.prog Try.f6 Rows.indexTellsRow.domain false) (Rows.indexTellsSpec.post enc Try.prog Try.f6 false true false false) := by
  refine returnsInHanded_of_change_sized (C := Try.checked) own started (by kernel_rfl) Try.func6
    (ChangeSpec.witness6 (enc := enc) (C := Try.checked) false ⟨#[], #[.slice none 0 0, .string ByteArray.empty, .int .i64 0], []⟩ 8 (by kernel_rfl) (by kernel_rfl) (by kernel_rfl) (by kernel_rfl)) ?_
  intro W base args ds gs before hval0 hW hcnd hsz0 _
  have hsz : (DataW.weightsEach Try.prog (Try.f6.params.toList ++ Rows.indexTellsSpec.plain.varTypes Try.prog) (ds ++ gs)).all (· ≤ reachBytes) = true := hsz0
  have hval : ∀ (j : Nat) t v, Try.f6.params[j]? = some t → args[j]? = some v → Value.okWide Try.prog W .any base t v := hval0
  have hW' := hW
  obtain ⟨p, q, hA0, hV, rfl, hfz, hnd⟩ := hW
  have hA : DataW.TrodAll enc Try.prog W 0 (fun _ => true) true Try.f6.params.toList args.toList ds p := hA0
  rw [Try.params6] at hA hval hsz
  obtain ⟨v0, vs0, d0, ds0, p0, q0, hargs, rfl, rfl, h0, r0⟩ := trodAll_cons hA
  obtain ⟨v1, vs1, d1, ds1, p1, q1, rfl, rfl, rfl, h1, r1⟩ := trodAll_cons r0
  obtain ⟨v2, vs2, d2, ds2, p2, q2, rfl, rfl, rfl, h2, r2⟩ := trodAll_cons r1
  obtain ⟨rfl, rfl, rfl⟩ := trodAll_nil r2
  obtain rfl : args = #[v0, v1, v2] := by cases args; simp_all
  obtain ⟨rfl, rfl⟩ := trodVars_none hV
  obtain ⟨a0, len0, cap0, rfl⟩ := okWide_slice Try.underlying22 (hval 0 22 v0 rfl rfl)
  have k0 := h0
  have lt0 : ∀ x ∈ p0, x.block < W.heap.size := by obtain ⟨m, hm⟩ := k0; exact DataW.trod_lt m _ _ _ hm
  obtain ⟨l0, rfl, hc0, hm0, hC0, hw0⟩ := K.open_strsC Try.underlying22 Try.underlying9 (by kernel_rfl) h0
  obtain ⟨a1, rfl, rfl, rfl, y1⟩ := open_string Try.underlying9 (hval 1 9 v1 rfl rfl) h1
  have w1 : a1.size ≤ 140737488351232 := by
    have z := sized_string hsz (j := 1) (t := 9) rfl rfl
    rw [Array.length_toList] at z
    exact z
  obtain ⟨a2, rfl, rfl, rfl, w2⟩ := open_int Try.underlying3 (hval 2 3 v2 rfl rfl) h2
  clear hA0 hval0 hsz0 hsz
  refine (K.IndexTells_walk a0 cap0 l0 a1 a2 W hC0 hc0 hw0 w1 w2).mono fun e W' ⟨he, bel⟩ => ?_
  subst he
  exact ⟨_, rfl, _, _, _, [], _, [], hW', trodAll_mk1 (shut_bool Try.underlying4 _), (trodAll_cons_mk (Below.trod laidOut (by kernel_rfl) (of_decide_eq_true (by kernel_rfl)) k0 bel lt0) (trodAll_cons_mk (shut_string Try.underlying9 y1) (trodAll_cons_mk (shut_int Try.underlying3 w2) trodAll_mk0))), rfl, bel.frame _, fun h => by cases h⟩
theorem over : Rows.indexTellsRow.holds Try.pinned (OpenSpec.ofChange Rows.indexTellsSpec) :=
  OpenClaim.holds_of_wide 6 Try.f6 rfl rfl rfl rfl rfl rfl rfl ⟨rfl, rfl, rfl, rfl, rfl⟩ rfl rfl rfl rfl rfl (by kernel_rfl) Try.func6 (by kernel_rfl)
    (of_decide_eq_true (by kernel_rfl)) (by unfold Func.isWrapper; first | (rw [if_pos (by decide +kernel)]; kernel_rfl) | (rw [if_neg (by decide +kernel)]; exact ⟨rfl, rfl⟩))
    (fun os started H enc _ => lifted os started H enc)
theorem proved : Rows.IndexTellsSaid := over
#print axioms proved
end Go.Proofs.Ytebdcblchjhmpaa.indexTells
namespace Go.Proofs.Ytebdcblchjhmpaa
/-- The row, under a short name, for the claim. -/
theorem indexTells_holds : Rows.IndexTellsSaid := indexTells.proved
end Go.Proofs.Ytebdcblchjhmpaa

