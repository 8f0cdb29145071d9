/- IndexMany: of states each of which leads twice to the one below it from 62 on too many words are taken; up to there they are told. (The texts that the proof is made of, one behind the other: part 14 of 14.) -/
import Derived.Test.YtebdcblchjhmpaaProg
import Derived.Below
import Derived.Deep.Draws
import Derived.Deep.AppendLies
import Derived.Maps.AppendAt
import Derived.OwnWalk
import Derived.Laws.BytesArg
import Derived.Laws.MakeOwn
import Derived.Laws.OwnMore
import Derived.Deep.OwnRows
import Derived.Tactics
import Derived.Lib.ConvBytes
import Derived.Laws.Slices
import Derived.WalkKit
import Derived.KernelRfl
import Derived.RowKit3
import Derived.Deep.LoopGhost
import Derived.Deep.QuietTactic
import Derived.BigQuiet
import Derived.WideLaws
import Derived.Deep.DeepCutAuto
import Derived.Deep.CutBlock
import Derived.Deep.RegionHeld3
import Derived.Laws.Rows
import Derived.Lib.AppendStr
import Derived.ArgAppend
import Derived.Laws.IdiomCopy
import Derived.OrdersHeld
import Derived.Laws.BitsLemmas
import Derived.RowKit
import Derived.Lib.OthersKept
import Derived.WalkSmall
import Derived.Deep.RegionLaw
import Derived.BigRegion
import Derived.Test.YtebdcblchjhmpaaRows
import Derived.ProofKit
import Derived.OpenShut
import Derived.ShutString
import Derived.ChangeOld
import Derived.SizedLaws
import Derived.Test.YtebdcblchjhmpaaZIndexManya
import Derived.Test.YtebdcblchjhmpaaZIndexManyb
import Derived.Test.YtebdcblchjhmpaaZIndexManyc
import Derived.Test.YtebdcblchjhmpaaZIndexManyd
import Derived.Test.YtebdcblchjhmpaaZIndexManye
import Derived.Test.YtebdcblchjhmpaaZIndexManyf
import Derived.Test.YtebdcblchjhmpaaZIndexManyg
import Derived.Test.YtebdcblchjhmpaaZIndexManyh
import Derived.Test.YtebdcblchjhmpaaZIndexManyi
import Derived.Test.YtebdcblchjhmpaaZIndexManyj
import Derived.Test.YtebdcblchjhmpaaZIndexManyk
import Derived.Test.YtebdcblchjhmpaaZIndexManyl
import Derived.Test.YtebdcblchjhmpaaZIndexManym
namespace Go.Proofs.Ytebdcblchjhmpaa.K
open Go.RowKit Go.Proofs.YtebdcblchjhmpaaW.PrintWords Go.Proofs.YtebdcblchjhmpaaW.PrintLast Go.Proofs.YtebdcblchjhmpaaW.PrintMore Go.Proofs.Ytebdcblchjhmpaa
attribute [local go_sem] max2_int min2_int max_two min_two max_three min_three max_four min_four
set_option linter.unusedVariables false
set_option linter.unusedSimpArgs false
open Go.Proofs.Ytebdcblchjhmpaa.PDk Go.Proofs.Ytebdcblchjhmpaa.PDm Go.Proofs.Ytebdcblchjhmpaa.PIx Go.Proofs.Ytebdcblchjhmpaa.PSh14 Go.Proofs.Ytebdcblchjhmpaa.Daw
/-- States that are good, of bytes, the last one not final, numbered as they are left. -/
structure Auto (b : List DS) : Prop where
  good : Daw.Good b
  byt : ∀ (i : Nat) (s : DS), b[i]? = some s → s.2.length ≤ 256 ∧ Byt s
  pos : 1 ≤ b.length
  len : b.length ≤ 1000000
  root : ∃ s, b[b.length - 1]? = some s ∧ s.1 = false
  vis : ∃ k, vis b k (b.length - 1) 0 = some b.length
theorem ok_auto (b : List DS) (g : Auto b) : okB (b.map toS) = true ∧ lowB (b.map toS) = true ∧ 0 < (b.map toS).length := by
  have g2 := fun (i : Nat) (s : DS) (hs : b[i]? = some s) => (⟨(g.good.2 i s hs).1, (g.good.2 i s hs).2, (g.byt i s hs).1, (g.byt i s hs).2⟩ : Row i s ∧ Alive s ∧ s.2.length ≤ 256 ∧ Byt s)
  have g3 := g.pos
  have g4 := g.len
  refine ⟨(okB_iff _).2 ⟨by rw [List.length_map]; omega, fun s hs => ?_⟩, (lowB_iff _).2 (fun n hn e he => ?_), by rw [List.length_map]; omega⟩
  · obtain ⟨t, ht, rfl⟩ := List.mem_map.1 hs
    obtain ⟨i, hi, rfl⟩ := List.getElem_of_mem ht
    obtain ⟨_, _, k3, k4⟩ := g2 i _ (List.getElem?_eq_getElem hi)
    refine ⟨by show (_ : List _).length ≤ _; unfold toS; rw [List.length_map]; omega, fun e he => ?_⟩
    unfold toS at he
    obtain ⟨f, hf, rfl⟩ := List.mem_map.1 he
    have := k4 f hf
    exact ⟨by show (0 : Int) ≤ (f.1 : Int); omega, by show (f.1 : Int) < 256; omega⟩
  · rw [List.length_map] at hn
    rw [rdB _ n hn] at he
    obtain ⟨k1, _⟩ := g2 n _ (List.getElem?_eq_getElem hn)
    unfold toS at he
    obtain ⟨f, hf, rfl⟩ := List.mem_map.1 he
    have := k1.1 f hf
    exact ⟨by show (0 : Int) ≤ (f.2 : Int); omega, by show (f.2 : Int) < (n : Int); omega⟩
theorem plain_auto (b : List DS) (g : Auto b) : plainB (b.map toS) = true := by
  have g2 := fun (i : Nat) (s : DS) (hs : b[i]? = some s) => (⟨(g.good.2 i s hs).1, (g.good.2 i s hs).2, (g.byt i s hs).1, (g.byt i s hs).2⟩ : Row i s ∧ Alive s ∧ s.2.length ≤ 256 ∧ Byt s)
  have g3 := g.pos
  have g4 := g.len
  unfold plainB
  rw [Bool.and_eq_true, decide_eq_true_eq, List.length_map]
  refine ⟨List.all_eq_true.2 (fun i hi => ?_), by omega⟩
  have hi : i < b.length := by rw [List.mem_range'_1] at hi; omega
  obtain ⟨k1, k2, k3, k4⟩ := g2 i _ (List.getElem?_eq_getElem hi)
  unfold stateB
  rw [rdB _ i hi, Bool.and_eq_true]
  constructor
  · refine List.all_eq_true.2 (fun j hj => ?_)
    have hjl : j < (b[i].2.map toE).length := by
      rw [List.mem_range'_1] at hj
      have h2 := hj.2
      have e0 : (toS b[i]).f1.length = (b[i].2.map toE).length := rfl
      rw [e0] at h2
      omega
    have hjl2 : j < b[i].2.length := by rw [List.length_map] at hjl; exact hjl
    have e1 : rd_T33 (toS b[i]).f1 (j : Int) = toE (b[i].2[j]) := by
      unfold toS
      rw [rd33 _ j hjl, List.getElem_map]
    unfold edgeB
    rw [e1]
    have hlt := k1.1 _ (List.getElem_mem hjl2)
    rw [Bool.and_eq_true, Bool.and_eq_true, decide_eq_true_eq, decide_eq_true_eq, Bool.or_eq_true, decide_eq_true_eq, decide_eq_true_eq]
    refine ⟨⟨?_, ?_⟩, ?_⟩
    · show (0 : Int) ≤ ((b[i].2[j].2 : Nat) : Int); omega
    · show ((b[i].2[j].2 : Nat) : Int) < (i : Int); omega
    · cases j with
      | zero => exact Or.inl rfl
      | succ j =>
        right
        have hr := rising_get _ k1.2 j hjl2
        have e2 : rd_T33 (toS b[i]).f1 ((j + 1 - 1 : Nat) : Int) = toE (b[i].2[j]) := by
          rw [Nat.add_sub_cancel]
          unfold toS
          rw [rd33 _ j (by rw [List.length_map]; omega), List.getElem_map]
        rw [e2]
        show ((b[i].2[j].1 : Nat) : Int) < ((b[i].2[j + 1].1 : Nat) : Int)
        omega
  · unfold useB
    rw [Bool.or_eq_true, Bool.or_eq_true, decide_eq_true_eq, List.length_map]
    left
    rcases k2 with k | k
    · exact Or.inl k
    · right
      unfold toS
      simpa using k
theorem ranked_auto (b : List DS) (g : Auto b) : (rk (b.map toS) b.length (b.length - 1) 0).1 = true := by
  have hk := g.vis
  obtain ⟨k, hk⟩ := hk
  obtain ⟨o1, o2, o3⟩ := ok_auto b g
  rw [List.length_map] at o3
  have h1 := vis_le b [] (k' := k + b.length + 1) (by omega) hk
  rw [List.append_nil] at h1
  have h2 := vis_rk _ _ _ _ _ h1
  rw [rk_fuel ((lowB_iff _).1 o2) (b.length - 1) b.length (k + b.length + 1) 0 (by rw [List.length_map]; omega) (by omega) (by omega), h2]
theorem may_auto (b : List DS) (g : Auto b) : daw_May.f (b.map toS) = some true := by
  have g1 := g.good.1
  have g3 := g.pos
  obtain ⟨s, hs1, hs2⟩ := g.root
  obtain ⟨hn, hse⟩ := List.getElem?_eq_some_iff.1 hs1
  unfold daw_May.f
  rw [if_pos (ok_auto b g).1]
  unfold mayB
  rw [plain_auto b g, List.length_map, ranked_auto b g, show ((b.length : Nat) : Int) - 1 = ((b.length - 1 : Nat) : Int) from by omega, rdB _ _ hn, hse]
  have e : (b.map toS).map ofS = b := by
    rw [List.map_map]
    exact (List.map_congr_left (fun s _ => ofS_toS s)).trans (List.map_id _)
  rw [e, decide_eq_true g1]
  show some (true && true && !s.1 && true) = some true
  rw [hs2]; rfl
theorem has_auto (b : List DS) (g : Auto b) (v : ByteArray) (hv : v.size ≤ 140737488355328) : daw_Has.f (b.map toS) v = some (decide (Utf.nats v ∈ wl b (b.length - 1))) := by
  have g3 := g.pos
  have g4 := g.len
  unfold daw_Has.f
  rw [if_pos ⟨by rw [List.length_map]; omega, hv⟩, List.length_map]
  have hg : ∀ (i : Nat) (s : DS), b[i]? = some s → ∀ e ∈ s.2, e.2 < b.length := fun i s hs e he => by
    have := (g.good.2 i s hs).1.1 e he
    have := (List.getElem?_eq_some_iff.1 hs).1
    omega
  have e1 : ((b.length : Nat) : Int) - 1 = ((b.length - 1 : Nat) : Int) := by omega
  have hm := mem_wl g.good (i := b.length - 1) (by omega) (Utf.nats v)
  rw [e1, has_acc hg _ _ (by omega)]
  congr 1
  rw [Bool.eq_iff_iff, decide_eq_true_eq]
  exact hm.symm
structure Cg (b : List DS) (cs : Nat → Nat) : Prop where
  low : ∀ i (h : i < b.length), ∀ e ∈ b[i].2, e.2 < i
  eq : ∀ i (h : i < b.length), cs i = Daw.own b[i] + (b[i].2.map fun e => cs e.2).sum
  few : ∀ i (h : i < b.length), b[i].2.length ≤ 8796093022208
  len : b.length ≤ 4398046511104
section
variable {b : List DS} {cs : Nat → Nat}
theorem add_over {a c : Nat} (ha : a ≤ 4611686018427387904) (hc : c ≤ 4611686018427387904) (h : 4611686018427387904 < a + c) : num_Add.f (a : Int) (c : Int) = some (0, false) := by
  unfold num_Add.f
  rw [if_neg (by omega), u64_small (x := 4611686018427387904 - (a : Int)) (by omega) (by omega), if_pos (by omega)]
theorem cg_l1 (h : Cg b cs) (i : Nat) (hi : i < b.length) (hp : ∀ j, j < i → cs j ≤ 4611686018427387904) {r : List Int × Int} (hn : cs i ≤ 4611686018427387904 → Ev (fun k => index_Counts.l0 k (b.map toS) (csL cs (i + 1) ++ List.replicate (b.length - (i + 1)) 0) (b.length : Int) ((i + 1 : Nat) : Int)) r) (ho : ¬ cs i ≤ 4611686018427387904 → r = ([], 5)) :
    ∀ (d j : Nat), j + d = b[i].2.length → Daw.own b[i] + ((b[i].2.take j).map fun e => cs e.2).sum ≤ 4611686018427387904 → Ev (fun k => index_Counts.l1 k (b.map toS) (csL cs i ++ List.replicate (b.length - i) 0) (i : Int) ((Daw.own b[i] + ((b[i].2.take j).map fun e => cs e.2).sum : Nat) : Int) (b.length : Int) (i : Int) (toS b[i]).f1 ((toS b[i]).f1.length : Int) (j : Int)) r
  | 0, j, hd, hq => by
    have hl := h.len
    have hj : b[i].2.take j = b[i].2 := List.take_of_length_le (by omega)
    have he : (toS b[i]).f1.length = b[i].2.length := by simp [toS]
    rw [hj, ← h.eq i hi] at hq ⊢
    refine Ev.step (fun k => ?_) (hn hq)
    simp only [index_Counts.l1]
    rw [if_neg (by omega), if_pos (by omega), if_pos (by rw [List.length_append, csL_len, List.length_replicate]; omega), wx (by omega) (by omega), Int.toNat_natCast]
    have hset : (csL cs i ++ List.replicate (b.length - i) 0).set i (cs i : Int) = csL cs (i + 1) ++ List.replicate (b.length - (i + 1)) 0 := by
      rw [csL_succ, List.set_append_right _ _ (by rw [csL_len]; exact Nat.le_refl _), csL_len, Nat.sub_self, show b.length - i = (b.length - (i + 1)) + 1 from by omega, List.replicate_succ, List.set_cons_zero, List.append_assoc]
      rfl
    rw [hset, show ((i : Int) + 1) = ((i + 1 : Nat) : Int) from by omega]
  | d + 1, j, hd, hq => by
    have hl := h.len
    have hf := h.few i hi
    have hj : j < b[i].2.length := by omega
    have he : (toS b[i]).f1.length = b[i].2.length := by simp [toS]
    have hlow := h.low i hi _ (List.getElem_mem hj)
    have heq := h.eq i hi
    have s1 := sum_take_le (fun e => cs e.2) b[i].2 (j + 1)
    have s2 := sum_take_succ (fun e => cs e.2) b[i].2 j hj
    have hg : ((toS b[i]).f1[j]'(by omega)).f1 = ((b[i].2[j].2 : Nat) : Int) := by simp [toS, toE]
    have hle := hp _ hlow
    by_cases c : Daw.own b[i] + ((b[i].2.take j).map fun e => cs e.2).sum + cs b[i].2[j].2 ≤ 4611686018427387904
    · have ih := cg_l1 h i hi hp hn ho d (j + 1) (by omega) (by omega)
      refine Ev.step (fun k => ?_) ih
      simp only [index_Counts.l1]
      rw [if_pos (by omega), if_pos (by omega), if_pos (by omega), rdS33 _ j (by omega), hg, if_pos (by omega), if_pos (by rw [List.length_append, csL_len, List.length_replicate]; omega), rd_csL _ _ _ _ hlow, add_f c, Option.bind_some, if_pos rfl, wx (x := (j : Int) + 1) (by omega) (by omega)]
      rw [s2, show ((j : Int) + 1) = ((j + 1 : Nat) : Int) from by omega, Nat.add_assoc]
    · rw [ho (by omega)]
      refine Ev.step (f := fun _ => some (([] : List Int), 5)) (fun k => ?_) (Ev.now _)
      simp only [index_Counts.l1]
      rw [if_pos (by omega), if_pos (by omega), if_pos (by omega), rdS33 _ j (by omega), hg, if_pos (by omega), if_pos (by rw [List.length_append, csL_len, List.length_replicate]; omega), rd_csL _ _ _ _ hlow, add_over hq hle (by omega), Option.bind_some, if_neg (by decide)]
theorem cg_l0 (h : Cg b cs) (hov : ∃ j, j < b.length ∧ ¬ cs j ≤ 4611686018427387904) : ∀ (d i : Nat), i + d = b.length → (∀ j, j < i → cs j ≤ 4611686018427387904) → Ev (fun k => index_Counts.l0 k (b.map toS) (csL cs i ++ List.replicate (b.length - i) 0) (b.length : Int) (i : Int)) ([], 5)
  | 0, i, hd, hp => by
    obtain ⟨j, hj, hn⟩ := hov
    exact absurd (hp j (by omega)) hn
  | d + 1, i, hd, hp => by
    have hi : i < b.length := by omega
    have ih := fun (hc : cs i ≤ 4611686018427387904) => cg_l0 h hov d (i + 1) (by omega) (fun j hj => by
      by_cases hji : j = i
      · subst hji; exact hc
      · exact hp j (by omega))
    have h1 := cg_l1 h i hi hp ih (fun _ => rfl) b[i].2.length 0 (by omega) (by simp [Daw.own]; split <;> omega)
    refine Ev.step (fun k => ?_) h1
    simp only [index_Counts.l0]
    rw [if_pos (by omega), if_pos (by omega), if_pos (by rw [List.length_map]; omega), rdS31 _ i (by rw [List.length_map]; exact hi), toS_get i hi, own_f, Option.bind_some]
    simp
theorem counts_over (h : Cg b cs) (hov : ∃ j, j < b.length ∧ ¬ cs j ≤ 4611686018427387904) (hm : daw_May.f (b.map toS) = some true) : Ev (fun k => index_Counts.f k (b.map toS)) ([], 5) := by
  have hl := h.len
  refine Ev.congr (fun k => ?_) (cg_l0 h hov b.length 0 (by omega) (fun j hj => absurd hj (by omega)))
  unfold index_Counts.f
  rw [hm, Option.bind_some, if_pos rfl, List.length_map, if_pos (by omega), Int.toNat_natCast, if_pos (by omega)]
  simp [csL]
end
/-- Where counts fail nothing is told. -/
theorem word_bad {R : List S31} {c : List Int} {e : Int} (he : e ≠ 0) (h : Ev (fun k => index_Counts.f k R) (c, e)) (n : Int) : Ev (fun k => index_Word.f k R n) ((⟨#[]⟩ : ByteArray), false) := by
  unfold index_Word.f
  refine Ev.bind h (Ev.congr (f := fun k => index_Word.j0 k R n c true) (fun k => by rw [if_neg he]) ?_)
  exact Ev.step (f := fun _ => some ((⟨#[]⟩ : ByteArray), false)) (fun k => by simp only [index_Word.j0]; rw [if_pos trivial]) (Ev.now _)
end Go.Proofs.Ytebdcblchjhmpaa.K

namespace Go.Proofs.Ytebdcblchjhmpaa.Pure
open Go.RowKit Go.Proofs.YtebdcblchjhmpaaW.PrintWords Go.Proofs.YtebdcblchjhmpaaW.PrintLast Go.Proofs.Ytebdcblchjhmpaa.PIndexMany Go.Proofs.Ytebdcblchjhmpaa.PDk Go.Proofs.Ytebdcblchjhmpaa.PDm Go.Proofs.Ytebdcblchjhmpaa.PIx Go.Proofs.Ytebdcblchjhmpaa.PSh15 Go.Proofs.Ytebdcblchjhmpaa.Daw Go.Proofs.Ytebdcblchjhmpaa.K Go.Proofs.Ytebdcblchjhmpaa
set_option linter.unusedSimpArgs false
set_option linter.unusedVariables false
def mb : Nat → List DS
  | 0 => [(true, [])]
  | k + 1 => mb k ++ [(false, [(97, k), (98, k)])]
theorem mb_len : ∀ k, (mb k).length = k + 1
  | 0 => rfl
  | k + 1 => by rw [mb, List.length_append, mb_len k]; rfl
theorem mb_zero : ∀ k, (mb k)[0]? = some (true, [])
  | 0 => rfl
  | k + 1 => by rw [mb, List.getElem?_append_left (by rw [mb_len]; omega), mb_zero k]
theorem mb_succ : ∀ (k i : Nat), i < k → (mb k)[i + 1]? = some (false, [(97, i), (98, i)])
  | k + 1, i, h => by
    rw [mb]
    by_cases hi : i < k
    · rw [List.getElem?_append_left (by rw [mb_len]; omega), mb_succ k i hi]
    · have : i = k := by omega
      subst this
      rw [List.getElem?_append_right (by rw [mb_len]; omega), mb_len, Nat.sub_self]; rfl
theorem mb_at {k i : Nat} {s : DS} (h : (mb k)[i]? = some s) : (i = 0 ∧ s = (true, [])) ∨ ∃ j, i = j + 1 ∧ j < k ∧ s = (false, [(97, j), (98, j)]) := by
  cases i with
  | zero => rw [mb_zero] at h; injection h with h; exact Or.inl ⟨rfl, h.symm⟩
  | succ j =>
    have hj : j + 1 < (mb k).length := (List.getElem?_eq_some_iff.1 h).1
    rw [mb_len] at hj
    rw [mb_succ k j (by omega)] at h
    injection h with h
    exact Or.inr ⟨j, rfl, by omega, h.symm⟩
theorem mb_nodup : ∀ k, (mb k).Nodup
  | 0 => by simp [mb]
  | k + 1 => by
    rw [mb, List.nodup_append]
    refine ⟨mb_nodup k, by simp, fun a ha b hb => ?_⟩
    rw [List.mem_singleton.1 hb]
    rintro rfl
    obtain ⟨i, hi, e⟩ := List.getElem_of_mem ha
    rcases mb_at (List.getElem?_eq_some_iff.2 ⟨hi, e⟩) with ⟨_, h⟩ | ⟨j, _, hj, h⟩
    · cases h
    · injection h with _ h
      simp at h
      omega
theorem mb_good (k : Nat) : Daw.Good (mb k) := by
  refine ⟨mb_nodup k, fun i s hs => ?_⟩
  rcases mb_at hs with ⟨rfl, rfl⟩ | ⟨j, rfl, hj, rfl⟩
  · exact ⟨⟨by simp, trivial⟩, Or.inl rfl⟩
  · refine ⟨⟨fun e he => ?_, ?_⟩, Or.inr (by simp)⟩
    · simp at he
      rcases he with rfl | rfl <;> simp
    · exact ⟨by simp, by simp, trivial⟩
theorem mb_wl0 (k : Nat) : wl (mb k) 0 = [[]] := by
  have h0 := mb_zero k
  obtain ⟨hi, e⟩ := List.getElem?_eq_some_iff.1 h0
  rw [wl_eq (mb_good k) hi, e]; rfl
theorem mb_wl (k i : Nat) (h : i < k) : wl (mb k) (i + 1) = (wl (mb k) i).map (97 :: ·) ++ (wl (mb k) i).map (98 :: ·) := by
  obtain ⟨hi, e⟩ := List.getElem?_eq_some_iff.1 (mb_succ k i h)
  rw [wl_eq (mb_good k) hi, e]
  simp
theorem mb_cnt (k : Nat) : ∀ i, i ≤ k → Daw.cnt (mb k) i = 2 ^ i
  | 0, _ => by unfold Daw.cnt; rw [mb_wl0]; rfl
  | i + 1, h => by
    have := mb_cnt k i (by omega)
    unfold Daw.cnt at this ⊢
    rw [mb_wl k i (by omega), List.length_append, List.length_map, List.length_map, this, Nat.pow_succ]; omega
theorem mb_words (k : Nat) : ∀ i, i ≤ k → ∀ w ∈ wl (mb k) i, w.length = i ∧ ∀ c ∈ w, c = 97 ∨ c = 98
  | 0, _, w, hw => by
    rw [mb_wl0] at hw
    rw [List.mem_singleton.1 hw]; simp
  | i + 1, h, w, hw => by
    rw [mb_wl k i (by omega)] at hw
    rcases List.mem_append.1 hw with hw | hw
    all_goals
      obtain ⟨v, hv, rfl⟩ := List.mem_map.1 hw
      obtain ⟨h1, h2⟩ := mb_words k i (by omega) v hv
      refine ⟨by rw [List.length_cons, h1], fun c hc => ?_⟩
      rcases List.mem_cons.1 hc with rfl | hc
      · first | exact Or.inl rfl | exact Or.inr rfl
      · exact h2 c hc
theorem mb_vis (k : Nat) : ∀ n, n ≤ k → vis (mb k) (n + 1) n 0 = some (n + 1)
  | 0, _ => by
    unfold vis
    rw [mb_zero k]; rfl
  | n + 1, h => by
    have ih := mb_vis k n (by omega)
    unfold vis
    rw [mb_succ k n (by omega)]
    simp only [visE]
    rw [if_pos (Nat.zero_le _), ih]
    simp only [Option.bind_some, visE]
    rw [if_neg (by omega)]
    simp
theorem mb_auto (k : Nat) (h : k ≤ 70) (h1 : 1 ≤ k) : Auto (mb k) := by
  refine ⟨mb_good k, fun i s hs => ?_, by rw [mb_len]; omega, by rw [mb_len]; omega, ?_, ?_⟩
  · rcases mb_at hs with ⟨rfl, rfl⟩ | ⟨j, rfl, hj, rfl⟩
    · exact ⟨by simp, fun e he => by simp at he⟩
    · refine ⟨by simp, fun e he => ?_⟩
      simp at he
      rcases he with rfl | rfl <;> simp
  · obtain ⟨j, rfl⟩ : ∃ j, k = j + 1 := ⟨k - 1, by omega⟩
    rw [mb_len, Nat.add_sub_cancel]
    exact ⟨_, mb_succ (j + 1) j (by omega), rfl⟩
  · rw [mb_len, Nat.add_sub_cancel]
    exact ⟨_, mb_vis k k (Nat.le_refl _)⟩
theorem mb_cg (k : Nat) (h : k ≤ 70) : Cg (mb k) (Daw.cnt (mb k)) := by
  refine ⟨fun i hi e he => ((mb_good k).2 i _ (List.getElem?_eq_getElem hi)).1.1 e he, fun i hi => cnt_eq (mb_good k) hi, fun i hi => ?_, by rw [mb_len]; omega⟩
  rcases mb_at (List.getElem?_eq_getElem hi) with ⟨_, e⟩ | ⟨j, _, hj, e⟩ <;> rw [e] <;> simp
theorem pow62 {k : Nat} (h : k ≤ 62) : 2 ^ k ≤ 4611686018427387904 := by
  have e : (4611686018427387904 : Nat) = 2 ^ 62 := by decide
  rw [e]
  exact Nat.pow_le_pow_right (n := 2) (by omega) h
theorem mb_known (k : Nat) (h : k ≤ 62) : Known (mb k) := by
  have hc := mb_cg k (by omega)
  refine ⟨mb_good k, hc.low, hc.eq, fun i hi => ?_, hc.few, hc.len⟩
  rw [mb_len] at hi
  rw [mb_cnt k i (by omega)]
  exact pow62 (by omega)
theorem shl_pow {k : Nat} (h : k ≤ 62) : shl .u64 1 (IntKind.u64.wrap (k : Int)) = ((2 ^ k : Nat) : Int) := by
  rw [u64_small (by omega) (by omega)]
  show IntKind.u64.wrap (1 * 2 ^ min ((k : Int)).toNat 64) = _
  rw [Int.toNat_natCast, Nat.min_eq_left (by omega), Int.one_mul]
  have := pow62 h
  rw [show (2 : Int) ^ k = ((2 ^ k : Nat) : Int) from by norm_cast]
  generalize 2 ^ k = m at this ⊢
  exact u64_small (by omega) (by omega)
theorem many_end {a1 : Int} (h0 : 0 ≤ a1) {kk : Nat} (hk : kk ≤ 70) (h1 : 1 ≤ kk) : Ev (fun k => manteletlaw15_IndexMany.l0 k a1 true (kk : Int) ((mb kk).map toS) (kk : Int)) true := by
  have g := mb_auto kk hk h1
  have hm := may_auto _ g
  obtain ⟨p, hp, ep⟩ : ∃ p : Nat, p < 4611686018427387904 ∧ Int.tmod a1 4611686018427387904 = (p : Int) := by
    refine ⟨(a1 % 4611686018427387904).toNat, by omega, ?_⟩
    rw [Int.tmod_eq_emod_of_nonneg h0]; omega
  have wp : wrap64 (p : Int) = (p : Int) := w64 (by omega) (by omega)
  by_cases c : kk ≤ 62
  · have K := mb_known kk c
    have hl : (mb kk).length - 1 = kk := by rw [mb_len]; omega
    have hcn := mb_cnt kk kk (Nat.le_refl _)
    have hpw := pow62 c
    have e1 := counts_ev K.cnt hm
    have e2 := word_ev K hm (by rw [mb_len]; omega) (p : Int) (by omega)
    rw [if_pos (by omega), hl, Int.toNat_natCast] at e2
    have hrd := rd_csL (Daw.cnt (mb kk)) (kk + 1) 0 kk (by omega)
    rw [hcn] at hrd
    simp only [List.replicate_zero, List.append_nil] at hrd
    have hcl := csL_len (Daw.cnt (mb kk)) (kk + 1)
    have z1 : ¬ (kk : Int) > 62 := by omega
    have z2 : (0 : Int) ≤ IntKind.u64.wrap (kk : Int) := by rw [u64_small (by omega) (by omega)]; omega
    have z3 : wrap64 ((kk : Int) + 1) = ((kk + 1 : Nat) : Int) := by rw [w64 (by omega) (by omega)]; omega
    rw [mb_len] at e1
    have hs : ∀ (x : ByteArray × Bool) (y : Int × Bool), Ev (fun k => index_Word.f k ((mb kk).map toS) (p : Int)) x → Ev (fun k => index_Of.f k ((mb kk).map toS) x.1) y → (x.2 = decide (p < 2 ^ kk)) → (p < 2 ^ kk → y.2 = true ∧ y.1 = (p : Int) ∧ x.1.size = kk) → Ev (fun k => manteletlaw15_IndexMany.l0 k a1 true (kk : Int) ((mb kk).map toS) (kk : Int)) true := by
      intro x y hx hy hx2 hyx
      apply Ev.step
      · intro k
        simp only [manteletlaw15_IndexMany.l0]
        rw [if_neg (Int.lt_irrefl _), ep, wp]
      · refine Ev.bind e1 (Ev.bind hx ?_)
        simp only [if_neg z1, if_pos z2]
        refine Ev.bind hy ?_
        refine Ev.congr (fun k => ?_) (Ev.now true)
        rw [if_pos trivial, if_pos trivial, if_pos (by rw [hcl, z3]), if_pos (Int.natCast_nonneg _), if_pos (by rw [hcl]; exact Int.ofNat_lt.2 (Nat.lt_succ_self _)), hrd, shl_pow c, if_pos rfl]
        by_cases hpk : p < 2 ^ kk
        · obtain ⟨q1, q2, q3⟩ := hyx hpk
          rw [if_pos (by rw [hx2, decide_eq_true hpk, decide_eq_true (Int.ofNat_lt.2 hpk)]; rfl), if_pos (Int.ofNat_lt.2 hpk), if_pos q1, if_pos q2, q3]
          simp
        · rw [if_pos (by rw [hx2, decide_eq_false hpk, decide_eq_false (fun h => hpk (Int.ofNat_lt.1 h))]; rfl), if_neg (fun h => hpk (Int.ofNat_lt.1 h))]
    by_cases hpk : p < 2 ^ kk
    · have hlen : p < (wl (mb kk) kk).length := by show p < Daw.cnt (mb kk) kk; rw [hcn]; exact hpk
      obtain ⟨w, hw⟩ : ∃ w, w = (wl (mb kk) kk)[p] := ⟨_, rfl⟩
      rw [List.getElem?_eq_getElem hlen, ← hw] at e2
      obtain ⟨w1, w2⟩ := mb_words kk kk (Nat.le_refl _) w (by rw [hw]; exact List.getElem_mem hlen)
      have hsz : (strOfNums (intsL w)).size = kk := by rw [strOfNums_size]; unfold intsL; rw [List.length_map, w1]
      have hna : Utf.nats (strOfNums (intsL w)) = w := by
        rw [nats_str]
        unfold intsL
        rw [List.map_map]
        refine (List.map_congr_left (fun x hx => ?_)).trans (List.map_id _)
        show (Int.ofNat x).toNat % 256 = x
        rcases w2 x hx with rfl | rfl <;> rfl
      have hmem : w ∈ wl (mb kk) kk := by rw [hw]; exact List.getElem_mem hlen
      have e3 := of_ev K hm (by rw [mb_len]; exact Nat.succ_pos _) (strOfNums (intsL w)) (by rw [hsz]; exact Nat.le_trans hk (by decide)) (has_auto _ g _ (by rw [hsz]; exact Nat.le_trans hk (by decide)))
      rw [hl, hna, if_pos hmem, decide_eq_true hmem] at e3
      have hnd : (wl (mb kk) kk).Nodup := (wl_sorted (mb_good kk) kk).imp (fun {a b} hab e => by subst e; exact List.lt_irrefl a hab)
      have hix : (wl (mb kk) kk).idxOf w = p := by rw [hw]; exact List.Nodup.idxOf_getElem hnd p hlen
      rw [hix] at e3
      exact hs _ _ e2 e3 (by rw [decide_eq_true hpk]) (fun _ => ⟨rfl, rfl, hsz⟩)
    · have hlen : (wl (mb kk) kk)[p]? = none := List.getElem?_eq_none (by show Daw.cnt (mb kk) kk ≤ p; rw [hcn]; exact Nat.le_of_not_lt hpk)
      rw [hlen] at e2
      have e3 := of_ev K hm (by rw [mb_len]; exact Nat.succ_pos _) (⟨#[]⟩ : ByteArray) (Nat.zero_le _) (has_auto _ g _ (Nat.zero_le _))
      exact hs _ _ e2 e3 (by rw [decide_eq_false hpk]) (fun h => absurd h hpk)
  · have e1 := counts_over (mb_cg kk hk) ⟨63, by rw [mb_len]; omega, by rw [mb_cnt kk 63 (by omega), show (2 : Nat) ^ 63 = 9223372036854775808 from rfl]; omega⟩ hm
    have e2 := word_bad (by decide) e1 (p : Int)
    apply Ev.step
    · intro k
      simp only [manteletlaw15_IndexMany.l0]
      rw [if_neg (by omega), ep, wp]
    · refine Ev.bind e1 (Ev.bind e2 (Ev.congr (fun k => ?_) (Ev.now true)))
      rw [if_pos (by omega), if_pos trivial, if_pos rfl, if_pos (by simp)]
      rfl
theorem many_l0 {a1 : Int} (h0 : 0 ≤ a1) {kk : Nat} (hk : kk ≤ 70) (h1 : 1 ≤ kk) : ∀ (d i : Nat), i + d = kk → Ev (fun k => manteletlaw15_IndexMany.l0 k a1 true (kk : Int) ((mb i).map toS) (i : Int)) true
  | 0, i, hd => by
    have : i = kk := by omega
    subst this
    exact many_end h0 hk h1
  | d + 1, i, hd => by
    have ih := many_l0 h0 hk h1 d (i + 1) (by omega)
    refine Ev.step (fun k => ?_) ih
    simp only [manteletlaw15_IndexMany.l0]
    rw [if_pos (by omega), if_pos (by rw [List.length_map, mb_len]; omega), w64 (by omega) (by omega), show ((i : Int) + 1) = ((i + 1 : Nat) : Int) from by omega]
    rw [mb, List.map_append]
    rfl
theorem wf_u8m {x : Int} (h : (Lit.int .u8 x).wf = true) : 0 ≤ x ∧ x < 256 := by
  simp only [Lit.wf, IntKind.min, IntKind.max, IntKind.signed, IntKind.bits, Bool.and_eq_true, decide_eq_true_eq] at h
  simp at h; omega
theorem wf_u64m {x : Int} (h : (Lit.int .u64 x).wf = true) : 0 ≤ x := by
  simp only [Lit.wf, IntKind.min, IntKind.max, IntKind.signed, IntKind.bits, Bool.and_eq_true, decide_eq_true_eq] at h
  simp at h; omega
theorem IndexMany : manteletlaw15_IndexMany.Pure := by
  intro a0 a1 w0 w1
  have h0 := wf_u8m w0
  have h1 := wf_u64m w1
  refine Ev.rounds ?_
  unfold manteletlaw15_IndexMany.f
  refine Ev.bind shown15 ?_
  obtain ⟨kk, hk1, hk2, e⟩ : ∃ kk : Nat, 1 ≤ kk ∧ kk ≤ 70 ∧ wrap64 (1 + wrap64 (Int.tmod a0 70)) = (kk : Int) := by
    have h2 : Int.tmod a0 70 = a0 % 70 := Int.tmod_eq_emod_of_nonneg h0.1
    refine ⟨(1 + a0 % 70).toNat, by omega, by omega, ?_⟩
    rw [h2, w64 (x := a0 % 70) (by omega) (by omega), w64 (by omega) (by omega)]; omega
  rw [e]
  exact many_l0 h1 hk2 hk1 kk 0 (by omega)
end Go.Proofs.Ytebdcblchjhmpaa.Pure

namespace Go.Proofs.Ytebdcblchjhmpaa.indexMany
open Go.ChangeShapes Go.WideShapes Go.ChangeAt Go.RowKit
open Go.ChangeMaps (open_string shut_string)
set_option linter.unusedVariables false
theorem own : ownKnob Try.prog.godebug = none := by kernel_rfl
set_option maxRecDepth 100000 in
theorem lifted (os : Os) (started : os.Started) (H : Type) (enc : TypeId × Value → H) :
    ReturnsInHanded {} Try.checked os 9 .any (Rows.indexManySpec.pre6 enc Try.prog Try.f9 Rows.indexManyRow.domain false) (Rows.indexManySpec.post enc Try.prog Try.f9 false true false false) := by
  refine returnsInHanded_of_change_sized (C := Try.checked) own started (by kernel_rfl) Try.func9
    (ChangeSpec.witness6 (enc := enc) (C := Try.checked) false ⟨#[], #[.int .u8 0, .int .u64 0], []⟩ 8 (by kernel_rfl) (by kernel_rfl) (by kernel_rfl) (by kernel_rfl)) ?_
  intro W base args ds gs before hval0 hW hcnd hsz0 _
  have hsz : (DataW.weightsEach Try.prog (Try.f9.params.toList ++ Rows.indexManySpec.plain.varTypes Try.prog) (ds ++ gs)).all (· ≤ reachBytes) = true := hsz0
  have hval : ∀ (j : Nat) t v, Try.f9.params[j]? = some t → args[j]? = some v → Value.okWide Try.prog W .any base t v := hval0
  have hW' := hW
  obtain ⟨p, q, hA0, hV, rfl, hfz, hnd⟩ := hW
  have hA : DataW.TrodAll enc Try.prog W 0 (fun _ => true) true Try.f9.params.toList args.toList ds p := hA0
  rw [Try.params9] at hA hval hsz
  obtain ⟨v0, vs0, d0, ds0, p0, q0, hargs, rfl, rfl, h0, r0⟩ := trodAll_cons hA
  obtain ⟨v1, vs1, d1, ds1, p1, q1, rfl, rfl, rfl, h1, r1⟩ := trodAll_cons r0
  obtain ⟨rfl, rfl, rfl⟩ := trodAll_nil r1
  obtain rfl : args = #[v0, v1] := by cases args; simp_all
  obtain ⟨rfl, rfl⟩ := trodVars_none hV
  obtain ⟨a0, rfl, rfl, rfl, w0⟩ := open_int Try.underlying5 (hval 0 5 v0 rfl rfl) h0
  obtain ⟨a1, rfl, rfl, rfl, w1⟩ := open_int Try.underlying54 (hval 1 54 v1 rfl rfl) h1
  clear hA0 hval0 hsz0 hsz
  refine (PIndexMany.manteletlaw15_IndexMany.walk Pure.IndexMany a0 a1 W w0 w1).mono fun e W' ⟨he, bel⟩ => ?_
  subst he
  exact ⟨_, rfl, _, _, _, [], _, [], hW', trodAll_mk1 (shut_bool Try.underlying4 _), (trodAll_cons_mk (shut_int Try.underlying5 w0) (trodAll_cons_mk (shut_int Try.underlying54 w1) trodAll_mk0)), rfl, bel.frame _, fun h => by cases h⟩
theorem over : Rows.indexManyRow.holds Try.pinned (OpenSpec.ofChange Rows.indexManySpec) :=
  OpenClaim.holds_of_wide 9 Try.f9 rfl rfl rfl rfl rfl rfl rfl ⟨rfl, rfl, rfl, rfl, rfl⟩ rfl rfl rfl rfl rfl (by kernel_rfl) Try.func9 (by kernel_rfl)
    (of_decide_eq_true (by kernel_rfl)) (by unfold Func.isWrapper; first | (rw [if_pos (by decide +kernel)]; kernel_rfl) | (rw [if_neg (by decide +kernel)]; exact ⟨rfl, rfl⟩))
    (fun os started H enc _ => lifted os started H enc)
theorem proved : Rows.IndexManySaid := over
#print axioms proved
end Go.Proofs.Ytebdcblchjhmpaa.indexMany
namespace Go.Proofs.Ytebdcblchjhmpaa
/-- The row, under a short name, for the claim. -/
theorem indexMany_holds : Rows.IndexManySaid := indexMany.proved
end Go.Proofs.Ytebdcblchjhmpaa

