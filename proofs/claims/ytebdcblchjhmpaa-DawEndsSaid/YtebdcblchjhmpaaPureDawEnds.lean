/- DawEnds: words that all end alike behind unlike first bytes have as many states as one of them has bytes, and two, and the last one leads on by all of them; no conditions but those of the statement's types. -/
import Derived.Test.YtebdcblchjhmpaaPDawEndsx1
import Derived.Test.YtebdcblchjhmpaaDawL
namespace Go.Proofs.Ytebdcblchjhmpaa.Pure
set_option linter.unusedSimpArgs false
open Go.RowKit Go.Proofs.YtebdcblchjhmpaaW.PrintWords Go.Proofs.YtebdcblchjhmpaaW.PrintLast Go.Proofs.Ytebdcblchjhmpaa.PDawEnds Go.Proofs.Ytebdcblchjhmpaa.PDk Go.Proofs.Ytebdcblchjhmpaa.PSh14 Go.Proofs.Ytebdcblchjhmpaa.K Go.Proofs.Ytebdcblchjhmpaa.Daw Go.Proofs.Ytebdcblchjhmpaa
def endB (e : ByteArray) (k : Nat) : List ByteArray := (List.range k).map fun i => strOfNums [((97 + i : Nat) : Int)] ++ e
theorem nats_app (a b : ByteArray) : Utf.nats (a ++ b) = Utf.nats a ++ Utf.nats b := by unfold Utf.nats; simp
theorem wordsN_endB (e : ByteArray) (k : Nat) (hk : k ≤ 26) : wordsN (endB e k) = endWords (Utf.nats e) k := by
  unfold wordsN endB endWords
  rw [List.map_map]
  apply List.map_congr_left
  intro i hi
  have := List.mem_range.1 hi
  simp only [Function.comp]
  rw [nats_app, nats_str]
  simp; omega
theorem endB_succ (e : ByteArray) (k : Nat) : endB e (k + 1) = endB e k ++ [strOfNums [((97 + k : Nat) : Int)] ++ e] := by unfold endB; rw [List.range_succ]; simp
theorem ends_sorted (e : List Nat) (k : Nat) : (endWords e k).Pairwise (· < ·) := by
  unfold endWords
  rw [List.pairwise_map]
  refine List.pairwise_lt_range.imp (fun h => ?_)
  exact List.cons_lt_cons_iff.2 (Or.inl (by omega))
theorem ends_bytes (e : ByteArray) (he : e.size ≤ 20) (k : Nat) (hk : k ≤ 26) : bytesAll (endB e k) ≤ 1000000 := by
  have : ∀ k, bytesAll (endB e k) ≤ 1 + 22 * k := by
    intro k
    induction k with
    | zero => simp [bytesAll, endB]
    | succ k ih =>
      rw [endB_succ]
      unfold bytesAll at ih ⊢
      rw [List.map_append, List.sum_append]
      have h1 : ∀ x : Int, (strOfNums [x]).size = 1 := fun x => strOfNums_size _
      simp [ByteArray.size_append, h1]
      omega
  have := this k
  omega
theorem ends_l0 (e : ByteArray) (he : e.size ≤ 20) (n : Nat) (hn : 0 < n) (hn2 : n ≤ 26) : ∀ (d i : Nat), i + d = n → Ev (fun k => manteletlaw14_DawEnds.l0 k e true (n : Int) (endB e i) (i : Int)) true
  | 0, i, hd => by
    have hi : i = n := by omega
    subst hi
    obtain ⟨m, rfl⟩ : ∃ m, i = m + 1 := ⟨i - 1, by omega⟩
    have hb : daw_Build.f (endB e (m + 1)) = some ((build (endWords (Utf.nats e) (m + 1))).map toS, 0) := by
      unfold daw_Build.f buildR
      rw [if_pos (ends_bytes e he _ hn2), wordsN_endB e _ hn2, if_neg (by unfold endWords; simp), if_pos (ends_sorted _ _)]
    have hlen := build_ends_len (Utf.nats e) m
    rw [nats_len] at hlen
    have h3 : ((build (endWords (Utf.nats e) (m + 1))).map toS)[e.size + 1]? = some (toS (false, rootE (Utf.nats e) (m + 1))) := by
      rw [build_ends, List.getElem?_map, List.getElem?_append_right (by simp [shorter_len, nats_len])]
      simp [shorter_len, nats_len]
    have hR : ((build (endWords (Utf.nats e) (m + 1))).map toS).length = e.size + 2 := by rw [List.length_map, hlen]
    generalize (build (endWords (Utf.nats e) (m + 1))).map toS = R at hb h3 hR
    clear hlen
    have h2 : R[e.size + 1]'(by omega) = toS (false, rootE (Utf.nats e) (m + 1)) := by
      rw [List.getElem?_eq_getElem (by omega)] at h3
      exact Option.some.inj h3
    refine Ev.step (f := fun _ => some true) (fun k => ?_) (Ev.now true)
    simp only [manteletlaw14_DawEnds.l0]
    rw [if_neg (by omega), hb]
    rw [Option.bind_some, if_pos rfl, if_pos trivial]
    dsimp only
    rw [hR, w64 (by omega) (by omega), if_pos (by omega), w64 (by omega) (by omega), if_pos (by omega), if_pos (by omega)]
    have h1 : (((e.size + 2 : Nat) : Int) - 1) = ((e.size + 1 : Nat) : Int) := by omega
    rw [h1, rd31 _ (e.size + 1) (by omega), h2]
    simp [toS, rootE]
  | d + 1, i, hd => by
    have ih := ends_l0 e he n hn hn2 d (i + 1) (by omega)
    refine Ev.step (fun k => ?_) ih
    simp only [manteletlaw14_DawEnds.l0]
    have hl : (endB e i).length = i := by simp [endB]
    have hw : (Go.RowKit.wrap64 (97 + (i : Int))) % 256 = ((97 + i : Nat) : Int) := by rw [w64 (by omega) (by omega)]; omega
    rw [if_pos (by omega), Option.bind_some, hw, strOfNums_size, if_pos (by simp; omega), if_pos (by omega), w64 (by omega) (by omega), ← endB_succ, show ((i : Int) + 1) = ((i + 1 : Nat) : Int) from by omega]
theorem DawEnds : manteletlaw14_DawEnds.Pure := by
  intro a0 a1 _ hw
  have hb : 0 ≤ a1 ∧ a1 < 256 := by
    simp only [Lit.wf, IntKind.min, IntKind.max, IntKind.signed, IntKind.bits, Bool.and_eq_true, decide_eq_true_eq] at hw
    simp at hw; omega
  have ht : Int.tmod a1 26 = a1 % 26 := Int.tmod_eq_emod_of_nonneg hb.1
  refine Ev.rounds ?_
  unfold manteletlaw14_DawEnds.f
  refine Ev.bind shown14 ?_
  by_cases h : (a0.size : Int) > 20
  · refine Ev.congr (fun k => ?_) (Ev.now true)
    rw [if_pos h]
  · obtain ⟨n, hn⟩ : ∃ n : Nat, (n : Int) = 1 + a1 % 26 := ⟨(1 + a1 % 26).toNat, by omega⟩
    have := ends_l0 a0 (by omega) n (by omega) (by omega) n 0 (by omega)
    refine Ev.congr (fun k => ?_) this
    rw [if_neg h, ht, w64 (x := a1 % 26) (by omega) (by omega), w64 (by omega) (by omega), ← hn]
    rfl
end Go.Proofs.Ytebdcblchjhmpaa.Pure
