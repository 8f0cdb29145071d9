/- FuzzyLengths: whatever two rows of runes, of 40 at most, and two numbers: as many runes more are so many steps; texts of unlike runes are as far apart as the longer one has. -/
import Derived.Test.YtbnjakihgmhpdaaPFuzzyLengthsx1
import Derived.Test.YtbnjakihgmhpdaaFuzL
namespace Go.Proofs.Ytbnjakihgmhpdaa.Pure
open Go.RowKit Go.Proofs.YtbnjakihgmhpdaaW.PrintWords Go.Proofs.YtbnjakihgmhpdaaW.PrintLast Go.Proofs.Ytbnjakihgmhpdaa.PFuzzyLengths Go.Proofs.Ytbnjakihgmhpdaa.PSh18 Go.Proofs.Ytbnjakihgmhpdaa.K Go.Proofs.Ytbnjakihgmhpdaa
theorem rep_bytes (c : Int) (n : Nat) : runesBytes (List.replicate (n + 1) c) = runesBytes (List.replicate n c) ++ Utf8.encode c := by
  rw [List.replicate_succ', Utf.runesBytes_append, Utf.runesBytes_cons, Utf.runesBytes_nil]
  congr 1
  apply ByteArray.ext; simp
theorem rep_runes (c : Int) (hc : Utf.sane c = c) (n : Nat) : Utf.runesZ (runesBytes (List.replicate n c)) = List.replicate n c := by
  rw [Utf.runesZ_bytes, List.map_replicate, hc]
theorem last_run (x1 u v : List Int) (hv : v.length = x1.length) (hu : u.length ≤ 40) (hx : x1.length ≤ 40) (x2 x3 : Int) (i j : Nat) (hi : i ≤ 30) (hj : j ≤ 30) (hx2 : wrap64 (Int.tmod x2 30) = i) (hx3 : wrap64 (Int.tmod x3 30) = j) :
    ∀ (d p k : Nat), d + p = j → manteletlaw18_FuzzyLengths.l1 (k + 1 + d) x1 x2 x3 true (runesBytes u) (runesBytes v) (runesBytes (List.replicate i 120)) (runesBytes (List.replicate p 228)) (p : Int) = some true := by
  intro d
  induction d with
  | zero =>
    intro p k hp
    have hp' : p = j := by omega
    subst hp'
    have s1 := Utf.size_bytes u
    have s2 := Utf.size_bytes v
    have s3 := Utf.size_bytes (List.replicate i 120)
    have s4 := Utf.size_bytes (List.replicate p 228)
    rw [List.length_replicate] at s3 s4
    rw [show k + 1 + 0 = k + 1 by omega, manteletlaw18_FuzzyLengths.l1, hx2, hx3, if_neg (by omega), if_pos rfl, if_pos (by omega)]
    rw [distF (by omega) (by rw [ByteArray.size_append]; omega), distF (by rw [ByteArray.size_append]; omega) (by omega), distF (by omega) (by omega)]
    have hap : Lev.dist (List.replicate i 120) (List.replicate p 228) = max i p := by
      rw [Lev.dist_apart (fun x hx y hy => by rw [List.eq_of_mem_replicate hx, List.eq_of_mem_replicate hy]; decide), List.length_replicate, List.length_replicate]
    have hmx : mx (i : Int) (p : Int) = ((max i p : Nat) : Int) := by unfold mx; split <;> omega
    have hsz : (runesBytes v).size + (runesBytes u).size ≤ 9223372036854775807 := by omega
    simp only [runesL_app, Utf.runesZ_bytes, List.map_replicate, show Utf.sane 120 = 120 from by decide, show Utf.sane 228 = 228 from by decide, dist_front, dist_behind, List.length_map, hv, hap, hmx, hsz, Option.bind_some, if_true, beq_self_eq_true]
  | succ d ih =>
    intro p k hp
    have s4 := Utf.size_bytes (List.replicate p 228)
    rw [List.length_replicate] at s4
    have hgo := ih (p + 1) k (by omega)
    rw [rep_bytes, show Utf8.encode 228 = (⟨#[195, 164]⟩ : ByteArray) by rfl] at hgo
    rw [show k + 1 + (d + 1) = (k + 1 + d) + 1 by omega, manteletlaw18_FuzzyLengths.l1, hx3, if_pos (by omega), if_pos (by omega), w64 _ (by omega) (by omega)]
    exact hgo
theorem first_run (x1 u v : List Int) (hv : v.length = x1.length) (hu : u.length ≤ 40) (hx : x1.length ≤ 40) (x2 x3 : Int) (i j : Nat) (hi : i ≤ 30) (hj : j ≤ 30) (hx2 : wrap64 (Int.tmod x2 30) = i) (hx3 : wrap64 (Int.tmod x3 30) = j) :
    ∀ (d p k : Nat), d + p = i → manteletlaw18_FuzzyLengths.l0 (k + 2 + j + d) x1 x2 x3 true (runesBytes u) (runesBytes v) (runesBytes (List.replicate p 120)) ByteArray.empty (p : Int) = some true := by
  intro d
  induction d with
  | zero =>
    intro p k hp
    have hp' : p = i := by omega
    subst hp'
    rw [show k + 2 + j + 0 = (k + 1 + j) + 1 by omega, manteletlaw18_FuzzyLengths.l0, hx2, if_neg (by omega)]
    exact last_run x1 u v hv hu hx x2 x3 p j hi hj hx2 hx3 j 0 k (by omega)
  | succ d ih =>
    intro p k hp
    have s4 := Utf.size_bytes (List.replicate p 120)
    rw [List.length_replicate] at s4
    have hgo := ih (p + 1) k (by omega)
    rw [rep_bytes, show Utf8.encode 120 = (⟨#[120]⟩ : ByteArray) by rfl] at hgo
    rw [show k + 2 + j + (d + 1) = (k + 2 + j + d) + 1 by omega, manteletlaw18_FuzzyLengths.l0, hx2, if_pos (by omega), if_pos (by omega), w64 _ (by omega) (by omega)]
    exact hgo
theorem FuzzyLengths : manteletlaw18_FuzzyLengths.Pure := by
  intro u v n m _ _ _ _ _ _ w2 w3
  simp only [Lit.wf, Bool.and_eq_true, decide_eq_true_eq] at w2 w3
  have hn0 : 0 ≤ n := w2.1
  have hm0 : 0 ≤ m := w3.1
  obtain ⟨i, hi, hi30⟩ : ∃ i : Nat, wrap64 (Int.tmod n 30) = (i : Int) ∧ i ≤ 30 := by
    rw [Int.tmod_eq_emod_of_nonneg hn0, w64 _ (by omega) (by omega)]
    exact ⟨(n % 30).toNat, by omega, by omega⟩
  obtain ⟨j, hj, hj30⟩ : ∃ j : Nat, wrap64 (Int.tmod m 30) = (j : Int) ∧ j ≤ 30 := by
    rw [Int.tmod_eq_emod_of_nonneg hm0, w64 _ (by omega) (by omega)]
    exact ⟨(m % 30).toNat, by omega, by omega⟩
  refine ⟨(0 + 2 + j + i) + 1, ?_⟩
  unfold manteletlaw18_FuzzyLengths.f
  rw [shown18]; simp only [Option.bind_some]
  by_cases h0 : (u.length : Int) > 40
  · rw [if_pos h0]; simp [manteletlaw18_FuzzyLengths.j0]
  rw [if_neg h0]
  by_cases h1 : (v.length : Int) > 40
  · rw [decide_eq_true h1]; simp [manteletlaw18_FuzzyLengths.j0]
  rw [decide_eq_false h1, manteletlaw18_FuzzyLengths.j0, if_neg (by simp)]
  exact first_run v u v rfl (by omega) (by omega) n m i j hi30 hj30 hi hj i 0 0 (by omega)
end Go.Proofs.Ytbnjakihgmhpdaa.Pure
