/- DawBegins: of what was built of any words (60 of 20 bytes at most) a begin of a word is taken just if it is a word itself; what goes on behind a word, likewise. -/
import Derived.Test.YtebdcblchjhmpaaPDawBeginsx1
import Derived.Test.YtebdcblchjhmpaaDawHL
namespace Go.Proofs.Ytebdcblchjhmpaa.K
open Go.RowKit Go.Proofs.YtebdcblchjhmpaaW.PrintWords Go.Proofs.YtebdcblchjhmpaaW.PrintLast Go.Proofs.Ytebdcblchjhmpaa.PDawBegins Go.Proofs.Ytebdcblchjhmpaa.PDk Go.Proofs.Ytebdcblchjhmpaa.PSh14 Go.Proofs.Ytebdcblchjhmpaa.Daw Go.Proofs.Ytebdcblchjhmpaa
set_option linter.unusedSimpArgs false
set_option linter.unusedVariables false
open Classical
theorem few_bytes2 (L : List ByteArray) (h1 : L.length ≤ 60) (h2 : ∀ x ∈ L, x.size ≤ 20) : (L.map ByteArray.size).sum ≤ 1200 ∧ bytesAll L ≤ 2000 := by
  have : ∀ L : List ByteArray, (∀ x ∈ L, x.size ≤ 20) → (L.map ByteArray.size).sum ≤ 20 * L.length ∧ bytesAll L ≤ 1 + 21 * L.length := by
    intro L
    induction L with
    | nil => intro _; simp [bytesAll]
    | cons a l ih =>
      intro h
      have h3 := h a (by simp)
      obtain ⟨i1, i2⟩ := ih (fun x hx => h x (by simp [hx]))
      unfold bytesAll at i2 ⊢
      simp; omega
  obtain ⟨i1, i2⟩ := this L h2
  omega
theorem begins_l0 (L : List ByteArray) (hL : L.length ≤ 60) (R : List S31) (p q : ByteArray) (hp : daw_Has.f R p = some (decide (Utf.nats p ∈ wordsN L))) (hq : daw_Has.f R q = some (decide (Utf.nats q ∈ wordsN L))) :
    ∀ (d i : Nat), i + d = L.length → Ev (fun k => manteletlaw14_DawBegins.l0 k L true R p q (decide (Utf.nats p ∈ wordsN (L.take i))) (decide (Utf.nats q ∈ wordsN (L.take i))) (i : Int)) true
  | 0, i, hd => by
    have hi : L.take i = L := List.take_of_length_le (by omega)
    rw [hi]
    refine Ev.step (f := fun _ => some true) (fun k => ?_) (Ev.now true)
    simp only [manteletlaw14_DawBegins.l0]
    rw [if_neg (by omega), if_pos trivial, hp, Option.bind_some, if_pos (by simp), hq, Option.bind_some]
    simp
  | d + 1, i, hd => by
    have hi : i < L.length := by omega
    have ih := begins_l0 L hL R p q hp hq d (i + 1) (by omega)
    rw [mem_take L i hi, mem_take L i hi] at ih
    have hw : Go.RowKit.wrap64 ((i : Int) + 1) = ((i + 1 : Nat) : Int) := by rw [w64 (by omega) (by omega)]; omega
    refine Ev.step (fun k => ?_) ih
    simp only [manteletlaw14_DawBegins.l0]
    rw [if_pos (show (i : Int) < (L.length : Int) by omega), hw, rdS L i hi, str_eq L[i] p, str_eq L[i] q]
    cases decide (Utf.nats p ∈ wordsN (L.take i)) <;> cases decide (Utf.nats q ∈ wordsN (L.take i)) <;> simp
theorem wf_u8' {x : Int} (h : (Lit.int .u8 x).wf = true) : 0 ≤ x ∧ x < 256 := by
  simp only [Lit.wf, IntKind.min, IntKind.max, IntKind.signed, IntKind.bits, Bool.and_eq_true, decide_eq_true_eq] at h
  simp at h; omega
theorem DawBegins_walk (A0 : Option Addr) (c0 : Nat) (l0 : List ByteArray) (a1 a2 : Int) (a3 : ByteArray) (w : World) (hC : Kd.C Kd.string w A0 l0.length l0) (hc : l0.length ≤ c0) (hwf : ∀ x ∈ l0, x.size ≤ maxLen) (w1 : (Lit.int .u8 a1).wf = true) (w2 : (Lit.int .u8 a2).wf = true) (w3 : a3.size ≤ 140737488351232) :
    Calls Try.prog 5 #[.slice A0 l0.length c0, .int .u8 a1, .int .u8 a2, .string a3] w fun e w' => e = .returned (.bool true) ∧ Below w.heap.size w w' := by
  obtain ⟨b, hb1, hb2⟩ := few14 l0
  have h1 := wf_u8' w1
  have h2 := wf_u8' w2
  have hup : Ev (fun k => manteletlaw14_DawBegins.j0 k l0 a1 a2 a3 true true) true := Ev.step (f := fun _ => some true) (fun k => by simp only [manteletlaw14_DawBegins.j0]; rw [if_pos trivial]) (Ev.now true)
  have hEv : Ev (fun k => manteletlaw14_DawBegins.f k l0 a1 a2 a3) true := by
    unfold manteletlaw14_DawBegins.f
    refine Ev.bind shown14 (Ev.bind hb1 ?_)
    cases b with
    | false => exact Ev.congr (fun k => by rw [if_neg (by decide)]) hup
    | true =>
      obtain ⟨f1, f2⟩ := hb2 rfl
      obtain ⟨f3, f4⟩ := few_bytes2 l0 f1 f2
      by_cases c0' : (l0.length : Int) = 0
      · exact Ev.congr (fun k => by rw [if_pos rfl, if_pos c0']) hup
      · by_cases c3 : (a3.size : Int) > 20
        · exact Ev.congr (fun k => by rw [if_pos rfl, if_neg c0', decide_eq_true c3]) hup
        · refine Ev.congr (f := fun k => manteletlaw14_DawBegins.j0 k l0 a1 a2 a3 true false) (fun k => by rw [if_pos rfl, if_neg c0', decide_eq_false c3]) ?_
          have hb : daw_Build.f l0 = some (buildR l0) := by unfold daw_Build.f; rw [if_pos (by omega)]
          by_cases c1 : [] ∈ wordsN l0
          · have hr : buildR l0 = ([], 1) := by unfold buildR; rw [if_pos c1]
            refine Ev.step (f := fun _ => some true) (fun k => ?_) (Ev.now true)
            simp only [manteletlaw14_DawBegins.j0]
            rw [if_neg (by decide), hb, hr, Option.bind_some, if_neg (by decide)]
          · by_cases c2 : (wordsN l0).Pairwise (· < ·)
            · have hr : buildR l0 = ((build (wordsN l0)).map toS, 0) := by unfold buildR; rw [if_neg c1, if_pos c2]
              have hh := has_built l0 c1 c2 (by omega)
              generalize (build (wordsN l0)).map toS = R at hr hh
              have e1 : Int.tmod (Go.RowKit.wrap64 a1) (l0.length : Int) = a1 % (l0.length : Int) := by rw [w64 (by omega) (by omega)]; exact Int.tmod_eq_emod_of_nonneg h1.1
              obtain ⟨m, hm, hml⟩ : ∃ m : Nat, a1 % (l0.length : Int) = (m : Int) ∧ m < l0.length := ⟨(a1 % (l0.length : Int)).toNat, by have := Int.emod_nonneg a1 c0'; omega, by have := Int.emod_nonneg a1 c0'; have := Int.emod_lt_of_pos a1 (show (0 : Int) < (l0.length : Int) by omega); omega⟩
              obtain ⟨wd, hwd⟩ : ∃ wd, wd = l0[m] := ⟨_, rfl⟩
              have hws : wd.size ≤ 20 := by rw [hwd]; exact f2 _ (List.getElem_mem _)
              have e2 : Int.tmod (Go.RowKit.wrap64 a2) ((wd.size : Int) + 1) = a2 % ((wd.size : Int) + 1) := by rw [w64 (by omega) (by omega)]; exact Int.tmod_eq_emod_of_nonneg h2.1
              obtain ⟨c, hc, hcl⟩ : ∃ c : Nat, a2 % ((wd.size : Int) + 1) = (c : Int) ∧ c ≤ wd.size := ⟨(a2 % ((wd.size : Int) + 1)).toNat, by have := Int.emod_nonneg a2 (show ((wd.size : Int) + 1) ≠ 0 by omega); omega, by have := Int.emod_nonneg a2 (show ((wd.size : Int) + 1) ≠ 0 by omega); have := Int.emod_lt_of_pos a2 (show (0 : Int) < ((wd.size : Int) + 1) by omega); omega⟩
              have hp := hh (wd.extract 0 c) (by rw [ByteArray.size_extract]; omega)
              have hq := hh (wd ++ a3) (by rw [ByteArray.size_append]; omega)
              have hl := begins_l0 l0 f1 R _ _ hp hq l0.length 0 (by omega)
              refine Ev.step (fun k => ?_) hl
              simp only [manteletlaw14_DawBegins.j0]
              rw [if_neg (by decide), hb, hr, Option.bind_some, if_pos rfl, if_neg c0', e1, hm, if_pos (by omega), if_pos (by omega), rdS l0 m hml, ← hwd, w64 (x := (wd.size : Int) + 1) (by omega) (by omega), if_neg (by omega), e2, hc, if_pos (by omega), if_pos (by omega), if_pos (by omega)]
              rfl
            · have hr : buildR l0 = ([], 9) := by unfold buildR; rw [if_neg c1, if_neg c2]
              refine Ev.step (f := fun _ => some true) (fun k => ?_) (Ev.now true)
              simp only [manteletlaw14_DawBegins.j0]
              rw [if_neg (by decide), hb, hr, Option.bind_some, if_neg (by decide)]
  obtain ⟨k, hk⟩ := hEv.rounds
  exact manteletlaw14_DawBegins.calls k A0 c0 l0 a1 a2 a3 true w hC hc hk
end Go.Proofs.Ytebdcblchjhmpaa.K
