/- IndexRefuses. (The texts that the proof is made of, one behind the other: part 13 of 13.) -/
import Derived.Deep.SlicePairs
import Derived.SizedLaws
import Derived.Test.YtebdcblchjhmpaaProg
import Derived.Below
import Derived.Deep.Draws
import Derived.Deep.AppendLies
import Derived.Maps.AppendAt
import Derived.OwnWalk
import Derived.Laws.BytesArg
import Derived.Laws.MakeOwn
import Derived.Laws.OwnMore
import Derived.Deep.OwnRows
import Derived.Tactics
import Derived.Lib.ConvBytes
import Derived.Laws.Slices
import Derived.WalkKit
import Derived.KernelRfl
import Derived.RowKit3
import Derived.Deep.LoopGhost
import Derived.Deep.QuietTactic
import Derived.BigQuiet
import Derived.WideLaws
import Derived.Deep.DeepCutAuto
import Derived.Deep.CutBlock
import Derived.Deep.RegionHeld3
import Derived.Laws.Rows
import Derived.Lib.AppendStr
import Derived.ArgAppend
import Derived.Laws.IdiomCopy
import Derived.OrdersHeld
import Derived.Laws.BitsLemmas
import Derived.RowKit
import Derived.Lib.OthersKept
import Derived.WalkSmall
import Derived.Deep.RegionLaw
import Derived.BigRegion
import Derived.Test.YtebdcblchjhmpaaRows
import Derived.ProofKit
import Derived.OpenShut
import Derived.ShutString
import Derived.ChangeOld
import Derived.Test.YtebdcblchjhmpaaZIndexRefusesa
import Derived.Test.YtebdcblchjhmpaaZIndexRefusesb
import Derived.Test.YtebdcblchjhmpaaZIndexRefusesc
import Derived.Test.YtebdcblchjhmpaaZIndexRefusesd
import Derived.Test.YtebdcblchjhmpaaZIndexRefusese
import Derived.Test.YtebdcblchjhmpaaZIndexRefusesf
import Derived.Test.YtebdcblchjhmpaaZIndexRefusesg
import Derived.Test.YtebdcblchjhmpaaZIndexRefusesh
import Derived.Test.YtebdcblchjhmpaaZIndexRefusesi
import Derived.Test.YtebdcblchjhmpaaZIndexRefusesj
import Derived.Test.YtebdcblchjhmpaaZIndexRefusesk
import Derived.Test.YtebdcblchjhmpaaZIndexRefusesl
namespace Go.Proofs.Ytebdcblchjhmpaa.K
open Go.RowKit Go.Proofs.YtebdcblchjhmpaaW.PrintWords Go.Proofs.YtebdcblchjhmpaaW.PrintLast Go.Proofs.YtebdcblchjhmpaaW.PrintMore Go.Proofs.Ytebdcblchjhmpaa
attribute [local go_sem] max2_int min2_int max_two min_two max_three min_three max_four min_four
set_option linter.unusedVariables false
set_option linter.unusedSimpArgs false
open Go.Proofs.Ytebdcblchjhmpaa.PDk
section
variable {H : Type} {enc : TypeId × Value → H} {P : Program} {w : World} {base : Nat} {held : Bool}
/-- An edge's two numbers may be. -/
def EdgeOk (e : S33) : Prop := (Lit.int .u8 e.f0).wf = true ∧ (Lit.int .i64 e.f1).wf = true
theorem pick_row {α : Type} {n : Nat} {p : Nat → α → Prop} (h : ∀ i, i < n → ∃ x, p i x) : ∃ l : List α, l.length = n ∧ ∀ i (hi : i < l.length), p i l[i] := by
  induction n with
  | zero => exact ⟨[], rfl, fun i hi => by simp at hi⟩
  | succ n ih =>
    obtain ⟨l, h1, h2⟩ := ih (fun i hi => h i (by omega))
    obtain ⟨x, hx⟩ := h n (by omega)
    refine ⟨l ++ [x], by simp [h1], fun i hi => ?_⟩
    rw [List.length_append, List.length_singleton] at hi
    by_cases hin : i < l.length
    · rw [List.getElem_append_left hin]; exact h2 i hin
    · have : i = n := by omega
      subst this
      rw [List.getElem_append_right (by omega)]
      simpa [h1] using hx
theorem open_edges {fuel t : Nat} {fe0 fe1 : Field} {t33 : TypeId} {v : Value} {x : DataW H × List MemPlace} (ht : P.underlying t = some (.slice t33)) (he : P.underlying t33 = some (.struct #[fe0, fe1])) (ce : P.cellsOf t33 = 2) (o0 : fe0.offset = 0) (o1 : fe1.offset = 1) (c0 : P.cellsOf fe0.type = 1) (c1 : P.cellsOf fe1.type = 1)
    (u0 : P.underlying fe0.type = some (.int .u8)) (u1 : P.underlying fe1.type = some (.int .i64)) (hb : P.bytesOf t33 = 16) (h : DataW.trod enc P w base (fun _ => true) held fuel t [v] = some x) (hsz : ∀ n ∈ x.1.weights P t, n ≤ reachBytes) :
    ∃ (A : Option Addr) (c : Nat) (es : List S33), v = .slice A es.length c ∧ es.length ≤ c ∧ es.length ≤ 8796093022208 ∧ k33.C w A es.length es ∧ ∀ e ∈ es, EdgeOk e := by
  rcases Go.Deep.open_slice_pairs ht he ce o0 o1 c0 c1 h with ⟨hcs, _⟩ | ⟨a, len, cap, m, n, V0, V1, D0, D1, P0, P1, hcs, hbb, hl, hm, hmm, hx, hel⟩
  · injection hcs with hcs _
    subst hcs
    exact ⟨none, 0, [], rfl, Nat.le_refl _, Nat.zero_le _, Kd.C_nil _ _, by simp⟩
  · injection hcs with hcs _
    subst hcs
    simp only [if_true] at hmm
    have hmq := hmm.symm
    subst hmq
    obtain ⟨es, h1, h2⟩ := pick_row (n := len) (p := fun i (e : S33) => w.cell? (a.add (i * 2)) = some (.int .u8 e.f0) ∧ w.cell? (a.add (i * 2 + 1)) = some (.int .i64 e.f1) ∧ EdgeOk e) (fun i hi => by
      obtain ⟨q0, q1, q2, q3⟩ := hel i (by omega)
      obtain ⟨n0, r0, _, s0⟩ := DataW.trod_int u0 q2
      obtain ⟨n1, r1, _, s1⟩ := DataW.trod_int u1 q3
      injection r0 with r0 _
      injection r1 with r1 _
      exact ⟨⟨n0, n1⟩, by rw [q0, r0], by rw [q1, r1], s0, s1⟩)
    have hlen : len ≤ 8796093022208 := by
      have := hsz ((len + (cap - len)) * 16) (by rw [hx]; simp [DataW.weights, ht, hb])
      have hr := reachBytes_lt
      omega
    refine ⟨some a, cap, es, by rw [h1], by omega, by omega, ⟨rfl, by omega, fun _ => ⟨a, rfl, fun j p hj => ?_⟩⟩, fun e he2 => ?_⟩
    · obtain ⟨hjl, rfl⟩ := List.getElem?_eq_some_iff.1 hj
      obtain ⟨g0, g1, _⟩ := h2 j hjl
      refine ⟨[.int .u8 es[j].f0, .int .i64 es[j].f1], rfl, k33_mk w _, fun i u hu => ?_⟩
      match i with
      | 0 => simp at hu; rw [← hu]; exact g0
      | 1 => simp at hu; rw [← hu]; exact g1
      | i + 2 => simp at hu
    · obtain ⟨i, hi, rfl⟩ := List.getElem_of_mem he2
      exact (h2 i hi).2.2
/-- A row of states, laid open. -/
theorem open_statesC {t : Nat} {fs0 fs1 fe0 fe1 : Field} {t31 t33 : TypeId} {a : Option Addr} {len cap : Nat} {d : DataW H} {ps : List MemPlace} {ts : List TypeId} {ds : List (DataW H)} {j : Nat}
    (ht : P.underlying t = some (.slice t31)) (hs : P.underlying t31 = some (.struct #[fs0, fs1])) (cs_ : P.cellsOf t31 = 2) (so0 : fs0.offset = 0) (so1 : fs1.offset = 1) (sc0 : P.cellsOf fs0.type = 1) (sc1 : P.cellsOf fs1.type = 1)
    (su0 : P.underlying fs0.type = some .bool) (su1 : P.underlying fs1.type = some (.slice t33)) (he : P.underlying t33 = some (.struct #[fe0, fe1])) (ce : P.cellsOf t33 = 2) (o0 : fe0.offset = 0) (o1 : fe1.offset = 1) (c0 : P.cellsOf fe0.type = 1) (c1 : P.cellsOf fe1.type = 1)
    (u0 : P.underlying fe0.type = some (.int .u8)) (u1 : P.underlying fe1.type = some (.int .i64)) (hb31 : P.bytesOf t31 = 32) (hb : P.bytesOf t33 = 16)
    (hsz : (DataW.weightsEach P ts ds).all (· ≤ reachBytes) = true) (htj : ts[j]? = some t) (hdj : ds[j]? = some d)
    (h : DataW.Trod enc P w base (fun _ => true) held t (.slice a len cap) d ps) :
    ∃ l : List S31, len = l.length ∧ l.length ≤ cap ∧ l.length ≤ 4398046511104 ∧ Kd.C k31 w a l.length l ∧ ∀ s ∈ l, s.f1.length ≤ 8796093022208 ∧ ∀ e ∈ s.f1, EdgeOk e := by
  obtain ⟨fuel, hf⟩ := h
  have hw : ∀ n ∈ d.weights P t, n ≤ reachBytes := fun n hn => by
    have := List.all_eq_true.1 hsz _ (DataW.weights_mem_each htj hdj n hn)
    simpa using this
  rcases Go.Deep.open_slice_pairs ht hs cs_ so0 so1 sc0 sc1 hf with ⟨hcs, _⟩ | ⟨a', len', cap', m, n, V0, V1, D0, D1, P0, P1, hcs, hbb, hl, hm, hmm, hx, hel⟩
  · simp [Value.cells] at hcs
    obtain ⟨rfl, rfl, rfl⟩ := hcs
    exact ⟨[], rfl, Nat.le_refl _, Nat.zero_le _, Kd.C_nil _ _, by simp⟩
  · simp [Value.cells] at hcs
    obtain ⟨rfl, rfl, rfl⟩ := hcs
    simp only [if_true] at hmm
    have hmq := hmm.symm
    subst hmq
    have hd : d = .slice ((List.range len).map fun i => .agg [D0 i, D1 i]) ((List.range (cap - len)).map fun j => .agg [D0 (len + j), D1 (len + j)]) := (Prod.mk.inj hx).1
    subst hd
    have hlen : len ≤ 4398046511104 := by
      have := hw ((len + (cap - len)) * 32) (by simp [DataW.weights, ht, hb31])
      have hr := reachBytes_lt
      omega
    have hwm : ∀ (ds' : List (DataW H)) (x : DataW H), x ∈ ds' → ∀ n ∈ x.weights P t31, n ∈ DataW.weightsAll P t31 ds' := by
      intro ds'
      induction ds' with
      | nil => intro x hx; simp at hx
      | cons y r ih =>
        intro x hx n hn
        rw [DataW.weightsAll, List.mem_append]
        rcases List.mem_cons.1 hx with rfl | hx
        · exact Or.inl hn
        · exact Or.inr (ih x hx n hn)
    have hinner : ∀ i, i < len → ∀ n ∈ (D1 i).weights P fs1.type, n ≤ reachBytes := fun i hi n hn => by
      refine hw n ?_
      simp only [DataW.weights, ht]
      refine List.mem_cons_of_mem _ (List.mem_append_left _ (hwm _ (.agg [D0 i, D1 i]) (List.mem_map.2 ⟨i, List.mem_range.2 hi, rfl⟩) n ?_))
      simp only [DataW.weights, hs]
      simp [DataW.weightsEach, hn]
    obtain ⟨l, h1, h2⟩ := pick_row (n := len) (p := fun i (s : S31) => ∃ (A : Option Addr) (c : Nat), w.cell? (a'.add (i * 2)) = some (.bool s.f0) ∧ w.cell? (a'.add (i * 2 + 1)) = some (.slice A s.f1.length c) ∧ s.f1.length ≤ c ∧ k33.C w A s.f1.length s.f1 ∧ s.f1.length ≤ 8796093022208 ∧ ∀ e ∈ s.f1, EdgeOk e) (fun i hi => by
      obtain ⟨q0, q1, q2, q3⟩ := hel i (by omega)
      obtain ⟨b, r0, _⟩ := DataW.trod_bool su0 q2
      injection r0 with r0 _
      obtain ⟨A, c, es, r1, r2, r3, r4, r5⟩ := open_edges (v := V1 i) su1 he ce o0 o1 c0 c1 u0 u1 hb q3 (hinner i hi)
      exact ⟨⟨b, es⟩, A, c, by rw [q0, r0], by rw [q1, r1], r2, r4, r3, r5⟩)
    refine ⟨l, h1.symm, by omega, by omega, ⟨rfl, by omega, fun _ => ⟨a', rfl, fun j p hj => ?_⟩⟩, fun s hs2 => ?_⟩
    · obtain ⟨hjl, rfl⟩ := List.getElem?_eq_some_iff.1 hj
      obtain ⟨A, c, g0, g1, g2, g3, _⟩ := h2 j hjl
      refine ⟨[.bool l[j].f0, .slice A l[j].f1.length c], rfl, k31_mk w _ g2 g3, fun i u hu => ?_⟩
      match i with
      | 0 => simp at hu; rw [← hu]; exact g0
      | 1 => simp at hu; rw [← hu]; exact g1
      | i + 2 => simp at hu
    · obtain ⟨i, hi, rfl⟩ := List.getElem_of_mem hs2
      obtain ⟨_, _, _, _, _, _, g4, g5⟩ := h2 i hi
      exact ⟨g4, g5⟩
end
end Go.Proofs.Ytebdcblchjhmpaa.K

namespace Go.Proofs.Ytebdcblchjhmpaa.K
open Go.RowKit Go.Proofs.YtebdcblchjhmpaaW.PrintWords Go.Proofs.YtebdcblchjhmpaaW.PrintLast Go.Proofs.Ytebdcblchjhmpaa.PIndexRefuses Go.Proofs.Ytebdcblchjhmpaa.PDk Go.Proofs.Ytebdcblchjhmpaa.PDm Go.Proofs.Ytebdcblchjhmpaa.PIx Go.Proofs.Ytebdcblchjhmpaa.PSh15 Go.Proofs.Ytebdcblchjhmpaa.Daw Go.Proofs.Ytebdcblchjhmpaa
set_option linter.unusedSimpArgs false
set_option linter.unusedVariables false
theorem rising_of : ∀ es : List DE, (∀ j (h : j + 1 < es.length), (es[j]'(by omega)).1 < (es[j + 1]).1) → Rising es
  | [], _ => trivial
  | [e], _ => ⟨by simp, trivial⟩
  | e :: f :: r, h => by
    have ih := rising_of (f :: r) (fun j hj => by have := h (j + 1) (by simp at hj ⊢; omega); simpa using this)
    have h0 := h 0 (by simp)
    simp at h0
    refine ⟨fun g hg => ?_, ih⟩
    rcases List.mem_cons.1 hg with rfl | hg
    · exact h0
    · have := ih.1 g hg; omega
/-- What may be is good, or one state that leads nowhere. -/
theorem may_shape (R : List S31) (hok : OkL R) (hm : mayB R = true) : R = (R.map ofS).map toS ∧ 1 ≤ R.length ∧ (Daw.Good (R.map ofS) ∨ R.map ofS = [(false, [])]) := by
  unfold mayB at hm
  rw [Bool.and_eq_true, Bool.and_eq_true, Bool.and_eq_true] at hm
  obtain ⟨⟨⟨hp, hn⟩, hr⟩, _⟩ := hm
  unfold plainB at hp
  rw [Bool.and_eq_true, decide_eq_true_eq] at hp
  obtain ⟨ha, hpos⟩ := hp
  have hst : ∀ i (hi : i < R.length), stateB R i = true := fun i hi => List.all_eq_true.1 ha i (by rw [List.mem_range'_1]; omega)
  have hed : ∀ i (hi : i < R.length) j (hj : j < R[i].f1.length), (0 ≤ (R[i].f1[j]).f1 ∧ (R[i].f1[j]).f1 < (i : Int)) ∧ (j = 0 ∨ (rd_T33 R[i].f1 ((j - 1 : Nat) : Int)).f0 < (R[i].f1[j]).f0) := fun i hi j hj => by
    have h := hst i hi
    unfold stateB at h
    rw [rdS31 _ i hi, Bool.and_eq_true] at h
    have h2 := List.all_eq_true.1 h.1 j (by rw [List.mem_range'_1]; omega)
    unfold edgeB at h2
    rw [rdS33 _ j hj, Bool.and_eq_true, Bool.and_eq_true, decide_eq_true_eq, decide_eq_true_eq, Bool.or_eq_true, decide_eq_true_eq, decide_eq_true_eq] at h2
    exact h2
  have huse : ∀ i (hi : i < R.length), R[i].f0 = true ∨ R[i].f1 ≠ [] ∨ R.length ≤ 1 := fun i hi => by
    have h := hst i hi
    unfold stateB at h
    rw [rdS31 _ i hi, Bool.and_eq_true] at h
    have h2 := h.2
    unfold useB at h2
    rw [Bool.or_eq_true, Bool.or_eq_true, decide_eq_true_eq] at h2
    rcases h2 with (h2 | h2) | h2
    · exact Or.inl h2
    · exact Or.inr (Or.inl (by simpa using h2))
    · exact Or.inr (Or.inr h2)
  have hback : ∀ s ∈ R, toS (ofS s) = s := fun s hs => by
    obtain ⟨i, hi, rfl⟩ := List.getElem_of_mem hs
    have hb := (hok.2 _ (List.getElem_mem hi)).2
    have : (R[i].f1.map fun e => (e.f0.toNat, e.f1.toNat)).map toE = R[i].f1 := by
      rw [List.map_map]
      refine (List.map_congr_left (fun e he => ?_)).trans (List.map_id _)
      obtain ⟨j, hj, rfl⟩ := List.getElem_of_mem he
      have h1 := (hed i hi j hj).1.1
      have h2 := (hb _ (List.getElem_mem hj)).1
      show (⟨((R[i].f1[j].f0.toNat : Nat) : Int), ((R[i].f1[j].f1.toNat : Nat) : Int)⟩ : S33) = R[i].f1[j]
      rw [Int.toNat_of_nonneg h1, Int.toNat_of_nonneg h2]
    unfold toS ofS
    rw [this]
  have hlen : (R.map ofS).length = R.length := List.length_map ..
  refine ⟨?_, hpos, ?_⟩
  · rw [List.map_map]
    exact ((List.map_congr_left (fun s hs => hback s hs)).trans (List.map_id _)).symm
  · have hrow : ∀ i s, (R.map ofS)[i]? = some s → Row i s := fun i s hs => by
      obtain ⟨hi, e⟩ := List.getElem?_eq_some_iff.1 hs
      rw [hlen] at hi
      rw [List.getElem_map] at e
      subst e
      refine ⟨fun e he => ?_, rising_of _ (fun j hj => ?_)⟩
      · unfold ofS at he
        obtain ⟨f, hf, rfl⟩ := List.mem_map.1 he
        obtain ⟨j, hj, rfl⟩ := List.getElem_of_mem hf
        have := (hed i hi j hj).1
        show (R[i].f1[j]).f1.toNat < i
        omega
      · unfold ofS at hj ⊢
        rw [List.length_map] at hj
        simp only [List.getElem_map]
        have h2 := (hed i hi (j + 1) hj).2
        rcases h2 with h2 | h2
        · omega
        · rw [Nat.add_sub_cancel, rdS33 _ j (by omega)] at h2
          have hb := (hok.2 _ (List.getElem_mem hi)).2
          have := (hb _ (List.getElem_mem (show j < R[i].f1.length by omega))).1
          omega
    by_cases hl : R.length ≤ 1
    · right
      obtain ⟨s, rfl⟩ : ∃ s, R = [s] := by
        match R, hpos, hl with
        | [s], _, _ => exact ⟨s, rfl⟩
      have h0 : s.f1 = [] := by
        cases hf : s.f1 with
        | nil => rfl
        | cons e r =>
          have := hed 0 (by simp) 0 (by simp [hf])
          simp [hf] at this
          omega
      have h1 : s.f0 = false := by
        have : rd_T31 [s] (((([s] : List S31).length : Nat) : Int) - 1) = s := rfl
        rw [this] at hr
        simpa using hr
      show [ofS s] = _
      unfold ofS
      rw [h0, h1]; rfl
    · left
      refine ⟨of_decide_eq_true hn, fun i s hs => ⟨hrow i s hs, ?_⟩⟩
      obtain ⟨hi, e⟩ := List.getElem?_eq_some_iff.1 hs
      rw [hlen] at hi
      rw [List.getElem_map] at e
      subst e
      rcases huse i hi with h | h | h
      · exact Or.inl h
      · right
        unfold ofS
        simpa using h
      · exact absurd h hl
theorem has_good (b : List DS) (g : Daw.Good b) (hp : 1 ≤ b.length) (hl : b.length ≤ 140737488355328) (v : ByteArray) (hv : v.size ≤ 140737488355328) : daw_Has.f (b.map toS) v = some (decide (Utf.nats v ∈ wl b (b.length - 1))) := by
  unfold daw_Has.f
  rw [if_pos ⟨by rw [List.length_map]; omega, hv⟩, List.length_map]
  have hg : ∀ (i : Nat) (s : DS), b[i]? = some s → ∀ e ∈ s.2, e.2 < b.length := fun i s hs e he => by
    have := (g.2 i s hs).1.1 e he
    have := (List.getElem?_eq_some_iff.1 hs).1
    omega
  have e1 : ((b.length : Nat) : Int) - 1 = ((b.length - 1 : Nat) : Int) := by omega
  have hm := mem_wl g (i := b.length - 1) (by omega) (Utf.nats v)
  rw [e1, has_acc hg _ _ (by omega)]
  congr 1
  rw [Bool.eq_iff_iff, decide_eq_true_eq]
  exact hm.symm
/-- The statement's end, from what is told. -/
theorem refuses_end {R : List S31} {v : ByteArray} {n : Int} {m : Bool} (hm : daw_May.f R = some m) {c : List Int × Int} {o : Int × Bool} {x : ByteArray × Bool} (hc : Ev (fun k => index_Counts.f k R) c) (ho : Ev (fun k => index_Of.f k R v) o) (hx : Ev (fun k => index_Word.f k R n) x)
    (ht : m = true → (c.2 = 0 ∧ c.1.length = R.length) ∨ c.2 = 5) (hf : m = false → c = ([], 1) ∧ o = (0, false) ∧ x = (⟨#[]⟩, false)) : Ev (fun k => manteletlaw15_IndexRefuses.f k R v n) true := by
  unfold manteletlaw15_IndexRefuses.f
  refine Ev.bind shown15 (Ev.bind hc (Ev.bind ho (Ev.bind hx (Ev.congr (fun k => ?_) (Ev.now true)))))
  rw [hm, Option.bind_some]
  cases m with
  | true =>
    rw [if_pos rfl, if_pos rfl]
    rcases ht rfl with ⟨h1, h2⟩ | h1
    · rw [if_pos h1, if_pos (by rw [h2])]
    · rw [if_neg (by rw [h1]; decide), h1]; rfl
  | false =>
    obtain ⟨rfl, rfl, rfl⟩ := hf rfl
    rw [if_neg (by decide)]
    simp [ByteArray.toList_eq]
theorem refuses_ev (R : List S31) (hok : OkL R) (v : ByteArray) (hv : v.size ≤ 140737488355328) (n : Int) (hn : -9223372036854775808 ≤ n ∧ n < 9223372036854775808) : Ev (fun k => manteletlaw15_IndexRefuses.f k R v n) true := by
  have hm : daw_May.f R = some (mayB R) := by unfold daw_May.f; rw [if_pos ((okB_iff R).2 hok)]
  cases hb : mayB R with
  | false =>
    rw [hb] at hm
    have hc : Ev (fun k => index_Counts.f k R) ([], 1) := by
      refine Ev.congr (fun k => ?_) (Ev.now _)
      unfold index_Counts.f
      rw [hm, Option.bind_some, if_neg (by decide)]
    exact refuses_end hm hc (of_bad (by decide) hc v) (word_bad (by decide) hc n) (fun h => by cases h) (fun _ => ⟨rfl, rfl, rfl⟩)
  | true =>
    rw [hb] at hm
    obtain ⟨e, hp, hs⟩ := may_shape R hok hb
    have hl : (R.map ofS).length = R.length := List.length_map ..
    have hfew : ∀ i (h : i < (R.map ofS).length), ((R.map ofS)[i]).2.length ≤ 8796093022208 := fun i h => by
      rw [hl] at h
      rw [List.getElem_map]
      unfold ofS
      rw [List.length_map]
      exact (hok.2 _ (List.getElem_mem h)).1
    have hlen : (R.map ofS).length ≤ 4398046511104 := by rw [hl]; exact hok.1
    have hp' : 1 ≤ (R.map ofS).length := by rw [hl]; exact hp
    rw [e] at hm ⊢
    generalize R.map ofS = b at hm hs hfew hlen hp' ⊢
    rcases hs with hg | hb1
    · have hcg : Cg b (Daw.cnt b) := ⟨fun i hi e he => (hg.2 i _ (List.getElem?_eq_getElem hi)).1.1 e he, fun i hi => cnt_eq hg hi, hfew, hlen⟩
      by_cases hall : ∀ i, i < b.length → Daw.cnt b i ≤ 4611686018427387904
      · have K : Known b := ⟨hg, ⟨hcg.low, hcg.eq, hall, hfew, hlen⟩⟩
        have hc := counts_ev K.cnt hm
        exact refuses_end hm hc (of_ev K hm (by omega) v hv (has_good b hg hp' (by omega) v hv)) (word_ev K hm (by omega) n hn) (fun _ => Or.inl ⟨rfl, by rw [csL_len, List.length_map]⟩) (fun h => by cases h)
      · have hc := counts_over hcg (by
          rcases Classical.em (∃ j, j < b.length ∧ ¬ Daw.cnt b j ≤ 4611686018427387904) with h | h
          · exact h
          · exact absurd (fun i hi => Classical.byContradiction (fun hn => h ⟨i, hi, hn⟩)) hall) hm
        exact refuses_end hm hc (of_bad (by decide) hc v) (word_bad (by decide) hc n) (fun _ => Or.inr rfl) (fun h => by cases h)
    · subst hb1
      have hc0 : Cnt [((false, []) : DS)] (fun _ => 0) := by
        refine ⟨fun i hi e he => ?_, fun i hi => ?_, fun _ _ => Nat.zero_le _, fun i hi => ?_, by decide⟩
        all_goals
          have : i = 0 := by simpa using hi
          subst this
        · simp at he
        · rfl
        · simp
      have hc := counts_ev hc0 hm
      have ho : Ev (fun k => index_Of.f k ([((false, []) : DS)].map toS) v) (0, false) := by
        unfold index_Of.f
        refine Ev.bind hc ?_
        have hh : daw_Has.f ([((false, []) : DS)].map toS) v = some false := by
          unfold daw_Has.f
          rw [if_pos ⟨by simp, hv⟩]
          have := has_acc (b := [((false, []) : DS)]) (fun i s hs e he => by
            cases i with
            | zero => simp at hs; subst hs; simp at he
            | succ i => simp at hs) (Utf.nats v) 0 (by simp)
          congr 1
          refine Eq.trans this ?_
          cases Utf.nats v <;> rfl
        refine Ev.congr (f := fun k => index_Of.j0 k ([((false, []) : DS)].map toS) v (csL (fun _ => 0) 1) true) (fun k => ?_) (Ev.step (f := fun _ => some (0, false)) (fun k => by simp only [index_Of.j0]; rw [if_pos trivial]) (Ev.now _))
        rw [if_pos rfl, hh, Option.bind_some]; rfl
      exact refuses_end hm hc ho (word_out hc0 hm (by simp) n hn (by simp; omega)) (fun _ => Or.inl ⟨rfl, rfl⟩) (fun h => by cases h)
theorem wf_u8f {x : Int} (h : (Lit.int .u8 x).wf = true) : 0 ≤ x ∧ x < 256 := by
  simp only [Lit.wf, IntKind.min, IntKind.max, IntKind.signed, IntKind.bits, Bool.and_eq_true, decide_eq_true_eq] at h
  simp at h; omega
theorem wf_i64f {x : Int} (h : (Lit.int .i64 x).wf = true) : -9223372036854775808 ≤ x ∧ x < 9223372036854775808 := by
  simp only [Lit.wf, IntKind.min, IntKind.max, IntKind.signed, IntKind.bits, Bool.and_eq_true, decide_eq_true_eq] at h
  simp at h; omega
theorem IndexRefuses_walk (A0 : Option Addr) (c0 : Nat) (l0 : List S31) (a1 : ByteArray) (a2 : Int) (w : World) (hC : Kd.C k31 w A0 l0.length l0) (hc : l0.length ≤ c0) (hw : l0.length ≤ 4398046511104 ∧ ∀ s ∈ l0, s.f1.length ≤ 8796093022208 ∧ ∀ e ∈ s.f1, EdgeOk e) (w1 : a1.size ≤ 140737488351232) (w2 : (Lit.int .i64 a2).wf = true) :
    Calls Try.prog 7 #[.slice A0 l0.length c0, .string a1, .int .i64 a2] w fun e w' => e = .returned (.bool true) ∧ Below w.heap.size w w' := by
  have hok : OkL l0 := ⟨hw.1, fun s hs => ⟨(hw.2 s hs).1, fun e he => wf_u8f ((hw.2 s hs).2 e he).1⟩⟩
  obtain ⟨k, hk⟩ := (refuses_ev l0 hok a1 (by omega) a2 (wf_i64f w2)).rounds
  exact manteletlaw15_IndexRefuses.calls k A0 c0 l0 a1 a2 true w hC hc hk
end Go.Proofs.Ytebdcblchjhmpaa.K

namespace Go.Proofs.Ytebdcblchjhmpaa.indexRefuses
open Go.ChangeShapes Go.WideShapes Go.ChangeAt Go.RowKit
open Go.ChangeMaps (open_string shut_string)
set_option linter.unusedVariables false
theorem own : ownKnob Try.prog.godebug = none := by kernel_rfl
theorem laidOut : laidOutB Try.prog = true := by kernel_rfl
def IsRow (k : IntKind) (w : World) (a : Option Addr) (len cap : Nat) (zs : List Int) : Prop :=
  (a = none ∧ len = 0 ∧ cap = 0 ∧ zs = []) ∨
  ∃ x, a = some x ∧ len ≤ cap ∧ cap ≤ maxLen ∧ zs.length = cap ∧ (∀ i, i < zs.length → w.cell? (x.add i) = some (.int k (zs.getD i 0))) ∧ ∀ n ∈ zs, (Lit.int k n).wf = true
set_option maxRecDepth 100000 in
theorem lifted (os : Os) (started : os.Started) (H : Type) (enc : TypeId × Value → H) :
    ReturnsInHanded {} Try.checked os 7 .any (Rows.indexRefusesSpec.pre6 enc Try.prog Try.f7 Rows.indexRefusesRow.domain false) (Rows.indexRefusesSpec.post enc Try.prog Try.f7 false true false false) := by
  refine returnsInHanded_of_change_sized (C := Try.checked) own started (by kernel_rfl) Try.func7
    (ChangeSpec.witness6 (enc := enc) (C := Try.checked) false ⟨#[], #[.slice none 0 0, .string ByteArray.empty, .int .i64 0], []⟩ 8 (by kernel_rfl) (by kernel_rfl) (by kernel_rfl) (by kernel_rfl)) ?_
  intro W base args ds gs before hval0 hW hcnd hsz0 _
  have hsz : (DataW.weightsEach Try.prog (Try.f7.params.toList ++ Rows.indexRefusesSpec.plain.varTypes Try.prog) (ds ++ gs)).all (· ≤ reachBytes) = true := hsz0
  have hval : ∀ (j : Nat) t v, Try.f7.params[j]? = some t → args[j]? = some v → Value.okWide Try.prog W .any base t v := hval0
  have hW' := hW
  obtain ⟨p, q, hA0, hV, rfl, hfz, hnd⟩ := hW
  have hA : DataW.TrodAll enc Try.prog W 0 (fun _ => true) true Try.f7.params.toList args.toList ds p := hA0
  rw [Try.params7] at hA hval hsz
  obtain ⟨v0, vs0, d0, ds0, p0, q0, hargs, rfl, rfl, h0, r0⟩ := trodAll_cons hA
  obtain ⟨v1, vs1, d1, ds1, p1, q1, rfl, rfl, rfl, h1, r1⟩ := trodAll_cons r0
  obtain ⟨v2, vs2, d2, ds2, p2, q2, rfl, rfl, rfl, h2, r2⟩ := trodAll_cons r1
  obtain ⟨rfl, rfl, rfl⟩ := trodAll_nil r2
  obtain rfl : args = #[v0, v1, v2] := by cases args; simp_all
  obtain ⟨rfl, rfl⟩ := trodVars_none hV
  obtain ⟨a0, len0, cap0, rfl⟩ := okWide_slice Try.underlying25 (hval 0 25 v0 rfl rfl)
  have k0 := h0
  have lt0 : ∀ x ∈ p0, x.block < W.heap.size := by obtain ⟨m, hm⟩ := k0; exact DataW.trod_lt m _ _ _ hm
  obtain ⟨l0, rfl, hc0, hm0, hC0, hw0⟩ := K.open_statesC (j := 0) Try.underlying25 Try.underlying31 (by kernel_rfl) rfl rfl (by kernel_rfl) (by kernel_rfl) Try.underlying4 Try.underlying29 Try.underlying33 (by kernel_rfl) rfl rfl (by kernel_rfl) (by kernel_rfl) Try.underlying5 Try.underlying3 (by kernel_rfl) (by kernel_rfl) hsz (by rfl) (by rfl) h0
  obtain ⟨a1, rfl, rfl, rfl, y1⟩ := open_string Try.underlying9 (hval 1 9 v1 rfl rfl) h1
  have w1 : a1.size ≤ 140737488351232 := by
    have z := sized_string hsz (j := 1) (t := 9) rfl rfl
    rw [Array.length_toList] at z
    exact z
  obtain ⟨a2, rfl, rfl, rfl, w2⟩ := open_int Try.underlying3 (hval 2 3 v2 rfl rfl) h2
  clear hA0 hval0 hsz0 hsz
  refine (K.IndexRefuses_walk a0 cap0 l0 a1 a2 W hC0 hc0 ⟨hm0, hw0⟩ w1 w2).mono fun e W' ⟨he, bel⟩ => ?_
  subst he
  exact ⟨_, rfl, _, _, _, [], _, [], hW', trodAll_mk1 (shut_bool Try.underlying4 _), (trodAll_cons_mk (Below.trod laidOut (by kernel_rfl) (of_decide_eq_true (by kernel_rfl)) k0 bel lt0) (trodAll_cons_mk (shut_string Try.underlying9 y1) (trodAll_cons_mk (shut_int Try.underlying3 w2) trodAll_mk0))), rfl, bel.frame _, fun h => by cases h⟩
theorem over : Rows.indexRefusesRow.holds Try.pinned (OpenSpec.ofChange Rows.indexRefusesSpec) :=
  OpenClaim.holds_of_wide 7 Try.f7 rfl rfl rfl rfl rfl rfl rfl ⟨rfl, rfl, rfl, rfl, rfl⟩ rfl rfl rfl rfl rfl (by kernel_rfl) Try.func7 (by kernel_rfl)
    (of_decide_eq_true (by kernel_rfl)) (by unfold Func.isWrapper; first | (rw [if_pos (by decide +kernel)]; kernel_rfl) | (rw [if_neg (by decide +kernel)]; exact ⟨rfl, rfl⟩))
    (fun os started H enc _ => lifted os started H enc)
theorem proved : Rows.IndexRefusesSaid := over
#print axioms proved
end Go.Proofs.Ytebdcblchjhmpaa.indexRefuses
namespace Go.Proofs.Ytebdcblchjhmpaa
/-- The row, under a short name, for the claim. -/
theorem indexRefuses_holds : Rows.IndexRefusesSaid := indexRefuses.proved
end Go.Proofs.Ytebdcblchjhmpaa

