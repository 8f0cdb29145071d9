/- FileBack. (The texts that the proof is made of, one behind the other: part 5 of 18.) -/
import Derived.Maps.OwnSet
import Derived.Maps.OwnOps
import Derived.Test.YtgebhidpkcjpmaaProg
import Derived.Below
import Derived.Deep.Draws
import Derived.Deep.AppendLies
import Derived.Maps.AppendAt
import Derived.OwnWalk
import Derived.Laws.BytesArg
import Derived.Laws.MakeOwn
import Derived.Laws.OwnMore
import Derived.Deep.OwnRows
import Derived.Tactics
import Derived.Lib.ConvBytes
import Derived.Laws.Slices
import Derived.WalkKit
import Derived.KernelRfl
import Derived.RowKit3
import Derived.Deep.LoopGhost
import Derived.Deep.QuietTactic
import Derived.BigQuiet
import Derived.WideLaws
import Derived.Deep.DeepCutAuto
import Derived.Deep.CutBlock
import Derived.Deep.RegionHeld3
import Derived.Laws.Rows
import Derived.Lib.AppendStr
import Derived.ArgAppend
import Derived.Laws.IdiomCopy
import Derived.OrdersHeld
import Derived.Laws.BitsLemmas
import Derived.RowKit
import Derived.Lib.OthersKept
import Derived.WalkSmall
import Derived.Deep.RegionLaw
import Derived.BigRegion
import Derived.Test.YtgebhidpkcjpmaaZFileBacka
import Derived.Test.YtgebhidpkcjpmaaZFileBackb
import Derived.Test.YtgebhidpkcjpmaaZFileBackc
import Derived.Test.YtgebhidpkcjpmaaZFileBackd
namespace Go.Proofs.Ytgebhidpkcjpmaa.K
open Go.RowKit Go.Proofs.YtgebhidpkcjpmaaW.PrintWords Go.Proofs.YtgebhidpkcjpmaaW.PrintLast Go.Proofs.YtgebhidpkcjpmaaW.PrintMore Go.Proofs.Ytgebhidpkcjpmaa
attribute [local go_sem] max2_int min2_int max_two min_two max_three min_three max_four min_four
set_option linter.unusedVariables false
set_option linter.unusedSimpArgs false
open Go.Proofs.Ytgebhidpkcjpmaa.PDk Go.Proofs.Ytgebhidpkcjpmaa.Daw
def toE (e : DE) : S84 := ⟨(e.1 : Int), (e.2 : Int)⟩
def toS (s : DS) : S82 := ⟨s.1, s.2.map toE⟩
def OkE (e : DE) : Prop := e.1 < 256 ∧ e.2 < 4398046511104
def OkS (s : DS) : Prop := ∀ e ∈ s.2, OkE e
set_option maxRecDepth 100000 in
theorem or128 : ∀ m : Fin 256, Go.bits .or .u8 (m.val : Int) 128 = ((m.val % 128 + 128 : Nat) : Int) := by decide
theorem pow7 (k : Nat) : 2 ^ (7 * (k + 1)) = 2 ^ (7 * k) * 128 := by rw [show 7 * (k + 1) = 7 * k + 7 from by omega, Nat.pow_add]
theorem put_step (k n : Nat) (x : List Int) (hx : x.length < 140737488355328) : num_Put.l0 (k + 1) (n : Int) x = if n < 128 then some (x ++ (put n).map Int.ofNat) else num_Put.l0 k ((n / 128 : Nat) : Int) (x ++ [((n % 128 + 128 : Nat) : Int)]) := by
  conv => lhs; unfold num_Put.l0
  by_cases h1 : n < 128
  · rw [if_neg (by omega), if_pos (by omega), if_pos h1, put_low h1]
    have e : (n : Int) % 256 = n := by omega
    rw [e]; rfl
  · rw [if_pos (by omega), if_pos (by omega), if_neg h1]
    have e1 : (n : Int) / 128 = ((n / 128 : Nat) : Int) := by omega
    have e2 : (n : Int) % 256 = ((⟨n % 256, by omega⟩ : Fin 256).val : Int) := by simp
    rw [e1, e2, or128]
    have e3 : n % 256 % 128 + 128 = n % 128 + 128 := by omega
    simp only [e3]
theorem put_l0 : ∀ (k n : Nat) (x : List Int), n < 2 ^ (7 * (k + 1)) → x.length + k < 140737488355328 → num_Put.l0 (k + 1) (n : Int) x = some (x ++ (put n).map Int.ofNat)
  | 0, n, x, h, hx => by
    rw [put_step 0 n x (by omega), if_pos (by simpa using h)]
  | k + 1, n, x, h, hx => by
    rw [put_step (k + 1) n x (by omega)]
    by_cases h1 : n < 128
    · rw [if_pos h1]
    · rw [if_neg h1, put_l0 k (n / 128) _ (by rw [Nat.div_lt_iff_lt_mul (by decide)]; rw [pow7] at h; omega) (by simp; omega), put_high h1]
      simp
theorem put_len : ∀ (k n : Nat), n < 2 ^ (7 * k) → (put n).length ≤ k + 1
  | 0, n, h => by
    have : n = 0 := by simpa using h
    subst this; rw [put_low (by decide)]; decide
  | k + 1, n, h => by
    by_cases h1 : n < 128
    · rw [put_low h1]; simp
    · rw [put_high h1]
      have := put_len k (n / 128) (by
        rw [Nat.div_lt_iff_lt_mul (by decide)]; rw [pow7] at h; omega)
      simpa using this
theorem Put_eq (k n : Nat) (hk : 7 ≤ k) (hn : n < 2 ^ 42) (x : List Int) (hx : x.length + k < 140737488355328) : num_Put.f k x (n : Int) = some (x ++ (put n).map Int.ofNat) := by
  unfold num_Put.f
  simp only [Option.bind_some, List.length_nil, Nat.zero_add, List.nil_append]
  obtain ⟨m, rfl⟩ : ∃ m, k = m + 1 := ⟨k - 1, by omega⟩
  rw [if_pos (by omega), put_l0 m n x (Nat.lt_of_lt_of_le hn (Nat.pow_le_pow_right (by decide) (by omega))) (by omega)]
def keyZ (s : DS) : List Int := (keyL s).map Int.ofNat
def keyB (s : DS) : ByteArray := strOfNums (keyZ s)
theorem put_lt (n : Nat) : ∀ x ∈ put n, x < 256 := by
  induction n using Nat.strongRecOn with
  | _ n ih =>
    intro x hx
    by_cases h : n < 128
    · rw [put_low h] at hx; simp at hx; omega
    · rw [put_high h] at hx
      rcases List.mem_cons.1 hx with rfl | hx
      · omega
      · exact ih (n / 128) (by omega) x hx
theorem keyL_lt {s : DS} (h : OkS s) : ∀ x ∈ keyL s, x < 256 := by
  intro x hx
  unfold keyL keyE at hx
  rcases List.mem_append.1 hx with hx | hx
  · exact put_lt _ x hx
  · obtain ⟨e, he, hx⟩ := List.mem_flatMap.1 hx
    rcases List.mem_cons.1 hx with rfl | hx
    · exact (h e he).1
    · exact put_lt _ x hx
theorem keyB_inj {s t : DS} (hs : OkS s) (ht : OkS t) (h : (keyB s).data.toList = (keyB t).data.toList) : s = t := by
  apply keyL_inj
  have e : ∀ s, OkS s → (keyB s).data.toList.map (fun b => b.toNat) = keyL s := by
    intro s hs
    unfold keyB
    rw [strOfNums_data, List.map_map]
    unfold keyZ
    rw [List.map_map]
    refine (List.map_congr_left (fun x hx => ?_)).trans (List.map_id _)
    have := keyL_lt hs x hx
    simp [Function.comp]
    omega
  rw [← e s hs, ← e t ht, h]
theorem keyE_len : ∀ (es : List DE), (∀ e ∈ es, OkE e) → (keyE es).length ≤ 8 * es.length
  | [], _ => by simp [keyE]
  | e :: es, h => by
    have h1 := put_len 6 e.2 (Nat.lt_of_lt_of_le (h e (by simp)).2 (by decide))
    have h2 := keyE_len es (fun f hf => h f (by simp [hf]))
    have : keyE (e :: es) = e.1 :: put e.2 ++ keyE es := by simp [keyE]
    rw [this]
    simp
    omega
theorem key_l0 (es : List DE) (hes : ∀ e ∈ es, OkE e) (hl : es.length ≤ 8796093022208) : ∀ (m i : Nat) (k : Nat) (x : List Int), i + m = es.length → m + 8 ≤ k → k < 20000000000000 → x.length ≤ 8 * i + 2 →
    daw_key.l0 k x (es.map toE) (es.length : Int) (i : Int) = some (strOfNums (x ++ (keyE (es.drop i)).map Int.ofNat))
  | 0, i, k + 1, x, hm, hk, hk2, hx => by
    unfold daw_key.l0
    rw [if_neg (by omega), List.drop_eq_nil_of_le (by omega)]
    simp [keyE]
  | m + 1, i, k + 1, x, hm, hk, hk2, hx => by
    unfold daw_key.l0
    have hi : i < es.length := by omega
    have hd : es.drop i = es[i] :: es.drop (i + 1) := List.drop_eq_getElem_cons hi
    have hr : rd_T84 (es.map toE) (i : Int) = toE es[i] := by
      unfold rd_T84
      rw [Int.toNat_natCast, List.getD_eq_getElem?_getD, List.getElem?_map, List.getElem?_eq_getElem hi]; rfl
    have ho := hes es[i] (List.getElem_mem hi)
    rw [if_pos (by omega), if_pos (by omega), if_pos (by simp; omega), if_pos (by omega), hr]
    have hw : IntKind.u64.wrap ((toE es[i]).f1) = ((es[i].2 : Nat) : Int) := by
      have := ho.2
      simp [toE, IntKind.wrap, IntKind.bits, IntKind.signed]
      omega
    rw [hw, Put_eq k es[i].2 (by omega) (Nat.lt_of_lt_of_le ho.2 (by decide)) _ (by simp; omega)]
    simp only [Option.bind_some]
    have hw2 : Go.RowKit.wrap64 ((i : Int) + 1) = ((i + 1 : Nat) : Int) := by
      unfold Go.RowKit.wrap64; omega
    have hp := put_len 6 es[i].2 (Nat.lt_of_lt_of_le ho.2 (by decide))
    rw [hw2, key_l0 es hes hl m (i + 1) k _ (by omega) (by omega) (by omega) (by simp; omega), hd]
    have hk3 : keyE (es[i] :: es.drop (i + 1)) = es[i].1 :: put es[i].2 ++ keyE (es.drop (i + 1)) := by unfold keyE; rw [List.flatMap_cons]
    rw [hk3]
    simp only [toE, List.map_append, List.map_cons, List.append_assoc, List.cons_append, List.nil_append]
    rfl
theorem key_eq (s : DS) (hs : OkS s) (hl : s.2.length ≤ 8796093022208) (k : Nat) (hk : s.2.length + 9 ≤ k) (hk2 : k < 20000000000000) : daw_key.f k (toS s).f0 (toS s).f1 = some (keyB s) := by
  have hj : ∀ b : Nat, b ≤ 1 → daw_key.j0 k (b : Int) (toS s).f0 (toS s).f1 = some (strOfNums ((put b).map Int.ofNat ++ (keyE s.2).map Int.ofNat)) := by
    intro b hb
    cases k with
    | zero => omega
    | succ k =>
      simp only [daw_key.j0]
      rw [Put_eq k b (by omega) (by omega) [] (by simp; omega)]
      simp only [Option.bind_some, List.nil_append]
      have h2 := key_l0 s.2 hs hl s.2.length 0 k ((put b).map Int.ofNat) (by omega) (by omega) (by omega) (by rw [put_low (by omega)]; simp)
      have : ((toS s).f1.length : Int) = (s.2.length : Int) := by simp [toS]
      rw [this]
      simpa [toS] using h2
  unfold daw_key.f keyB keyZ keyL
  have h0 := hj 0 (by omega)
  have h1 := hj 1 (by omega)
  have e : (toS s).f0 = s.1 := rfl
  cases hb : s.1 with
  | true => rw [e, hb] at h1 ⊢; rw [if_pos rfl]; simp only [if_true, List.map_append]; exact_mod_cast h1
  | false => rw [e, hb] at h0 ⊢; rw [if_neg (by decide)]; simp only [Bool.false_eq_true, if_false, List.map_append]; exact_mod_cast h0
open Go.Maps
def kl (s : DS) : Lit := .string (keyB s).data.toList
theorem isKey (s : DS) : WideAt.IsKeyLit (kl s) := trivial
/-- The map holds each left state's number at its key, and no other key of a state. -/
def Link (D : DataW Unit) (left : List DS) : Prop :=
  IsMap D ∧ (∀ s, OkS s → has D (kl s) = decide (s ∈ left)) ∧ ∀ s, OkS s → s ∈ left → D.atKey (kl s) (.lit (.int .i64 0)) = .lit (.int .i64 (left.idxOf s : Nat))
theorem link_empty : Link (.map [] : DataW Unit) [] := ⟨⟨[], rfl⟩, fun s _ => by simp [has_eq], fun s _ h => by simp at h⟩
theorem kl_ne {s t : DS} (hs : OkS s) (ht : OkS t) (h : s ≠ t) : kl s ≠ kl t := fun e => h (keyB_inj hs ht (by injection e))
theorem link_put {D : DataW Unit} {left : List DS} {s : DS} (h : Link D left) (hs : OkS s) (hn : s ∉ left) : Link (D.put (kl s) (.lit (.int .i64 (left.length : Nat)))) (left ++ [s]) := by
  refine ⟨h.1.put _ _, fun t ht => ?_, fun t ht hm => ?_⟩
  · by_cases e : t = s
    · subst e; rw [has_put_same h.1 (isKey _)]; simp
    · rw [has_put_other (kl_ne ht hs e), h.2.1 t ht]; simp [e]
  · by_cases e : t = s
    · subst e
      rw [atKey_put_same h.1 (isKey _)]
      have : (left ++ [t]).idxOf t = left.length := by
        rw [List.idxOf_append, if_neg hn]; simp
      rw [this]
    · have hm2 : t ∈ left := by simpa [e] using hm
      rw [atKey_put_other (kl_ne ht hs e), h.2.2 t ht hm2, List.idxOf_append, if_pos hm2]
end Go.Proofs.Ytgebhidpkcjpmaa.K

namespace Go.Proofs.Ytgebhidpkcjpmaa.K
open Go.RowKit Go.Proofs.YtgebhidpkcjpmaaW.PrintWords Go.Proofs.YtgebhidpkcjpmaaW.PrintLast Go.Proofs.YtgebhidpkcjpmaaW.PrintMore Go.Proofs.Ytgebhidpkcjpmaa
attribute [local go_sem] max2_int min2_int max_two min_two max_three min_three max_four min_four
set_option linter.unusedVariables false
set_option linter.unusedSimpArgs false
section
variable {P : Program} {src dst e : TypeId}
theorem C_string2 (hs : P.underlying src = some (.slice e)) (he : P.underlying e = some (.int .u8)) (hd : P.underlying dst = some .string) {A : Option Addr} {c : Nat} {l : List Int} {w : World}
    (h : Kd.C (Kd.int .u8) w A l.length l) : (convert src dst (.slice A l.length c)).run P w = .ok (.string (strOfNums l)) w ∧ ∀ n, (convert src dst (.slice A l.length c)).run P (w.drewN n) = .ok (.string (strOfNums l)) (w.drewN n) :=
  ⟨Kd.C_string hs he hd h, fun n => Kd.C_string hs he hd (Kd.C_drewN h n)⟩
end
section
variable {α : Type} {d : Kd α} {e base t : Nat} {ok : Nat → Prop} {w w1 : World} {v : Value} {xs : List α} {g : Nat} {cs : Array Value}
end
end Go.Proofs.Ytgebhidpkcjpmaa.K

namespace Go.Proofs.Ytgebhidpkcjpmaa.K
open Go.RowKit Go.Proofs.YtgebhidpkcjpmaaW.PrintWords Go.Proofs.YtgebhidpkcjpmaaW.PrintLast Go.Proofs.YtgebhidpkcjpmaaW.PrintMore Go.Proofs.Ytgebhidpkcjpmaa
attribute [local go_sem] max2_int min2_int max_two min_two max_three min_three max_four min_four
set_option linter.unusedVariables false
set_option linter.unusedSimpArgs false
open Go.Proofs.Ytgebhidpkcjpmaa.PDk Go.Proofs.Ytgebhidpkcjpmaa.Daw Go.Maps
theorem string_law : Keyed Try.prog 9 := string_keyed Try.underlying9
theorem zeroE (w : World) : (zeroValue 3).run Try.prog w = .ok (.int .i64 0) w := by kernel_rfl
theorem map_move {w w' : World} {P : Program} {k : TypeId} {R : Value → Option (DataW Unit × List MemPlace)} {b n : Nat} {D : DataW Unit} (h : w.ownsMap P k R b n D) (e : w'.heap[b]? = w.heap[b]?) : w'.ownsMap P k R b n D := by
  obtain ⟨es, clock, hb, F, hs, hD⟩ := h
  exact ⟨es, clock, e.trans hb, F, hs, hD⟩
theorem wf_nat (n : Nat) (h : n ≤ 1000000000) : (Lit.int .i64 (n : Int)).wf = true := by
  simp only [Lit.wf, IntKind.min, IntKind.max, IntKind.signed, IntKind.bits, Bool.and_eq_true, decide_eq_true_eq, if_true]
  omega
theorem map_cells {w : World} {P : Program} {k : TypeId} {R : Value → Option (DataW Unit × List MemPlace)} {b n : Nat} {D : DataW Unit} (h : w.ownsMap P k R b n D) {g t : Nat} {cells : Array Value} (hg : w.heap[g]? = some (.cells cells t (0, 0))) : g ≠ b := by
  rintro rfl
  obtain ⟨es, cl, hb2, _⟩ := h
  rw [hg] at hb2
  cases hb2
theorem keyB_size (s : DS) (h : OkS s) (hl : s.2.length ≤ 1000000) : (keyB s).size ≤ 10000000 := by
  unfold keyB keyZ
  rw [strOfNums_size, List.length_map]
  unfold keyL
  have := keyE_len s.2 h
  rw [List.length_append, put_low (by split <;> decide)]
  simp; omega
theorem keyOf_key (s : DS) (h : OkS s) (hl : s.2.length ≤ 1000000) : keyOf Try.prog 9 (.string (keyB s)) = some (kl s) :=
  Go.WideMaps.keyOf_string_mk Try.underlying9 (Nat.le_trans (keyB_size s h hl) (by decide))
/-- What number leaves. -/
def NumQ (base g bm : Nat) (left : List DS) (s : DS) (vP : Value) (word : ByteArray) (okL okS : Nat → Prop) (w w' : World) : Prop :=
  ∃ vL' okL' n' D', w'.heap[g]? = some (.cells #[vL', .map (some bm), vP, .string word] 112 (0, 0)) ∧ w'.ownsMap Try.prog 9 (plainElem Try.prog 3) bm n' D' ∧ n' ≤ (num left s).1.length ∧ Link D' (num left s).1 ∧
      Kd.S k82 82 w' base okL' vL' ((num left s).1.map toS) ∧ (∀ k, okL' k → okL k ∨ okS k ∨ w.heap.size ≤ k) ∧ Below base w w' ∧ (∀ k, k < w.heap.size → ¬ okL k → k ≠ g → k ≠ bm → w'.heap[k]? = w.heap[k]?)
set_option maxHeartbeats 4000000 in
set_option maxRecDepth 100000 in
theorem number_k (base g bm n : Nat) (left : List DS) (s : DS) (vL vP vE : Value) (word : ByteArray) (D : DataW Unit) (okL okS : Nat → Prop) (w : World)
    (hg : w.heap[g]? = some (.cells #[vL, .map (some bm), vP, .string word] 112 (0, 0)))
    (hm : w.ownsMap Try.prog 9 (plainElem Try.prog 3) bm n D) (hn : n ≤ left.length) (hD : Link D left)
    (hL : Kd.S k82 82 w base okL vL (left.map toS)) (hE : Kd.R k84 84 w base okS vE (toS s).f1)
    (hLS : ∀ k, okL k → ¬ okS k) (hb : base ≤ w.heap.size) (hbg : base ≤ g) (hbm : base ≤ bm) (hs : OkS s) (hsl : s.2.length ≤ 1000000) (hll : left.length ≤ 1000000) :
    Calls Try.prog 61 #[.pointer (some ⟨g, 0, none⟩), .agg #[.bool s.1, vE]] w fun e w' => e = .returned (.int .i64 ((num left s).2 : Nat)) ∧ NumQ base g bm left s vP word okL okS w w' := by
  obtain ⟨A, c, rfl⟩ := Kd.R_slice hE
  obtain ⟨AL, cL, hvL⟩ := Kd.S_slice hL
  rw [List.length_map] at hvL
  subst hvL
  have hLb := Kd.S_mono (Kd.S_bound hL) (ok' := fun k => okL k ∧ k < w.heap.size ∧ k ≠ bm) (fun k hk => ⟨hk.1, hk.2.2.1, by obtain ⟨_, _, cells, hc⟩ := hk.2.2.2; exact map_cells hm hc⟩)
  have hEb := Kd.R_mono (Kd.R_bound hE) (ok' := fun k => okS k ∧ k < w.heap.size ∧ k ≠ bm) (fun k hk => ⟨hk.1, hk.2.2.1, by obtain ⟨_, _, cells, hc⟩ := hk.2.2.2; exact map_cells hm hc⟩)
  obtain ⟨K, hK5, hK6⟩ : ∃ K, s.2.length + 9 ≤ K ∧ K < 20000000000000 := ⟨s.2.length + 9, by omega, by omega⟩
  have hkey : daw_key.f K s.1 (toS s).f1 = some (keyB s) := key_eq s hs (by omega) K hK5 hK6
  have hkof := keyOf_key s hs hsl
  obtain ⟨kb, hkb⟩ : ∃ kb, kb = keyB s := ⟨_, rfl⟩
  rw [← hkb] at hkey hkof
  clear hkb
  have hmlt := hm.lt
  have hglt := blk_lt hg
  have hgm := map_cells hm hg
  have HG := Aside0.mk hg; have HM := Aside0.mk hm; have HL := Aside0.mk hLb; have HE := Aside0.mk hEb; have HK := Aside0.mk hkey; have HO := Aside0.mk hkof
  have HBG := Aside0.mk hbg; have HBM := Aside0.mk hbm; have HB := Aside0.mk hb; have HLL := Aside0.mk hll; have HNN := Aside0.mk hn
  have HGL := Aside0.mk hglt; have HML := Aside0.mk hmlt; have HGM := Aside0.mk hgm
  clear hg hm hL hE hLb hEb hkey hkof hbg hbm hb hll hn hK5 hK6 hglt hmlt hgm
  have huS := Try.underlying82
  have huE := Try.underlying84
  go_enter Try.func61, Try.ntmps61
  go_wp2_with (first | ((with_reducible refine gate_dst (N := 3) rfl ?_); refine box_event ?hg (N := 3) ?hd (cs := #[.bool s.1, .slice A (toS s).f1.length c]) (t := 82) ?hr ?_; (case hd => rfl); (case hg => rfl); (case hr => first | (go_simp; done) | (go_simp; rfl)); intro gp hgq_ w1 hp hb1; have gp_eq := Aside0.mk hgq_; clear hgq_; have c0 : w1.cell? ⟨gp, 0, none⟩ = some (.bool s.1) := (blk_cell hp 0).trans rfl; have c1 : w1.cell? ⟨gp, 1, none⟩ = some (.slice A (toS s).f1.length c) := (blk_cell hp 1).trans rfl) | (go_at_call 85; (with_reducible refine (daw_key.calls K s.1 A c (toS s).f1 kb _ ?sC ?sc HK.out).mono ?_); (case sC => exact (Kd.R_reads' (Kd.R_below HE.out hb1)).2.2); (case sc => exact (Kd.R_reads' HE.out).2.1)))
  rintro e w2 ⟨rfl, hb2⟩
  have hb12 := hb1.trans (hb2.mono hb1.size)
  have HG2 := Aside0.mk (blk_below HG.out hb12); have HM2 := Aside0.mk (map_move HM.out (hb12.block bm HML.out)); have HL2 := Aside0.mk (Kd.S_below HL.out hb12); have HE2 := Aside0.mk (Kd.R_below HE.out hb12); have HP2 := Aside0.mk (blk_below hp hb2); have HB12 := Aside0.mk hb12
  have hsz2 : w.heap.size < w2.heap.size := by
    have h1 := blk_lt hp; have h2 := hb2.size; have h3 := gp_eq.out; omega
  have HS2 := Aside0.mk hsz2
  clear hb1 hb2 hb12 hp hsz2 c0 c1 HK
  have d0 : w2.cell? ⟨g, 0, none⟩ = some (.slice AL left.length cL) := (blk_cell HG2.out 0).trans rfl
  have d1 : w2.cell? ⟨g, 1, none⟩ = some (.map (some bm)) := (blk_cell HG2.out 1).trans rfl
  have c0 : w2.cell? ⟨gp, 0, none⟩ = some (.bool s.1) := (blk_cell HP2.out 0).trans rfl
  have c1 : w2.cell? ⟨gp, 1, none⟩ = some (.slice A (toS s).f1.length c) := (blk_cell HP2.out 1).trans rfl
  by_cases hmem : s ∈ left
  · have hhas : Maps.has D (kl s) = true := by rw [hD.2.1 s hs]; simp [hmem]
    have hat0 := hD.2.2 s hs hmem
    have hnum : num left s = (left, left.idxOf s) := by unfold num; rw [if_pos hmem]
    go_wp2_with (first | (at_lookup; refine wpList_lookup_own_ok_int _ rfl _ _ 110 rfl 9 3 .i64 string_law Try.underlying110 Try.underlying3 (zeroE _) bm n D rfl HM2.out _ _ rfl HO.out ?_; intro cc hat hwc; rw [hhas]))
    go_ret
    unfold NumQ
    rw [hnum]
    rw [hat0] at hat
    injection hat with hat
    injection hat with _ hat
    refine ⟨by rw [← hat]; rfl, _, _, n, D, HG2.out, HM2.out, HNN.out, hD, HL2.out, fun k hk => Or.inl hk.1, HB12.out.mono HB.out, fun k hk _ _ _ => HB12.out.block k hk⟩
  · have hhas : Maps.has D (kl s) = false := by rw [hD.2.1 s hs]; simp [hmem]
    have hnum : num left s = (left ++ [s], left.length) := by unfold num; rw [if_neg hmem]
    have hnl : n < maxLen := by have := HNN.out; have := HLL.out; unfold maxLen; omega
    go_wp2_with (first | (at_lookup; refine wpList_lookup_own_ok_int _ rfl _ _ 110 rfl 9 3 .i64 string_law Try.underlying110 Try.underlying3 (zeroE _) bm n D rfl HM2.out _ _ rfl HO.out ?_; intro cc hat hwc; rw [hhas]) | (at_mapUpdate; refine wpList_mapUpdate_own _ rfl _ _ _ 110 rfl 9 3 string_law Try.underlying110 _ bm n D rfl HM2.out hnl _ _ _ rfl rfl HO.out _ [] (plainElem_int Try.underlying3 (wf_nat _ (Nat.le_trans HLL.out (by decide)))) ?_; intro w3 hm3 hg3))
    have hgp : gp ≠ bm := map_cells HM2.out HP2.out
    have hgg : g ≠ gp := by have h1 := gp_eq.out; have h2 := HGL.out; omega
    have HG3 := Aside0.mk (blk_drew (blk_grown HG2.out hg3 (by simpa using HGM.out)))
    have HP3 := Aside0.mk (blk_drew (blk_grown HP2.out hg3 (by simpa using hgp)))
    have HL3 := Aside0.mk (Kd.S_drew (Kd.S_grown HL2.out hg3 (fun k hk => by simpa using hk.2.2)))
    have HE3 := Aside0.mk (Kd.R_drew (Kd.R_grown HE2.out hg3 (fun k hk => by simpa using hk.2.2)))
    have HM3 := Aside0.mk hm3.drew
    have HB3 := Aside0.mk (below_drew ((HB12.out.mono HB.out).grown hg3 (Nat.le_trans HB.out HB12.out.size) (fun k hk => by cases hk; exact HBM.out)))
    have HF3 : Aside0 (∀ k, k < w.heap.size → k ≠ bm → w3.drew.heap[k]? = w.heap[k]?) := ⟨fun k hk hkm => (hg3.block k (Nat.lt_of_lt_of_le hk HB12.out.size) (by simpa using hkm)).trans (HB12.out.block k hk)⟩
    have HS3 : Aside0 (w.heap.size < w3.drew.heap.size) := ⟨Nat.lt_of_lt_of_le HS2.out hg3.size⟩
    clear HG2 HP2 HL2 HE2 HM2 hm3 hg3 d0 d1 c0 c1
    refine start_ (n := 11) (S := fun w' => w'.cell? ⟨g, 0, none⟩ = some (.slice AL left.length cL) ∧ w'.cell? ⟨gp, 0, none⟩ = some (.bool s.1) ∧ w'.cell? ⟨gp, 1, none⟩ = some (.slice A (toS s).f1.length c)) (ds := [7, 10]) #[false, false, false, false, false, false, false, false, false, false, false] (by kernel_rfl) rfl rfl ⟨(blk_cell HG3.out 0).trans rfl, (blk_cell HP3.out 0).trans rfl, (blk_cell HP3.out 1).trans rfl⟩ (fun hHeld => ?_)
    generalize w3.drew = w4 at HG3 HP3 HL3 HE3 HM3 HB3 HF3 HS3 hHeld ⊢
    (refine pure_ (i := 0) (N := some 32) (v := ?_) (a' := ?_) #[true, false, false, false, false, false, false, false, false, false, false] rfl rfl (by kernel_rfl) (fun _ _ _ h => h) (Or.inl ⟨by rfl, ?_⟩) ?_ ?_; rotate_left; (intro w'; go_simp; with_reducible rfl); rotate_left; (simp only [Act.put, List.setIfInBounds_toArray, List.set_cons_zero, List.set_cons_succ, i64_w, i32_w]; rfl)); (refine pure_ (i := 1) (N := some 33) (v := ?_) (a' := ?_) #[true, true, false, false, false, false, false, false, false, false, false] rfl rfl (by kernel_rfl) (fun _ _ _ h => h) (Or.inl ⟨by rfl, ?_⟩) ?_ ?_; rotate_left; (intro w'; go_simp; with_reducible rfl); rotate_left; (simp only [Act.put, List.setIfInBounds_toArray, List.set_cons_zero, List.set_cons_succ, i64_w, i32_w]; rfl)); (refine pure_ (i := 2) (N := some 34) (v := ?_) (a' := ?_) #[true, true, true, false, false, false, false, false, false, false, false] rfl rfl (by kernel_rfl) (fun _ _ _ h => h) (Or.inl ⟨by rfl, ?_⟩) ?_ ?_; rotate_left; (intro w'; go_simp; with_reducible rfl); rotate_left; (simp only [Act.put, List.setIfInBounds_toArray, List.set_cons_zero, List.set_cons_succ, i64_w, i32_w]; rfl)); (refine pure_ (i := 3) (N := some 35) (v := ?_) (a' := ?_) #[true, true, true, true, false, false, false, false, false, false, false] rfl rfl (by kernel_rfl) (fun _ _ _ h => h) (Or.inl ⟨by rfl, ?_⟩) ?_ ?_; rotate_left; (intro w'; go_simp; with_reducible rfl); rotate_left; (simp only [Act.put, List.setIfInBounds_toArray, List.set_cons_zero, List.set_cons_succ, i64_w, i32_w]; rfl))
    (refine take_ (i := 4) (N := some 36) (v := ?_) (a' := ?_) #[true, true, true, true, true, false, false, false, false, false, false] rfl rfl (by kernel_rfl) (fun _ _ _ h => h) (Or.inl ⟨by rfl, ?_⟩) hHeld ?_ ?_; rotate_left; (rintro w' ⟨s0, s1, s2⟩; go_simp; with_reducible rfl); rotate_left; (simp only [Act.put, List.setIfInBounds_toArray, List.set_cons_zero, List.set_cons_succ, i64_w, i32_w]; rfl)); (refine take_ (i := 5) (N := some 37) (v := ?_) (a' := ?_) #[true, true, true, true, true, true, false, false, false, false, false] rfl rfl (by kernel_rfl) (fun _ _ _ h => h) (Or.inl ⟨by rfl, ?_⟩) hHeld ?_ ?_; rotate_left; (rintro w' ⟨s0, s1, s2⟩; go_simp; with_reducible rfl); rotate_left; (simp only [Act.put, List.setIfInBounds_toArray, List.set_cons_zero, List.set_cons_succ, i64_w, i32_w]; rfl))
    refine one_ (i := 6) (N := some 38) #[true, true, true, true, true, true, true, false, false, false, false] rfl rfl (by kernel_rfl) (by decide) (fun K hK => ?_)
    (refine value_ (w1 := ?_) (v := ?_) (by rfl) rfl ?_ ?_; rotate_left 2; (go_simp; constructor; rfl; rfl))
    refine hK.out _ _ ⟨(blk_cell (blk_alloc HG3.out _) 0).trans rfl, (blk_cell (blk_alloc HP3.out _) 0).trans rfl, (blk_cell (blk_alloc HP3.out _) 1).trans rfl⟩ (fun hHeld => ?_)
    (clear hK K; refine norm_ (a' := ?_) ?_ ?_; rotate_left; (show Act.put _ (some 38) _ = _; simp only [Act.put, List.setIfInBounds_toArray, List.set_cons_zero, List.set_cons_succ, i64_w, i32_w]; rfl))
    refine last_ (i := 7) (N := some 39) #[true, true, true, true, true, true, true, true, false, false, false] rfl rfl (by kernel_rfl) (by decide) (fun K hK => ?_)
    refine Kd.S_append_step (k82) (w0 := w) (base) (by rfl) (.tmp 36) (.tmp 38) 25 82 (.agg #[(.bool false), (.slice none 0 0)]) 32 rfl Try.underlying25 info82 rfl (by decide) (by omega) (.slice AL left.length cL) (left.map toS) (toS s) [.bool s.1, .slice A (toS s).f1.length c] (fun k => okL k ∨ okS k ∨ w.heap.size ≤ k) okS rfl rfl ?aP ?aK ?aF ?aO ?aB ?aS ?aL ?_
    (case aP => exact k82_mkM _ _ _ (toS s) (Kd.R_mono HE3.out (fun k hk => hk.1)))
    (case aK => exact fun k hk => ⟨Or.inr (Or.inl hk), fun e => hLS k ((Kd.S_R HL3.out).1 k e.symm).1 hk⟩)
    (case aF => exact fun k hk => Or.inr (Or.inr (Nat.le_trans (Nat.le_of_lt HS3.out) hk)))
    (case aO => exact Kd.S_mono HL3.out (fun k hk => ⟨Or.inl hk.1, hLS k hk.1⟩))
    (case aB => exact HB3.out)
    (case aS => exact Nat.le_trans HB.out (Nat.le_of_lt HS3.out))
    (case aL => have := HLL.out; rw [List.length_map]; omega)
    intro v1 w5 hS5 hb5 hg5 hat5
    have hgne : some g ≠ (Value.slice AL left.length cL).ownBlock := fun e => (by have := ((Kd.S_R HL3.out).1 g e.symm); exact absurd (Kd.S_typed HL3.out g e.symm) (by rintro ⟨cells, hc⟩; rw [HG3.out] at hc; injection hc with hc; injection hc with _ hc; exact absurd hc (by decide)))
    have hmne : some bm ≠ (Value.slice AL left.length cL).ownBlock := fun e => ((Kd.S_R HL3.out).1 bm e.symm).2.2 rfl
    have HG5 := Aside0.mk (blk_grown HG3.out hg5 hgne)
    have HM5 := Aside0.mk (HM3.out.kept hg5 hmne)
    have HB5 := Aside0.mk hb5
    have HF5 : Aside0 (∀ k, k < w.heap.size → ¬ okL k → k ≠ bm → w5.heap[k]? = w.heap[k]?) := ⟨fun k hk hn hkm => (hg5.block k (Nat.lt_trans hk HS3.out) (fun e => hn ((Kd.S_R HL3.out).1 k e.symm).1)).trans (HF3.out k hk hkm)⟩
    obtain ⟨A5, c5, hv5⟩ := Kd.S_slice hS5
    rw [List.length_append, List.length_map] at hv5
    subst hv5
    have HS5 := Aside0.mk hS5
    clear hS5 hb5 hg5 hat5 hgne hmne
    refine hK.out _ _ ?_
    (clear hK K; refine norm_ (a' := ?_) ?_ ?_; rotate_left; (show Act.put _ (some 39) _ = _; simp only [Act.put, List.setIfInBounds_toArray, List.set_cons_zero, List.set_cons_succ, i64_w, i32_w]; rfl))
    (refine pure_ (i := 8) (N := some 40) (v := ?_) (a' := ?_) #[true, true, true, true, true, true, true, true, true, false, false] rfl rfl (by kernel_rfl) (fun _ _ _ h => h) (Or.inl ⟨by rfl, ?_⟩) ?_ ?_; rotate_left; (intro w'; go_simp; with_reducible rfl); rotate_left; (simp only [Act.put, List.setIfInBounds_toArray, List.set_cons_zero, List.set_cons_succ, i64_w, i32_w]; rfl)); (refine pure_ (i := 9) (N := some 41) (v := ?_) (a' := ?_) #[true, true, true, true, true, true, true, true, true, true, false] rfl rfl (by kernel_rfl) (fun _ _ _ h => h) (Or.inl ⟨by rfl, ?_⟩) ?_ ?_; rotate_left; (intro w'; go_simp; with_reducible rfl); rotate_left; (simp only [Act.put, List.setIfInBounds_toArray, List.set_cons_zero, List.set_cons_succ, i64_w, i32_w]; rfl))
    refine last_ (i := 10) (N := none) #[true, true, true, true, true, true, true, true, true, true, true] rfl rfl (by kernel_rfl) (by decide) (fun K hK => ?_)
    have d0 : w5.cell? ⟨g, 0, none⟩ = some (.slice AL left.length cL) := (blk_cell HG5.out 0).trans rfl
    have f0 := blk_frozen HG5.out 0
    refine skip_ (w1 := ?_) (by rfl) rfl ?_ ?_
    rotate_left
    · go_simp
      rfl
    refine hK.out _ _ ?_
    clear hK K
    refine done_ (by kernel_rfl) ?_
    try go_wp2
    go_ret
    unfold NumQ
    rw [hnum]
    refine ⟨rfl, _, _, n + 1, _, blk_put HG5.out 0 _ rfl, map_move HM5.out (Below.heap_setCell _ _ _ _ (Ne.symm HGM.out)), by have := HNN.out; simp; omega, link_put hD hs hmem, ?_, fun k hk => hk, HB5.out.setCell (p := ⟨g, 0, none⟩) HBG.out _, fun k hk hn hkg hkm => (Below.heap_setCell _ ⟨g, 0, none⟩ _ k hkg).trans (HF5.out k hk hn hkm)⟩
    have e1 : (left ++ [s]).map toS = left.map toS ++ [toS s] := by simp
    rw [e1]
    exact Kd.S_mono (Kd.S_set HS5.out HG5.out (by decide) 0 _) (fun k hk => hk)
end Go.Proofs.Ytgebhidpkcjpmaa.K

namespace Go.Proofs.Ytgebhidpkcjpmaa.PDm
open Go.RowKit Go.Proofs.YtgebhidpkcjpmaaW.PrintWords Go.Proofs.YtgebhidpkcjpmaaW.PrintLast Go.Proofs.YtgebhidpkcjpmaaW.PrintMore Go.Proofs.Ytgebhidpkcjpmaa.K Go.Proofs.Ytgebhidpkcjpmaa.PDk
attribute [local go_sem] max2_int min2_int max_two min_two max_three min_three max_four min_four   -- for this text's walks alone
set_option linter.unusedVariables false
set_option linter.unusedSimpArgs false



def errW : Option Int → Value
  | none => .nilIface
  | some c => .iface 0 (.int .i64 c)
theorem errW_none : errW none = .nilIface := rfl
theorem errW_some (c : Int) : errW (some c) = .iface 0 (.int .i64 c) := rfl

def rd_L4 (xs : List (List S84)) (i : Int) : (List S84) := xs.getD i.toNat ([] : List S84)
end Go.Proofs.Ytgebhidpkcjpmaa.PDm

