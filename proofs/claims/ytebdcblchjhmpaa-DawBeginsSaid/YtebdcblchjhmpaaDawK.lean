/- A state's key as the program writes it; the map of keys as it is read. -/
import Derived.Maps.OwnSet
import Derived.Maps.OwnOps
import Derived.Test.YtebdcblchjhmpaaDawP
import Derived.Test.YtebdcblchjhmpaaDawS
import Derived.Test.YtebdcblchjhmpaaProg
import Derived.Below
import Derived.Deep.Draws
import Derived.Deep.AppendLies
import Derived.Maps.AppendAt
import Derived.OwnWalk
import Derived.Laws.BytesArg
import Derived.Laws.MakeOwn
import Derived.Laws.OwnMore
import Derived.Deep.OwnRows
import Derived.Tactics
import Derived.Lib.ConvBytes
import Derived.Laws.Slices
import Derived.WalkKit
import Derived.KernelRfl
import Derived.RowKit3
import Derived.Deep.LoopGhost
import Derived.Deep.QuietTactic
import Derived.BigQuiet
import Derived.WideLaws
import Derived.Deep.DeepCutAuto
import Derived.Deep.CutBlock
import Derived.Deep.RegionHeld3
import Derived.Laws.Rows
import Derived.Lib.AppendStr
import Derived.ArgAppend
import Derived.Laws.IdiomCopy
import Derived.OrdersHeld
import Derived.Laws.BitsLemmas
import Derived.RowKit
import Derived.Lib.OthersKept
import Derived.WalkSmall
import Derived.Deep.RegionLaw
import Derived.BigRegion
import Derived.Test.YtebdcblchjhmpaaWWords
import Derived.Test.YtebdcblchjhmpaaWLast
import Derived.Test.YtebdcblchjhmpaaWTab
import Derived.Test.YtebdcblchjhmpaaWFour
import Derived.Test.YtebdcblchjhmpaaWQPut
import Derived.Test.YtebdcblchjhmpaaWApart
import Derived.Test.YtebdcblchjhmpaaWArr
import Derived.Test.YtebdcblchjhmpaaWZeros
import Derived.Test.YtebdcblchjhmpaaWFoot
import Derived.Test.YtebdcblchjhmpaaWKept
import Derived.Test.YtebdcblchjhmpaaWShare
import Derived.Test.YtebdcblchjhmpaaWN
import Derived.Test.YtebdcblchjhmpaaWFootNe
import Derived.Test.YtebdcblchjhmpaaWAt
import Derived.Test.YtebdcblchjhmpaaWEqStruct
import Derived.Test.YtebdcblchjhmpaaWRepsOne
import Derived.Test.YtebdcblchjhmpaaWInv
import Derived.Test.YtebdcblchjhmpaaWInvWords
import Derived.Test.YtebdcblchjhmpaaWGuard
import Derived.Test.YtebdcblchjhmpaaWNEv
import Derived.Test.YtebdcblchjhmpaaWMore
import Derived.Test.YtebdcblchjhmpaaInfo
import Derived.Test.YtebdcblchjhmpaaUtf
import Derived.Test.YtebdcblchjhmpaaHelp
import Derived.Test.YtebdcblchjhmpaaHelp2
import Derived.Test.YtebdcblchjhmpaaUtfE
import Derived.Test.YtebdcblchjhmpaaPDkx
namespace Go.Proofs.Ytebdcblchjhmpaa.K
open Go.RowKit Go.Proofs.YtebdcblchjhmpaaW.PrintWords Go.Proofs.YtebdcblchjhmpaaW.PrintLast Go.Proofs.YtebdcblchjhmpaaW.PrintMore Go.Proofs.Ytebdcblchjhmpaa
attribute [local go_sem] max2_int min2_int max_two min_two max_three min_three max_four min_four
set_option linter.unusedVariables false
set_option linter.unusedSimpArgs false
open Go.Proofs.Ytebdcblchjhmpaa.PDk Go.Proofs.Ytebdcblchjhmpaa.Daw
def toE (e : DE) : S33 := ⟨(e.1 : Int), (e.2 : Int)⟩
def toS (s : DS) : S31 := ⟨s.1, s.2.map toE⟩
def OkE (e : DE) : Prop := e.1 < 256 ∧ e.2 < 1000000000
def OkS (s : DS) : Prop := ∀ e ∈ s.2, OkE e
set_option maxRecDepth 100000 in
theorem or128 : ∀ m : Fin 256, Go.bits .or .u8 (m.val : Int) 128 = ((m.val % 128 + 128 : Nat) : Int) := by decide
theorem pow7 (k : Nat) : 2 ^ (7 * (k + 1)) = 2 ^ (7 * k) * 128 := by rw [show 7 * (k + 1) = 7 * k + 7 from by omega, Nat.pow_add]
theorem put_step (k n : Nat) (x : List Int) (hx : x.length < 140737488355328) : num_Put.l0 (k + 1) (n : Int) x = if n < 128 then some (x ++ (put n).map Int.ofNat) else num_Put.l0 k ((n / 128 : Nat) : Int) (x ++ [((n % 128 + 128 : Nat) : Int)]) := by
  conv => lhs; unfold num_Put.l0
  by_cases h1 : n < 128
  · rw [if_neg (by omega), if_pos (by omega), if_pos h1, put_low h1]
    have e : (n : Int) % 256 = n := by omega
    rw [e]; rfl
  · rw [if_pos (by omega), if_pos (by omega), if_neg h1]
    have e1 : (n : Int) / 128 = ((n / 128 : Nat) : Int) := by omega
    have e2 : (n : Int) % 256 = ((⟨n % 256, by omega⟩ : Fin 256).val : Int) := by simp
    rw [e1, e2, or128]
    have e3 : n % 256 % 128 + 128 = n % 128 + 128 := by omega
    simp only [e3]
theorem put_l0 : ∀ (k n : Nat) (x : List Int), n < 2 ^ (7 * (k + 1)) → x.length + k < 140737488355328 → num_Put.l0 (k + 1) (n : Int) x = some (x ++ (put n).map Int.ofNat)
  | 0, n, x, h, hx => by
    rw [put_step 0 n x (by omega), if_pos (by simpa using h)]
  | k + 1, n, x, h, hx => by
    rw [put_step (k + 1) n x (by omega)]
    by_cases h1 : n < 128
    · rw [if_pos h1]
    · rw [if_neg h1, put_l0 k (n / 128) _ (by rw [Nat.div_lt_iff_lt_mul (by decide)]; rw [pow7] at h; omega) (by simp; omega), put_high h1]
      simp
theorem put_len : ∀ (k n : Nat), n < 2 ^ (7 * k) → (put n).length ≤ k + 1
  | 0, n, h => by
    have : n = 0 := by simpa using h
    subst this; rw [put_low (by decide)]; decide
  | k + 1, n, h => by
    by_cases h1 : n < 128
    · rw [put_low h1]; simp
    · rw [put_high h1]
      have := put_len k (n / 128) (by
        rw [Nat.div_lt_iff_lt_mul (by decide)]; rw [pow7] at h; omega)
      simpa using this
theorem Put_eq (k n : Nat) (hk : 5 ≤ k) (hn : n < 2 ^ 35) (x : List Int) (hx : x.length + k < 140737488355328) : num_Put.f k x (n : Int) = some (x ++ (put n).map Int.ofNat) := by
  unfold num_Put.f
  simp only [Option.bind_some, List.length_nil, Nat.zero_add, List.nil_append]
  obtain ⟨m, rfl⟩ : ∃ m, k = m + 1 := ⟨k - 1, by omega⟩
  rw [if_pos (by omega), put_l0 m n x (Nat.lt_of_lt_of_le hn (Nat.pow_le_pow_right (by decide) (by omega))) (by omega)]
def keyZ (s : DS) : List Int := (keyL s).map Int.ofNat
def keyB (s : DS) : ByteArray := strOfNums (keyZ s)
theorem put_lt (n : Nat) : ∀ x ∈ put n, x < 256 := by
  induction n using Nat.strongRecOn with
  | _ n ih =>
    intro x hx
    by_cases h : n < 128
    · rw [put_low h] at hx; simp at hx; omega
    · rw [put_high h] at hx
      rcases List.mem_cons.1 hx with rfl | hx
      · omega
      · exact ih (n / 128) (by omega) x hx
theorem keyL_lt {s : DS} (h : OkS s) : ∀ x ∈ keyL s, x < 256 := by
  intro x hx
  unfold keyL keyE at hx
  rcases List.mem_append.1 hx with hx | hx
  · exact put_lt _ x hx
  · obtain ⟨e, he, hx⟩ := List.mem_flatMap.1 hx
    rcases List.mem_cons.1 hx with rfl | hx
    · exact (h e he).1
    · exact put_lt _ x hx
theorem keyB_inj {s t : DS} (hs : OkS s) (ht : OkS t) (h : (keyB s).data.toList = (keyB t).data.toList) : s = t := by
  apply keyL_inj
  have e : ∀ s, OkS s → (keyB s).data.toList.map (fun b => b.toNat) = keyL s := by
    intro s hs
    unfold keyB
    rw [strOfNums_data, List.map_map]
    unfold keyZ
    rw [List.map_map]
    refine (List.map_congr_left (fun x hx => ?_)).trans (List.map_id _)
    have := keyL_lt hs x hx
    simp [Function.comp]
    omega
  rw [← e s hs, ← e t ht, h]
theorem keyE_len : ∀ (es : List DE), (∀ e ∈ es, OkE e) → (keyE es).length ≤ 7 * es.length
  | [], _ => by simp [keyE]
  | e :: es, h => by
    have h1 := put_len 5 e.2 (Nat.lt_of_lt_of_le (h e (by simp)).2 (by decide))
    have h2 := keyE_len es (fun f hf => h f (by simp [hf]))
    have : keyE (e :: es) = e.1 :: put e.2 ++ keyE es := by simp [keyE]
    rw [this]
    simp
    omega
theorem key_l0 (es : List DE) (hes : ∀ e ∈ es, OkE e) (hl : es.length ≤ 1000000) : ∀ (m i : Nat) (k : Nat) (x : List Int), i + m = es.length → m + 7 ≤ k → k < 100000000000 → x.length ≤ 7 * i + 2 →
    daw_key.l0 k x (es.map toE) (es.length : Int) (i : Int) = some (strOfNums (x ++ (keyE (es.drop i)).map Int.ofNat))
  | 0, i, k + 1, x, hm, hk, hk2, hx => by
    unfold daw_key.l0
    rw [if_neg (by omega), List.drop_eq_nil_of_le (by omega)]
    simp [keyE]
  | m + 1, i, k + 1, x, hm, hk, hk2, hx => by
    unfold daw_key.l0
    have hi : i < es.length := by omega
    have hd : es.drop i = es[i] :: es.drop (i + 1) := List.drop_eq_getElem_cons hi
    have hr : rd_T33 (es.map toE) (i : Int) = toE es[i] := by
      unfold rd_T33
      rw [Int.toNat_natCast, List.getD_eq_getElem?_getD, List.getElem?_map, List.getElem?_eq_getElem hi]; rfl
    have ho := hes es[i] (List.getElem_mem hi)
    rw [if_pos (by omega), if_pos (by omega), if_pos (by simp; omega), if_pos (by omega), hr]
    have hw : IntKind.u64.wrap ((toE es[i]).f1) = ((es[i].2 : Nat) : Int) := by
      have := ho.2
      simp [toE, IntKind.wrap, IntKind.bits, IntKind.signed]
      omega
    rw [hw, Put_eq k es[i].2 (by omega) (Nat.lt_of_lt_of_le ho.2 (by decide)) _ (by simp; omega)]
    simp only [Option.bind_some]
    have hw2 : Go.RowKit.wrap64 ((i : Int) + 1) = ((i + 1 : Nat) : Int) := by
      unfold Go.RowKit.wrap64; omega
    have hp := put_len 5 es[i].2 (Nat.lt_of_lt_of_le ho.2 (by decide))
    rw [hw2, key_l0 es hes hl m (i + 1) k _ (by omega) (by omega) (by omega) (by simp; omega), hd]
    have hk3 : keyE (es[i] :: es.drop (i + 1)) = es[i].1 :: put es[i].2 ++ keyE (es.drop (i + 1)) := by unfold keyE; rw [List.flatMap_cons]
    rw [hk3]
    simp only [toE, List.map_append, List.map_cons, List.append_assoc, List.cons_append, List.nil_append]
    rfl
theorem key_eq (s : DS) (hs : OkS s) (hl : s.2.length ≤ 1000000) (k : Nat) (hk : s.2.length + 8 ≤ k) (hk2 : k < 100000000) : daw_key.f k (toS s).f0 (toS s).f1 = some (keyB s) := by
  have hj : ∀ b : Nat, b ≤ 1 → daw_key.j0 k (b : Int) (toS s).f0 (toS s).f1 = some (strOfNums ((put b).map Int.ofNat ++ (keyE s.2).map Int.ofNat)) := by
    intro b hb
    cases k with
    | zero => omega
    | succ k =>
      simp only [daw_key.j0]
      rw [Put_eq k b (by omega) (by omega) [] (by simp; omega)]
      simp only [Option.bind_some, List.nil_append]
      have h2 := key_l0 s.2 hs hl s.2.length 0 k ((put b).map Int.ofNat) (by omega) (by omega) (by omega) (by rw [put_low (by omega)]; simp)
      have : ((toS s).f1.length : Int) = (s.2.length : Int) := by simp [toS]
      rw [this]
      simpa [toS] using h2
  unfold daw_key.f keyB keyZ keyL
  have h0 := hj 0 (by omega)
  have h1 := hj 1 (by omega)
  have e : (toS s).f0 = s.1 := rfl
  cases hb : s.1 with
  | true => rw [e, hb] at h1 ⊢; rw [if_pos rfl]; simp only [if_true, List.map_append]; exact_mod_cast h1
  | false => rw [e, hb] at h0 ⊢; rw [if_neg (by decide)]; simp only [Bool.false_eq_true, if_false, List.map_append]; exact_mod_cast h0
/-! ### the map of what was left -/
open Go.Maps
def kl (s : DS) : Lit := .string (keyB s).data.toList
theorem isKey (s : DS) : WideAt.IsKeyLit (kl s) := trivial
/-- The map holds each left state's number at its key, and no other key of a state. -/
def Link (D : DataW Unit) (left : List DS) : Prop :=
  IsMap D ∧ (∀ s, OkS s → has D (kl s) = decide (s ∈ left)) ∧ ∀ s, OkS s → s ∈ left → D.atKey (kl s) (.lit (.int .i64 0)) = .lit (.int .i64 (left.idxOf s : Nat))
theorem link_empty : Link (.map [] : DataW Unit) [] := ⟨⟨[], rfl⟩, fun s _ => by simp [has_eq], fun s _ h => by simp at h⟩
theorem kl_ne {s t : DS} (hs : OkS s) (ht : OkS t) (h : s ≠ t) : kl s ≠ kl t := fun e => h (keyB_inj hs ht (by injection e))
theorem link_put {D : DataW Unit} {left : List DS} {s : DS} (h : Link D left) (hs : OkS s) (hn : s ∉ left) : Link (D.put (kl s) (.lit (.int .i64 (left.length : Nat)))) (left ++ [s]) := by
  refine ⟨h.1.put _ _, fun t ht => ?_, fun t ht hm => ?_⟩
  · by_cases e : t = s
    · subst e; rw [has_put_same h.1 (isKey _)]; simp
    · rw [has_put_other (kl_ne ht hs e), h.2.1 t ht]; simp [e]
  · by_cases e : t = s
    · subst e
      rw [atKey_put_same h.1 (isKey _)]
      have : (left ++ [t]).idxOf t = left.length := by
        rw [List.idxOf_append, if_neg hn]; simp
      rw [this]
    · have hm2 : t ∈ left := by simpa [e] using hm
      rw [atKey_put_other (kl_ne ht hs e), h.2.2 t ht hm2, List.idxOf_append, if_pos hm2]
end Go.Proofs.Ytebdcblchjhmpaa.K
