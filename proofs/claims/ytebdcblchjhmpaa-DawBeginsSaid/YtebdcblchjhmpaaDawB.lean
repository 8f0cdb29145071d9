/- daw.Build: the automaton of words. -/
import Derived.Maps.OwnSet
import Derived.Maps.OwnOps
import Derived.Test.YtebdcblchjhmpaaDawP
import Derived.Test.YtebdcblchjhmpaaDawS
import Derived.Test.YtebdcblchjhmpaaDawK
import Derived.Test.YtebdcblchjhmpaaDawN
import Derived.Test.YtebdcblchjhmpaaDawV
import Derived.Test.YtebdcblchjhmpaaDawA
import Derived.Test.YtebdcblchjhmpaaProg
import Derived.Below
import Derived.Deep.Draws
import Derived.Deep.AppendLies
import Derived.Maps.AppendAt
import Derived.OwnWalk
import Derived.Laws.BytesArg
import Derived.Laws.MakeOwn
import Derived.Laws.OwnMore
import Derived.Deep.OwnRows
import Derived.Tactics
import Derived.Lib.ConvBytes
import Derived.Laws.Slices
import Derived.WalkKit
import Derived.KernelRfl
import Derived.RowKit3
import Derived.Deep.LoopGhost
import Derived.Deep.QuietTactic
import Derived.BigQuiet
import Derived.WideLaws
import Derived.Deep.DeepCutAuto
import Derived.Deep.CutBlock
import Derived.Deep.RegionHeld3
import Derived.Laws.Rows
import Derived.Lib.AppendStr
import Derived.ArgAppend
import Derived.Laws.IdiomCopy
import Derived.OrdersHeld
import Derived.Laws.BitsLemmas
import Derived.RowKit
import Derived.Lib.OthersKept
import Derived.WalkSmall
import Derived.Deep.RegionLaw
import Derived.BigRegion
import Derived.Test.YtebdcblchjhmpaaWWords
import Derived.Test.YtebdcblchjhmpaaWLast
import Derived.Test.YtebdcblchjhmpaaWTab
import Derived.Test.YtebdcblchjhmpaaWFour
import Derived.Test.YtebdcblchjhmpaaWQPut
import Derived.Test.YtebdcblchjhmpaaWApart
import Derived.Test.YtebdcblchjhmpaaWArr
import Derived.Test.YtebdcblchjhmpaaWZeros
import Derived.Test.YtebdcblchjhmpaaWFoot
import Derived.Test.YtebdcblchjhmpaaWKept
import Derived.Test.YtebdcblchjhmpaaWShare
import Derived.Test.YtebdcblchjhmpaaWN
import Derived.Test.YtebdcblchjhmpaaWFootNe
import Derived.Test.YtebdcblchjhmpaaWAt
import Derived.Test.YtebdcblchjhmpaaWEqStruct
import Derived.Test.YtebdcblchjhmpaaWRepsOne
import Derived.Test.YtebdcblchjhmpaaWInv
import Derived.Test.YtebdcblchjhmpaaWInvWords
import Derived.Test.YtebdcblchjhmpaaWGuard
import Derived.Test.YtebdcblchjhmpaaWNEv
import Derived.Test.YtebdcblchjhmpaaWMore
import Derived.Test.YtebdcblchjhmpaaInfo
import Derived.Test.YtebdcblchjhmpaaUtf
import Derived.Test.YtebdcblchjhmpaaHelp
import Derived.Test.YtebdcblchjhmpaaHelp2
import Derived.Test.YtebdcblchjhmpaaHelp5
import Derived.Test.YtebdcblchjhmpaaUtfE
import Derived.Test.YtebdcblchjhmpaaPDkx
namespace Go.Proofs.Ytebdcblchjhmpaa.K
open Go.RowKit Go.Proofs.YtebdcblchjhmpaaW.PrintWords Go.Proofs.YtebdcblchjhmpaaW.PrintLast Go.Proofs.YtebdcblchjhmpaaW.PrintMore Go.Proofs.Ytebdcblchjhmpaa
attribute [local go_sem] max2_int min2_int max_two min_two max_three min_three max_four min_four
set_option linter.unusedVariables false
set_option linter.unusedSimpArgs false
open Go.Proofs.Ytebdcblchjhmpaa.PDk Go.Proofs.Ytebdcblchjhmpaa.Daw Go.Maps
def bytesAll (l : List ByteArray) : Nat := 1 + (l.map fun s => s.size + 1).sum
def wordsN (l : List ByteArray) : List (List Nat) := l.map Utf.nats
/-- What daw.Build answers. -/
def buildR (l : List ByteArray) : List S31 × Int :=
  if [] ∈ wordsN l then ([], 1) else if (wordsN l).Pairwise (· < ·) then ((build (wordsN l)).map toS, 0) else ([], 9)
def daw_Build.f (l : List ByteArray) : Option (List S31 × Int) := if bytesAll l ≤ 1000000 then some (buildR l) else none
theorem index_l0 (l : List ByteArray) (a : ByteArray) : ∀ (m i k : Nat), i + m = l.length → m < k → l.length ≤ 1000000 → slices_Index_string_string.l0 k l a (l.length : Int) (i : Int) = some (match (l.drop i).findIdx? (fun x => a.toList == x.toList) with | some j => ((i + j : Nat) : Int) | none => -1)
  | 0, i, k + 1, hm, hk, hl => by
    unfold slices_Index_string_string.l0
    rw [if_neg (by omega), List.drop_eq_nil_of_le (by omega)]; rfl
  | m + 1, i, k + 1, hm, hk, hl => by
    unfold slices_Index_string_string.l0
    have hi : i < l.length := by omega
    have hr : rdOf ByteArray.empty l (i : Int) = l[i] := by
      unfold rdOf
      rw [Int.toNat_natCast, List.getD_eq_getElem?_getD, List.getElem?_eq_getElem hi]; rfl
    rw [if_pos (by omega), if_pos (by omega), if_pos (by omega), hr, List.drop_eq_getElem_cons hi, List.findIdx?_cons]
    by_cases h : a.toList = l[i].toList
    · rw [if_pos h, if_pos (by simpa using h)]; simp
    · have hw : Go.RowKit.wrap64 ((i : Int) + 1) = ((i + 1 : Nat) : Int) := by unfold Go.RowKit.wrap64; omega
      rw [if_neg h, hw, index_l0 l a m (i + 1) k (by omega) (by omega) hl, if_neg (by simpa using h)]
      cases List.findIdx? (fun x => a.toList == x.toList) (l.drop (i + 1)) with
      | none => rfl
      | some j => exact congrArg some (congrArg Nat.cast (by omega : i + 1 + j = i + (j + 1)))
theorem toList_empty (x : ByteArray) : (ByteArray.toList ⟨#[]⟩ == x.toList) = decide (Utf.nats x = []) := by
  rw [Utf.toList_nats]
  have e : x.toList.map (fun b => b.toNat) = Utf.nats x := by rw [ByteArray.toList_eq]; rfl
  rw [e]
  show ([] == Utf.nats x) = _
  cases Utf.nats x <;> simp
theorem contains_empty (l : List ByteArray) (k : Nat) (hl : l.length ≤ 1000000) (hk : l.length < k) : slices_Contains_string_string.f k l ⟨#[]⟩ = some (decide ([] ∈ wordsN l)) := by
  unfold slices_Contains_string_string.f slices_Index_string_string.f
  have := index_l0 l ⟨#[]⟩ l.length 0 k (by omega) hk hl
  rw [show ((0 : Nat) : Int) = 0 from rfl] at this
  rw [this]
  simp only [Option.bind_some, List.drop_zero, Option.some.injEq]
  have h2 : (l.findIdx? (fun x => ByteArray.toList ⟨#[]⟩ == x.toList)).isSome = decide ([] ∈ wordsN l) := by
    rw [List.findIdx?_isSome, Bool.eq_iff_iff, List.any_eq_true, decide_eq_true_eq]
    unfold wordsN
    rw [List.mem_map]
    constructor
    · rintro ⟨x, hx, h⟩
      rw [toList_empty] at h
      exact ⟨x, hx, of_decide_eq_true h⟩
    · rintro ⟨x, hx, h⟩
      exact ⟨x, hx, by rw [toList_empty]; exact decide_eq_true h⟩
  rw [← h2]
  cases l.findIdx? (fun x => ByteArray.toList ⟨#[]⟩ == x.toList) with
  | none => rfl
  | some j => simp
/-! ### the words added one by one -/
def Bs (l : List ByteArray) (i : Nat) : Daw.B := ((wordsN l).take i).foldl add Daw.start
theorem Bs_zero (l : List ByteArray) : Bs l 0 = Daw.start := rfl
theorem Bs_next (l : List ByteArray) (i : Nat) (h : i < l.length) : Bs l (i + 1) = add (Bs l i) (Utf.nats l[i]) := by
  unfold Bs
  have : (wordsN l).take (i + 1) = (wordsN l).take i ++ [Utf.nats l[i]] := by
    rw [List.take_succ_eq_append_getElem (by unfold wordsN; rw [List.length_map]; exact h)]
    unfold wordsN
    rw [List.getElem_map]
  rw [this, List.foldl_append]; rfl
theorem Bs_word (l : List ByteArray) (i : Nat) (h : i < l.length) : (Bs l (i + 1)).word = Utf.nats l[i] := by rw [Bs_next l i h]; rfl
theorem bytesAll_take (l : List ByteArray) (i : Nat) (h : i < l.length) : bytesAll (l.take (i + 1)) = bytesAll (l.take i) + l[i].size + 1 := by
  unfold bytesAll
  rw [List.take_succ_eq_append_getElem h, List.map_append, List.sum_append]
  simp; omega
theorem bytesAll_le (l : List ByteArray) (i : Nat) : bytesAll (l.take i) ≤ bytesAll l := by
  have e : l = l.take i ++ l.drop i := (List.take_append_drop i l).symm
  unfold bytesAll
  conv => rhs; rw [e]
  rw [List.map_append, List.sum_append]; omega
theorem len_bytesAll : ∀ (l : List ByteArray), l.length + 1 ≤ bytesAll l
  | [] => by simp [bytesAll]
  | a :: l => by
    have := len_bytesAll l
    unfold bytesAll at this ⊢
    simp; omega
theorem size_bytesAll : ∀ (l : List ByteArray) (i : Nat) (h : i < l.length), l[i].size + 2 ≤ bytesAll l
  | a :: l, 0, h => by unfold bytesAll; simp; omega
  | a :: l, i + 1, h => by
    have := size_bytesAll l i (by simpa using h)
    unfold bytesAll at this ⊢
    simp; omega
theorem rising_snoc2 : ∀ (l : List (List Nat)) (a b : List Nat), (l ++ [a]).Pairwise (· < ·) → a < b → (l ++ [a] ++ [b]).Pairwise (· < ·) := by
  intro l a b h hab
  rw [List.pairwise_append]
  refine ⟨h, by simp, fun x hx y hy => ?_⟩
  rw [List.mem_singleton.1 hy]
  rcases List.mem_append.1 hx with hx | hx
  · exact List.lt_trans ((List.pairwise_append.1 h).2.2 x hx a (by simp)) hab
  · rw [List.mem_singleton.1 hx]; exact hab
/-- The words up to i rise, with the empty one ahead. -/
theorem rise_next (l : List ByteArray) (i : Nat) (h : i < l.length) (hr : ((wordsN l).take i).Pairwise (· < ·)) (hn : 0 < i → Utf.nats (l.getD (i - 1) ⟨#[]⟩) < Utf.nats l[i]) : ((wordsN l).take (i + 1)).Pairwise (· < ·) := by
  have hlen : (wordsN l).length = l.length := by unfold wordsN; rw [List.length_map]
  have e : ∀ j (hj : j < l.length), (wordsN l).take (j + 1) = (wordsN l).take j ++ [Utf.nats l[j]] := fun j hj => by
    rw [List.take_succ_eq_append_getElem (by rw [hlen]; exact hj)]
    unfold wordsN
    rw [List.getElem_map]
  rw [e i h]
  cases i with
  | zero => simp
  | succ i =>
    rw [e i (by omega)] at hr ⊢
    refine rising_snoc2 _ _ _ hr ?_
    have := hn (by omega)
    rw [Nat.add_sub_cancel, List.getD_eq_getElem?_getD, List.getElem?_eq_getElem (by omega)] at this
    exact this
theorem rise_not (l : List ByteArray) (i : Nat) (h : i < l.length) (h0 : 0 < i) (hn : ¬ Utf.nats (l.getD (i - 1) ⟨#[]⟩) < Utf.nats l[i]) : ¬ (wordsN l).Pairwise (· < ·) := by
  intro hp
  apply hn
  rw [List.getD_eq_getElem?_getD, List.getElem?_eq_getElem (by omega)]
  have := List.pairwise_iff_getElem.1 hp (i - 1) i (by unfold wordsN; rw [List.length_map]; omega) (by unfold wordsN; rw [List.length_map]; omega) (by omega)
  unfold wordsN at this
  rw [List.getElem_map, List.getElem_map] at this
  exact this
theorem leq_str (s t : ByteArray) : (Op.bytesLess s.toList t.toList || s.toList == t.toList) = !decide (Utf.nats t < Utf.nats s) := by
  rw [less_str, Utf.toList_nats]
  have e : t.toList.map (fun b => b.toNat) = Utf.nats t := by rw [ByteArray.toList_eq]; rfl
  rw [e, Bool.eq_iff_iff, Bool.or_eq_true, Bool.not_eq_true', decide_eq_true_eq, decide_eq_false_iff_not, List.not_lt, beq_iff_eq, List.le_iff_lt_or_eq]
theorem run_leq_str (P : Program) (ty : TypeId) (s t : ByteArray) (W : World) : (binOp .leq ty (.string s) (.string t)).run P W = .ok (.bool (!decide (Utf.nats t < Utf.nats s))) W := by
  rw [← leq_str]
  simp [binOp, Op.stringOp]
/-- A row of one. -/
theorem reps_one {α : Type} {R : α → List Value → Prop} {size : Nat} {x : α} {cs : List Value} (hl : cs.length = size) (h : R x cs) : Reps R size [x] cs := by
  refine ⟨by simp [hl], fun j p hj => ?_⟩
  cases j with
  | zero =>
    have : x = p := by simpa using hj
    subst this
    simpa [← hl] using h
  | succ j => simp at hj
theorem Kd.S_one {α : Type} {d : Kd α} {e base b : Nat} {W : World} {ok : Nat → Prop} {x : α} {cs : List Value} (hb : W.heap[b]? = some (.cells cs.toArray e (0, 0))) (hM : d.M W base (fun _ => False) x cs) (hbase : base ≤ b) (hok : ok b) : Kd.S d e W base ok (.slice (some ⟨b, 0, none⟩) 1 1) [x] := by
  have hl := d.K_len (d.K_of_M hM)
  refine Kd.S_bare ⟨fun k hk => ?_, cs, ⟨?_, .inr ⟨b, 1, cs.toArray, rfl, hbase, hb, ?_, ?_, ?_, ?_⟩⟩, reps_one hl hM⟩
  · have : b = k := by simpa [Value.ownBlock] using hk
    subst this; exact hok
  · show cs.length = 1 * d.sz
    omega
  · exact Nat.le_refl 1
  · decide
  · show cs.toArray.size = 1 * d.sz
    simp; omega
  · show cs.toArray.toList.take (1 * d.sz) = cs
    rw [Nat.one_mul, ← hl]; simp
theorem made (w : World) : Bd (((w.alloc (.map #[] 0)).alloc (.cells #[.bool false, .slice none 0 0] 31 (0, 0))).alloc (.cells #[.slice none 0 0, .map (some w.heap.size), .slice (some ⟨w.heap.size + 1, 0, none⟩) 1 1, .string ⟨#[]⟩] 66 (0, 0))) w.heap.size (w.heap.size + 1 + 1) w.heap.size [] [(false, [])] ⟨#[]⟩ ∧
    Below w.heap.size w (((w.alloc (.map #[] 0)).alloc (.cells #[.bool false, .slice none 0 0] 31 (0, 0))).alloc (.cells #[.slice none 0 0, .map (some w.heap.size), .slice (some ⟨w.heap.size + 1, 0, none⟩) 1 1, .string ⟨#[]⟩] 66 (0, 0))) := by
  have s1 : (w.alloc (.map #[] 0)).heap.size = w.heap.size + 1 := by simp
  have b1 : Below w.heap.size w (w.alloc (.map #[] 0)) := (Below.refl _ w).alloc (Nat.le_refl _) _
  generalize hw1 : w.alloc (.map #[] 0) = w1 at s1 b1
  have m1 : w1.ownsMap Try.prog 9 (plainElem Try.prog 3) w.heap.size 0 (.map [] : DataW Unit) := by rw [← hw1]; exact World.ownsMap_made _ _ _ _
  have s2 : (w1.alloc (.cells #[.bool false, .slice none 0 0] 31 (0, 0))).heap.size = w.heap.size + 1 + 1 := by simp [s1]
  have b2 : Below w1.heap.size w1 (w1.alloc (.cells #[.bool false, .slice none 0 0] 31 (0, 0))) := below_alloc (Below.refl _ _) _
  have n2 := heap_alloc_new w1 (.cells #[.bool false, .slice none 0 0] 31 (0, 0))
  generalize w1.alloc (.cells #[.bool false, .slice none 0 0] 31 (0, 0)) = w2 at s2 b2 n2 ⊢
  have b3 : Below w2.heap.size w2 (w2.alloc (.cells #[.slice none 0 0, .map (some w.heap.size), .slice (some ⟨w.heap.size + 1, 0, none⟩) 1 1, .string ⟨#[]⟩] 66 (0, 0))) := below_alloc (Below.refl _ _) _
  have n3 := heap_alloc_new w2 (.cells #[.slice none 0 0, .map (some w.heap.size), .slice (some ⟨w.heap.size + 1, 0, none⟩) 1 1, .string ⟨#[]⟩] 66 (0, 0))
  generalize w2.alloc (.cells #[.slice none 0 0, .map (some w.heap.size), .slice (some ⟨w.heap.size + 1, 0, none⟩) 1 1, .string ⟨#[]⟩] 66 (0, 0)) = w3 at b3 n3 ⊢
  rw [s1] at n2
  rw [s2] at n3
  have n2' : w3.heap[w.heap.size + 1]? = some (.cells #[.bool false, .slice none 0 0] 31 (0, 0)) := (b3.block _ (by omega)).trans n2
  refine ⟨⟨_, _, fun _ => False, fun _ => True, 0, .map [], n3, map_move m1 ((b3.block _ (by omega)).trans (b2.block _ (by omega))), Nat.le_refl _, link_empty, Kd.S_nil _ _ _ _ _, ?_, fun _ h => h.elim⟩, (b1.trans (b2.mono (by omega))).trans (b3.mono (by omega))⟩
  exact Kd.S_one (cs := [.bool false, .slice none 0 0]) n2' (k31_mkM _ _ _ (toS (false, [])) (Kd.R_nil _ _ _ _ _)) (by omega) trivial
set_option maxHeartbeats 4000000 in
set_option maxRecDepth 100000 in
theorem daw_Build.calls (A0 : Option Addr) (c0 : Nat) (l0 : List ByteArray) (r1 : List S31) (r2 : Int) (w : World) (hr0 : Kd.C Kd.string w A0 l0.length l0) (hc0 : l0.length ≤ c0) (h : daw_Build.f l0 = some (r1, r2)) :
    Calls Try.prog 15 #[.slice A0 l0.length c0] w fun e w' => ∃ v0_ : Value, e = .returned (.tuple #[v0_, .int .i64 r2]) ∧ Kd.S k31 31 w' w.heap.size (fun _ => True) v0_ r1 ∧ Below w.heap.size w w' := by
  have hB : bytesAll l0 ≤ 1000000 := by
    unfold daw_Build.f at h; split at h
    · assumption
    · cases h
  have hr : buildR l0 = (r1, r2) := by
    unfold daw_Build.f at h; rw [if_pos hB] at h; exact Option.some.inj h
  clear h
  have hlen : l0.length ≤ 1000000 := by have := len_bytesAll l0; omega
  have hcon := contains_empty l0 (l0.length + 1) hlen (Nat.lt_succ_self _)
  have HC := Aside0.mk hr0; have HL := Aside0.mk hc0; have HB := Aside0.mk hB; have HR := Aside0.mk hr; have HCON := Aside0.mk hcon; have HLEN := Aside0.mk hlen
  clear hr0 hc0 hB hr hcon hlen
  have hmm := @run_makeMap Try.prog
  have huS := Try.underlying31
  go_enter Try.func15, Try.ntmps15
  go_wp2_with (first | (go_at_call 31; (with_reducible refine (slices_Contains_string_string.calls (l0.length + 1) A0 c0 l0 ⟨#[]⟩ _ _ HC.out HL.out HCON.out).mono ?_)))
  (first | rintro e w1 rfl ⟨nd, rfl⟩ | rintro e w1 ⟨rfl, ⟨nd, rfl⟩⟩)
  by_cases hem : [] ∈ wordsN l0
  · have hb : decide ([] ∈ wordsN l0) = true := decide_eq_true hem
    have HE := Aside0.mk hem
    clear hem
    go_wp2
    go_ret2
    have hr := HR.out
    unfold buildR at hr
    rw [if_pos HE.out] at hr
    injection hr with h1 h2
    subst h1; subst h2
    exact ⟨_, rfl, Kd.S_nil _ _ _ _ _, pw_below_drewN (Below.refl _ _) _⟩
  · have hb : decide ([] ∈ wordsN l0) = false := decide_eq_false hem
    have HE := Aside0.mk hem
    clear hem
    go_wp2
    obtain ⟨hBd, hBl⟩ := made (w.drewN nd)
    have hBl2 := Below.trans (pw_below_drewN (Below.refl w.heap.size w) nd) hBl
    have e0 : (w.drewN nd).heap.size = w.heap.size := rfl
    rw [e0] at hBd hBl2
    have H0 := Aside0.mk hBd; have HBw := Aside0.mk hBl2
    clear hBd hBl hBl2 e0
    generalize (((w.drewN nd).alloc (.map #[] 0)).alloc (.cells #[.bool false, .slice none 0 0] 31 (0, 0))).alloc (.cells #[.slice none 0 0, .map (some w.heap.size), .slice (some ⟨w.heap.size + 1, 0, none⟩) 1 1, .string ⟨#[]⟩] 66 (0, 0)) = w0 at H0 HBw ⊢
    obtain ⟨g, hg⟩ : ∃ g, g = w.heap.size + 1 + 1 := ⟨_, rfl⟩
    rw [← hg] at H0 ⊢
    have HGB : Aside0 (w.heap.size ≤ g) := ⟨by omega⟩
    clear hg
    clear hmm HCON hb
    have hlz : (l0.length : Int) ≤ 1000000 := by have := HLEN.out; omega
    go_loopg [16] l0.length (fun gg v16 wr => ∃ (i : Nat) (word : ByteArray), v16 = .int .i64 i ∧ Aside0 (i ≤ l0.length ∧ l0.length ≤ gg + i) ∧ Aside0 (Bd wr w.heap.size g w.heap.size (Bs l0 i).left (Bs l0 i).path word) ∧ Aside0 (Utf.nats word = (Bs l0 i).word) ∧ Aside0 (Fit (bytesAll (l0.take i)) (Bs l0 i).left (Bs l0 i).path) ∧
      Aside0 ((Bs l0 i).path.length = word.size + 1) ∧ Aside0 (word.size ≤ 1000000) ∧ Aside0 (((wordsN l0).take i).Pairwise (· < ·)) ∧ Aside0 (0 < i → Utf.nats word = Utf.nats (l0.getD (i - 1) ⟨#[]⟩)) ∧ Aside0 (Below w.heap.size w wr))
    case atStart =>
      refine ⟨0, ⟨#[]⟩, rfl, ⟨by omega⟩, H0, ⟨rfl⟩, ⟨⟨Nat.le_refl 1, fun s hs => ?_⟩⟩, ⟨rfl⟩, ⟨by decide⟩, ⟨by simp⟩, ⟨fun h => absurd h (by omega)⟩, HBw⟩
      have : s = (false, []) := by simpa [Bs_zero, Daw.start] using hs
      subst this
      exact ⟨fun e he => by simp at he, Nat.le_refl 1⟩
    case round =>
      clear H0 HBw
      obtain ⟨i, word, rfl, hi, H, hwd, hfit, hpl, hws, hris, hprev, hbw⟩ := hrel
      have hcn := Kd.C_below HC.out hbw.out
      by_cases hc : i < l0.length
      · have hcb : decide ((i : Int) < (l0.length : Int)) = true := decide_eq_true (by omega)
        have q0 : (0 : Int) ≤ (i : Int) := by omega
        have q1 : (i : Int) < (l0.length : Int) := by omega
        obtain ⟨ad, ead, hx0⟩ := Kd.at_string hcn (i : Int) q0 q1
        cases ead
        rw [Int.toNat_natCast] at hx0
        have hrd : rdOf ByteArray.empty l0 (i : Int) = l0[i] := by
          unfold rdOf
          rw [Int.toNat_natCast, List.getD_eq_getElem?_getD, List.getElem?_eq_getElem hc]; rfl
        rw [hrd] at hx0
        obtain ⟨new, hnew⟩ : ∃ new, new = l0[i] := ⟨_, rfl⟩
        rw [← hnew] at hx0
        have HNW := Aside0.mk hnew
        clear hnew hrd hcn
        have HNS : Aside0 (bytesAll (l0.take (i + 1)) = bytesAll (l0.take i) + new.size + 1) := ⟨by rw [bytesAll_take l0 i hc, HNW.out]⟩
        have HBB : Aside0 (bytesAll (l0.take i) + new.size + 1 ≤ 1000000) := ⟨by have h1 := HNS.out; have h2 := bytesAll_le l0 (i + 1); have h3 := HB.out; omega⟩
        by_cases h0 : (0 : Int) < (i : Int)
        · have hb2 : decide ((0 : Int) < (i : Int)) = true := decide_eq_true h0
          have hcn := Kd.C_below HC.out hbw.out
          have hwi : wrap64 ((i : Int) - 1) = ((i - 1 : Nat) : Int) := by unfold wrap64; omega
          obtain ⟨ad2, ead, hx1⟩ := Kd.at_string hcn ((i - 1 : Nat) : Int) (by omega) (by omega)
          cases ead
          rw [Int.toNat_natCast] at hx1
          have q2 : (0 : Int) ≤ ((i - 1 : Nat) : Int) := by omega
          have q3 : ((i - 1 : Nat) : Int) < (l0.length : Int) := by omega
          clear hcn
          obtain ⟨prev, hpr⟩ : ∃ prev, prev = rdOf ByteArray.empty l0 ((i - 1 : Nat) : Int) := ⟨_, rfl⟩
          rw [← hpr] at hx1
          have HPR : Aside0 (Utf.nats (l0.getD (i - 1) ⟨#[]⟩) = Utf.nats prev) := ⟨by rw [hpr]; unfold rdOf; rw [Int.toNat_natCast]; rfl⟩
          clear hpr
          have hbo := run_leq_str Try.prog 9 new prev
          by_cases hlt : Utf.nats prev < Utf.nats new
          · have hb3 : (!decide (Utf.nats prev < Utf.nats new)) = false := by simp [hlt]
            have HLT := Aside0.mk hlt
            clear hlt
            rw [hb3] at hbo
            have HRISE : Aside0 (0 < i → Utf.nats (l0.getD (i - 1) ⟨#[]⟩) < Utf.nats l0[i]) := ⟨fun _ => by rw [HPR.out, ← HNW.out]; exact HLT.out⟩
            go_wp2_with (first | (go_at_call 32; (with_reducible refine ((add_k w.heap.size g w.heap.size (bytesAll (l0.take i)) (Bs l0 i).left (Bs l0 i).path word new wr H.out hfit.out HBB.out hbw.out.size HGB.out (Nat.le_refl _) hpl.out hws.out)).mono ?_)))
            (first | rintro e w2 rfl hq | rintro e w2 ⟨rfl, hq⟩)
            obtain ⟨k1, k2, k3, k4⟩ := hq (Bs l0 (i + 1)) (by rw [Bs_next l0 i hc, hwd.out, HNW.out])
            rw [← HNS.out] at k2
            have K1 := Aside0.mk k1; have K2 := Aside0.mk k2; have K3 := Aside0.mk k3; have K4 := Aside0.mk (hbw.out.trans (k4.mono (Nat.le_refl _)))
            have HRN := Aside0.mk (rise_next l0 i hc hris.out HRISE.out)
            clear hq k1 k2 k3 k4 hris H hfit hpl
            go_wp2
            go_roundg (l0.length - (i + 1))
            case measure => have := hi.out; omega
            case rel =>
              refine ⟨i + 1, new, congrArg (Value.int .i64) (by omega), ⟨by have := hi.out; omega⟩, K1, ⟨by rw [Bs_word l0 i hc, HNW.out]⟩, K2, K3, ⟨?_⟩, HRN, ⟨fun _ => ?_⟩, K4⟩
              · have h1 := size_bytesAll l0 i hc; have h2 := HB.out; rw [HNW.out]; omega
              · rw [HNW.out, Nat.add_sub_cancel, List.getD_eq_getElem?_getD, List.getElem?_eq_getElem hc]; rfl
          · have hb3 : (!decide (Utf.nats prev < Utf.nats new)) = true := by simp [hlt]
            have HLT := Aside0.mk hlt
            clear hlt
            rw [hb3] at hbo
            go_wp2
            go_ret2
            have hr := HR.out
            unfold buildR at hr
            rw [if_neg HE.out, if_neg (rise_not l0 i hc (by omega) (by rw [HPR.out, ← HNW.out]; exact HLT.out))] at hr
            injection hr with h1 h2
            subst h1; subst h2
            exact ⟨_, rfl, Kd.S_nil _ _ _ _ _, hbw.out⟩
        · have hb2 : decide ((0 : Int) < (i : Int)) = false := decide_eq_false h0
          have HRISE : Aside0 (0 < i → Utf.nats (l0.getD (i - 1) ⟨#[]⟩) < Utf.nats l0[i]) := ⟨fun h => absurd h (by omega)⟩
          go_wp2_with (first | (go_at_call 32; (with_reducible refine ((add_k w.heap.size g w.heap.size (bytesAll (l0.take i)) (Bs l0 i).left (Bs l0 i).path word new wr H.out hfit.out HBB.out hbw.out.size HGB.out (Nat.le_refl _) hpl.out hws.out)).mono ?_)))
          (first | rintro e w2 rfl hq | rintro e w2 ⟨rfl, hq⟩)
          obtain ⟨k1, k2, k3, k4⟩ := hq (Bs l0 (i + 1)) (by rw [Bs_next l0 i hc, hwd.out, HNW.out])
          rw [← HNS.out] at k2
          have K1 := Aside0.mk k1; have K2 := Aside0.mk k2; have K3 := Aside0.mk k3; have K4 := Aside0.mk (hbw.out.trans (k4.mono (Nat.le_refl _)))
          have HRN := Aside0.mk (rise_next l0 i hc hris.out HRISE.out)
          clear hq k1 k2 k3 k4 hris H hfit hpl
          go_wp2
          go_roundg (l0.length - (i + 1))
          case measure => have := hi.out; omega
          case rel =>
            refine ⟨i + 1, new, congrArg (Value.int .i64) (by omega), ⟨by have := hi.out; omega⟩, K1, ⟨by rw [Bs_word l0 i hc, HNW.out]⟩, K2, K3, ⟨?_⟩, HRN, ⟨fun _ => ?_⟩, K4⟩
            · have h1 := size_bytesAll l0 i hc; have h2 := HB.out; rw [HNW.out]; omega
            · rw [HNW.out, Nat.add_sub_cancel, List.getD_eq_getElem?_getD, List.getElem?_eq_getElem hc]; rfl
      · have hcb : decide ((i : Int) < (l0.length : Int)) = false := decide_eq_false (by omega)
        have hil : i = l0.length := by have := hi.out; omega
        subst hil
        have htk : (wordsN l0).take l0.length = wordsN l0 := by unfold wordsN; rw [List.take_of_length_le (by rw [List.length_map]; exact Nat.le_refl _)]
        have hbk : l0.take l0.length = l0 := List.take_length
        have hrs := hris.out
        have hft := hfit.out
        rw [htk] at hrs
        rw [hbk] at hft
        have hlv := leave_k w.heap.size g w.heap.size (bytesAll l0) 0 (Bs l0 l0.length).left (Bs l0 l0.length).path word wr H.out hft HB.out hbw.out.size HGB.out (Nat.le_refl _) (by decide) (Nat.le_of_eq hpl.out) hws.out
        rw [show ((0 : Nat) : Int) = 0 from rfl] at hlv
        obtain ⟨lt, pt, hX⟩ : ∃ lt pt, leave (Utf.nats word) 0 (Bs l0 l0.length).left (Bs l0 l0.length).path = (lt, pt) := ⟨_, _, rfl⟩
        have hpt := leave_len (Utf.nats word) 0 _ (Bs l0 l0.length).left (Bs l0 l0.length).path rfl
        rw [hX] at hlv hpt
        rw [hpl.out] at hpt
        obtain ⟨s, rfl⟩ : ∃ s, pt = [s] := by
          match pt, hpt with
          | [], h => simp only [List.length_nil] at h; omega
          | [s], _ => exact ⟨s, rfl⟩
          | _ :: _ :: _, h => simp only [List.length_cons] at h; omega
        have hbd : build (wordsN l0) = (num lt s).1 := by
          unfold build finish
          have e : (wordsN l0).foldl add Daw.start = Bs l0 l0.length := by unfold Bs; rw [htk]
          rw [e, ← hwd.out, hX]
        have hres : r1 = (num lt s).1.map toS ∧ r2 = 0 := by
          have hr := HR.out
          unfold buildR at hr
          rw [if_neg HE.out, if_pos hrs, hbd] at hr
          injection hr with h1 h2
          exact ⟨h1.symm, h2.symm⟩
        obtain ⟨rfl, rfl⟩ := hres
        have HLV := Aside0.mk hlv
        clear hlv hX hpt hbd hrs hft htk hbk HR H hfit hpl hris hprev hwd
        go_wp2_with (first | (go_at_call 33; (with_reducible refine (HLV.out).mono ?_)))
        (first | rintro e w2 rfl hb2 hf2 hw2 | rintro e w2 ⟨rfl, hb2, hf2, hw2⟩)
        obtain ⟨vL, vP, okL, okP, m, D, hg, hm, hml, hD, hL, hP, hLP⟩ := hb2
        obtain ⟨gP, cP, hvP, hgPb, hgPl, cellsP, hgPc⟩ := Kd.S_form hP (by simp)
        subst hvP
        have hx0 : (0 : Int) ≤ 0 := by decide
        obtain ⟨oki, cs, hcl, hcM, hce, hfr, hoki, hH⟩ := Kd.S_elem hP ⟨false, []⟩ (0 : Int) hx0 (Int.zero_lt_one)
        obtain ⟨vE, rfl, hE⟩ := k31_openM hcM
        have hz0 : w2.cell? ⟨gP, 0, none⟩ = some (.bool s.1) := hce 0 _ rfl
        have hz1 : w2.cell? ⟨gP, 1, none⟩ = some vE := hce 1 _ rfl
        have e2 : w2.cell? ⟨g, 2, none⟩ = some (.slice (some ⟨gP, 0, none⟩) 1 cP) := (blk_cell hg 2).trans rfl
        have hsF := hf2.2 s (by simp)
        have hsl : s.2.length ≤ 1000000 := by have h1 := hsF.2; have h2 := HB.out; omega
        have hll : lt.length ≤ 1000000 := by have h1 := hf2.1; have h2 := HB.out; omega
        have HNK := Aside0.mk (number_k w.heap.size g w.heap.size m lt s vL _ vE word D okL oki w2 hg hm hml hD hL hE (fun k h1 h2 => hLP k h1 (hoki k h2).1) (Nat.le_trans hbw.out.size hw2.size) HGB.out (Nat.le_refl _) hsF.1 hsl hll)
        have HBw2 := Aside0.mk (hbw.out.trans hw2)
        clear hg hm hml hD hL hP hLP hE hcl hcM hce hfr hoki hH hf2 hw2 hgPc
        go_wp2_with (first | (go_at_call 34; (with_reducible refine (HNK.out).mono ?_)))
        (first | rintro e w3 ⟨rfl, hq⟩ | rintro e w3 rfl hq)
        obtain ⟨vL3, okL3, n3, D3, hg3, hm3, hn3, hD3, hL3, hsub3, hb3, hfr3⟩ := hq
        have HL3 := Aside0.mk hL3
        have e3 : w3.cell? ⟨g, 0, none⟩ = some vL3 := (blk_cell hg3 0).trans rfl
        have HB3 := Aside0.mk (HBw2.out.trans hb3)
        clear hg3 hm3 hn3 hD3 hL3 hsub3 hb3 hfr3
        obtain ⟨A3, M3, c3, hv3⟩ : ∃ A3 M3 c3, vL3 = .slice A3 M3 c3 := by obtain ⟨A3, c3, h⟩ := Kd.S_slice HL3.out; exact ⟨_, _, _, h⟩
        subst hv3
        go_wp2
        go_ret2
        exact ⟨_, rfl, Kd.S_mono HL3.out (fun _ _ => trivial), HB3.out⟩
end Go.Proofs.Ytebdcblchjhmpaa.K
