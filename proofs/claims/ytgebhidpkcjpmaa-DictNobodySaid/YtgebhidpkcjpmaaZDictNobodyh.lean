/- DictNobody. (The texts that the proof is made of, one behind the other: part 8 of 18.) -/
import Derived.Test.YtgebhidpkcjpmaaProg
import Derived.Below
import Derived.Deep.Draws
import Derived.Deep.AppendLies
import Derived.Maps.AppendAt
import Derived.OwnWalk
import Derived.Laws.BytesArg
import Derived.Laws.MakeOwn
import Derived.Laws.OwnMore
import Derived.Deep.OwnRows
import Derived.Tactics
import Derived.Lib.ConvBytes
import Derived.Laws.Slices
import Derived.WalkKit
import Derived.KernelRfl
import Derived.RowKit3
import Derived.Deep.LoopGhost
import Derived.Deep.QuietTactic
import Derived.BigQuiet
import Derived.WideLaws
import Derived.Deep.DeepCutAuto
import Derived.Deep.CutBlock
import Derived.Deep.RegionHeld3
import Derived.Laws.Rows
import Derived.Lib.AppendStr
import Derived.ArgAppend
import Derived.Laws.IdiomCopy
import Derived.OrdersHeld
import Derived.Laws.BitsLemmas
import Derived.RowKit
import Derived.Maps.OwnSet
import Derived.Maps.OwnOps
import Derived.Lib.OthersKept
import Derived.WalkSmall
import Derived.Deep.RegionLaw
import Derived.BigRegion
import Derived.Test.YtgebhidpkcjpmaaZDictNobodya
import Derived.Test.YtgebhidpkcjpmaaZDictNobodyb
import Derived.Test.YtgebhidpkcjpmaaZDictNobodyc
import Derived.Test.YtgebhidpkcjpmaaZDictNobodyd
import Derived.Test.YtgebhidpkcjpmaaZDictNobodye
import Derived.Test.YtgebhidpkcjpmaaZDictNobodyf
import Derived.Test.YtgebhidpkcjpmaaZDictNobodyg
namespace Go.Proofs.Ytgebhidpkcjpmaa.PIx
open Go.RowKit Go.Proofs.YtgebhidpkcjpmaaW.PrintWords Go.Proofs.YtgebhidpkcjpmaaW.PrintLast Go.Proofs.YtgebhidpkcjpmaaW.PrintMore Go.Proofs.Ytgebhidpkcjpmaa.K Go.Proofs.Ytgebhidpkcjpmaa.PDk Go.Proofs.Ytgebhidpkcjpmaa.PDm
attribute [local go_sem] max2_int min2_int max_two min_two max_three min_three max_four min_four   -- for this text's walks alone
set_option linter.unusedVariables false
set_option linter.unusedSimpArgs false

mutual
def index_Word.j0 : Nat → List (S82) → Int → List Int → Bool → Option (ByteArray × Bool)
  | 0, _, _, _, _ => none
  | k + 1, x0, x1, x6, x34 => if x34 = true then (some ((⟨#[]⟩ : ByteArray), false)) else (index_Word.l0 k x0 x6 (IntKind.u64.wrap (x1)) ([] : List Int) (wrap64 ((x0.length : Int) - 1)))
def index_Word.l0 : Nat → List (S82) → List Int → Int → List Int → Int → Option (ByteArray × Bool)
  | 0, _, _, _, _, _ => none
  | k + 1, x0, x6, x8, x9, x10 => if 0 ≤ x10 then (if x10 < (x0.length : Int) then ((index_own.f ((rd_T82 x0 x10).f0) ((rd_T82 x0 x10).f1)).bind fun t131 => (if x8 ≥ t131 then ((index_own.f ((rd_T82 x0 x10).f0) ((rd_T82 x0 x10).f1)).bind fun t133 => (index_Word.l1 k x0 x6 (IntKind.u64.wrap (x8 - t133)) x9 x10 ((rd_T82 x0 x10).f1) (((rd_T82 x0 x10).f1).length : Int) 0)) else (some (strOfNums x9, true)))) else (none)) else (none)
def index_Word.l1 : Nat → List (S82) → List Int → Int → List Int → Int → List (S84) → Int → Int → Option (ByteArray × Bool)
  | 0, _, _, _, _, _, _, _, _ => none
  | k + 1, x0, x6, x8, x9, x10, x58, x59, x60 => if x60 < x59 then (if 0 ≤ x60 then (if x60 < (x58.length : Int) then (if 0 ≤ ((rd_T84 x58 x60).f1) then (if ((rd_T84 x58 x60).f1) < (x6.length : Int) then (if x8 < (rd x6 ((rd_T84 x58 x60).f1)) then (if x9.length < 140737488355328 then (index_Word.l0 k x0 x6 x8 (x9 ++ [(rd_T84 x58 x60).f0]) ((rd_T84 x58 x60).f1)) else (none)) else (index_Word.l1 k x0 x6 (IntKind.u64.wrap (x8 - (rd x6 ((rd_T84 x58 x60).f1)))) x9 x10 x58 x59 (wrap64 (x60 + 1)))) else (none)) else (none)) else (none)) else (none)) else (index_Word.l0 k x0 x6 x8 x9 x10)
end
def index_Word.f (k : Nat) (l0 : List (S82)) (a1 : Int) : Option (ByteArray × Bool) := (index_Counts.f k l0).bind fun bt125 => (if bt125.2 = 0 then (if a1 < 0 then (index_Word.j0 k l0 a1 bt125.1 true) else (if 0 ≤ (wrap64 ((l0.length : Int) - 1)) then (if (wrap64 ((l0.length : Int) - 1)) < (bt125.1.length : Int) then (index_Word.j0 k l0 a1 bt125.1 (decide ((IntKind.u64.wrap (a1)) ≥ (rd bt125.1 (wrap64 ((l0.length : Int) - 1)))))) else (none)) else (none))) else (index_Word.j0 k l0 a1 bt125.1 true))
end Go.Proofs.Ytgebhidpkcjpmaa.PIx

namespace Go.Proofs.Ytgebhidpkcjpmaa.PIx
open Go.RowKit Go.Proofs.YtgebhidpkcjpmaaW.PrintWords Go.Proofs.YtgebhidpkcjpmaaW.PrintLast Go.Proofs.YtgebhidpkcjpmaaW.PrintMore Go.Proofs.Ytgebhidpkcjpmaa.K Go.Proofs.Ytgebhidpkcjpmaa.PDk Go.Proofs.Ytgebhidpkcjpmaa.PDm
attribute [local go_sem] max2_int min2_int max_two min_two max_three min_three max_four min_four   -- for this text's walks alone
set_option linter.unusedVariables false
set_option linter.unusedSimpArgs false

end Go.Proofs.Ytgebhidpkcjpmaa.PIx

namespace Go.Proofs.Ytgebhidpkcjpmaa.PR13
open Go.RowKit Go.Proofs.YtgebhidpkcjpmaaW.PrintWords Go.Proofs.YtgebhidpkcjpmaaW.PrintLast Go.Proofs.YtgebhidpkcjpmaaW.PrintMore Go.Proofs.Ytgebhidpkcjpmaa.K Go.Proofs.Ytgebhidpkcjpmaa.PDk
attribute [local go_sem] max2_int min2_int max_two min_two max_three min_three max_four min_four   -- for this text's walks alone
set_option linter.unusedVariables false
set_option linter.unusedSimpArgs false



def errW : Option Int → Value
  | none => .nilIface
  | some c => .iface 0 (.int .i64 c)
theorem errW_none : errW none = .nilIface := rfl
theorem errW_some (c : Int) : errW (some c) = .iface 0 (.int .i64 c) := rfl

structure S49 where
  f0 : ByteArray
  f1 : Int
def z49 : S49 := ⟨(⟨#[]⟩ : ByteArray), (0 : Int)⟩
def k49 : Kd S49 := Kd.iso (Kd.pair Kd.string (Kd.int .u64)) (fun x : S49 => (x.f0, x.f1))
theorem k49_open {w : World} {x : S49} {cs : List Value} (h : k49.K w x cs) : cs = [.string x.f0, .int .u64 x.f1] := by
  obtain ⟨_, _, rfl, rfl, rfl⟩ := h
  exact rfl
theorem k49_mkM (w : World) (base : Nat) (ok : Nat → Prop) (x : S49)  : k49.M w base ok x [.string x.f0, .int .u64 x.f1] := ⟨[.string x.f0], [.int .u64 x.f1], rfl, rfl, rfl⟩
def rd_T49 (xs : List S49) (i : Int) : S49 := xs.getD i.toNat z49
theorem at_T49 {w : World} {A : Option Addr} {n : Nat} {xs : List S49} (h : Kd.C k49 w A n xs) (i : Int) (h0 : 0 ≤ i) (h1 : i < n) : ∃ ad , A = some ad ∧ w.cell? (ad.add (i.toNat * 2)) = some (.string (rd_T49 xs i).f0) ∧ w.cell? ⟨(ad.add (i.toNat * 2)).block, (ad.add (i.toNat * 2)).off + 1, none⟩ = some (.int .u64 (rd_T49 xs i).f1) := by
  obtain ⟨ad, c, e, _, hK, hc0⟩ := Kd.C_get h z49 i h0 h1
  have hc : ∀ j u, c[j]? = some u → w.cell? (ad.add (i.toNat * 2 + j)) = some u := hc0
  obtain rfl := k49_open hK
  exact ⟨ad, e, hc 0 _ rfl, by rw [← add_field _ _ 1 (by omega)]; exact hc 1 _ rfl⟩

end Go.Proofs.Ytgebhidpkcjpmaa.PR13

namespace Go.Proofs.Ytgebhidpkcjpmaa.PR13
open Go.RowKit Go.Proofs.YtgebhidpkcjpmaaW.PrintWords Go.Proofs.YtgebhidpkcjpmaaW.PrintLast Go.Proofs.YtgebhidpkcjpmaaW.PrintMore Go.Proofs.Ytgebhidpkcjpmaa.K Go.Proofs.Ytgebhidpkcjpmaa.PDk
attribute [local go_sem] max2_int min2_int max_two min_two max_three min_three max_four min_four   -- for this text's walks alone
set_option linter.unusedVariables false
set_option linter.unusedSimpArgs false

def manteletref13_first.l0 : Nat → List (S49) → Int → Int → Option (Bool)
  | 0, _, _, _ => none
  | k + 1, x0, x1, x5 => if x5 < x1 then (if 0 ≤ x5 then (if x5 < (x0.length : Int) then (if 0 ≤ x1 then (if x1 < (x0.length : Int) then (if ((rd_T49 x0 x5).f1) = ((rd_T49 x0 x1).f1) then (some false) else (manteletref13_first.l0 k x0 x1 (wrap64 (x5 + 1)))) else (none)) else (none)) else (none)) else (none)) else (some true)
def manteletref13_first.f (k : Nat) (l0 : List (S49)) (a1 : Int) : Option (Bool) := manteletref13_first.l0 k l0 a1 0
mutual
def manteletref13_Classes.l0 : Nat → List (S49) → List Int → Int → Option (List Int)
  | 0, _, _, _ => none
  | k + 1, x0, x3, x4 => if x4 < (x0.length : Int) then (manteletref13_Classes.l1 k x0 x3 x4 0 0) else (some x3)
def manteletref13_Classes.l1 : Nat → List (S49) → List Int → Int → Int → Int → Option (List Int)
  | 0, _, _, _, _, _ => none
  | k + 1, x0, x3, x4, x5, x6 => if x6 < (x0.length : Int) then (if 0 ≤ x6 then (if 0 ≤ x4 then (if x4 < (x0.length : Int) then (if ((rd_T49 x0 x6).f1) > ((rd_T49 x0 x4).f1) then ((manteletref13_first.f k x0 x6).bind fun t105 => (if t105 = true then (manteletref13_Classes.l1 k x0 x3 x4 (wrap64 (x5 + 1)) (wrap64 (x6 + 1))) else (manteletref13_Classes.l1 k x0 x3 x4 x5 (wrap64 (x6 + 1))))) else (manteletref13_Classes.l1 k x0 x3 x4 x5 (wrap64 (x6 + 1)))) else (none)) else (none)) else (none)) else (if x3.length < 17592186044416 then (manteletref13_Classes.l0 k x0 (x3 ++ [mn x5 255]) (wrap64 (x4 + 1))) else (none))
end
def manteletref13_Classes.f (k : Nat) (l0 : List (S49)) : Option (List Int) := manteletref13_Classes.l0 k l0 ([] : List Int) 0
def manteletref13_Ints.l0 : Nat → List Int → List Int → Int → Option (Bool)
  | 0, _, _, _ => none
  | k + 1, x0, x1, x5 => if x5 < (x0.length : Int) then (if 0 ≤ x5 then (if x5 < (x1.length : Int) then (if (rd x0 x5) = (rd x1 x5) then (manteletref13_Ints.l0 k x0 x1 (wrap64 (x5 + 1))) else (some false)) else (none)) else (none)) else (some true)
def manteletref13_Ints.f (k : Nat) (l0 : List Int) (l1 : List Int) : Option (Bool) := if (l0.length : Int) = (l1.length : Int) then (manteletref13_Ints.l0 k l0 l1 0) else (some false)
end Go.Proofs.Ytgebhidpkcjpmaa.PR13

namespace Go.Proofs.Ytgebhidpkcjpmaa.PR13
open Go.RowKit Go.Proofs.YtgebhidpkcjpmaaW.PrintWords Go.Proofs.YtgebhidpkcjpmaaW.PrintLast Go.Proofs.YtgebhidpkcjpmaaW.PrintMore Go.Proofs.Ytgebhidpkcjpmaa.K Go.Proofs.Ytgebhidpkcjpmaa.PDk
attribute [local go_sem] max2_int min2_int max_two min_two max_three min_three max_four min_four   -- for this text's walks alone
set_option linter.unusedVariables false
set_option linter.unusedSimpArgs false

end Go.Proofs.Ytgebhidpkcjpmaa.PR13

namespace Go.Proofs.Ytgebhidpkcjpmaa.K
open Go.RowKit Go.Proofs.YtgebhidpkcjpmaaW.PrintWords Go.Proofs.YtgebhidpkcjpmaaW.PrintLast Go.Proofs.YtgebhidpkcjpmaaW.PrintMore Go.Proofs.Ytgebhidpkcjpmaa
attribute [local go_sem] max2_int min2_int max_two min_two max_three min_three max_four min_four
set_option linter.unusedVariables false
set_option linter.unusedSimpArgs false
open Go.Proofs.Ytgebhidpkcjpmaa.PDk Go.Proofs.Ytgebhidpkcjpmaa.Daw Go.Maps
namespace Kd
theorem own_other2 {α : Type} {d : Kd α} {e base t : Nat} {w : World} {ok : Nat → Prop} {v : Value} {xs : List α} {g : Nat} {cs : Array Value} (h : Kd.R d e w base ok v xs) (hg : w.heap[g]? = some (.cells cs t (0, 0))) (hne : e ≠ t) : some g ≠ v.ownBlock := fun he => by
  obtain ⟨cells, hc⟩ := Kd.R_typed h g he.symm
  rw [hg] at hc
  injection hc with hc
  injection hc with _ hc
  exact hne hc.symm
theorem H_take {α : Type} {d : Kd α} {e : Nat} {w : World} {base : Nat} {ok oki : Nat → Prop} {A : Option Addr} {n m cap : Nat} {xs : List α} {i : Int} {c : List Value} (h : Kd.H d e w base ok (.slice A n cap) xs i oki c) (hm : m ≤ xs.length) (hi : m ≤ i.toNat) :
    Kd.S d e w base (fun k => ok k ∧ ¬ oki k) (.slice A m cap) (xs.take m) := by
  obtain ⟨_, f, h⟩ := h
  have h2 := Kd.R_take h (m := m) (by rw [List.length_zipIdx]; exact hm)
  have he : (xs.take m).zipIdx = xs.zipIdx.take m := by
    apply List.ext_getElem?
    intro j
    simp only [List.getElem?_zipIdx, List.getElem?_take, Nat.zero_add]
    split <;> simp
  rw [← he] at h2
  obtain ⟨h0, inner, ho, hr⟩ := h2
  refine ⟨f, h0, inner, ho, hr.1, fun j p hj => ?_⟩
  have hp := hr.2 j p hj
  have hj2 : j < m := by
    have := (List.getElem?_eq_some_iff.1 hj).1
    rw [List.length_zipIdx, List.length_take] at this
    omega
  have hp2 : p.2 = j := by
    rw [List.getElem?_zipIdx, Nat.zero_add] at hj
    obtain ⟨q, _, rfl⟩ := Option.map_eq_some_iff.1 hj
    rfl
  exact hp.2 (by omega)
end Kd
theorem byte_nat (s : ByteArray) (i : Nat) (h : i < s.size) : (s[i]'h).toNat = (Utf.nats s).getD i 0 := by
  unfold Utf.nats
  rw [List.getD_eq_getElem?_getD, List.getElem?_map, Array.getElem?_toList, Array.getElem?_eq_getElem h]
  rfl
/-- The builder at block g, its map at block bm: what was left, the path (told from its end), the last word. -/
def Bd (w : World) (base g bm : Nat) (left path : List DS) (word : ByteArray) : Prop :=
  ∃ (vL vP : Value) (okL okP : Nat → Prop) (n : Nat) (D : DataW Unit), w.heap[g]? = some (.cells #[vL, .map (some bm), vP, .string word] 112 (0, 0)) ∧
    w.ownsMap Try.prog 9 (plainElem Try.prog 3) bm n D ∧ n ≤ left.length ∧ Link D left ∧ Kd.S k82 82 w base okL vL (left.map toS) ∧
    Kd.S k82 82 w base okP vP (path.reverse.map toS) ∧ ∀ k, okL k → ¬ okP k
def Fit (B : Nat) (left path : List DS) : Prop := left.length + path.length ≤ B ∧ ∀ s ∈ path, OkS s ∧ s.2.length + path.length ≤ B
theorem num_le (left : List DS) (s : DS) : (num left s).1.length ≤ left.length + 1 ∧ (num left s).2 ≤ left.length := by
  unfold num
  by_cases h : s ∈ left
  · rw [if_pos h]; exact ⟨by simp, Nat.le_of_lt (List.idxOf_lt_length_iff.2 h)⟩
  · rw [if_neg h]; simp
theorem fit_step {B : Nat} {left : List DS} {s u : DS} {r : List DS} (h : Fit B left (s :: u :: r)) (hB : B ≤ 1000000) (c : Nat) (hc : c < 256) : Fit B (num left s).1 ((u.1, u.2 ++ [(c, (num left s).2)]) :: r) := by
  obtain ⟨h1, h2⟩ := h
  obtain ⟨n1, n2⟩ := num_le left s
  simp only [List.length_cons] at h1 h2
  refine ⟨by simp only [List.length_cons]; omega, fun x hx => ?_⟩
  rcases List.mem_cons.1 hx with rfl | hx
  · obtain ⟨h3, h4⟩ := h2 u (by simp)
    refine ⟨fun e he => ?_, by simp; omega⟩
    rcases List.mem_append.1 he with he | he
    · exact h3 e he
    · rw [List.mem_singleton.1 he]
      exact ⟨hc, by show (num left s).2 < _; omega⟩
  · obtain ⟨h3, h4⟩ := h2 x (by simp [hx])
    exact ⟨h3, by simp only [List.length_cons]; omega⟩
theorem rev_get0 (s : DS) (p : List DS) (z : S82) : ((s :: p).reverse.map toS).getD p.length z = toS s := by
  rw [List.getD_eq_getElem?_getD, List.getElem?_map, List.reverse_cons, List.getElem?_append_right (by simp)]
  simp
theorem rev_take (s : DS) (p : List DS) : ((s :: p).reverse.map toS).take p.length = p.reverse.map toS := by
  rw [List.reverse_cons, List.map_append, List.take_append_of_le_length (by simp), List.take_of_length_le (by simp)]
theorem rev_set (u v : DS) (r : List DS) : ((u :: r).reverse.map toS).set r.length (toS v) = (v :: r).reverse.map toS := by
  rw [List.reverse_cons, List.map_append, List.set_append_right _ _ (by simp), List.reverse_cons, List.map_append]
  simp
theorem leave_more (W : List Nat) (n : Nat) (left : List DS) (s u : DS) (r : List DS) (h : n < r.length + 1) : leave W n left (s :: u :: r) = leave W n (num left s).1 ((u.1, u.2 ++ [(W.getD r.length 0, (num left s).2)]) :: r) := by
  rw [leave, if_pos h]
theorem leave_done (W : List Nat) (n : Nat) (left path : List DS) (h : path.length ≤ n + 1) : leave W n left path = (left, path) := by
  match path with
  | [] => rw [leave]
  | [s] => rw [leave]
  | s :: u :: r => rw [leave, if_neg (by simp at h; omega)]
set_option maxHeartbeats 4000000 in
set_option maxRecDepth 100000 in
theorem leave_k (base g bm B n : Nat) (left path : List DS) (word : ByteArray) (w : World) (h : Bd w base g bm left path word) (hf : Fit B left path) (hB : B ≤ 1000000) (hb : base ≤ w.heap.size) (hbg : base ≤ g) (hbm : base ≤ bm)
    (hn : n ≤ 1000000) (hw : path.length ≤ word.size + 1) (hws : word.size ≤ 1000000) :
    Calls Try.prog 60 #[.pointer (some ⟨g, 0, none⟩), .int .i64 n] w fun e w' => e = .returned (.tuple #[]) ∧
      Bd w' base g bm (leave (Utf.nats word) n left path).1 (leave (Utf.nats word) n left path).2 word ∧ Fit B (leave (Utf.nats word) n left path).1 (leave (Utf.nats word) n left path).2 ∧ Below base w w' := by
  obtain ⟨X, hX⟩ : ∃ X, leave (Utf.nats word) n left path = X := ⟨_, rfl⟩
  rw [hX]
  have H0 := Aside0.mk h; have F0 := Aside0.mk hf; have HB := Aside0.mk hB; have HBS := Aside0.mk hb; have HBG := Aside0.mk hbg; have HBM := Aside0.mk hbm; have HN := Aside0.mk hn; have HW := Aside0.mk hw; have HWS := Aside0.mk hws; have HX := Aside0.mk hX
  clear h hf hB hb hbg hbm hn hw hws hX
  have huS := Try.underlying82
  have huE := Try.underlying84
  go_enter Try.func60, Try.ntmps60
  go_wp2
  go_loopg [4] path.length (fun gg v4 wr => ∃ (lt pt : List DS), pt.length ≤ gg ∧ Aside0 (leave (Utf.nats word) n lt pt = X) ∧ Aside0 (Bd wr base g bm lt pt word) ∧ Aside0 (Fit B lt pt) ∧ Aside0 (pt.length ≤ word.size + 1) ∧ Aside0 (Below base w wr))
  case atStart => exact ⟨left, path, Nat.le_refl _, HX, H0, F0, HW, ⟨Below.refl _ _⟩⟩
  case round =>
    clear H0 F0 HX HW
    obtain ⟨lt, pt, hgk, HX, H, HF, HW, HBw⟩ := hrel
    obtain ⟨vL, vP, okL, okP, m, D, hg, hm, hml, hD, hL, hP, hLP⟩ := H.out
    have hbsz : base ≤ wr.heap.size := Nat.le_trans HBS.out HBw.out.size
    have hLb := Kd.S_mono (Kd.S_bound hL) (ok' := fun k => okL k ∧ k < wr.heap.size) (fun k hk => ⟨hk.1, hk.2.2.1⟩)
    have hPb := Kd.S_mono (Kd.S_bound hP) (ok' := fun k => okP k ∧ k < wr.heap.size ∧ k ≠ bm ∧ k ≠ g) (fun k hk => ⟨hk.1, hk.2.2.1, by obtain ⟨_, _, cells, hc⟩ := hk.2.2.2; exact map_cells hm hc, by
      obtain ⟨q, hq, cells, hc⟩ := hk.2.2.2
      rintro rfl
      rw [hg] at hc; injection hc with hc; injection hc with _ hc; subst hc; exact absurd hq (by decide)⟩)
    obtain ⟨AP, cP, hvP⟩ := Kd.S_slice hP
    rw [List.length_map, List.length_reverse] at hvP
    obtain ⟨L, hL0⟩ : ∃ L, L = pt.length := ⟨_, rfl⟩
    rw [← hL0] at hvP
    subst hvP
    have HG := Aside0.mk hg; have HL := Aside0.mk hLb; have HP := Aside0.mk hPb; have HM := Aside0.mk hm
    have HML := Aside0.mk hml; have HLP := Aside0.mk hLP; have HSZ := Aside0.mk hbsz; have HGK := Aside0.mk hgk; have HL0 := Aside0.mk hL0; have HD := Aside0.mk hD
    clear hg hL hP hLb hPb hm hml hLP hbsz hgk H hL0 hD
    have e0 : wr.cell? ⟨g, 2, none⟩ = some (.slice AP L cP) := (blk_cell HG.out 2).trans rfl
    have e1 : wr.cell? ⟨g, 3, none⟩ = some (.string word) := (blk_cell HG.out 3).trans rfl
    have f2 := blk_frozen HG.out 2
    have hw1 : wrap64 ((n : Int) + 1) = ((n + 1 : Nat) : Int) := by have := HN.out; unfold wrap64; omega
    by_cases hc : n + 1 < L
    · have hcb : decide ((L : Int) > wrap64 ((n : Int) + 1)) = true := by rw [hw1]; exact decide_eq_true (by omega)
      obtain ⟨s, u, r, rfl⟩ : ∃ s u r, pt = s :: u :: r := by
        have := HL0.out
        match pt, this with
        | [], h => simp at h; omega
        | [_], h => simp at h; omega
        | s :: u :: r, _ => exact ⟨s, u, r, rfl⟩
      obtain ⟨L1, hL1⟩ : ∃ L1, L1 = r.length + 1 := ⟨_, rfl⟩
      obtain ⟨L2, hL2⟩ : ∃ L2, L2 = r.length := ⟨_, rfl⟩
      have hLb : L = L1 + 1 ∧ L1 = L2 + 1 ∧ L ≤ B ∧ L2 < word.size ∧ n < L1 := by
        have h1 := HL0.out; have h2 := HF.out.1; have h3 := HW.out
        simp only [List.length_cons] at h1 h2 h3
        omega
      have HLL := Aside0.mk hLb; have HL1 := Aside0.mk hL1; have HL2 := Aside0.mk hL2
      have hBl := HB.out
      have hwl : wrap64 ((L : Int) - 1) = (L1 : Int) := by unfold wrap64; omega
      have hwl2 : wrap64 ((L1 : Int) - 1) = (L2 : Int) := by unfold wrap64; omega
      have hx0 : (0 : Int) ≤ (L1 : Int) := by omega
      have hx1 : (L1 : Int) < (L : Int) := by omega
      have hPlen : ((s :: u :: r).reverse.map toS).length = L := by rw [List.length_map, List.length_reverse]; exact HL0.out.symm
      obtain ⟨gP, cP', hvP, hgPb, hgPl, cellsP, hgPc⟩ := Kd.S_form HP.out (by rw [hPlen]; omega)
      rw [hPlen] at hvP
      injection hvP with hA _ hcc
      subst hA; subst hcc
      have hPok : okP gP := ((Kd.S_R HP.out).1 gP (by simp [Value.ownBlock])).1
      have hcap := (Kd.S_reads' HP.out).2.1
      have hcap1 : L1 ≤ cP := by omega
      have hx2 : (L2 : Int) < (L1 : Int) := by omega
      have hx3 : (0 : Int) ≤ (L2 : Int) := by omega
      obtain ⟨oki, cs, hcl, hcM, hcc, hoki, hH⟩ := Kd.S_lend HP.out ⟨false, []⟩ (L1 : Int) hx0 hx1
      rw [Int.toNat_natCast] at hcM hcc
      have hr0 := rev_get0 s (u :: r) ⟨false, []⟩
      rw [List.length_cons] at hr0
      rw [HL1.out, hr0] at hcM
      clear hr0
      obtain ⟨vE, rfl, hE⟩ := k82_openM hcM
      have hz0 : wr.cell? ⟨gP, L1 * 2, none⟩ = some (.bool s.1) := hcc 0 _ rfl
      have hz1 : wr.cell? ⟨gP, L1 * 2 + 1, none⟩ = some vE := hcc 1 _ rfl
      clear hL1 hL2 hLb hBl hPlen hcM hcc hcl
      have hsF := HF.out.2 s (by simp)
      have hltF := HF.out.1
      have hdis : ∀ k, (okL k ∧ k < wr.heap.size) → ¬ oki k := fun k h1 h2 => HLP.out k h1.1 (hoki k h2).1.1
      have hsl : s.2.length ≤ 1000000 := by have := hsF.2; have := HB.out; omega
      have hll : lt.length ≤ 1000000 := by have := HB.out; omega
      have hPt := Kd.H_take (m := L1) hH (by rw [List.length_map, List.length_reverse]; have := HL0.out; omega) (by rw [Int.toNat_natCast]; exact Nat.le_refl _)
      have hrt := rev_take s (u :: r)
      rw [List.length_cons, ← HL1.out] at hrt
      rw [hrt] at hPt
      have HPT := Aside0.mk hPt; have HE := Aside0.mk hE; have HDI := Aside0.mk hdis; have HSL := Aside0.mk hsl; have HLTL := Aside0.mk hll; have HSO := Aside0.mk hsF.1; have HOK := Aside0.mk hoki
      clear hH hrt hPt hE hdis hsl hll hsF hltF hoki
      go_wp2_with (first | (go_at_call 61; (with_reducible refine ((number_k base g bm m lt s vL _ vE word D _ oki wr HG.out HM.out HML.out HD.out HL.out HE.out HDI.out HSZ.out HBG.out HBM.out HSO.out HSL.out HLTL.out)).mono ?_)))
      (first | rintro e w1 rfl hq | rintro e w1 ⟨rfl, hq⟩)
      obtain ⟨vL1, okL1, n1, D1, hg1, hm1, hn1, hD1, hL1, hsub, hb1, hfr⟩ := hq
      have HPT1 := Aside0.mk (Kd.S_step HPT.out (fun k hk hlt => hfr k hlt (fun h2 => HLP.out k h2.1 hk.1.1) hk.1.2.2.2 hk.1.2.2.1))
      have HG1 := Aside0.mk hg1; have HM1 := Aside0.mk hm1; have HN1 := Aside0.mk hn1; have HD1 := Aside0.mk hD1; have HLL1 := Aside0.mk hL1; have HBw1 := Aside0.mk (HBw.out.trans hb1)
      have HDI1 : Aside0 (∀ k, okL1 k → ¬ ((okP k ∧ k < wr.heap.size ∧ k ≠ bm ∧ k ≠ g) ∧ ¬ oki k)) := ⟨fun k h1 h2 => by
        rcases hsub k h1 with h3 | h3 | h3
        · exact HLP.out k h3.1 h2.1.1
        · exact h2.2 h3
        · have := h2.1.2.1; omega⟩
      have HSZ1 : Aside0 (base ≤ w1.heap.size) := ⟨Nat.le_trans HSZ.out hb1.size⟩
      have HWW1 : Aside0 (wr.heap.size ≤ w1.heap.size) := ⟨hb1.size⟩
      clear e0 e1 f2 hz0 hz1 hg1 hm1 hn1 hD1 hL1 hsub hb1 hfr HPT HE HG HM HL HP
      have e0 : w1.cell? ⟨g, 2, none⟩ = some (.slice (some ⟨gP, 0, none⟩) L cP) := (blk_cell HG1.out 2).trans rfl
      have e1 : w1.cell? ⟨g, 3, none⟩ = some (.string word) := (blk_cell HG1.out 3).trans rfl
      have f2 := blk_frozen HG1.out 2
      go_wp2
      have HG2 := Aside0.mk (blk_put HG1.out 2 (.slice (some ⟨gP, 0, none⟩) L1 cP) rfl)
      have HM2 := Aside0.mk (map_move HM1.out (Below.heap_setCell w1 ⟨g, 2, none⟩ (.slice (some ⟨gP, 0, none⟩) L1 cP) bm (Ne.symm (map_cells HM1.out HG1.out))))
      have HLL2 := Aside0.mk (Kd.S_set HLL1.out HG1.out (by decide) 2 (.slice (some ⟨gP, 0, none⟩) L1 cP))
      have HPT2 := Aside0.mk (Kd.S_set HPT1.out HG1.out (by decide) 2 (.slice (some ⟨gP, 0, none⟩) L1 cP))
      have HBw2 := Aside0.mk (HBw1.out.setCell (p := ⟨g, 2, none⟩) HBG.out (.slice (some ⟨gP, 0, none⟩) L1 cP))
      have HSZ2 : Aside0 (base ≤ (w1.setCell ⟨g, 2, none⟩ (.slice (some ⟨gP, 0, none⟩) L1 cP)).heap.size) := ⟨by simpa [World.setCell] using HSZ1.out⟩
      have HWW2 : Aside0 (wr.heap.size ≤ (w1.setCell ⟨g, 2, none⟩ (.slice (some ⟨gP, 0, none⟩) L1 cP)).heap.size) := ⟨by simpa [World.setCell] using HWW1.out⟩
      clear HG1 HM1 HLL1 HPT1 HBw1 HSZ1 HWW1 e0 e1 f2
      generalize w1.setCell ⟨g, 2, none⟩ (.slice (some ⟨gP, 0, none⟩) L1 cP) = w2 at HG2 HM2 HLL2 HPT2 HBw2 HSZ2 HWW2 ⊢
      have hpl : (((u :: r).reverse).map toS).length = L1 := by rw [List.length_map, List.length_reverse]; exact HL1.out.symm
      have hPb2 := Kd.S_mono (Kd.S_bound HPT2.out) (ok' := fun k => ((okP k ∧ k < wr.heap.size ∧ k ≠ bm ∧ k ≠ g) ∧ ¬ oki k) ∧ k < w2.heap.size) (fun k hk => ⟨hk.1, hk.2.2.1⟩)
      obtain ⟨oki2, cs2, hcl2, hcM2, hcc2, hoki2, hH2⟩ := Kd.S_lend hPb2 ⟨false, []⟩ (L2 : Int) hx3 hx2
      rw [Int.toNat_natCast] at hcM2 hcc2
      have hr0 := rev_get0 u r ⟨false, []⟩
      rw [← HL2.out] at hr0
      rw [hr0] at hcM2
      obtain ⟨vU, rfl, hU⟩ := k82_openM hcM2
      have hz0 : w2.cell? ⟨gP, L2 * 2, none⟩ = some (.bool u.1) := hcc2 0 _ rfl
      have hz1 : w2.cell? ⟨gP, L2 * 2 + 1, none⟩ = some vU := hcc2 1 _ rfl
      obtain ⟨AU, cU, hvU⟩ := Kd.R_slice hU
      have hul : (toS u).f1.length = u.2.length := by simp [toS]
      rw [hul] at hvU
      subst hvU
      have HU := Aside0.mk hU; have HH2 := Aside0.mk hH2; have HO2 := Aside0.mk hoki2
      have hgU : some gP ≠ (Value.slice AU u.2.length cU).ownBlock := fun e => (hoki2 gP (hU.1 gP e.symm)).2 rfl
      have hgB := Kd.own_other2 hU HG2.out (by decide)
      have hgPok := (Kd.S_R HPT2.out).1 gP (by simp [Value.ownBlock])
      have HGPK := Aside0.mk hgPok
      clear hgPok
      clear hU hH2 hoki2 hcM2 hcc2 hcl2 hr0 hul hPb2 hpl
      have e1 : w2.cell? ⟨g, 3, none⟩ = some (.string word) := (blk_cell HG2.out 3).trans rfl
      have hbyte : (L2 : Int) < (word.size : Int) := by have := HLL.out.2.2.2.1; omega
      obtain ⟨bt, hbt⟩ : ∃ bt, bt = (Utf.nats word).getD L2 0 := ⟨_, rfl⟩
      have hbv : (word[L2]'(HLL.out.2.2.2.1)).toNat = bt := by rw [hbt]; exact byte_nat word L2 _
      have HBT := Aside0.mk hbt
      clear hbt
      refine start_ (n := 19) (S := fun w' => w'.cell? ⟨gP, L2 * 2 + 1, none⟩ = some (.slice AU u.2.length cU) ∧ w'.cell? ⟨g, 3, none⟩ = some (.string word)) (ds := [15, 18]) #[false, false, false, false, false, false, false, false, false, false, false, false, false, false, false, false, false, false, false] (by kernel_rfl) rfl rfl ⟨hz1, e1⟩ (fun hHeld => ?_)
      have HG3 := Aside0.mk (blk_drew HG2.out); have HM3 := Aside0.mk HM2.out.drew; have HLL3 := Aside0.mk (Kd.S_drew HLL2.out); have HH3 := Aside0.mk (Kd.H_drew HH2.out); have HU3 := Aside0.mk (Kd.R_drew HU.out); have HBw3 := Aside0.mk (below_drew HBw2.out)
      have HSZ3 : Aside0 (base ≤ w2.drew.heap.size) := ⟨HSZ2.out⟩
      have HWW3 : Aside0 (wr.heap.size ≤ w2.drew.heap.size) := ⟨HWW2.out⟩
      have HE3 : Aside0 (w2.drew.heap.size = w2.heap.size) := ⟨rfl⟩
      clear hz0 hz1 e1 HG2 HM2 HLL2 HPT2 HBw2 HSZ2 HWW2 HH2 HU
      generalize w2.drew = w3 at HG3 HM3 HLL3 HH3 HU3 HBw3 HSZ3 HWW3 HE3 hHeld ⊢
      (refine pure_ (i := 0) (N := some 46) (v := ?_) (a' := ?_) #[true, false, false, false, false, false, false, false, false, false, false, false, false, false, false, false, false, false, false] rfl rfl (by kernel_rfl) (fun _ _ _ h => h) (Or.inl ⟨by rfl, ?_⟩) ?_ ?_; rotate_left; (intro w'; go_simp; with_reducible rfl); rotate_left; (simp only [Act.put, List.setIfInBounds_toArray, List.set_cons_zero, List.set_cons_succ, i64_w, i32_w]; rfl)); (refine pure_ (i := 1) (N := some 47) (v := ?_) (a' := ?_) #[true, true, false, false, false, false, false, false, false, false, false, false, false, false, false, false, false, false, false] rfl rfl (by kernel_rfl) (fun _ _ _ h => h) (Or.inl ⟨by rfl, ?_⟩) ?_ ?_; rotate_left; (intro w'; go_simp; with_reducible rfl); rotate_left; (simp only [Act.put, List.setIfInBounds_toArray, List.set_cons_zero, List.set_cons_succ, i64_w, i32_w]; rfl)); (refine pure_ (i := 2) (N := some 48) (v := ?_) (a' := ?_) #[true, true, true, false, false, false, false, false, false, false, false, false, false, false, false, false, false, false, false] rfl rfl (by kernel_rfl) (fun _ _ _ h => h) (Or.inl ⟨by rfl, ?_⟩) ?_ ?_; rotate_left; (intro w'; go_simp; with_reducible rfl); rotate_left; (simp only [Act.put, List.setIfInBounds_toArray, List.set_cons_zero, List.set_cons_succ, i64_w, i32_w]; rfl)); (refine pure_ (i := 3) (N := some 49) (v := ?_) (a' := ?_) #[true, true, true, true, false, false, false, false, false, false, false, false, false, false, false, false, false, false, false] rfl rfl (by kernel_rfl) (fun _ _ _ h => h) (Or.inl ⟨by rfl, ?_⟩) ?_ ?_; rotate_left; (intro w'; go_simp; with_reducible rfl); rotate_left; (simp only [Act.put, List.setIfInBounds_toArray, List.set_cons_zero, List.set_cons_succ, i64_w, i32_w]; rfl)); (refine pure_ (i := 5) (N := some 51) (v := ?_) (a' := ?_) #[true, true, true, true, false, true, false, false, false, false, false, false, false, false, false, false, false, false, false] rfl rfl (by kernel_rfl) (fun _ _ _ h => h) (Or.inl ⟨by rfl, ?_⟩) ?_ ?_; rotate_left; (intro w'; go_simp; with_reducible rfl); rotate_left; (simp only [Act.put, List.setIfInBounds_toArray, List.set_cons_zero, List.set_cons_succ, i64_w, i32_w]; rfl)); (refine pure_ (i := 6) (N := some 52) (v := ?_) (a' := ?_) #[true, true, true, true, false, true, true, false, false, false, false, false, false, false, false, false, false, false, false] rfl rfl (by kernel_rfl) (fun _ _ _ h => h) (Or.inl ⟨by rfl, ?_⟩) ?_ ?_; rotate_left; (intro w'; go_simp; with_reducible rfl); rotate_left; (simp only [Act.put, List.setIfInBounds_toArray, List.set_cons_zero, List.set_cons_succ, i64_w, i32_w]; rfl)); (refine pure_ (i := 7) (N := some 53) (v := ?_) (a' := ?_) #[true, true, true, true, false, true, true, true, false, false, false, false, false, false, false, false, false, false, false] rfl rfl (by kernel_rfl) (fun _ _ _ h => h) (Or.inl ⟨by rfl, ?_⟩) ?_ ?_; rotate_left; (intro w'; go_simp; with_reducible rfl); rotate_left; (simp only [Act.put, List.setIfInBounds_toArray, List.set_cons_zero, List.set_cons_succ, i64_w, i32_w]; rfl))
      (refine take_ (i := 4) (N := some 50) (v := ?_) (a' := ?_) #[true, true, true, true, true, true, true, true, false, false, false, false, false, false, false, false, false, false, false] rfl rfl (by kernel_rfl) (fun _ _ _ h => h) (Or.inl ⟨by rfl, ?_⟩) hHeld ?_ ?_; rotate_left; (rintro w' ⟨s0, s1⟩; go_simp; with_reducible rfl); rotate_left; (simp only [Act.put, List.setIfInBounds_toArray, List.set_cons_zero, List.set_cons_succ, i64_w, i32_w]; rfl)); (refine take_ (i := 8) (N := some 54) (v := ?_) (a' := ?_) #[true, true, true, true, true, true, true, true, true, false, false, false, false, false, false, false, false, false, false] rfl rfl (by kernel_rfl) (fun _ _ _ h => h) (Or.inl ⟨by rfl, ?_⟩) hHeld ?_ ?_; rotate_left; (rintro w' ⟨s0, s1⟩; go_simp; with_reducible rfl); rotate_left; (simp only [Act.put, List.setIfInBounds_toArray, List.set_cons_zero, List.set_cons_succ, i64_w, i32_w]; rfl))
      (refine pure_ (i := 9) (N := some 55) (v := ?_) (a' := ?_) #[true, true, true, true, true, true, true, true, true, true, false, false, false, false, false, false, false, false, false] rfl rfl (by kernel_rfl) (fun _ _ _ h => h) (Or.inl ⟨by rfl, ?_⟩) ?_ ?_; rotate_left; (intro w'; go_simp; with_reducible rfl); rotate_left; (simp only [Act.put, List.setIfInBounds_toArray, List.set_cons_zero, List.set_cons_succ, i64_w, i32_w]; rfl)); (refine pure_ (i := 10) (N := some 56) (v := ?_) (a' := ?_) #[true, true, true, true, true, true, true, true, true, true, true, false, false, false, false, false, false, false, false] rfl rfl (by kernel_rfl) (fun _ _ _ h => h) (Or.inl ⟨by rfl, ?_⟩) ?_ ?_; rotate_left; (intro w'; go_simp; with_reducible rfl); rotate_left; (simp only [Act.put, List.setIfInBounds_toArray, List.set_cons_zero, List.set_cons_succ, i64_w, i32_w]; rfl))
      (refine pure_ (i := 11) (N := some 57) (v := ?_) (a' := ?_) #[true, true, true, true, true, true, true, true, true, true, true, true, false, false, false, false, false, false, false] rfl rfl (by kernel_rfl) (fun _ _ _ h => h) (Or.inl ⟨by rfl, ?_⟩) ?_ ?_; rotate_left; (intro w'; go_simp; with_reducible rfl); rotate_left; (simp only [Act.put, List.setIfInBounds_toArray, List.set_cons_zero, List.set_cons_succ, i64_w, i32_w]; rfl))
      (refine pure_ (i := 12) (N := some 58) (v := ?_) (a' := ?_) #[true, true, true, true, true, true, true, true, true, true, true, true, true, false, false, false, false, false, false] rfl rfl (by kernel_rfl) (fun _ _ _ h => h) (Or.inl ⟨by rfl, ?_⟩) ?_ ?_; rotate_left; (intro w'; go_simp; with_reducible rfl); rotate_left; (simp only [Act.put, List.setIfInBounds_toArray, List.set_cons_zero, List.set_cons_succ, i64_w, i32_w]; rfl)); (refine pure_ (i := 13) (N := some 59) (v := ?_) (a' := ?_) #[true, true, true, true, true, true, true, true, true, true, true, true, true, true, false, false, false, false, false] rfl rfl (by kernel_rfl) (fun _ _ _ h => h) (Or.inl ⟨by rfl, ?_⟩) ?_ ?_; rotate_left; (intro w'; go_simp; with_reducible rfl); rotate_left; (simp only [Act.put, List.setIfInBounds_toArray, List.set_cons_zero, List.set_cons_succ, i64_w, i32_w]; rfl))
      refine one_ (i := 14) (N := some 60) #[true, true, true, true, true, true, true, true, true, true, true, true, true, true, true, false, false, false, false] rfl rfl (by kernel_rfl) (by decide) (fun K hK => ?_)
      (refine value_ (w1 := ?_) (v := ?_) (by rfl) rfl ?_ ?_; rotate_left 2; (go_simp; constructor; rfl; rfl))
      refine hK.out _ _ ⟨((below_alloc (Below.refl _ _) _).cell (World.block_lt_of_cell? _ _ hHeld.1)).trans hHeld.1, ((below_alloc (Below.refl _ _) _).cell (World.block_lt_of_cell? _ _ hHeld.2)).trans hHeld.2⟩ (fun hHeld => ?_)
      (clear hK K; refine norm_ (a' := ?_) ?_ ?_; rotate_left; (show Act.put _ (some 60) _ = _; simp only [Act.put, List.setIfInBounds_toArray, List.set_cons_zero, List.set_cons_succ, i64_w, i32_w]; rfl))
      refine last_ (i := 15) (N := some 61) #[true, true, true, true, true, true, true, true, true, true, true, true, true, true, true, true, false, false, false] rfl rfl (by kernel_rfl) (by decide) (fun K hK => ?_)
      refine Kd.R_append_step (k84) (w0 := w) (base) (by rfl) (.tmp 50) (.tmp 60) 80 84 (.agg #[(.int .u8 0), (.int .i64 0)]) 16 rfl Try.underlying80 info84 rfl (by decide) (by omega) (.slice AU u.2.length cU) (toS u).f1 ⟨(bt : Int), ((num lt s).2 : Int)⟩ [.int .u8 bt, .int .i64 (num lt s).2] (fun k => oki2 k ∨ w3.heap.size ≤ k) (fun _ => False) rfl rfl ?aP ?aK ?aF ?aO ?aB ?aS ?aL ?_
      (case aP => exact k84_mkM _ _ _ _)
      (case aK => exact fun _ h => h.elim)
      (case aF => exact fun k hk => Or.inr hk)
      (case aO => exact Kd.R_mono HU3.out (fun k hk => Or.inl hk))
      (case aB => exact HBw3.out)
      (case aS => exact HSZ3.out)
      (case aL => have h1 := (HF.out.2 u (by simp)).2; have h2 := HB.out; simp [toS]; omega)
      intro v1 w4 hU4 hb4 hg4 hat4
      have hLb3 := Kd.S_mono (Kd.S_bound HLL3.out) (ok' := fun k => okL1 k ∧ k < w3.heap.size) (fun k hk => ⟨hk.1, hk.2.2.1⟩)
      have hrow : ∀ k, (Value.slice AU u.2.length cU).ownBlock = some k → oki2 k := HU3.out.1
      have hmrow : some bm ≠ (Value.slice AU u.2.length cU).ownBlock := fun e => (HO2.out bm (hrow bm e.symm)).1.1.1.2.2.1 rfl
      have HG4 := Aside0.mk (blk_grown HG3.out hg4 hgB)
      have HM4 := Aside0.mk (HM3.out.kept hg4 hmrow)
      have HLL4 := Aside0.mk (Kd.S_grown hLb3 hg4 (fun k hk e => HDI1.out k hk.1 (HO2.out k (hrow k e.symm)).1.1))
      have HH4 := Aside0.mk (Kd.H_grown HH3.out hg4 hrow)
      have HU4 := Aside0.mk hU4; have HB4 := Aside0.mk hb4
      have HS34 : Aside0 (w3.heap.size ≤ w4.heap.size) := ⟨hg4.size⟩
      clear hLb3 hrow hmrow hg4 hU4 hb4 hat4 HG3 HM3 HLL3 HH3 HU3 HBw3 hgB hgU hHeld
      obtain ⟨A1, c1, hv1⟩ := Kd.R_slice HU4.out
      have hul : ((toS u).f1 ++ [(⟨(bt : Int), ((num lt s).2 : Int)⟩ : S84)]).length = u.2.length + 1 := by simp [toS]
      rw [hul] at hv1
      subst hv1
      obtain ⟨rows, hrl, hraw, hcl4, hco4, hcc4, hback⟩ := Kd.H_raw HH4.out hx3 hx2
      have hz1 : w4.cell? ⟨gP, L2 * 2 + 1, none⟩ = some (.slice AU u.2.length cU) := by
        have h := hcc4 1 _ rfl
        rw [Int.toNat_natCast] at h
        exact h
      obtain ⟨cells4, hblk4⟩ : ∃ cells, w4.heap[gP]? = some (.cells cells 82 (0, 0)) := by
        obtain ⟨_, f, hR⟩ := HH4.out
        exact Kd.R_typed hR gP (by simp [Value.ownBlock])
      have fz1 := blk_frozen hblk4 (L2 * 2 + 1)
      clear hraw hcl4 hco4 hcc4 hback hul
      refine hK.out _ _ ?_
      (clear hK K; refine norm_ (a' := ?_) ?_ ?_; rotate_left; (show Act.put _ (some 61) _ = _; simp only [Act.put, List.setIfInBounds_toArray, List.set_cons_zero, List.set_cons_succ, i64_w, i32_w]; rfl))
      (refine pure_ (i := 16) (N := some 62) (v := ?_) (a' := ?_) #[true, true, true, true, true, true, true, true, true, true, true, true, true, true, true, true, true, false, false] rfl rfl (by kernel_rfl) (fun _ _ _ h => h) (Or.inl ⟨by rfl, ?_⟩) ?_ ?_; rotate_left; (intro w'; go_simp; with_reducible rfl); rotate_left; (simp only [Act.put, List.setIfInBounds_toArray, List.set_cons_zero, List.set_cons_succ, i64_w, i32_w]; rfl)); (refine pure_ (i := 17) (N := some 63) (v := ?_) (a' := ?_) #[true, true, true, true, true, true, true, true, true, true, true, true, true, true, true, true, true, true, false] rfl rfl (by kernel_rfl) (fun _ _ _ h => h) (Or.inl ⟨by rfl, ?_⟩) ?_ ?_; rotate_left; (intro w'; go_simp; with_reducible rfl); rotate_left; (simp only [Act.put, List.setIfInBounds_toArray, List.set_cons_zero, List.set_cons_succ, i64_w, i32_w]; rfl))
      refine last_ (i := 18) (N := none) #[true, true, true, true, true, true, true, true, true, true, true, true, true, true, true, true, true, true, true] rfl rfl (by kernel_rfl) (by decide) (fun K hK => ?_)
      refine skip_ (w1 := ?_) (by rfl) rfl ?_ ?_
      rotate_left
      · go_simp
        rfl
      refine hK.out _ _ ?_
      clear hK K
      refine done_ (by kernel_rfl) ?_
      try go_wp2
      have hgPlt : gP < w3.heap.size := by have h1 := HGPK.out.1.2.1; have h2 := HWW3.out; omega
      have hH5 := Kd.H_mono HH4.out (ok' := fun k => (((((okP k ∧ k < wr.heap.size ∧ k ≠ bm ∧ k ≠ g) ∧ ¬ oki k) ∧ k < w2.heap.size) ∨ w3.heap.size ≤ k) ∧ ¬ (w3.heap.size ≤ k))) (fun k hk => ⟨Or.inl hk, by have := hk.2; have := HE3.out; omega⟩)
      have hM5 : (k82).M w4 base (fun k => oki2 k ∨ w3.heap.size ≤ k) (toS (u.1, u.2 ++ [(bt, (num lt s).2)])) ([Value.bool (toS u).f0, Value.slice AU u.2.length cU].take 1 ++ [Value.slice A1 (u.2.length + 1) c1] ++ [Value.bool (toS u).f0, Value.slice AU u.2.length cU].drop (1 + 1)) := by
        refine k82_mkM _ _ _ _ ?_
        have he : (toS (u.1, u.2 ++ [(bt, (num lt s).2)])).f1 = (toS u).f1 ++ [⟨(bt : Int), ((num lt s).2 : Int)⟩] := by simp [toS, toE]
        rw [he]
        exact HU4.out
      obtain ⟨hS5, hg5⟩ := Kd.S_seg (okg := fun k => w3.heap.size ≤ k) hH5 hx3 hx2 (seg := [Value.slice A1 (u.2.length + 1) c1]) (j := 1) (Nat.le_refl 2) hM5 (fun k hk => hk) (fun k hk => ⟨Or.inr hk, by omega⟩)
      have e5 : w4.setCells gP ((L2 : Int).toNat * (k82).sz + 1) [Value.slice A1 (u.2.length + 1) c1] = w4.setCell ⟨gP, L2 * 2 + 1, none⟩ (Value.slice A1 (u.2.length + 1) c1) := by rw [Int.toNat_natCast]; rfl
      rw [e5, Int.toNat_natCast, HL2.out, rev_set] at hS5
      rw [e5] at hg5
      rw [← HL2.out] at hS5
      clear e5 hH5 hM5
      generalize w4.setCell ⟨gP, L2 * 2 + 1, none⟩ (Value.slice A1 (u.2.length + 1) c1) = w5 at hS5 hg5 ⊢
      have HG5 := blk_grown HG4.out hg5 (fun e => HGPK.out.1.2.2.2 (by injection e with e; exact e.symm))
      have HM5 := HM4.out.kept hg5 (fun e => HGPK.out.1.2.2.1 (by injection e with e; exact e.symm))
      have HL5 := Kd.S_grown HLL4.out hg5 (fun k hk e => HDI1.out k hk.1 (by injection e with e; rw [e]; exact HGPK.out))
      have HB5 := HB4.out.grown hg5 (Nat.le_trans HBS.out HB4.out.size) (fun k hk => by injection hk with hk; rw [← hk]; exact hgPb)
      have hnr : n < r.length + 1 := by have h1 := HLL.out; have h2 := HL1.out; omega
      have hX2 : leave (Utf.nats word) n (num lt s).1 ((u.1, u.2 ++ [(bt, (num lt s).2)]) :: r) = X := by
        rw [← HX.out, leave_more _ _ _ _ _ _ hnr, HBT.out, HL2.out]
      have hbl : bt < 256 := by rw [← hbv]; exact UInt8.toNat_lt _
      go_roundg (r.length + 1)
      case measure => have := HGK.out; simp only [List.length_cons] at this; omega
      case rel =>
        refine ⟨_, _, by simp, ⟨hX2⟩, ⟨⟨_, _, _, _, _, _, HG5, HM5, HN1.out, HD1.out, HL5, hS5, ?_⟩⟩, ⟨fit_step HF.out HB.out bt hbl⟩, ⟨by have := HW.out; simp only [List.length_cons] at this ⊢; omega⟩, ⟨HB5⟩⟩
        rintro k ⟨h1, h2⟩ (h3 | h3)
        · exact HDI1.out k h1 h3.1
        · omega
    · have hcb : decide ((L : Int) > wrap64 ((n : Int) + 1)) = false := by rw [hw1]; exact decide_eq_false (by omega)
      go_wp2
      go_end0
      have hXe : X = (lt, pt) := by rw [← HX.out, leave_done _ _ _ _ (by have := HL0.out; omega)]
      subst hXe
      exact ⟨rfl, ⟨vL, _, _, _, m, D, HG.out, HM.out, HML.out, HD.out, HL.out, HP.out, fun k h1 h2 => HLP.out k h1.1 h2.1⟩, HF.out, HBw.out⟩
end Go.Proofs.Ytgebhidpkcjpmaa.K

namespace Go.Proofs.Ytgebhidpkcjpmaa.K
open Go.RowKit Go.Proofs.YtgebhidpkcjpmaaW.PrintWords Go.Proofs.YtgebhidpkcjpmaaW.PrintLast Go.Proofs.YtgebhidpkcjpmaaW.PrintMore Go.Proofs.Ytgebhidpkcjpmaa
attribute [local go_sem] max2_int min2_int max_two min_two max_three min_three max_four min_four
set_option linter.unusedVariables false
set_option linter.unusedSimpArgs false
open Go.Proofs.Ytgebhidpkcjpmaa.PDk Go.Proofs.Ytgebhidpkcjpmaa.Daw Go.Maps
theorem common_step (a b : List Nat) (n : Nat) (ha : n < a.length) (hb : n < b.length) (h : a.getD n 0 = b.getD n 0) : common (a.drop n) (b.drop n) = common (a.drop (n + 1)) (b.drop (n + 1)) + 1 := by
  rw [List.drop_eq_getElem_cons ha, List.drop_eq_getElem_cons hb, common]
  rw [List.getD_eq_getElem?_getD, List.getD_eq_getElem?_getD, List.getElem?_eq_getElem ha, List.getElem?_eq_getElem hb] at h
  rw [if_pos (by simpa using h)]
theorem common_stop (a b : List Nat) (n : Nat) (h : ¬ (n < a.length ∧ n < b.length) ∨ a.getD n 0 ≠ b.getD n 0) : common (a.drop n) (b.drop n) = 0 := by
  by_cases ha : n < a.length
  · by_cases hb : n < b.length
    · rw [List.drop_eq_getElem_cons ha, List.drop_eq_getElem_cons hb, common]
      rcases h with h | h
      · exact absurd ⟨ha, hb⟩ h
      · rw [List.getD_eq_getElem?_getD, List.getD_eq_getElem?_getD, List.getElem?_eq_getElem ha, List.getElem?_eq_getElem hb] at h
        rw [if_neg (by simpa using h)]
    · have e : b.drop n = [] := List.drop_eq_nil_of_le (by omega)
      rw [e]; cases a.drop n <;> rfl
  · have e : a.drop n = [] := List.drop_eq_nil_of_le (by omega)
    rw [e]; rfl
theorem nats_len (s : ByteArray) : (Utf.nats s).length = s.size := by simp [Utf.nats]
theorem leave_len (W : List Nat) (n : Nat) : ∀ (k : Nat) (left path : List DS), path.length = k → (leave W n left path).2.length = min path.length (n + 1)
  | 0, left, [], _ => by rw [leave]; simp
  | 1, left, [s], _ => by rw [leave]; simp
  | k + 2, left, s :: u :: r, hk => by
    rw [leave]
    by_cases h : n < r.length + 1
    · rw [if_pos h, leave_len W n (k + 1) _ _ (by simpa using hk)]
      simp only [List.length_cons]; omega
    · rw [if_neg h]; simp only [List.length_cons]; omega
theorem fit_add {B N : Nat} {lt pt0 : List DS} (h : Fit B lt pt0) (j : Nat) (hp : 0 < pt0.length) (hl : (List.replicate j ((false, []) : DS) ++ pt0).length = N + 1) : Fit (B + N + 1) lt (ends (List.replicate j ((false, []) : DS) ++ pt0)) := by
  obtain ⟨h1, h2⟩ := h
  have hel : ∀ p : List DS, (ends p).length = p.length := fun p => by cases p <;> rfl
  have hin : ∀ p : List DS, ∀ s ∈ ends p, ∃ t ∈ p, s.2 = t.2 := fun p s hs => by
    cases p with
    | nil => simp [ends] at hs
    | cons a r =>
      rcases List.mem_cons.1 hs with rfl | hs
      · exact ⟨a, by simp, rfl⟩
      · exact ⟨s, by simp [hs], rfl⟩
  refine ⟨by rw [hel, hl]; omega, fun s hs => ?_⟩
  rw [hel, hl]
  obtain ⟨t, ht, e⟩ := hin _ s hs
  have hok : OkS t ∧ t.2.length ≤ B := by
    rcases List.mem_append.1 ht with ht | ht
    · rw [List.eq_of_mem_replicate ht]
      exact ⟨fun e he => by simp at he, by simp⟩
    · have := h2 t ht
      exact ⟨this.1, by omega⟩
  refine ⟨fun x hx => hok.1 x (by rw [← e]; exact hx), ?_⟩
  rw [e]
  have := hok.2
  omega
theorem drewN_below {w : World} {b : Nat} (q : Nat) : Below b w (w.drewN q) := pw_below_drewN (Below.refl _ _) q
theorem Bd_drewN {w : World} {base g bm : Nat} {left path : List DS} {word : ByteArray} (h : Bd w base g bm left path word) (q : Nat) : Bd (w.drewN q) base g bm left path word := by
  obtain ⟨vL, vP, okL, okP, m, D, hg, hm, hml, hD, hL, hP, hLP⟩ := h
  have e : ∀ k : Nat, (w.drewN q).heap[k]? = w.heap[k]? := fun k => rfl
  exact ⟨vL, vP, okL, okP, m, D, (e g).trans hg, map_move hm (e bm), hml, hD, Kd.S_drewN hL q, Kd.S_drewN hP q, hLP⟩
/-- What add leaves. -/
def AddQ (base g bm B : Nat) (left path : List DS) (word new : ByteArray) (w w' : World) : Prop :=
  ∀ X, add ⟨left, path, Utf.nats word⟩ (Utf.nats new) = X → Bd w' base g bm X.left X.path new ∧ Fit (B + new.size + 1) X.left X.path ∧ X.path.length = new.size + 1 ∧ Below base w w'
set_option maxHeartbeats 4000000 in
set_option maxRecDepth 100000 in
theorem add_k (base g bm B : Nat) (left path : List DS) (word new : ByteArray) (w : World) (h : Bd w base g bm left path word) (hf : Fit B left path) (hB : B + new.size + 1 ≤ 1000000) (hb : base ≤ w.heap.size) (hbg : base ≤ g) (hbm : base ≤ bm)
    (hw : path.length = word.size + 1) (hws : word.size ≤ 1000000) :
    Calls Try.prog 59 #[.pointer (some ⟨g, 0, none⟩), .string new] w fun e w' => e = .returned (.tuple #[]) ∧ AddQ base g bm B left path word new w w' := by
  have H0 := Aside0.mk h; have F0 := Aside0.mk hf; have HB := Aside0.mk hB; have HBS := Aside0.mk hb; have HBG := Aside0.mk hbg; have HBM := Aside0.mk hbm; have HW := Aside0.mk hw; have HWS := Aside0.mk hws
  clear h hf hB hb hbg hbm hw hws
  obtain ⟨vL, vP, okL, okP, m, D, hg, hm, hml, hD, hL, hP, hLP⟩ := H0.out
  have huS := Try.underlying82
  have huE := Try.underlying84
  have g3 : ∀ w' : World, w'.heap[g]? = w.heap[g]? → w'.cell? ⟨g, 3, none⟩ = some (.string word) := fun w' e => (blk_cell (e.trans hg) 3).trans rfl
  have G3 := Aside0.mk g3
  have HBw0 : w.heap.size ≤ w.heap.size := Nat.le_refl _
  clear hg hm hml hD hL hP hLP g3 HBw0
  have hnb := HB.out; have hwb := HWS.out
  have hns : (new.size : Int) ≤ 1000000 := by omega
  have hws : (word.size : Int) ≤ 1000000 := by omega
  clear hnb hwb
  go_enter Try.func59, Try.ntmps59
  go_upto_block 0 with fail
  go_cut [4] from 5 to 28 (fun s4 wx => ∃ n : Nat, s4 = .int .i64 n ∧ Aside0 (common (Utf.nats new) (Utf.nats word) = n) ∧ Aside0 (∃ q, wx = w.drewN q))
  case first =>
    go_wp2
    go_loopg [4] new.size (fun gg v4 wr => ∃ n : Nat, v4 = .int .i64 n ∧ Aside0 (n ≤ new.size ∧ n ≤ word.size ∧ new.size ≤ gg + n) ∧ Aside0 (common (Utf.nats new) (Utf.nats word) = common ((Utf.nats new).drop n) ((Utf.nats word).drop n) + n) ∧ Aside0 (∃ q, wr = w.drewN q))
    case atStart => exact ⟨0, rfl, ⟨by omega, by omega, by omega⟩, ⟨by simp⟩, ⟨0, rfl⟩⟩
    case round =>
      obtain ⟨n, rfl, hn, hcm, hwr⟩ := hrel
      have e3 : ∀ q, (wr.drewN q).cell? ⟨g, 3, none⟩ = some (.string word) := fun q => G3.out _ (by obtain ⟨q2, rfl⟩ := hwr.out; rfl)
      have e30 : wr.cell? ⟨g, 3, none⟩ = some (.string word) := e3 0
      by_cases hc : n < new.size ∧ n < word.size
      · have h0 : (0 : Int) ≤ (n : Int) := by omega
        have h1 : (n : Int) < (new.size : Int) := by omega
        have h2 : (n : Int) < (word.size : Int) := by omega
        have h3 : n < new.size := hc.1
        have h4 : n < word.size := hc.2
        have hb1 := byte_nat new n h3
        have hb2 := byte_nat word n h4
        have hcb : decide (n < word.size) = true := decide_eq_true h4
        have hcb2 : decide (n < new.size) = true := decide_eq_true h3
        have HC := Aside0.mk hc
        clear hc
        by_cases he : (Utf.nats new).getD n 0 = (Utf.nats word).getD n 0
        · have hbe : (((new[n]'h3).toNat : Int) == ((word[n]'h4).toNat : Int)) = true := by rw [hb1, hb2, he]; exact beq_self_eq_true _
          have hst := Aside0.mk (common_step (Utf.nats new) (Utf.nats word) n (by rw [nats_len]; exact h3) (by rw [nats_len]; exact h4) he)
          clear hb1 hb2 he
          by_cases hmn : word.size < new.size
          all_goals
            go_wp2
            go_quiet (fail)
            go_wp2
            go_roundg (new.size - (n + 1))
            case measure => have := hn.out; have := HC.out; omega
            case rel =>
              refine ⟨n + 1, ?_, ⟨?_⟩, ⟨?_⟩, ⟨?_⟩⟩
              · exact congrArg (Value.int .i64) (by omega)
              · have := hn.out; have := HC.out; omega
              · rw [hcm.out, hst.out]; omega
              · obtain ⟨q, rfl⟩ := hwr.out; exact ⟨q + nq, by rw [World.drewN_drewN]⟩
        · have hbe : (((new[n]'h3).toNat : Int) == ((word[n]'h4).toNat : Int)) = false := by rw [hb1, hb2]; exact beq_eq_false_iff_ne.2 (by omega)
          have hst := Aside0.mk (common_stop (Utf.nats new) (Utf.nats word) n (Or.inr he))
          clear hb1 hb2 he
          by_cases hmn : word.size < new.size
          all_goals
            go_wp2
            go_quiet (fail)
            go_wp2
            go_meet
            exact ⟨n, rfl, ⟨by rw [hcm.out, hst.out]; omega⟩, ⟨by obtain ⟨q, rfl⟩ := hwr.out; exact ⟨q + nq, by rw [World.drewN_drewN]⟩⟩⟩
      · have hst := Aside0.mk (common_stop (Utf.nats new) (Utf.nats word) n (Or.inl (by rw [nats_len, nats_len]; exact hc)))
        have hn1 := hn.out
        have hcx := Aside0.mk hc
        clear hc
        by_cases hmn : word.size < new.size
        · have hcb : decide (n < word.size) = false := decide_eq_false (fun h => hcx.out ⟨by omega, h⟩)
          go_wp2
          go_quiet (fail)
          go_wp2
          go_meet
          exact ⟨n, rfl, ⟨by rw [hcm.out, hst.out]; omega⟩, ⟨by obtain ⟨q, rfl⟩ := hwr.out; exact ⟨q + nq, by rw [World.drewN_drewN]⟩⟩⟩
        · have hcb : decide (n < new.size) = false := decide_eq_false (fun h => hcx.out ⟨h, by omega⟩)
          go_wp2
          go_quiet (fail)
          go_wp2
          go_meet
          exact ⟨n, rfl, ⟨by rw [hcm.out, hst.out]; omega⟩, ⟨by obtain ⟨q, rfl⟩ := hwr.out; exact ⟨q + nq, by rw [World.drewN_drewN]⟩⟩⟩
  case rest =>
    obtain ⟨n, rfl, hcn, hwx⟩ := hcut
    obtain ⟨q, rfl⟩ := hwx.out
    have H1 := Aside0.mk (Bd_drewN H0.out q)
    clear H0 G3 hwx
    have hbs1 : base ≤ (w.drewN q).heap.size := HBS.out
    have HBS1 := Aside0.mk hbs1
    have hbw0 := Aside0.mk (drewN_below (w := w) (b := base) q)
    clear hbs1
    have hn1 : n ≤ 1000000 := by have h1 := (common_le (Utf.nats new) (Utf.nats word)).1; rw [nats_len] at h1; have h2 := hcn.out; omega
    have HN := Aside0.mk hn1
    clear hn1
    generalize w.drewN q = wa at H1 HBS1 hbw0 ⊢
    go_wp2_with (first | (go_at_call 60; (with_reducible refine ((leave_k base g bm B n left path word wa H1.out F0.out (by have := HB.out; omega) HBS1.out HBG.out HBM.out HN.out (Nat.le_of_eq HW.out) HWS.out)).mono ?_)))
    (first | rintro e w1 rfl hq | rintro e w1 ⟨rfl, hq⟩)
    obtain ⟨lt, pt0, hX⟩ : ∃ lt pt, leave (Utf.nats word) n left path = (lt, pt) := ⟨_, _, rfl⟩
    have hpl := leave_len (Utf.nats word) n path.length left path rfl
    rw [hX] at hq hpl
    have HP0 : Aside0 (pt0.length ≤ new.size + 1 ∧ pt0.length ≤ word.size + 1 ∧ 0 < pt0.length) := ⟨by
      have h1 := (common_le (Utf.nats new) (Utf.nats word)).1; rw [nats_len] at h1; have h2 := hcn.out
      have h3 := HW.out
      simp only at hpl
      omega⟩
    have HXL := Aside0.mk hX
    obtain ⟨hb1, hf1, hw1⟩ := hq
    obtain ⟨vL, vP, okL, okP, m, D, hg, hm, hml, hD, hL, hP, hLP⟩ := hb1
    have HG := Aside0.mk hg; have HM := Aside0.mk hm; have HML := Aside0.mk hml; have HD := Aside0.mk hD; have HL := Aside0.mk hL; have HP := Aside0.mk hP; have HLP := Aside0.mk hLP
    have HF1 := Aside0.mk hf1; have HBw1 := Aside0.mk (hbw0.out.trans hw1)
    have f3 := blk_frozen HG.out 3
    have e3 : w1.cell? ⟨g, 3, none⟩ = some (.string word) := (blk_cell HG.out 3).trans rfl
    clear hpl hX hg hm hml hD hL hP hLP hf1 hw1 H1 HBS1 hbw0
    go_wp2
    have HB2 : Aside0 (Bd (w1.setCell ⟨g, 3, none⟩ (.string new)) base g bm lt pt0 new) := ⟨⟨vL, vP, _, _, m, D, blk_put HG.out 3 (.string new) rfl, map_move HM.out (Below.heap_setCell w1 ⟨g, 3, none⟩ (.string new) bm (Ne.symm (map_cells HM.out HG.out))), HML.out, HD.out, Kd.S_mono (Kd.S_set HL.out HG.out (by decide) 3 (.string new)) (fun k hk => hk), Kd.S_mono (Kd.S_set HP.out HG.out (by decide) 3 (.string new)) (fun k hk => hk), HLP.out⟩⟩
    have HBw2 := Aside0.mk (HBw1.out.setCell (p := ⟨g, 3, none⟩) HBG.out (.string new))
    clear HG HM HML HD HL HP HLP HBw1 f3 e3
    generalize w1.setCell ⟨g, 3, none⟩ (.string new) = w2 at HB2 HBw2 ⊢
    go_loopg [] (new.size + 1) (fun gg wr => ∃ (pt : List DS), Aside0 (Bd wr base g bm lt pt new) ∧ Aside0 (∃ j, pt = List.replicate j ((false, []) : DS) ++ pt0) ∧ Aside0 (pt.length ≤ new.size + 1 ∧ new.size + 1 ≤ gg + pt.length) ∧ Aside0 (Below base w wr))
    case atStart => exact ⟨pt0, HB2, ⟨0, by simp⟩, ⟨by have := HP0.out; omega⟩, HBw2⟩
    case round =>
      obtain ⟨pt, H, hj, hl, hbw⟩ := hrel
      obtain ⟨vL, vP, okL, okP, m, D, hg, hm, hml, hD, hL, hP, hLP⟩ := H.out
      obtain ⟨AP, cP, hvP⟩ := Kd.S_slice hP
      rw [List.length_map, List.length_reverse] at hvP
      obtain ⟨L, hL0⟩ : ∃ L, L = pt.length := ⟨_, rfl⟩
      rw [← hL0] at hvP
      subst hvP
      have hbsz : base ≤ wr.heap.size := Nat.le_trans HBS.out hbw.out.size
      have hlt := blk_lt hg
      have hLb := Kd.S_mono (Kd.S_bound hL) (ok' := fun k => okL k ∧ k < wr.heap.size ∧ k ≠ bm) (fun k hk => ⟨hk.1, hk.2.2.1, by obtain ⟨_, _, cells, hc⟩ := hk.2.2.2; exact map_cells hm hc⟩)
      have hPb := Kd.S_mono (Kd.S_bound hP) (ok' := fun k => okP k ∧ k < wr.heap.size ∧ k ≠ bm) (fun k hk => ⟨hk.1, hk.2.2.1, by obtain ⟨_, _, cells, hc⟩ := hk.2.2.2; exact map_cells hm hc⟩)
      have HG := Aside0.mk hg; have HL := Aside0.mk hLb; have HP := Aside0.mk hPb; have HM := Aside0.mk hm
      have HML := Aside0.mk hml; have HLP := Aside0.mk hLP; have HSZ := Aside0.mk hbsz; have HL0 := Aside0.mk hL0; have HD := Aside0.mk hD; have HGL := Aside0.mk hlt
      have hmlt := Aside0.mk hm.lt
      clear hg hL hP hLb hPb hm hml hLP hbsz H hL0 hD hlt
      have e2 : wr.cell? ⟨g, 2, none⟩ = some (.slice AP L cP) := (blk_cell HG.out 2).trans rfl
      have f2 := blk_frozen HG.out 2
      have hbb := HB.out
      by_cases hc : L ≤ new.size
      · have hcb : decide (L ≤ new.size) = true := decide_eq_true hc
        have hcb2 : decide ((L : Int) ≤ (new.size : Int)) = true := decide_eq_true (by omega)
        have HLL : Aside0 (L ≤ 1000000) := ⟨by omega⟩
        clear hbb
        go_wp2_with ((with_reducible refine gate_builtin (b := .append) (xs := #[.tmp 48, .tmp 50]) rfl ?_); at_builtin; refine Kd.S_append (k82) (w0 := w) base rfl (.tmp 48) (.tmp 50) 25 82 (.agg #[(.bool false), (.slice none 0 0)]) 32 rfl Try.underlying25 info82 rfl (by decide) (by omega) (.slice AP L cP) (pt.reverse.map toS) (toS (false, [])) [.bool false, .slice none 0 0] (fun k => okP k ∧ k ≠ bm ∨ wr.heap.size ≤ k) (fun _ => False) rfl rfl (k82_mkM _ _ _ (toS (false, [])) (Kd.R_nil _ _ _ _ _)) (fun _ h => h.elim) (fun k hk => Or.inr hk) (Kd.S_mono HP.out (fun k hk => ⟨Or.inl ⟨hk.1, hk.2.2⟩, fun h => h⟩)) hbw.out HSZ.out (by have h1 := HLL.out; have h2 := HL0.out; rw [List.length_map, List.length_reverse, ← h2]; omega) ?_)
        intro v1 w3 hS3 hb3 hg3 hat3
        have hgB := Kd.own_other2 (Kd.S_R HP.out) HG.out (by decide)
        have hmB : some bm ≠ (Value.slice AP L cP).ownBlock := fun e => ((Kd.S_R HP.out).1 bm e.symm).2.2 rfl
        have HG3 := Aside0.mk (blk_grown HG.out hg3 hgB)
        have HM3 := Aside0.mk (HM.out.kept hg3 hmB)
        have HL3 := Aside0.mk (Kd.S_grown HL.out hg3 (fun k hk e => HLP.out k hk.1 ((Kd.S_R HP.out).1 k e.symm).1))
        obtain ⟨A3, M3, c3, hv3⟩ : ∃ A3 M3 c3, v1 = .slice A3 M3 c3 := by obtain ⟨A3, c3, h⟩ := Kd.S_slice hS3; exact ⟨_, _, _, h⟩
        subst hv3
        have HS3 := Aside0.mk hS3
        have HB3 := Aside0.mk hb3
        have f2 := blk_frozen HG3.out 2
        have e2 : w3.cell? ⟨g, 2, none⟩ = some (.slice AP L cP) := (blk_cell HG3.out 2).trans rfl
        clear hS3 hb3 hg3 hat3 hgB hmB HG HM HL HP
        go_wp2
        have HG4 := blk_put HG3.out 2 (.slice A3 M3 c3) rfl
        have HM4 := map_move HM3.out (Below.heap_setCell w3 ⟨g, 2, none⟩ (.slice A3 M3 c3) bm (Ne.symm (map_cells HM3.out HG3.out)))
        have HL4 := Kd.S_set HL3.out HG3.out (by decide) 2 (.slice A3 M3 c3)
        have HS4 := Kd.S_set HS3.out HG3.out (by decide) 2 (.slice A3 M3 c3)
        have HB4 := HB3.out.setCell (p := ⟨g, 2, none⟩) HBG.out (.slice A3 M3 c3)
        go_roundg (new.size - L)
        case measure => have h1 := hl.out; have h2 := HL0.out; omega
        case rel =>
          refine ⟨(false, []) :: pt, ⟨⟨_, _, _, fun k => okP k ∧ ¬ k = bm ∨ wr.heap.size ≤ k, m, D, HG4, HM4, HML.out, HD.out, HL4, ?_, ?_⟩⟩, ⟨?_⟩, ⟨by have h2 := HL0.out; simp only [List.length_cons]; omega⟩, ⟨HB4⟩⟩
          · have e : ((((false, []) : DS) :: pt).reverse).map toS = (pt.map toS).reverse ++ [toS (false, [])] := by rw [List.reverse_cons, List.map_append, List.map_reverse]; rfl
            rw [e]
            exact Kd.S_mono HS4 (fun k hk => hk)
          · rintro k h1 (h2 | h2)
            · exact HLP.out k h1.1 h2.1
            · have := h1.2.1; omega
          · obtain ⟨j, rfl⟩ := hj.out
            exact ⟨j + 1, by rw [List.replicate_succ]; rfl⟩
      · have hcb : decide (L ≤ new.size) = false := decide_eq_false hc
        have hcb2 : decide ((L : Int) ≤ (new.size : Int)) = false := decide_eq_false (by omega)
        obtain ⟨s, r, rfl⟩ : ∃ s r, pt = s :: r := by
          obtain ⟨j, rfl⟩ := hj.out
          cases j with
          | zero => cases pt0 with
            | nil => have := HP0.out.2.2; simp at this
            | cons a r => exact ⟨a, r, by simp⟩
          | succ j => exact ⟨_, _, by rw [List.replicate_succ, List.cons_append]⟩
        have hln : L = new.size + 1 := by have h1 := hl.out.1; have h2 := HL0.out; omega
        have hrn : r.length = new.size := by have h2 := HL0.out; simp only [List.length_cons] at h2; omega
        have hPlen : ((s :: r).reverse.map toS).length = L := by rw [List.length_map, List.length_reverse]; exact HL0.out.symm
        obtain ⟨gP, cP', hvP, hgPb, hgPl, cellsP, hgPc⟩ := Kd.S_form HP.out (by rw [hPlen]; omega)
        rw [hPlen] at hvP
        injection hvP with hA _ hcc
        subst hA; subst hcc
        have hx0 : (0 : Int) ≤ (new.size : Int) := by omega
        have hx1 : (new.size : Int) < (L : Int) := by omega
        obtain ⟨oki, cs, hcl, hcM, hce, hfr, hoki, hH⟩ := Kd.S_elem HP.out ⟨false, []⟩ (new.size : Int) hx0 hx1
        have hr0 := rev_get0 s r ⟨false, []⟩
        rw [hrn] at hr0
        rw [Int.toNat_natCast] at hcM hce hfr
        rw [hr0] at hcM
        obtain ⟨vE, rfl, hE⟩ := k82_openM hcM
        have hz0 : wr.cell? ⟨gP, new.size * 2, none⟩ = some (.bool s.1) := hce 0 _ rfl
        have hz1 : wr.frozen? ⟨gP, new.size * 2, none⟩ = false := hfr 0
        have HE := Aside0.mk hE; have HH := Aside0.mk hH; have HOK := Aside0.mk hoki; have HLN := Aside0.mk hln; have HRN := Aside0.mk hrn; have HGPC := Aside0.mk hgPc
        clear hcl hcM hce hfr hoki hH hE hr0 hPlen hln hrn hbb hgPc f2
        go_wp2
        go_end0
        refine ⟨rfl, ?_⟩
        unfold AddQ
        rintro X rfl
        obtain ⟨j, hj2⟩ := hj.out
        have hjn : j = new.size + 1 - pt0.length := by
          have h1 := congrArg List.length hj2
          rw [List.length_append, List.length_replicate] at h1
          have h2 := HRN.out; have h3 := HP0.out
          simp only [List.length_cons] at h1
          omega
        have hX : add ⟨left, path, Utf.nats word⟩ (Utf.nats new) = ⟨lt, (true, s.2) :: r, Utf.nats new⟩ := by
          unfold add
          simp only [hcn.out, HXL.out, nats_len]
          rw [← hjn, ← hj2]
          rfl
        rw [hX]
        have hM5 : (k82).M wr base oki (toS (true, s.2)) ([Value.bool (toS s).f0, vE].take 0 ++ [Value.bool true] ++ [Value.bool (toS s).f0, vE].drop (0 + 1)) :=
          k82_mkM _ _ _ _ HE.out
        have hH5 := Kd.H_mono HH.out (ok' := fun k => (okP k ∧ k < wr.heap.size ∧ k ≠ bm) ∧ ¬ False) (fun k hk => ⟨hk, fun h => h⟩)
        obtain ⟨hS5, hg5⟩ := Kd.S_seg (okg := fun _ => False) hH5 hx0 hx1 (seg := [Value.bool true]) (j := 0) (Nat.le_succ 1) hM5 (fun k hk => Or.inl hk) (fun k hk => hk.elim)
        have e5 : wr.setCells gP ((new.size : Int).toNat * (k82).sz + 0) [Value.bool true] = wr.setCell ⟨gP, new.size * 2, none⟩ (Value.bool true) := by rw [Int.toNat_natCast]; rfl
        rw [e5, Int.toNat_natCast, ← HRN.out, rev_set, HRN.out] at hS5
        rw [e5] at hg5
        have hgm : gP ≠ bm := ((Kd.S_R HP.out).1 gP (by simp [Value.ownBlock])).2.2
        have hgg : gP ≠ g := by rintro rfl; have h1 := HGPC.out; rw [HG.out] at h1; injection h1 with h1; injection h1 with _ h1; exact absurd h1 (by decide)
        have hgo : okP gP := ((Kd.S_R HP.out).1 gP (by simp [Value.ownBlock])).1
        have HG5 := blk_grown HG.out hg5 (fun e => hgg (by injection e with e; exact e.symm))
        have HM5 := HM.out.kept hg5 (fun e => hgm (by injection e with e; exact e.symm))
        have HL5 := Kd.S_grown HL.out hg5 (fun k hk e => HLP.out k hk.1 (by injection e with e; rw [e]; exact hgo))
        have HB5 := hbw.out.grown hg5 (Nat.le_trans HBS.out hbw.out.size) (fun k hk => by injection hk with hk; rw [← hk]; exact hgPb)
        refine ⟨⟨_, _, _, _, m, D, HG5, HM5, HML.out, HD.out, HL5, hS5, fun k h1 h2 => HLP.out k h1.1 h2.1⟩, ?_, ?_, HB5⟩
        · have := fit_add (N := new.size) HF1.out j HP0.out.2.2 (by rw [← hj2]; simp only [List.length_cons]; rw [HRN.out])
          rw [← hj2] at this
          exact this
        · show ((true, s.2) :: r).length = _
          rw [List.length_cons, HRN.out]
end Go.Proofs.Ytgebhidpkcjpmaa.K

namespace Go.Proofs.Ytgebhidpkcjpmaa.K
open Go.RowKit Go.Proofs.YtgebhidpkcjpmaaW.PrintWords Go.Proofs.YtgebhidpkcjpmaaW.PrintLast Go.Proofs.YtgebhidpkcjpmaaW.PrintMore Go.Proofs.Ytgebhidpkcjpmaa
attribute [local go_sem] max2_int min2_int max_two min_two max_three min_three max_four min_four
set_option linter.unusedVariables false
set_option linter.unusedSimpArgs false
open Go.Proofs.Ytgebhidpkcjpmaa.PDk Go.Proofs.Ytgebhidpkcjpmaa.Daw Go.Maps
def bytesAll (l : List ByteArray) : Nat := 1 + (l.map fun s => s.size + 1).sum
def wordsN (l : List ByteArray) : List (List Nat) := l.map Utf.nats
/-- What daw.Build answers. -/
def buildR (l : List ByteArray) : List S82 × Int :=
  if [] ∈ wordsN l then ([], 1) else if (wordsN l).Pairwise (· < ·) then ((build (wordsN l)).map toS, 0) else ([], 9)
def daw_Build.f (l : List ByteArray) : Option (List S82 × Int) := if bytesAll l ≤ 1000000 then some (buildR l) else none
theorem index_l0 (l : List ByteArray) (a : ByteArray) : ∀ (m i k : Nat), i + m = l.length → m < k → l.length ≤ 1000000 → slices_Index_string_string.l0 k l a (l.length : Int) (i : Int) = some (match (l.drop i).findIdx? (fun x => a.toList == x.toList) with | some j => ((i + j : Nat) : Int) | none => -1)
  | 0, i, k + 1, hm, hk, hl => by
    unfold slices_Index_string_string.l0
    rw [if_neg (by omega), List.drop_eq_nil_of_le (by omega)]; rfl
  | m + 1, i, k + 1, hm, hk, hl => by
    unfold slices_Index_string_string.l0
    have hi : i < l.length := by omega
    have hr : rdOf ByteArray.empty l (i : Int) = l[i] := by
      unfold rdOf
      rw [Int.toNat_natCast, List.getD_eq_getElem?_getD, List.getElem?_eq_getElem hi]; rfl
    rw [if_pos (by omega), if_pos (by omega), if_pos (by omega), hr, List.drop_eq_getElem_cons hi, List.findIdx?_cons]
    by_cases h : a.toList = l[i].toList
    · rw [if_pos h, if_pos (by simpa using h)]; simp
    · have hw : Go.RowKit.wrap64 ((i : Int) + 1) = ((i + 1 : Nat) : Int) := by unfold Go.RowKit.wrap64; omega
      rw [if_neg h, hw, index_l0 l a m (i + 1) k (by omega) (by omega) hl, if_neg (by simpa using h)]
      cases List.findIdx? (fun x => a.toList == x.toList) (l.drop (i + 1)) with
      | none => rfl
      | some j => exact congrArg some (congrArg Nat.cast (by omega : i + 1 + j = i + (j + 1)))
theorem toList_empty (x : ByteArray) : (ByteArray.toList ⟨#[]⟩ == x.toList) = decide (Utf.nats x = []) := by
  rw [Utf.toList_nats]
  have e : x.toList.map (fun b => b.toNat) = Utf.nats x := by rw [ByteArray.toList_eq]; rfl
  rw [e]
  show ([] == Utf.nats x) = _
  cases Utf.nats x <;> simp
theorem contains_empty (l : List ByteArray) (k : Nat) (hl : l.length ≤ 1000000) (hk : l.length < k) : slices_Contains_string_string.f k l ⟨#[]⟩ = some (decide ([] ∈ wordsN l)) := by
  unfold slices_Contains_string_string.f slices_Index_string_string.f
  have := index_l0 l ⟨#[]⟩ l.length 0 k (by omega) hk hl
  rw [show ((0 : Nat) : Int) = 0 from rfl] at this
  rw [this]
  simp only [Option.bind_some, List.drop_zero, Option.some.injEq]
  have h2 : (l.findIdx? (fun x => ByteArray.toList ⟨#[]⟩ == x.toList)).isSome = decide ([] ∈ wordsN l) := by
    rw [List.findIdx?_isSome, Bool.eq_iff_iff, List.any_eq_true, decide_eq_true_eq]
    unfold wordsN
    rw [List.mem_map]
    constructor
    · rintro ⟨x, hx, h⟩
      rw [toList_empty] at h
      exact ⟨x, hx, of_decide_eq_true h⟩
    · rintro ⟨x, hx, h⟩
      exact ⟨x, hx, by rw [toList_empty]; exact decide_eq_true h⟩
  rw [← h2]
  cases l.findIdx? (fun x => ByteArray.toList ⟨#[]⟩ == x.toList) with
  | none => rfl
  | some j => simp
def Bs (l : List ByteArray) (i : Nat) : Daw.B := ((wordsN l).take i).foldl add Daw.start
theorem Bs_zero (l : List ByteArray) : Bs l 0 = Daw.start := rfl
theorem Bs_next (l : List ByteArray) (i : Nat) (h : i < l.length) : Bs l (i + 1) = add (Bs l i) (Utf.nats l[i]) := by
  unfold Bs
  have : (wordsN l).take (i + 1) = (wordsN l).take i ++ [Utf.nats l[i]] := by
    rw [List.take_succ_eq_append_getElem (by unfold wordsN; rw [List.length_map]; exact h)]
    unfold wordsN
    rw [List.getElem_map]
  rw [this, List.foldl_append]; rfl
theorem Bs_word (l : List ByteArray) (i : Nat) (h : i < l.length) : (Bs l (i + 1)).word = Utf.nats l[i] := by rw [Bs_next l i h]; rfl
theorem bytesAll_take (l : List ByteArray) (i : Nat) (h : i < l.length) : bytesAll (l.take (i + 1)) = bytesAll (l.take i) + l[i].size + 1 := by
  unfold bytesAll
  rw [List.take_succ_eq_append_getElem h, List.map_append, List.sum_append]
  simp; omega
theorem bytesAll_le (l : List ByteArray) (i : Nat) : bytesAll (l.take i) ≤ bytesAll l := by
  have e : l = l.take i ++ l.drop i := (List.take_append_drop i l).symm
  unfold bytesAll
  conv => rhs; rw [e]
  rw [List.map_append, List.sum_append]; omega
theorem len_bytesAll : ∀ (l : List ByteArray), l.length + 1 ≤ bytesAll l
  | [] => by simp [bytesAll]
  | a :: l => by
    have := len_bytesAll l
    unfold bytesAll at this ⊢
    simp; omega
theorem size_bytesAll : ∀ (l : List ByteArray) (i : Nat) (h : i < l.length), l[i].size + 2 ≤ bytesAll l
  | a :: l, 0, h => by unfold bytesAll; simp; omega
  | a :: l, i + 1, h => by
    have := size_bytesAll l i (by simpa using h)
    unfold bytesAll at this ⊢
    simp; omega
theorem rising_snoc2 : ∀ (l : List (List Nat)) (a b : List Nat), (l ++ [a]).Pairwise (· < ·) → a < b → (l ++ [a] ++ [b]).Pairwise (· < ·) := by
  intro l a b h hab
  rw [List.pairwise_append]
  refine ⟨h, by simp, fun x hx y hy => ?_⟩
  rw [List.mem_singleton.1 hy]
  rcases List.mem_append.1 hx with hx | hx
  · exact List.lt_trans ((List.pairwise_append.1 h).2.2 x hx a (by simp)) hab
  · rw [List.mem_singleton.1 hx]; exact hab
/-- The words up to i rise, with the empty one ahead. -/
theorem rise_next (l : List ByteArray) (i : Nat) (h : i < l.length) (hr : ((wordsN l).take i).Pairwise (· < ·)) (hn : 0 < i → Utf.nats (l.getD (i - 1) ⟨#[]⟩) < Utf.nats l[i]) : ((wordsN l).take (i + 1)).Pairwise (· < ·) := by
  have hlen : (wordsN l).length = l.length := by unfold wordsN; rw [List.length_map]
  have e : ∀ j (hj : j < l.length), (wordsN l).take (j + 1) = (wordsN l).take j ++ [Utf.nats l[j]] := fun j hj => by
    rw [List.take_succ_eq_append_getElem (by rw [hlen]; exact hj)]
    unfold wordsN
    rw [List.getElem_map]
  rw [e i h]
  cases i with
  | zero => simp
  | succ i =>
    rw [e i (by omega)] at hr ⊢
    refine rising_snoc2 _ _ _ hr ?_
    have := hn (by omega)
    rw [Nat.add_sub_cancel, List.getD_eq_getElem?_getD, List.getElem?_eq_getElem (by omega)] at this
    exact this
theorem rise_not (l : List ByteArray) (i : Nat) (h : i < l.length) (h0 : 0 < i) (hn : ¬ Utf.nats (l.getD (i - 1) ⟨#[]⟩) < Utf.nats l[i]) : ¬ (wordsN l).Pairwise (· < ·) := by
  intro hp
  apply hn
  rw [List.getD_eq_getElem?_getD, List.getElem?_eq_getElem (by omega)]
  have := List.pairwise_iff_getElem.1 hp (i - 1) i (by unfold wordsN; rw [List.length_map]; omega) (by unfold wordsN; rw [List.length_map]; omega) (by omega)
  unfold wordsN at this
  rw [List.getElem_map, List.getElem_map] at this
  exact this
theorem leq_str (s t : ByteArray) : (Op.bytesLess s.toList t.toList || s.toList == t.toList) = !decide (Utf.nats t < Utf.nats s) := by
  rw [less_str, Utf.toList_nats]
  have e : t.toList.map (fun b => b.toNat) = Utf.nats t := by rw [ByteArray.toList_eq]; rfl
  rw [e, Bool.eq_iff_iff, Bool.or_eq_true, Bool.not_eq_true', decide_eq_true_eq, decide_eq_false_iff_not, List.not_lt, beq_iff_eq, List.le_iff_lt_or_eq]
theorem run_leq_str (P : Program) (ty : TypeId) (s t : ByteArray) (W : World) : (binOp .leq ty (.string s) (.string t)).run P W = .ok (.bool (!decide (Utf.nats t < Utf.nats s))) W := by
  rw [← leq_str]
  simp [binOp, Op.stringOp]
/-- A row of one. -/
theorem reps_one {α : Type} {R : α → List Value → Prop} {size : Nat} {x : α} {cs : List Value} (hl : cs.length = size) (h : R x cs) : Reps R size [x] cs := by
  refine ⟨by simp [hl], fun j p hj => ?_⟩
  cases j with
  | zero =>
    have : x = p := by simpa using hj
    subst this
    simpa [← hl] using h
  | succ j => simp at hj
theorem Kd.S_one {α : Type} {d : Kd α} {e base b : Nat} {W : World} {ok : Nat → Prop} {x : α} {cs : List Value} (hb : W.heap[b]? = some (.cells cs.toArray e (0, 0))) (hM : d.M W base (fun _ => False) x cs) (hbase : base ≤ b) (hok : ok b) : Kd.S d e W base ok (.slice (some ⟨b, 0, none⟩) 1 1) [x] := by
  have hl := d.K_len (d.K_of_M hM)
  refine Kd.S_bare ⟨fun k hk => ?_, cs, ⟨?_, .inr ⟨b, 1, cs.toArray, rfl, hbase, hb, ?_, ?_, ?_, ?_⟩⟩, reps_one hl hM⟩
  · have : b = k := by simpa [Value.ownBlock] using hk
    subst this; exact hok
  · show cs.length = 1 * d.sz
    omega
  · exact Nat.le_refl 1
  · decide
  · show cs.toArray.size = 1 * d.sz
    simp; omega
  · show cs.toArray.toList.take (1 * d.sz) = cs
    rw [Nat.one_mul, ← hl]; simp
theorem made (w : World) : Bd (((w.alloc (.map #[] 0)).alloc (.cells #[.bool false, .slice none 0 0] 82 (0, 0))).alloc (.cells #[.slice none 0 0, .map (some w.heap.size), .slice (some ⟨w.heap.size + 1, 0, none⟩) 1 1, .string ⟨#[]⟩] 112 (0, 0))) w.heap.size (w.heap.size + 1 + 1) w.heap.size [] [(false, [])] ⟨#[]⟩ ∧
    Below w.heap.size w (((w.alloc (.map #[] 0)).alloc (.cells #[.bool false, .slice none 0 0] 82 (0, 0))).alloc (.cells #[.slice none 0 0, .map (some w.heap.size), .slice (some ⟨w.heap.size + 1, 0, none⟩) 1 1, .string ⟨#[]⟩] 112 (0, 0))) := by
  have s1 : (w.alloc (.map #[] 0)).heap.size = w.heap.size + 1 := by simp
  have b1 : Below w.heap.size w (w.alloc (.map #[] 0)) := (Below.refl _ w).alloc (Nat.le_refl _) _
  generalize hw1 : w.alloc (.map #[] 0) = w1 at s1 b1
  have m1 : w1.ownsMap Try.prog 9 (plainElem Try.prog 3) w.heap.size 0 (.map [] : DataW Unit) := by rw [← hw1]; exact World.ownsMap_made _ _ _ _
  have s2 : (w1.alloc (.cells #[.bool false, .slice none 0 0] 82 (0, 0))).heap.size = w.heap.size + 1 + 1 := by simp [s1]
  have b2 : Below w1.heap.size w1 (w1.alloc (.cells #[.bool false, .slice none 0 0] 82 (0, 0))) := below_alloc (Below.refl _ _) _
  have n2 := heap_alloc_new w1 (.cells #[.bool false, .slice none 0 0] 82 (0, 0))
  generalize w1.alloc (.cells #[.bool false, .slice none 0 0] 82 (0, 0)) = w2 at s2 b2 n2 ⊢
  have b3 : Below w2.heap.size w2 (w2.alloc (.cells #[.slice none 0 0, .map (some w.heap.size), .slice (some ⟨w.heap.size + 1, 0, none⟩) 1 1, .string ⟨#[]⟩] 112 (0, 0))) := below_alloc (Below.refl _ _) _
  have n3 := heap_alloc_new w2 (.cells #[.slice none 0 0, .map (some w.heap.size), .slice (some ⟨w.heap.size + 1, 0, none⟩) 1 1, .string ⟨#[]⟩] 112 (0, 0))
  generalize w2.alloc (.cells #[.slice none 0 0, .map (some w.heap.size), .slice (some ⟨w.heap.size + 1, 0, none⟩) 1 1, .string ⟨#[]⟩] 112 (0, 0)) = w3 at b3 n3 ⊢
  rw [s1] at n2
  rw [s2] at n3
  have n2' : w3.heap[w.heap.size + 1]? = some (.cells #[.bool false, .slice none 0 0] 82 (0, 0)) := (b3.block _ (by omega)).trans n2
  refine ⟨⟨_, _, fun _ => False, fun _ => True, 0, .map [], n3, map_move m1 ((b3.block _ (by omega)).trans (b2.block _ (by omega))), Nat.le_refl _, link_empty, Kd.S_nil _ _ _ _ _, ?_, fun _ h => h.elim⟩, (b1.trans (b2.mono (by omega))).trans (b3.mono (by omega))⟩
  exact Kd.S_one (cs := [.bool false, .slice none 0 0]) n2' (k82_mkM _ _ _ (toS (false, [])) (Kd.R_nil _ _ _ _ _)) (by omega) trivial
set_option maxHeartbeats 4000000 in
set_option maxRecDepth 100000 in
theorem daw_Build.calls (A0 : Option Addr) (c0 : Nat) (l0 : List ByteArray) (r1 : List S82) (r2 : Int) (w : World) (hr0 : Kd.C Kd.string w A0 l0.length l0) (hc0 : l0.length ≤ c0) (h : daw_Build.f l0 = some (r1, r2)) :
    Calls Try.prog 32 #[.slice A0 l0.length c0] w fun e w' => ∃ v0_ : Value, e = .returned (.tuple #[v0_, .int .i64 r2]) ∧ Kd.S k82 82 w' w.heap.size (fun _ => True) v0_ r1 ∧ Below w.heap.size w w' := by
  have hB : bytesAll l0 ≤ 1000000 := by
    unfold daw_Build.f at h; split at h
    · assumption
    · cases h
  have hr : buildR l0 = (r1, r2) := by
    unfold daw_Build.f at h; rw [if_pos hB] at h; exact Option.some.inj h
  clear h
  have hlen : l0.length ≤ 1000000 := by have := len_bytesAll l0; omega
  have hcon := contains_empty l0 (l0.length + 1) hlen (Nat.lt_succ_self _)
  have HC := Aside0.mk hr0; have HL := Aside0.mk hc0; have HB := Aside0.mk hB; have HR := Aside0.mk hr; have HCON := Aside0.mk hcon; have HLEN := Aside0.mk hlen
  clear hr0 hc0 hB hr hcon hlen
  have hmm := @run_makeMap Try.prog
  have huS := Try.underlying82
  go_enter Try.func32, Try.ntmps32
  go_wp2_with (first | (go_at_call 58; (with_reducible refine (slices_Contains_string_string.calls (l0.length + 1) A0 c0 l0 ⟨#[]⟩ _ _ HC.out HL.out HCON.out).mono ?_)))
  (first | rintro e w1 rfl ⟨nd, rfl⟩ | rintro e w1 ⟨rfl, ⟨nd, rfl⟩⟩)
  by_cases hem : [] ∈ wordsN l0
  · have hb : decide ([] ∈ wordsN l0) = true := decide_eq_true hem
    have HE := Aside0.mk hem
    clear hem
    go_wp2
    go_ret2
    have hr := HR.out
    unfold buildR at hr
    rw [if_pos HE.out] at hr
    injection hr with h1 h2
    subst h1; subst h2
    exact ⟨_, rfl, Kd.S_nil _ _ _ _ _, pw_below_drewN (Below.refl _ _) _⟩
  · have hb : decide ([] ∈ wordsN l0) = false := decide_eq_false hem
    have HE := Aside0.mk hem
    clear hem
    go_wp2
    obtain ⟨hBd, hBl⟩ := made (w.drewN nd)
    have hBl2 := Below.trans (pw_below_drewN (Below.refl w.heap.size w) nd) hBl
    have e0 : (w.drewN nd).heap.size = w.heap.size := rfl
    rw [e0] at hBd hBl2
    have H0 := Aside0.mk hBd; have HBw := Aside0.mk hBl2
    clear hBd hBl hBl2 e0
    generalize (((w.drewN nd).alloc (.map #[] 0)).alloc (.cells #[.bool false, .slice none 0 0] 82 (0, 0))).alloc (.cells #[.slice none 0 0, .map (some w.heap.size), .slice (some ⟨w.heap.size + 1, 0, none⟩) 1 1, .string ⟨#[]⟩] 112 (0, 0)) = w0 at H0 HBw ⊢
    obtain ⟨g, hg⟩ : ∃ g, g = w.heap.size + 1 + 1 := ⟨_, rfl⟩
    rw [← hg] at H0 ⊢
    have HGB : Aside0 (w.heap.size ≤ g) := ⟨by omega⟩
    clear hg
    clear hmm HCON hb
    have hlz : (l0.length : Int) ≤ 1000000 := by have := HLEN.out; omega
    go_loopg [16] l0.length (fun gg v16 wr => ∃ (i : Nat) (word : ByteArray), v16 = .int .i64 i ∧ Aside0 (i ≤ l0.length ∧ l0.length ≤ gg + i) ∧ Aside0 (Bd wr w.heap.size g w.heap.size (Bs l0 i).left (Bs l0 i).path word) ∧ Aside0 (Utf.nats word = (Bs l0 i).word) ∧ Aside0 (Fit (bytesAll (l0.take i)) (Bs l0 i).left (Bs l0 i).path) ∧
      Aside0 ((Bs l0 i).path.length = word.size + 1) ∧ Aside0 (word.size ≤ 1000000) ∧ Aside0 (((wordsN l0).take i).Pairwise (· < ·)) ∧ Aside0 (0 < i → Utf.nats word = Utf.nats (l0.getD (i - 1) ⟨#[]⟩)) ∧ Aside0 (Below w.heap.size w wr))
    case atStart =>
      refine ⟨0, ⟨#[]⟩, rfl, ⟨by omega⟩, H0, ⟨rfl⟩, ⟨⟨Nat.le_refl 1, fun s hs => ?_⟩⟩, ⟨rfl⟩, ⟨by decide⟩, ⟨by simp⟩, ⟨fun h => absurd h (by omega)⟩, HBw⟩
      have : s = (false, []) := by simpa [Bs_zero, Daw.start] using hs
      subst this
      exact ⟨fun e he => by simp at he, Nat.le_refl 1⟩
    case round =>
      clear H0 HBw
      obtain ⟨i, word, rfl, hi, H, hwd, hfit, hpl, hws, hris, hprev, hbw⟩ := hrel
      have hcn := Kd.C_below HC.out hbw.out
      by_cases hc : i < l0.length
      · have hcb : decide ((i : Int) < (l0.length : Int)) = true := decide_eq_true (by omega)
        have q0 : (0 : Int) ≤ (i : Int) := by omega
        have q1 : (i : Int) < (l0.length : Int) := by omega
        obtain ⟨ad, ead, hx0⟩ := Kd.at_string hcn (i : Int) q0 q1
        cases ead
        rw [Int.toNat_natCast] at hx0
        have hrd : rdOf ByteArray.empty l0 (i : Int) = l0[i] := by
          unfold rdOf
          rw [Int.toNat_natCast, List.getD_eq_getElem?_getD, List.getElem?_eq_getElem hc]; rfl
        rw [hrd] at hx0
        obtain ⟨new, hnew⟩ : ∃ new, new = l0[i] := ⟨_, rfl⟩
        rw [← hnew] at hx0
        have HNW := Aside0.mk hnew
        clear hnew hrd hcn
        have HNS : Aside0 (bytesAll (l0.take (i + 1)) = bytesAll (l0.take i) + new.size + 1) := ⟨by rw [bytesAll_take l0 i hc, HNW.out]⟩
        have HBB : Aside0 (bytesAll (l0.take i) + new.size + 1 ≤ 1000000) := ⟨by have h1 := HNS.out; have h2 := bytesAll_le l0 (i + 1); have h3 := HB.out; omega⟩
        by_cases h0 : (0 : Int) < (i : Int)
        · have hb2 : decide ((0 : Int) < (i : Int)) = true := decide_eq_true h0
          have hcn := Kd.C_below HC.out hbw.out
          have hwi : wrap64 ((i : Int) - 1) = ((i - 1 : Nat) : Int) := by unfold wrap64; omega
          obtain ⟨ad2, ead, hx1⟩ := Kd.at_string hcn ((i - 1 : Nat) : Int) (by omega) (by omega)
          cases ead
          rw [Int.toNat_natCast] at hx1
          have q2 : (0 : Int) ≤ ((i - 1 : Nat) : Int) := by omega
          have q3 : ((i - 1 : Nat) : Int) < (l0.length : Int) := by omega
          clear hcn
          obtain ⟨prev, hpr⟩ : ∃ prev, prev = rdOf ByteArray.empty l0 ((i - 1 : Nat) : Int) := ⟨_, rfl⟩
          rw [← hpr] at hx1
          have HPR : Aside0 (Utf.nats (l0.getD (i - 1) ⟨#[]⟩) = Utf.nats prev) := ⟨by rw [hpr]; unfold rdOf; rw [Int.toNat_natCast]; rfl⟩
          clear hpr
          have hbo := run_leq_str Try.prog 9 new prev
          by_cases hlt : Utf.nats prev < Utf.nats new
          · have hb3 : (!decide (Utf.nats prev < Utf.nats new)) = false := by simp [hlt]
            have HLT := Aside0.mk hlt
            clear hlt
            rw [hb3] at hbo
            have HRISE : Aside0 (0 < i → Utf.nats (l0.getD (i - 1) ⟨#[]⟩) < Utf.nats l0[i]) := ⟨fun _ => by rw [HPR.out, ← HNW.out]; exact HLT.out⟩
            go_wp2_with (first | (go_at_call 59; (with_reducible refine ((add_k w.heap.size g w.heap.size (bytesAll (l0.take i)) (Bs l0 i).left (Bs l0 i).path word new wr H.out hfit.out HBB.out hbw.out.size HGB.out (Nat.le_refl _) hpl.out hws.out)).mono ?_)))
            (first | rintro e w2 rfl hq | rintro e w2 ⟨rfl, hq⟩)
            obtain ⟨k1, k2, k3, k4⟩ := hq (Bs l0 (i + 1)) (by rw [Bs_next l0 i hc, hwd.out, HNW.out])
            rw [← HNS.out] at k2
            have K1 := Aside0.mk k1; have K2 := Aside0.mk k2; have K3 := Aside0.mk k3; have K4 := Aside0.mk (hbw.out.trans (k4.mono (Nat.le_refl _)))
            have HRN := Aside0.mk (rise_next l0 i hc hris.out HRISE.out)
            clear hq k1 k2 k3 k4 hris H hfit hpl
            go_wp2
            go_roundg (l0.length - (i + 1))
            case measure => have := hi.out; omega
            case rel =>
              refine ⟨i + 1, new, congrArg (Value.int .i64) (by omega), ⟨by have := hi.out; omega⟩, K1, ⟨by rw [Bs_word l0 i hc, HNW.out]⟩, K2, K3, ⟨?_⟩, HRN, ⟨fun _ => ?_⟩, K4⟩
              · have h1 := size_bytesAll l0 i hc; have h2 := HB.out; rw [HNW.out]; omega
              · rw [HNW.out, Nat.add_sub_cancel, List.getD_eq_getElem?_getD, List.getElem?_eq_getElem hc]; rfl
          · have hb3 : (!decide (Utf.nats prev < Utf.nats new)) = true := by simp [hlt]
            have HLT := Aside0.mk hlt
            clear hlt
            rw [hb3] at hbo
            go_wp2
            go_ret2
            have hr := HR.out
            unfold buildR at hr
            rw [if_neg HE.out, if_neg (rise_not l0 i hc (by omega) (by rw [HPR.out, ← HNW.out]; exact HLT.out))] at hr
            injection hr with h1 h2
            subst h1; subst h2
            exact ⟨_, rfl, Kd.S_nil _ _ _ _ _, hbw.out⟩
        · have hb2 : decide ((0 : Int) < (i : Int)) = false := decide_eq_false h0
          have HRISE : Aside0 (0 < i → Utf.nats (l0.getD (i - 1) ⟨#[]⟩) < Utf.nats l0[i]) := ⟨fun h => absurd h (by omega)⟩
          go_wp2_with (first | (go_at_call 59; (with_reducible refine ((add_k w.heap.size g w.heap.size (bytesAll (l0.take i)) (Bs l0 i).left (Bs l0 i).path word new wr H.out hfit.out HBB.out hbw.out.size HGB.out (Nat.le_refl _) hpl.out hws.out)).mono ?_)))
          (first | rintro e w2 rfl hq | rintro e w2 ⟨rfl, hq⟩)
          obtain ⟨k1, k2, k3, k4⟩ := hq (Bs l0 (i + 1)) (by rw [Bs_next l0 i hc, hwd.out, HNW.out])
          rw [← HNS.out] at k2
          have K1 := Aside0.mk k1; have K2 := Aside0.mk k2; have K3 := Aside0.mk k3; have K4 := Aside0.mk (hbw.out.trans (k4.mono (Nat.le_refl _)))
          have HRN := Aside0.mk (rise_next l0 i hc hris.out HRISE.out)
          clear hq k1 k2 k3 k4 hris H hfit hpl
          go_wp2
          go_roundg (l0.length - (i + 1))
          case measure => have := hi.out; omega
          case rel =>
            refine ⟨i + 1, new, congrArg (Value.int .i64) (by omega), ⟨by have := hi.out; omega⟩, K1, ⟨by rw [Bs_word l0 i hc, HNW.out]⟩, K2, K3, ⟨?_⟩, HRN, ⟨fun _ => ?_⟩, K4⟩
            · have h1 := size_bytesAll l0 i hc; have h2 := HB.out; rw [HNW.out]; omega
            · rw [HNW.out, Nat.add_sub_cancel, List.getD_eq_getElem?_getD, List.getElem?_eq_getElem hc]; rfl
      · have hcb : decide ((i : Int) < (l0.length : Int)) = false := decide_eq_false (by omega)
        have hil : i = l0.length := by have := hi.out; omega
        subst hil
        have htk : (wordsN l0).take l0.length = wordsN l0 := by unfold wordsN; rw [List.take_of_length_le (by rw [List.length_map]; exact Nat.le_refl _)]
        have hbk : l0.take l0.length = l0 := List.take_length
        have hrs := hris.out
        have hft := hfit.out
        rw [htk] at hrs
        rw [hbk] at hft
        have hlv := leave_k w.heap.size g w.heap.size (bytesAll l0) 0 (Bs l0 l0.length).left (Bs l0 l0.length).path word wr H.out hft HB.out hbw.out.size HGB.out (Nat.le_refl _) (by decide) (Nat.le_of_eq hpl.out) hws.out
        rw [show ((0 : Nat) : Int) = 0 from rfl] at hlv
        obtain ⟨lt, pt, hX⟩ : ∃ lt pt, leave (Utf.nats word) 0 (Bs l0 l0.length).left (Bs l0 l0.length).path = (lt, pt) := ⟨_, _, rfl⟩
        have hpt := leave_len (Utf.nats word) 0 _ (Bs l0 l0.length).left (Bs l0 l0.length).path rfl
        rw [hX] at hlv hpt
        rw [hpl.out] at hpt
        obtain ⟨s, rfl⟩ : ∃ s, pt = [s] := by
          match pt, hpt with
          | [], h => simp only [List.length_nil] at h; omega
          | [s], _ => exact ⟨s, rfl⟩
          | _ :: _ :: _, h => simp only [List.length_cons] at h; omega
        have hbd : build (wordsN l0) = (num lt s).1 := by
          unfold build finish
          have e : (wordsN l0).foldl add Daw.start = Bs l0 l0.length := by unfold Bs; rw [htk]
          rw [e, ← hwd.out, hX]
        have hres : r1 = (num lt s).1.map toS ∧ r2 = 0 := by
          have hr := HR.out
          unfold buildR at hr
          rw [if_neg HE.out, if_pos hrs, hbd] at hr
          injection hr with h1 h2
          exact ⟨h1.symm, h2.symm⟩
        obtain ⟨rfl, rfl⟩ := hres
        have HLV := Aside0.mk hlv
        clear hlv hX hpt hbd hrs hft htk hbk HR H hfit hpl hris hprev hwd
        go_wp2_with (first | (go_at_call 60; (with_reducible refine (HLV.out).mono ?_)))
        (first | rintro e w2 rfl hb2 hf2 hw2 | rintro e w2 ⟨rfl, hb2, hf2, hw2⟩)
        obtain ⟨vL, vP, okL, okP, m, D, hg, hm, hml, hD, hL, hP, hLP⟩ := hb2
        obtain ⟨gP, cP, hvP, hgPb, hgPl, cellsP, hgPc⟩ := Kd.S_form hP (by simp)
        subst hvP
        have hx0 : (0 : Int) ≤ 0 := by decide
        obtain ⟨oki, cs, hcl, hcM, hce, hfr, hoki, hH⟩ := Kd.S_elem hP ⟨false, []⟩ (0 : Int) hx0 (Int.zero_lt_one)
        obtain ⟨vE, rfl, hE⟩ := k82_openM hcM
        have hz0 : w2.cell? ⟨gP, 0, none⟩ = some (.bool s.1) := hce 0 _ rfl
        have hz1 : w2.cell? ⟨gP, 1, none⟩ = some vE := hce 1 _ rfl
        have e2 : w2.cell? ⟨g, 2, none⟩ = some (.slice (some ⟨gP, 0, none⟩) 1 cP) := (blk_cell hg 2).trans rfl
        have hsF := hf2.2 s (by simp)
        have hsl : s.2.length ≤ 1000000 := by have h1 := hsF.2; have h2 := HB.out; omega
        have hll : lt.length ≤ 1000000 := by have h1 := hf2.1; have h2 := HB.out; omega
        have HNK := Aside0.mk (number_k w.heap.size g w.heap.size m lt s vL _ vE word D okL oki w2 hg hm hml hD hL hE (fun k h1 h2 => hLP k h1 (hoki k h2).1) (Nat.le_trans hbw.out.size hw2.size) HGB.out (Nat.le_refl _) hsF.1 hsl hll)
        have HBw2 := Aside0.mk (hbw.out.trans hw2)
        clear hg hm hml hD hL hP hLP hE hcl hcM hce hfr hoki hH hf2 hw2 hgPc
        go_wp2_with (first | (go_at_call 61; (with_reducible refine (HNK.out).mono ?_)))
        (first | rintro e w3 ⟨rfl, hq⟩ | rintro e w3 rfl hq)
        obtain ⟨vL3, okL3, n3, D3, hg3, hm3, hn3, hD3, hL3, hsub3, hb3, hfr3⟩ := hq
        have HL3 := Aside0.mk hL3
        have e3 : w3.cell? ⟨g, 0, none⟩ = some vL3 := (blk_cell hg3 0).trans rfl
        have HB3 := Aside0.mk (HBw2.out.trans hb3)
        clear hg3 hm3 hn3 hD3 hL3 hsub3 hb3 hfr3
        obtain ⟨A3, M3, c3, hv3⟩ : ∃ A3 M3 c3, vL3 = .slice A3 M3 c3 := by obtain ⟨A3, c3, h⟩ := Kd.S_slice HL3.out; exact ⟨_, _, _, h⟩
        subst hv3
        go_wp2
        go_ret2
        exact ⟨_, rfl, Kd.S_mono HL3.out (fun _ _ => trivial), HB3.out⟩
end Go.Proofs.Ytgebhidpkcjpmaa.K

