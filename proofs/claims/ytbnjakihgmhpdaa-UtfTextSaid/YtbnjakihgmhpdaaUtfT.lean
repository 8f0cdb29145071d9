/- Bytes of strings, and what the decoder tells of written runes. -/
import Derived.Laws.Cover4
import Derived.Laws.IdiomStrings
import Derived.Test.YtbnjakihgmhpdaaProg
import Derived.Below
import Derived.Deep.Draws
import Derived.Deep.AppendLies
import Derived.Maps.AppendAt
import Derived.OwnWalk
import Derived.Laws.BytesArg
import Derived.Laws.MakeOwn
import Derived.Laws.OwnMore
import Derived.Deep.OwnRows
import Derived.Tactics
import Derived.Lib.ConvBytes
import Derived.Laws.Slices
import Derived.WalkKit
import Derived.KernelRfl
import Derived.RowKit3
import Derived.Deep.LoopGhost
import Derived.Deep.QuietTactic
import Derived.BigQuiet
import Derived.WideLaws
import Derived.Deep.DeepCutAuto
import Derived.Deep.CutBlock
import Derived.Deep.RegionHeld3
import Derived.Laws.Rows
import Derived.Lib.AppendStr
import Derived.ArgAppend
import Derived.Laws.IdiomCopy
import Derived.OrdersHeld
import Derived.Laws.BitsLemmas
import Derived.RowKit
import Derived.Lib.OthersKept
import Derived.WalkSmall
import Derived.Deep.RegionLaw
import Derived.BigRegion
import Derived.Test.YtbnjakihgmhpdaaWWords
import Derived.Test.YtbnjakihgmhpdaaWLast
import Derived.Test.YtbnjakihgmhpdaaWTab
import Derived.Test.YtbnjakihgmhpdaaWFour
import Derived.Test.YtbnjakihgmhpdaaWQPut
import Derived.Test.YtbnjakihgmhpdaaWApart
import Derived.Test.YtbnjakihgmhpdaaWArr
import Derived.Test.YtbnjakihgmhpdaaWZeros
import Derived.Test.YtbnjakihgmhpdaaWFoot
import Derived.Test.YtbnjakihgmhpdaaWKept
import Derived.Test.YtbnjakihgmhpdaaWShare
import Derived.Test.YtbnjakihgmhpdaaWN
import Derived.Test.YtbnjakihgmhpdaaWFootNe
import Derived.Test.YtbnjakihgmhpdaaWAt
import Derived.Test.YtbnjakihgmhpdaaWEqStruct
import Derived.Test.YtbnjakihgmhpdaaWRepsOne
import Derived.Test.YtbnjakihgmhpdaaWInv
import Derived.Test.YtbnjakihgmhpdaaWInvWords
import Derived.Test.YtbnjakihgmhpdaaWGuard
import Derived.Test.YtbnjakihgmhpdaaWNEv
import Derived.Test.YtbnjakihgmhpdaaWMore
import Derived.Test.YtbnjakihgmhpdaaInfo
import Derived.Test.YtbnjakihgmhpdaaUtf
import Derived.Test.YtbnjakihgmhpdaaHelp
import Derived.Test.YtbnjakihgmhpdaaHelp2
import Derived.Test.YtbnjakihgmhpdaaUtfK
import Derived.Test.YtbnjakihgmhpdaaRef04K
import Derived.Test.YtbnjakihgmhpdaaUtfL
import Derived.Test.YtbnjakihgmhpdaaUtfE
namespace Go.Proofs.Ytbnjakihgmhpdaa.K
open Go.RowKit Go.Proofs.YtbnjakihgmhpdaaW.PrintWords Go.Proofs.YtbnjakihgmhpdaaW.PrintLast Go.Proofs.YtbnjakihgmhpdaaW.PrintMore Go.Proofs.Ytbnjakihgmhpdaa
attribute [local go_sem] max2_int min2_int max_two min_two max_three min_three max_four min_four
set_option linter.unusedVariables false
set_option linter.unusedSimpArgs false
def bytesZ (s : ByteArray) : List Int := s.data.toList.map fun b => (b.toNat : Int)
theorem bytesZ_length (s : ByteArray) : (bytesZ s).length = s.size := by simp [bytesZ]
theorem str_bytesZ (s : ByteArray) : strOfNums (bytesZ s) = s := by
  unfold strOfNums bytesZ
  rw [List.map_map]
  apply ByteArray.ext
  show (List.map _ s.data.toList).toArray = s.data
  have : (List.map ((fun n : Int => UInt8.ofNat n.toNat) ∘ fun b : UInt8 => (b.toNat : Int)) s.data.toList) = s.data.toList := by
    conv => rhs; rw [← List.map_id s.data.toList]
    exact List.map_congr_left fun b _ => by simp
  rw [this]
theorem conv_bytes {P : Program} {src dst e : TypeId} (hs : P.underlying src = some .string) (hd : P.underlying dst = some (.slice e)) (he : P.underlying e = some (.int .u8)) {b : Nat} {w0 w : World} (HB : Below b w0 w) (hb : b ≤ w.heap.size)
    (s : ByteArray) (hsz : s.size ≤ 9223372036854775807) :
    ∃ A c W, (convert src dst (.string s)).run P w = .ok (.slice A (bytesZ s).length c) W ∧ (bytesZ s).length ≤ c ∧ Kd.C (Kd.int .u8) W A (bytesZ s).length (bytesZ s) ∧ Below b w0 W := by
  have hr := run_bytes_of_string (P := P) w src dst e s hs hd he
  have hc := grownCap_ge w s.size 0 e
  generalize grownCap w s.size 0 e = cap at hr hc
  rw [← bytesZ_length s] at hr hc
  refine ⟨_, cap, _, hr, hc, Kd.C_of_reads (d := (0 : Int)) (h1 := fun _ => rfl) ⟨rfl, by rw [bytesZ_length]; exact hsz, fun _ => ⟨_, rfl, fun j hj => ?_⟩⟩, (below_drew HB).alloc hb _⟩
  rw [bytesZ_length] at hj
  have h1 : (w.drew.alloc (.cells (bytesRow s cap) e ((bytesRow s cap).size, (bytesRow s cap).size + 1))).heap[w.heap.size]? = some (.cells (bytesRow s cap) e ((bytesRow s cap).size, (bytesRow s cap).size + 1)) := heap_alloc_new w.drew _
  have ha : (⟨w.heap.size, 0, none⟩ : Addr).add j = ⟨w.heap.size, j, none⟩ := by unfold Addr.add; split <;> simp_all
  rw [ha, cell_of_row _ _ j _ _ _ h1, bytesRow_at s cap j hj]
  congr 2
  simp [bytesZ, List.getD_eq_getElem?_getD, List.getElem?_eq_getElem (show j < s.data.toList.length by simpa using hj)]
theorem pend_code (c : Nat) (h : Utf.okR c) (t : List Nat) : Utf.pend (Utf.code c ++ t) = false := by
  have hb : c ≤ 0x10FFFF := by unfold Utf.okR at h; omega
  unfold Utf.code
  by_cases h1 : c < 128
  · rw [if_pos h1]
    match t with
    | [] => simp [Utf.pend]; omega
    | [b] => simp [Utf.pend]; omega
    | [b, d] => simp [Utf.pend]; omega
    | b :: d :: e :: t => rfl
  rw [if_neg h1]
  by_cases h2 : c < 2048
  · rw [if_pos h2]
    match t with
    | [] => simp [Utf.pend]; omega
    | [b] => simp [Utf.pend]; omega
    | b :: d :: t => rfl
  rw [if_neg h2]
  by_cases h3 : c < 65536
  · rw [if_pos h3]
    match t with
    | [] => simp [Utf.pend]; omega
    | b :: t => rfl
  rw [if_neg h3]; rfl
theorem feed_bytes (l : List Int) : Utf.feed (Utf.nats (runesBytes l)) = ((l.map Utf.sane).map Int.toNat, []) := by
  induction l with
  | nil => rw [Utf.runesBytes_nil]; simp [Utf.nats, Utf.feed_nil]
  | cons x l ih =>
    have hx := Utf.sane_ok x
    rw [Utf.runesBytes_cons, Utf.nats_append', Utf.nats_encode, Utf.feed_step _ (by simp [Utf.code_ne]) (pend_code _ hx.2 _), Utf.dec_code _ hx.2]
    simp [ih]
theorem feedZ_bytes (l : List Int) : utf_Feed.r (bytesZ (runesBytes l)) = (l.map Utf.sane, []) := by
  unfold utf_Feed.r Utf.fedFrom
  rw [str_bytesZ, List.drop_zero, feed_bytes]
  simp only [List.length_nil, Nat.sub_zero, List.drop_length, Prod.mk.injEq, and_true]
  rw [List.map_map, List.map_map]
  apply List.map_congr_left
  intro x _
  have := (Utf.sane_ok x).1
  simp; omega
theorem bytes_sane (l : List Int) : runesBytes (l.map Utf.sane) = runesBytes l := by
  induction l with
  | nil => rfl
  | cons x l ih =>
    rw [List.map_cons, Utf.runesBytes_cons, Utf.runesBytes_cons, ih]
    congr 1
    apply ByteArray.ext
    apply Array.ext'
    have h := Utf.nats_encode (Utf.sane x)
    rw [Utf.sane_sane, ← Utf.nats_encode x] at h
    exact List.map_inj_right (fun a b h => UInt8.toNat_inj.1 h) |>.1 h
end Go.Proofs.Ytbnjakihgmhpdaa.K
