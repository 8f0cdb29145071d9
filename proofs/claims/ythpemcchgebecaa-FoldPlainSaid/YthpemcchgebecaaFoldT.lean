/- fold.Text: a strings.Builder fed rune by rune; what it hands back is the folded runes' bytes. -/
import Derived.Test.YthpemcchgebecaaProg
import Derived.Below
import Derived.Deep.Draws
import Derived.Deep.AppendLies
import Derived.Maps.AppendAt
import Derived.OwnWalk
import Derived.Laws.BytesArg
import Derived.Laws.MakeOwn
import Derived.Laws.OwnMore
import Derived.Deep.OwnRows
import Derived.Tactics
import Derived.Lib.ConvBytes
import Derived.Laws.Slices
import Derived.WalkKit
import Derived.KernelRfl
import Derived.RowKit3
import Derived.Deep.LoopGhost
import Derived.Deep.QuietTactic
import Derived.BigQuiet
import Derived.WideLaws
import Derived.Deep.DeepCutAuto
import Derived.Deep.CutBlock
import Derived.Deep.RegionHeld3
import Derived.Laws.Rows
import Derived.Lib.AppendStr
import Derived.ArgAppend
import Derived.Laws.IdiomCopy
import Derived.OrdersHeld
import Derived.Laws.BitsLemmas
import Derived.RowKit
import Derived.Lib.OthersKept
import Derived.WalkSmall
import Derived.Deep.RegionLaw
import Derived.BigRegion
import Derived.Test.YthpemcchgebecaaWWords
import Derived.Test.YthpemcchgebecaaWLast
import Derived.Test.YthpemcchgebecaaWTab
import Derived.Test.YthpemcchgebecaaWFour
import Derived.Test.YthpemcchgebecaaWQPut
import Derived.Test.YthpemcchgebecaaWApart
import Derived.Test.YthpemcchgebecaaWArr
import Derived.Test.YthpemcchgebecaaWZeros
import Derived.Test.YthpemcchgebecaaWFoot
import Derived.Test.YthpemcchgebecaaWKept
import Derived.Test.YthpemcchgebecaaWShare
import Derived.Test.YthpemcchgebecaaWN
import Derived.Test.YthpemcchgebecaaWFootNe
import Derived.Test.YthpemcchgebecaaWAt
import Derived.Test.YthpemcchgebecaaWEqStruct
import Derived.Test.YthpemcchgebecaaWRepsOne
import Derived.Test.YthpemcchgebecaaWInv
import Derived.Test.YthpemcchgebecaaWInvWords
import Derived.Test.YthpemcchgebecaaWGuard
import Derived.Test.YthpemcchgebecaaWNEv
import Derived.Test.YthpemcchgebecaaWMore
import Derived.Test.YthpemcchgebecaaInfo
import Derived.Test.YthpemcchgebecaaUtf
import Derived.Test.YthpemcchgebecaaHelp
import Derived.Test.YthpemcchgebecaaHelp2
import Derived.Test.YthpemcchgebecaaUtfE
import Derived.Test.YthpemcchgebecaaPFoldx
import Derived.Test.YthpemcchgebecaaFoldK
import Derived.Test.YthpemcchgebecaaFoldP
import Derived.Test.YthpemcchgebecaaFoldB
namespace Go.Proofs.Ythpemcchgebecaa.K
open Go.RowKit Go.Proofs.YthpemcchgebecaaW.PrintWords Go.Proofs.YthpemcchgebecaaW.PrintLast Go.Proofs.YthpemcchgebecaaW.PrintMore Go.Proofs.Ythpemcchgebecaa
attribute [local go_sem] max2_int min2_int max_two min_two max_three min_three max_four min_four
set_option linter.unusedVariables false
set_option linter.unusedSimpArgs false
open Go.Proofs.Ythpemcchgebecaa.PFold
theorem cons2 {α : Type} {a b : α} {s t : List α} (h : a = b) (k : s = t) : a :: s = b :: t := by rw [h, k]
theorem encode_bytes (r : Int) : Lib.encodeRune r = (Utf8.encode r).data.toList := by
  unfold Lib.encodeRune Lib.encodeRuneZ Utf8.encode
  by_cases v : Utf8.valid r = true
  · have hv := (Utf.valid_iff r).1 v
    obtain ⟨n, rfl⟩ := Int.eq_ofNat_of_zero_le hv.1
    have hv := hv.2
    unfold Utf.okR at hv
    have e : ∀ a b : Nat, a = b → a.toUInt8 = b.toUInt8 := fun _ _ h => by rw [h]
    simp only [v, if_true, Int.toNat_natCast]
    simp only [Int.ofNat_eq_natCast, Int.toNat_natCast] at hv
    by_cases h1 : n < 128
    · rw [if_pos (by omega), if_pos h1]; simp
    rw [if_neg (by omega), if_neg h1]
    by_cases h2 : n < 2048
    · rw [if_pos (by omega), if_pos h2]
      simp only [List.map_cons, List.map_nil]
      exact cons2 (e _ _ (by omega)) (cons2 (e _ _ (by omega)) rfl)
    rw [if_neg (by omega), if_neg h2]
    by_cases h3 : n < 65536
    · rw [if_pos (by omega), if_pos h3]
      simp only [List.map_cons, List.map_nil]
      exact cons2 (e _ _ (by omega)) (cons2 (e _ _ (by omega)) (cons2 (e _ _ (by omega)) rfl))
    rw [if_neg (by omega), if_pos (by omega), if_neg h3]
    simp only [List.map_cons, List.map_nil]
    exact cons2 (e _ _ (by omega)) (cons2 (e _ _ (by omega)) (cons2 (e _ _ (by omega)) (cons2 (e _ _ (by omega)) rfl)))
  · have v' : ¬ (0 ≤ r ∧ Utf.okR r.toNat) := fun h => v ((Utf.valid_iff r).2 h)
    unfold Utf.okR at v'
    rw [if_neg (by omega), if_neg (by omega), if_neg (by omega), if_neg (by omega)]
    simp only [v, Bool.false_eq_true, if_false, Utf8.runeError]
    rfl
theorem bytes_flat (l : List Int) : (⟨(l.flatMap Lib.encodeRune).toArray⟩ : ByteArray) = runesBytes l := by
  induction l with
  | nil => rfl
  | cons x l ih =>
    rw [Utf.runesBytes_cons, ← ih, List.flatMap_cons, encode_bytes]
    apply ByteArray.ext
    simp [ByteArray.data_append]
theorem builderAt_below {T e : TypeId} {B b : Nat} {p : Value} {bs : List Value} {W W' : World} (h : Lib.BuilderAtF T e B b p bs W) (hb : Below W.heap.size W W') : Lib.BuilderAtF T e B b p bs W' := by
  have hlt := h.lt
  obtain ⟨hB, v, hbk, hown, hne⟩ := h
  refine ⟨hB, v, (hb.block b hlt).trans hbk, hown.kept (row := none) ⟨hb.os, hb.tape, hb.output, hb.size, fun k hk _ => hb.block k hk⟩ ?_, hne⟩
  cases hv : v.ownBlock <;> simp
theorem builder_below {T e : TypeId} {B b : Nat} {bs : List Value} {W W' : World} (h : Lib.IsBuilderF T e B b bs W) (hb : Below W.heap.size W W') : Lib.IsBuilderF T e B b bs W' :=
  h.elim (fun x => .inl (builderAt_below x hb)) (fun x => .inr (builderAt_below x hb))
def fold_Text.f (a0 : ByteArray) : Option ByteArray := if a0.size ≤ 35184372088832 then some (runesBytes ((Utf.runesZ a0).map foldZ)) else none
theorem rune_range (s : ByteArray) (pos c wd : Nat) (h : Utf8.decode s pos = (c, wd)) (hp : pos < s.size) : c ≤ 0x10FFFF := by
  have := Utf.decode_dec s pos hp
  rw [h] at this
  have h2 := Utf.dec_ok ((Utf.nats s).drop pos)
  rw [← this] at h2
  unfold Utf.okR at h2
  simp only at h2
  omega
theorem encode_len (r : Int) : (Lib.encodeRune r).length ≤ 4 := by
  have := Lib.runeCells_le r
  rw [Lib.runeCells_length] at this
  omega
set_option maxHeartbeats 4000000 in
set_option maxRecDepth 1000000 in
theorem fold_Text.calls (a0 : ByteArray) (r : ByteArray) (w : World) (h : fold_Text.f a0 = some r) :
    Calls Try.prog 18 #[.string a0] w fun e w' => e = .returned (.string r) ∧ Below w.heap.size w w' := by
  have hs : a0.size ≤ 35184372088832 := by
    unfold fold_Text.f at h; split at h
    · assumption
    · cases h
  have hr : runesBytes ((Utf.runesZ a0).map foldZ) = r := by
    unfold fold_Text.f at h; rw [if_pos hs] at h; exact Option.some.inj h
  clear h
  have HR := Aside0.mk hr; clear hr
  have HS := Aside0.mk hs; clear hs
  go_enter Try.func18, Try.ntmps18
  go_wp2
  go_loopw [] (fun wr => ∃ (pos : Nat) (acc : List Int), Aside0 (Lib.IsBuilderF 51 5 w.heap.size w.heap.size (Lib.byteCells (acc.flatMap Lib.encodeRune)) wr) ∧ Aside0 (wr.heap[w.heap.size + 1]? = some (.stringIter a0 pos)) ∧ Aside0 (Below w.heap.size w wr) ∧ Aside0 (acc ++ (Utf.runesFrom a0 pos).map foldZ = (Utf.runesZ a0).map foldZ) ∧ Aside0 ((acc.flatMap Lib.encodeRune).length ≤ 4 * pos)) (fun wr => a0.size - wr.iterPos (w.heap.size + 1))
  case atStart =>
    refine ⟨0, [], ⟨(Lib.IsBuilderF.of (Lib.fresh_isBuilder 51 5 w)).alloc _⟩, ⟨?_⟩, ⟨((Below.refl _ w).alloc (Nat.le_refl _) _).alloc (by simp) _⟩, ⟨by rfl⟩, ⟨by simp⟩⟩
    have := World.iter_heap (w.alloc (.cells #[.pointer none, .slice none 0 0] 51)) a0 0
    simpa using this
  case round =>
    obtain ⟨pos, acc, hI, hit, hbw, hacc, hal⟩ := hrel
    have hsz : w.heap.size + 1 < wr.heap.size := (Array.getElem?_eq_some_iff.1 hit.out).1
    by_cases hp : pos < a0.size
    · obtain ⟨c, wd, hdec, hrest, hwd, hle⟩ := Utf.step a0 pos hp
      have hcr := rune_range a0 pos c wd hdec hp
      have hnx0 : ∀ ty, (Instr.next (.pointer (some ⟨w.heap.size + 1, 0, none⟩)) true ty).run Try.prog wr = _ := fun ty => Lib.run_next_any_at wr (w.heap.size + 1) a0 pos ty hit.out hp
      rw [hdec] at hnx0
      have hit2 := Aside0.mk (Lib.iterAt_heap wr (w.heap.size + 1) a0 pos (pos + wd) hit.out)
      have hI2 := Aside0.mk (hI.out.iterAt hit.out (pos + wd))
      have hbw2 := Aside0.mk (Lib.below_iterAt hbw.out (k := w.heap.size + 1) (by omega) a0 (pos + wd))
      have hs2 : (wr.iterAt (w.heap.size + 1) a0 (pos + wd)).heap.size = wr.heap.size := Lib.iterAt_size ..
      obtain ⟨W2, hW2⟩ : ∃ W2, W2 = wr.iterAt (w.heap.size + 1) a0 (pos + wd) := ⟨_, rfl⟩
      rw [← hW2] at hnx0 hit2 hbw2 hI2 hs2
      have hnx : ∀ ty, (Instr.next (.pointer (some ⟨w.heap.size + 1, 0, none⟩)) true ty).run Try.prog wr = .ok (.tuple #[.bool true, .int .i64 pos, .int .i32 (c : Int)]) W2 := hnx0
      have hsz2 : w.heap.size ≤ W2.heap.size := by omega
      have hf := fold_Fold_eq 20 (by decide) (c : Int)
      have hrg := fold_range (c : Int) (by omega) (by omega)
      have HRE := Aside0.mk hrest; clear hrest
      have HP := Aside0.mk hp; clear hp
      have HDC := Aside0.mk hcr; clear hcr
      obtain ⟨y, hy⟩ : ∃ y, y = foldZ (c : Int) := ⟨_, rfl⟩
      rw [← hy] at hf hrg
      have HY := Aside0.mk hy; clear hy
      have hrg1 : -2147483648 ≤ y := by omega
      have hrg2 : y ≤ 2147483647 := by omega
      have hel := encode_len y
      have hlen : (Lib.byteCells (acc.flatMap Lib.encodeRune)).length + 4 ≤ 140737488355328 := by
        rw [Lib.byteCells_length]; have := hal.out; have := HS.out; omega
      have HL := Aside0.mk hlen; have HE := Aside0.mk hel; have HR1 := Aside0.mk hrg1; have HR2 := Aside0.mk hrg2; have HLE := Aside0.mk hle; have HW := Aside0.mk hsz2; have HWD := Aside0.mk hwd
      clear hnx0 hdec hW2 hs2 hrg hlen hel hrg1 hrg2 hle hsz2 hwd
      go_wp2_with (first | (go_at_call 16; (with_reducible refine (fold_Fold.calls 20 (c : Int) y _ hf).mono ?_); rintro e W3 ⟨rfl, hb3⟩; have hI3 := Aside0.mk (builder_below hI2.out hb3); have hit3 := Aside0.mk ((hb3.block _ (Array.getElem?_eq_some_iff.1 hit2.out).1).trans hit2.out); have hbw3 := Aside0.mk (below_step hbw2.out hb3); have HW3 := Aside0.mk (Nat.le_trans HW.out hb3.size); clear hb3) | (go_at_call 29; (with_reducible refine (writeRune_k w.heap.size w.heap.size _ y HR1.out HR2.out _ hI3.out HL.out HW3.out).mono ?_); rintro e W4 ⟨rfl, h1, b1, k1⟩; have h4 := Aside0.mk h1; have hb4 := Aside0.mk (hbw3.out.trans b1); have hit4 := Aside0.mk (k1.iter hit3.out (by omega)); clear h1 b1 k1))
      go_roundw
      case rel =>
        refine ⟨pos + wd, acc ++ [y], ⟨?_⟩, hit4, hb4, ⟨?_⟩, ⟨?_⟩⟩
        · rw [List.flatMap_append, Lib.byteCells_append]
          rw [show [y].flatMap Lib.encodeRune = Lib.encodeRune y by simp, Lib.byteCells_encodeRune]
          exact Or.inr h4.out
        · rw [← hacc.out, HRE.out, HY.out]; simp
        · have := hal.out; have := HE.out; have := HWD.out
          rw [List.flatMap_append, List.length_append, show [y].flatMap Lib.encodeRune = Lib.encodeRune y by simp]; omega
      case measure =>
        rw [iterPos_of hit4.out, iterPos_of hit.out]
        have := HP.out; have := HWD.out; have := HLE.out
        omega
    · have hnx : ∀ ty, (Instr.next (.pointer (some ⟨w.heap.size + 1, 0, none⟩)) true ty).run Try.prog wr = _ := fun ty => Lib.run_next_end_at wr (w.heap.size + 1) a0 pos ty hit.out hp
      have hend := Utf.runesFrom_end a0 pos hp
      have HE := Aside0.mk hend; clear hend
      have hsz3 : w.heap.size ≤ wr.heap.size := by omega
      go_wp2_with (go_at_call 30; (with_reducible refine (string_k w.heap.size w.heap.size (acc.flatMap Lib.encodeRune) _ hI.out hsz3).mono ?_))
      rintro e W1 ⟨rfl, _, b1, _⟩
      go_wp2
      go_ret
      have e1 := hacc.out
      rw [HE.out, List.map_nil, List.append_nil] at e1
      have e2 : (⟨(acc.flatMap Lib.encodeRune).toArray⟩ : ByteArray) = r := by rw [bytes_flat, e1, HR.out]
      subst e2
      exact ⟨rfl, hbw.out.trans b1⟩
end Go.Proofs.Ythpemcchgebecaa.K
