/- The walks of package utf: each function computes what the plain decoder says. -/
import Derived.Test.YthpemcchgebecaaProg
import Derived.Below
import Derived.Deep.Draws
import Derived.Deep.AppendLies
import Derived.Maps.AppendAt
import Derived.OwnWalk
import Derived.Laws.BytesArg
import Derived.Laws.MakeOwn
import Derived.Laws.OwnMore
import Derived.Deep.OwnRows
import Derived.Tactics
import Derived.Lib.ConvBytes
import Derived.Laws.Slices
import Derived.WalkKit
import Derived.KernelRfl
import Derived.RowKit3
import Derived.Deep.LoopGhost
import Derived.Deep.QuietTactic
import Derived.BigQuiet
import Derived.WideLaws
import Derived.Deep.DeepCutAuto
import Derived.Deep.CutBlock
import Derived.Deep.RegionHeld3
import Derived.Laws.Rows
import Derived.Lib.AppendStr
import Derived.ArgAppend
import Derived.Laws.IdiomCopy
import Derived.OrdersHeld
import Derived.Laws.BitsLemmas
import Derived.RowKit
import Derived.Lib.OthersKept
import Derived.WalkSmall
import Derived.Deep.RegionLaw
import Derived.BigRegion
import Derived.Test.YthpemcchgebecaaWWords
import Derived.Test.YthpemcchgebecaaWLast
import Derived.Test.YthpemcchgebecaaWTab
import Derived.Test.YthpemcchgebecaaWFour
import Derived.Test.YthpemcchgebecaaWQPut
import Derived.Test.YthpemcchgebecaaWApart
import Derived.Test.YthpemcchgebecaaWArr
import Derived.Test.YthpemcchgebecaaWZeros
import Derived.Test.YthpemcchgebecaaWFoot
import Derived.Test.YthpemcchgebecaaWKept
import Derived.Test.YthpemcchgebecaaWShare
import Derived.Test.YthpemcchgebecaaWN
import Derived.Test.YthpemcchgebecaaWFootNe
import Derived.Test.YthpemcchgebecaaWAt
import Derived.Test.YthpemcchgebecaaWEqStruct
import Derived.Test.YthpemcchgebecaaWRepsOne
import Derived.Test.YthpemcchgebecaaWInv
import Derived.Test.YthpemcchgebecaaWInvWords
import Derived.Test.YthpemcchgebecaaWGuard
import Derived.Test.YthpemcchgebecaaWNEv
import Derived.Test.YthpemcchgebecaaWMore
import Derived.Test.YthpemcchgebecaaInfo
import Derived.Test.YthpemcchgebecaaUtf
import Derived.Test.YthpemcchgebecaaHelp
namespace Go.Proofs.Ythpemcchgebecaa.K
open Go.RowKit Go.Proofs.YthpemcchgebecaaW.PrintWords Go.Proofs.YthpemcchgebecaaW.PrintLast Go.Proofs.YthpemcchgebecaaW.PrintMore Go.Proofs.Ythpemcchgebecaa
attribute [local go_sem] max2_int min2_int max_two min_two max_three min_three max_four min_four
set_option linter.unusedVariables false
set_option linter.unusedSimpArgs false
/-! ### utf.well: function 55 -/
def utf_well.f (a0 : ByteArray) : Option Bool := some (Utf.well a0)
set_option maxHeartbeats 1000000 in
set_option maxRecDepth 100000 in
theorem utf_well.calls (a0 : ByteArray) (r : Bool) (w : World) (h : utf_well.f a0 = some r) :
    Calls Try.prog 55 #[.string a0] w fun e w' => e = .returned (.bool r) ∧ Below w.heap.size w w' := by
  obtain rfl : Utf.well a0 = r := Option.some.inj h
  by_cases hp : 0 < a0.size
  · go_enter Try.func55, Try.ntmps55
    go_wp2
    go_loopw [] (fun wr => wr = w.iter a0 0) (fun _ => 0)
    case atStart => rfl
    case round =>
      subst hrel
      have hnx0 : ∀ ty, (Instr.next (.pointer (some ⟨w.heap.size, 0, none⟩)) true ty).run Try.prog (w.iter a0 0) = _ := fun ty => run_next_any w a0 0 ty hp
      have hb : Utf.well a0 = (decide (a0.size = (Utf8.encode (Utf8.decode a0 0).1).size) && (decide (1 < a0.size) && (decide ((Utf8.decode a0 0).1 ≠ 65533) || (a0.toList == [239, 191, 189])))) := by
        unfold Utf.well; rw [if_neg (by omega)]
      obtain ⟨c, hc⟩ : ∃ c, c = (Utf8.decode a0 0).1 := ⟨_, rfl⟩
      obtain ⟨p, hpp⟩ : ∃ p, p = 0 + (Utf8.decode a0 0).2 := ⟨_, rfl⟩
      rw [← hc] at hb
      rw [← hc, ← hpp] at hnx0
      have hnx : ∀ ty, (Instr.next (.pointer (some ⟨w.heap.size, 0, none⟩)) true ty).run Try.prog (w.iter a0 0) = .ok (.tuple #[.bool true, .int .i64 0, .int .i32 (c : Int)]) (w.iter a0 p) := hnx0
      clear hnx0 hc hpp
      have hbw : Below w.heap.size w (w.iter a0 p) := Below.alloc (Below.refl _ _) (Nat.le_refl _) _
      by_cases h1 : a0.size = (Utf8.encode (c : Int)).size
      · have b1 : ((a0.size : Int) == ((Utf8.encode (c : Int)).size : Int)) = true := by simp [h1]
        by_cases h2 : 1 < a0.size
        · have b2 : decide (1 < a0.size) = true := decide_eq_true h2
          have b2' : decide ((1 : Int) < (a0.size : Int)) = true := decide_eq_true (by omega)
          by_cases h3 : c = 65533
          · have b3 : ((c : Int) != 65533) = false := by simp [h3]
            cases h4 : (a0.toList == [239, 191, 189])
            all_goals
              have hB := Aside0.mk hb; clear hb
              have Hh1 := Aside0.mk h1; clear h1; have Hh3 := Aside0.mk h3; clear h3; have Hh2 := Aside0.mk h2; clear h2
              go_wp2
              go_ret
              exact ⟨by rw [hB.out, decide_eq_true Hh1.out, decide_eq_true Hh2.out, h4]; simp [Hh3.out], hbw⟩
          · have b3 : ((c : Int) != 65533) = true := by simp; omega
            have hB := Aside0.mk hb; clear hb
            have Hh1 := Aside0.mk h1; clear h1; have Hh3 := Aside0.mk h3; clear h3; have Hh2 := Aside0.mk h2; clear h2
            go_wp2
            go_ret
            exact ⟨by rw [hB.out, decide_eq_true Hh1.out, decide_eq_true Hh2.out]; simp [Hh3.out], hbw⟩
        · have b2 : decide (1 < a0.size) = false := decide_eq_false h2
          have b2' : decide ((1 : Int) < (a0.size : Int)) = false := decide_eq_false (by omega)
          have hB := Aside0.mk hb; clear hb
          have Hh1 := Aside0.mk h1; clear h1; have Hh2 := Aside0.mk h2; clear h2
          go_wp2
          go_ret
          exact ⟨by rw [hB.out, decide_eq_false Hh2.out]; simp, hbw⟩
      · have b1 : ((a0.size : Int) == ((Utf8.encode (c : Int)).size : Int)) = false := by simp; omega
        have hB := Aside0.mk hb; clear hb
        have Hh1 := Aside0.mk h1; clear h1
        go_wp2
        go_ret
        exact ⟨by rw [hB.out]; simp [Hh1.out], hbw⟩
  · go_enter Try.func55, Try.ntmps55
    go_wp2
    go_loopw [] (fun wr => wr = w.iter a0 0) (fun _ => 0)
    case atStart => rfl
    case round =>
      subst hrel
      have hnx : ∀ ty, (Instr.next (.pointer (some ⟨w.heap.size, 0, none⟩)) true ty).run Try.prog (w.iter a0 0) = _ := fun ty => run_next_end w a0 0 ty hp
      go_wp2
      go_ret
      refine ⟨by simp [Utf.well, show a0.size = 0 by omega], ?_⟩
      exact Below.alloc (Below.refl _ _) (Nat.le_refl _) _
/-! ### utf.All: function 32 -/
def utf_All.f (l0 : List Int) : Option (List Int) := if l0.length < 35184372088832 then some (Utf.runesZ (strOfNums l0)) else none
set_option maxHeartbeats 1000000 in
set_option maxRecDepth 100000 in
theorem utf_All.calls (A0 : Option Addr) (c0 : Nat) (l0 : List Int) (r : List Int) (w : World) (hr0 : Kd.C (Kd.int .u8) w A0 l0.length l0) (hc0 : l0.length ≤ c0) (h : utf_All.f l0 = some r) :
    Calls Try.prog 32 #[.slice A0 l0.length c0] w fun e w' => ∃ v0_ : Value, e = .returned (v0_) ∧ Kd.R (Kd.int .i32) 21 w' w.heap.size (fun _ => True) v0_ r ∧ Below w.heap.size w w' := by
  have hlen : l0.length < 35184372088832 := by
    unfold utf_All.f at h; split at h
    · assumption
    · cases h
  have hr : Utf.runesZ (strOfNums l0) = r := by
    unfold utf_All.f at h; rw [if_pos hlen] at h; exact Option.some.inj h
  clear h
  have hcv := Kd.C_string (P := Try.prog) (A := A0) (c := c0) Try.underlying31 Try.underlying5 Try.underlying9 hr0
  have hsz : (strOfNums l0).size < 35184372088832 := by rw [strOfNums_size]; exact hlen
  obtain ⟨s, hs⟩ : ∃ s, s = strOfNums l0 := ⟨_, rfl⟩
  rw [← hs] at hcv hr hsz
  clear hs hr0
  have HR := Aside0.mk hr; clear hr
  have HSZ := Aside0.mk hsz; clear hsz
  go_enter Try.func32, Try.ntmps32
  go_wp2
  go_loopw [3] (fun v wr => ∃ (pos : Nat) (acc : List Int), Aside0 (wr.heap[w.heap.size]? = some (.stringIter s pos)) ∧ Aside0 (Kd.R (Kd.int .i32) 21 wr w.heap.size (fun k => k ≠ w.heap.size) v acc) ∧ Aside0 (Below w.heap.size w wr) ∧ Aside0 (acc ++ Utf.runesFrom s pos = r) ∧ Aside0 (acc.length ≤ pos) ∧ Aside0 (pos ≤ s.size)) (fun _ wr => s.size - wr.iterPos w.heap.size)
  case atStart => exact ⟨0, [], ⟨World.iter_heap w s 0⟩, ⟨Kd.R_nil _ _ _ _ _⟩, ⟨Below.alloc (Below.refl _ _) (Nat.le_refl _) _⟩, ⟨by rw [← HR.out]; rfl⟩, ⟨by simp⟩, ⟨by omega⟩⟩
  case round =>
    obtain ⟨pos, acc, hit, hR, hbw, hacc, hal, hpl⟩ := hrel
    have hsz : w.heap.size < wr.heap.size := (Array.getElem?_eq_some_iff.1 hit.out).1
    by_cases hp : pos < s.size
    · obtain ⟨c, wd, hdec, hrest, hwd, hle⟩ := Utf.step s pos hp
      have hnx0 : ∀ ty, (Instr.next (.pointer (some ⟨w.heap.size, 0, none⟩)) true ty).run Try.prog wr = _ := fun ty => Lib.run_next_any_at wr w.heap.size s pos ty hit.out hp
      rw [hdec] at hnx0
      have hit2 := Aside0.mk (Lib.iterAt_heap wr w.heap.size s pos (pos + wd) hit.out)
      have hbw2 := Aside0.mk (Lib.below_iterAt hbw.out (k := w.heap.size) (Nat.le_refl _) s (pos + wd))
      have hR2 := Aside0.mk (Kd.R_step hR.out (w1 := wr.iterAt w.heap.size s (pos + wd)) (fun k hk _ => Lib.iterAt_other wr w.heap.size k s (pos + wd) hk))
      have hs2 : (wr.iterAt w.heap.size s (pos + wd)).heap.size = wr.heap.size := Lib.iterAt_size ..
      obtain ⟨W2, hW2⟩ : ∃ W2, W2 = wr.iterAt w.heap.size s (pos + wd) := ⟨_, rfl⟩
      rw [← hW2] at hnx0 hit2 hbw2 hR2 hs2
      have hnx : ∀ ty, (Instr.next (.pointer (some ⟨w.heap.size, 0, none⟩)) true ty).run Try.prog wr = .ok (.tuple #[.bool true, .int .i64 pos, .int .i32 (c : Int)]) W2 := hnx0
      have hsz2 : w.heap.size < W2.heap.size := by omega
      have HA := Aside0.mk hs2
      clear hnx0 hdec hW2 hs2
      have HRE := Aside0.mk hrest; clear hrest
      go_wp2_with (((with_reducible refine gate_builtin (b := .append) (xs := #[.tmp 12, .tmp 14]) rfl ?_); at_builtin; refine Kd.R_append (Kd.int .i32) (w0 := w) w.heap.size rfl (.tmp 12) (.tmp 14) 29 21 (.int .i32 0) 4 rfl Try.underlying29 info21 rfl (by decide) (by omega) _ acc (c : Int) [.int .i32 c] (fun k => k ≠ w.heap.size) (fun _ => False) rfl rfl rfl (fun _ hk => hk.elim) (fun k hk => by omega) hR2.out hbw2.out (hbw2.out).size (by have := hal.out; have := HSZ.out; omega) ?_))
      intro v1 w1 hR3 hb3 hg3 hat3
      have hit3 : w1.heap[w.heap.size]? = some (.stringIter s (pos + wd)) := by
        rw [hg3.block _ hsz2 (fun e => hR2.out.1 _ e.symm rfl)]; exact hit2.out
      have hR3 := Aside0.mk hR3
      have hb3 := Aside0.mk hb3
      have hit3 := Aside0.mk hit3
      clear hat3 hg3
      go_wp2
      go_roundw
      case rel => exact ⟨pos + wd, acc ++ [(c : Int)], hit3, hR3, hb3, ⟨by rw [← hacc.out, HRE.out]; simp⟩, ⟨by have := hal.out; simp; omega⟩, ⟨hle⟩⟩
      case measure =>
        rw [iterPos_of hit3.out, iterPos_of hit.out]
        omega
    · have hnx : ∀ ty, (Instr.next (.pointer (some ⟨w.heap.size, 0, none⟩)) true ty).run Try.prog wr = _ := fun ty => Lib.run_next_end_at wr w.heap.size s pos ty hit.out hp
      have hend := Utf.runesFrom_end s pos hp
      have HE := Aside0.mk hend; clear hend
      go_wp2
      go_ret
      have e : acc = r := by have := hacc.out; rw [HE.out, List.append_nil] at this; exact this
      subst e
      exact ⟨_, rfl, Kd.R_mono hR.out (fun _ _ => trivial), hbw.out⟩

/-! ### utf.End -/
def utf_End.f (l0 : List Int) : Option (List Int) := utf_All.f l0
set_option maxHeartbeats 1000000 in
theorem utf_End.calls (A0 : Option Addr) (c0 : Nat) (l0 : List Int) (r : List Int) (w : World) (hr0 : Kd.C (Kd.int .u8) w A0 l0.length l0) (hc0 : l0.length ≤ c0) (h : utf_End.f l0 = some r) :
    Calls Try.prog 37 #[.slice A0 l0.length c0] w fun e w' => ∃ v0_ : Value, e = .returned (v0_) ∧ Kd.R (Kd.int .i32) 21 w' w.heap.size (fun _ => True) v0_ r ∧ Below w.heap.size w w' := by
  have H : Aside0 (utf_All.f l0 = some r) := ⟨h⟩
  have HR := Aside0.mk hr0
  clear h hr0
  go_enter Try.func37, Try.ntmps37
  go_wp2_with (go_at_call 32; (with_reducible refine (utf_All.calls A0 c0 l0 r _ HR.out hc0 H.out).mono ?_))
  rintro e w' ⟨v, rfl, hR, hB⟩
  have hR := Aside0.mk hR
  go_wp2
  go_ret
  exact ⟨_, rfl, hR.out, hB⟩

/-! ### utf.Pending -/
def tailB (k : Nat) : ByteArray := (([⟨#[128]⟩, ⟨#[128, 128]⟩, ⟨#[128, 128, 128]⟩, ⟨#[144, 128, 128]⟩, ⟨#[160, 128]⟩, ⟨#[144, 128]⟩] : List ByteArray).getD k ⟨#[]⟩)
theorem tailB_size (k : Nat) : (tailB k).size ≤ 3 := by
  match k with
  | 0 | 1 | 2 | 3 | 4 | 5 => decide
  | k + 6 => exact (show (⟨#[]⟩ : ByteArray).size ≤ 3 by decide)
theorem nats_append (s t : ByteArray) : Utf.nats (s ++ t) = Utf.nats s ++ Utf.nats t := by simp [Utf.nats, ByteArray.data_append]
theorem tails_any (s : ByteArray) (f : ByteArray → Bool) : (Utf.tails.any fun t => Utf.wellL (Utf.nats s ++ t)) = (List.range 6).any fun k => Utf.well (s ++ tailB k) := by
  have e : ∀ k, Utf.well (s ++ tailB k) = Utf.wellL (Utf.nats s ++ Utf.nats (tailB k)) := fun k => by rw [Utf.well_eq, nats_append]
  simp only [e]
  rfl
def utf_Pending.f (l0 : List Int) : Option Bool := some (Utf.pend (Utf.nats (strOfNums l0)))
set_option maxHeartbeats 1000000 in
set_option maxRecDepth 100000 in
theorem utf_Pending.calls (A0 : Option Addr) (c0 : Nat) (l0 : List Int) (r : Bool) (w : World) (hr0 : Kd.C (Kd.int .u8) w A0 l0.length l0) (hc0 : l0.length ≤ c0) (h : utf_Pending.f l0 = some r) :
    Calls Try.prog 45 #[.slice A0 l0.length c0] w fun e w' => e = .returned (.bool r) ∧ Below w.heap.size w w' := by
  obtain rfl : Utf.pend (Utf.nats (strOfNums l0)) = r := Option.some.inj h
  clear h
  have hn : (Utf.nats (strOfNums l0)).length = l0.length := by rw [Utf.nats_length, strOfNums_size]
  by_cases h1 : l0.length < 1
  · have b1 : decide ((l0.length : Int) < 1) = true := decide_eq_true (by omega)
    have b2 : decide (l0.length < 1) = true := decide_eq_true (by omega)
    have hp := Utf.pend_len (Utf.nats (strOfNums l0))
    have HP : Aside0 (Utf.pend (Utf.nats (strOfNums l0)) = false) := ⟨by
      cases h : Utf.pend (Utf.nats (strOfNums l0)) with
      | false => rfl
      | true => have := hp h; omega⟩
    clear hp hn
    go_enter Try.func45, Try.ntmps45
    go_wp2
    go_ret
    exact ⟨by rw [HP.out]; rfl, Below.refl _ _⟩
  by_cases h3 : 3 < l0.length
  · have b1 : decide ((l0.length : Int) < 1) = false := decide_eq_false (by omega)
    have b2 : decide (l0.length < 1) = false := decide_eq_false (by omega)
    have b3 : decide ((3 : Int) < (l0.length : Int)) = true := decide_eq_true (by omega)
    have b4 : decide (3 < l0.length) = true := decide_eq_true (by omega)
    have hp := Utf.pend_len (Utf.nats (strOfNums l0))
    have HP : Aside0 (Utf.pend (Utf.nats (strOfNums l0)) = false) := ⟨by
      cases h : Utf.pend (Utf.nats (strOfNums l0)) with
      | false => rfl
      | true => have := hp h; omega⟩
    clear hp hn
    go_enter Try.func45, Try.ntmps45
    go_wp2
    go_ret
    exact ⟨by rw [HP.out]; rfl, Below.refl _ _⟩
  · have b1 : decide ((l0.length : Int) < 1) = false := decide_eq_false (by omega)
    have b2 : decide (l0.length < 1) = false := decide_eq_false (by omega)
    have b3 : decide ((3 : Int) < (l0.length : Int)) = false := decide_eq_false (by omega)
    have b4 : decide (3 < l0.length) = false := decide_eq_false (by omega)
    have hp := Utf.pend_well (Utf.nats (strOfNums l0)) (by omega) (by omega)
    rw [tails_any _ Utf.well] at hp
    have hsz : (strOfNums l0).size ≤ 3 := by rw [strOfNums_size]; omega
    obtain ⟨s, hs⟩ : ∃ s, s = strOfNums l0 := ⟨_, rfl⟩
    rw [← hs] at hp hsz ⊢
    have HS := Aside0.mk hs; clear hs hn
    have HP := Aside0.mk hp; clear hp
    have HR := Aside0.mk hr0; clear hr0
    go_enter Try.func45, Try.ntmps45
    go_wp2
    clear b1 b2 b3 b4
    go_loopw [15, 4] (fun v _ wr => ∃ k : Nat, v = .int .i64 k ∧ k ≤ 6 ∧ Aside0 (∀ j, j < k → Utf.well (s ++ tailB j) = false) ∧ Aside0 (∀ j, j < 6 → wr.cell? ⟨w.heap.size, j, none⟩ = some (.string (tailB j))) ∧ Aside0 (Below w.heap.size w wr) ∧ w.heap.size < wr.heap.size) (fun v _ _ => 6 - (intOf v).toNat)
    case atStart =>
      refine ⟨0, rfl, by omega, ⟨fun j hj => by omega⟩, ⟨fun j hj => ?_⟩, ⟨Below.alloc (Below.refl _ _) (Nat.le_refl _) _⟩, by simp⟩
      match j, hj with
      | 0, _ | 1, _ | 2, _ | 3, _ | 4, _ | 5, _ => simp [tailB]
    case round =>
      obtain ⟨k, rfl, hk, hno, hcl, hbw, hsz1⟩ := hrel
      by_cases hlt : k < 6
      · have hc := hcl.out k hlt
        have hts := tailB_size k
        have hadd : s.size + (tailB k).size ≤ 9223372036854775807 := by omega
        have hcv := Kd.C_string (P := Try.prog) (A := A0) (c := c0) Try.underlying31 Try.underlying5 Try.underlying9 (Kd.C_below HR.out hbw.out)
        rw [← HS.out] at hcv
        obtain ⟨tl, htl⟩ : ∃ tl, tl = tailB k := ⟨_, rfl⟩
        rw [← htl] at hc hts hadd
        obtain ⟨b, hb⟩ : ∃ b, b = Utf.well (s ++ tl) := ⟨_, rfl⟩
        have HB := Aside0.mk hb; clear hb
        have HT := Aside0.mk htl; clear htl
        go_wp2_with (go_at_call 55; (with_reducible refine (utf_well.calls (s ++ tl) b _ (by rw [utf_well.f, HB.out])).mono ?_))
        rintro e w' ⟨rfl, hb2⟩
        have hbw2 := Aside0.mk (hbw.out.trans (hb2.mono hbw.out.size))
        have hsz2 : w.heap.size < w'.heap.size := Nat.lt_of_lt_of_le hsz1 hb2.size
        have hcl2 : Aside0 (∀ j, j < 6 → w'.cell? ⟨w.heap.size, j, none⟩ = some (.string (tailB j))) := ⟨fun j hj => by
          rw [hb2.cell (p := ⟨w.heap.size, j, none⟩) hsz1]; exact hcl.out j hj⟩
        clear hb2 hc hcv
        cases b with
        | true =>
          go_wp2
          go_ret
          refine ⟨?_, hbw2.out⟩
          have e : Utf.pend (Utf.nats s) = true := by
            rw [HP.out, List.any_eq_true]
            exact ⟨k, by simp; omega, by rw [← HT.out]; exact HB.out.symm⟩
          rw [e]; rfl
        | false =>
          go_wp2
          go_roundw
          case rel =>
            refine ⟨k + 1, by go_num, by omega, ⟨fun j hj => ?_⟩, hcl2, hbw2, hsz2⟩
            by_cases e : j = k
            · subst e; rw [← HT.out]; exact HB.out.symm
            · exact hno.out j (by omega)
          case measure => simp [intOf]; omega
      · have hk6 : k = 6 := by omega
        subst hk6
        go_wp2
        go_ret
        refine ⟨?_, hbw.out⟩
        have e : Utf.pend (Utf.nats s) = false := by
          rw [HP.out, List.any_eq_false]
          intro j hj
          have := hno.out j (by simpa using hj)
          simp [this]
        rw [e]; rfl

/-! ### utf.Feed -/
def utf_Feed.r (L : List Int) : List Int × List Int := ((Utf.fedFrom (strOfNums L) 0).1, L.drop (L.length - (Utf.fedFrom (strOfNums L) 0).2))
def utf_Feed.f (l0 l1 : List Int) : Option (List Int × List Int) := if l0.length + l1.length < 35184372088832 then some (utf_Feed.r (l0 ++ l1)) else none
set_option maxHeartbeats 2000000 in
set_option maxRecDepth 100000 in
theorem utf_Feed.calls (A0 : Option Addr) (c0 : Nat) (l0 : List Int) (A1 : Option Addr) (c1 : Nat) (l1 : List Int) (r1 : List Int) (r2 : List Int) (w : World) (hr0 : Kd.C (Kd.int .u8) w A0 l0.length l0) (hc0 : l0.length ≤ c0) (hr1 : Kd.C (Kd.int .u8) w A1 l1.length l1) (hc1 : l1.length ≤ c1) (h : utf_Feed.f l0 l1 = some (r1, r2)) :
    Calls Try.prog 35 #[.slice A0 l0.length c0, .slice A1 l1.length c1] w fun e w' => ∃ v0_ v1_ : Value, e = .returned (.tuple #[v0_, v1_]) ∧ Kd.R (Kd.int .i32) 21 w' w.heap.size (fun _ => True) v0_ r1 ∧ Kd.Q (Kd.int .u8) 5 w' w.heap.size (fun _ => True) v1_ r2 ∧ Below w.heap.size w w' := by
  have hlen : l0.length + l1.length < 35184372088832 := by
    unfold utf_Feed.f at h; split at h
    · assumption
    · cases h
  have hr : utf_Feed.r (l0 ++ l1) = (r1, r2) := by
    unfold utf_Feed.f at h; rw [if_pos hlen] at h; exact Option.some.inj h
  clear h
  have HR0 := Aside0.mk hr0
  have HR1 := Aside0.mk hr1
  have HR := Aside0.mk hr
  have HLN := Aside0.mk hlen
  clear hr0 hr1 hr hlen
  go_enter Try.func35, Try.ntmps35
  go_wp2_with ((with_reducible refine gate_dst (N := 10) rfl ?_); refine Kd.R_lit (Kd.int .u8) _ 5 ?hg (N := 10) ?hd (xs := []) (inner := []) (ok := fun _ => True) (okp := fun _ => True) ?hr ?hp (fun _ hk => hk) trivial (Below.refl _ _) (Nat.le_refl _) (by simp) ?_; (case hd => rfl); (case hg => rfl); (case hr => first | (go_simp; done) | (go_simp; rfl)); (case hp => exact (Reps.none _ _)))
  intro v0 w0 hR0 hb0 hg0 n0 hn0 hle0
  have hR0 := Aside0.mk hR0
  clear hg0 hle0 hn0 n0
  go_wp2_with ((with_reducible refine gate_builtin (b := .append) (xs := #[.tmp 10, .tmp 11]) rfl ?_); at_builtin; refine Kd.R_append_rows (Kd.int .u8) (w0 := w) w.heap.size rfl (.tmp 10) (.tmp 11) 31 5 (.int .u8 0) 1 rfl Try.underlying31 info5 rfl (by decide) (by omega) v0 [] l0 _ _ _ (fun _ => True) (fun _ => False) rfl rfl hR0.out (Kd.C_below HR0.out hb0) (fun _ _ h => h) (fun _ h => h.elim) (fun _ _ => trivial) hb0 (hb0).size (by have := HLN.out; simp; omega) ?_)
  intro v1 w1 hR1 hb1 hg1 hat1
  have hR1 := Aside0.mk hR1
  clear hg1 hat1 hb0 hR0
  go_wp2_with ((with_reducible refine gate_builtin (b := .append) (xs := #[.tmp 12, .tmp 13]) rfl ?_); at_builtin; refine Kd.R_append_rows (Kd.int .u8) (w0 := w) w.heap.size rfl (.tmp 12) (.tmp 13) 31 5 (.int .u8 0) 1 rfl Try.underlying31 info5 rfl (by decide) (by omega) v1 l0 l1 _ _ _ (fun _ => True) (fun _ => False) rfl rfl hR1.out (Kd.C_below HR1.out hb1) (fun _ _ h => h) (fun _ h => h.elim) (fun _ _ => trivial) hb1 (hb1).size (by have := HLN.out; simp; omega) ?_)
  intro v2 w2 hR2 hb2 hg2 hat2
  clear hg2 hat2 hb1 hR1
  have hLn : (l0 ++ l1).length < 35184372088832 := by rw [List.length_append]; exact HLN.out
  obtain ⟨L, hL⟩ : ∃ L, L = l0 ++ l1 := ⟨_, rfl⟩
  rw [← hL] at hR2 hLn HR
  clear hL HLN HR0 HR1
  obtain ⟨A, c, rfl⟩ := Kd.R_slice hR2
  obtain ⟨_, hLc, hC⟩ := Kd.R_reads' hR2
  have hcv := own_string (P := Try.prog) Try.underlying31 Try.underlying5 Try.underlying9 (Kd.own_of_R hR2)
  have HR2 := Aside0.mk hR2
  have HB2 := Aside0.mk hb2
  have HC := Aside0.mk hC
  have HLN := Aside0.mk hLn
  have hsz : (strOfNums L).size = L.length := strOfNums_size L
  obtain ⟨s, hs⟩ : ∃ s, s = strOfNums L := ⟨_, rfl⟩
  rw [← hs] at hcv hsz
  have HS := Aside0.mk hs
  have HSZ := Aside0.mk hsz
  clear hR2 hb2 hC hLn hs hsz
  go_wp2
  clear hcv
  go_loopw [7, 8, 9] (fun v _ _ wr => ∃ (pos : Nat) (acc : List Int), Aside0 (wr.heap[w2.heap.size]? = some (.stringIter s pos)) ∧ Aside0 (Kd.R (Kd.int .i32) 21 wr w2.heap.size (fun k => k ≠ w2.heap.size) v acc) ∧ Aside0 (Below w2.heap.size w2 wr) ∧ Aside0 ((acc ++ (Utf.fedFrom s pos).1, (Utf.fedFrom s pos).2) = Utf.fedFrom s 0) ∧ Aside0 (acc.length ≤ pos) ∧ Aside0 (pos ≤ s.size)) (fun _ _ _ wr => s.size - wr.iterPos w2.heap.size)
  case atStart => exact ⟨0, [], ⟨World.iter_heap w2 s 0⟩, ⟨Kd.R_nil _ _ _ _ _⟩, ⟨Below.alloc (Below.refl _ _) (Nat.le_refl _) _⟩, ⟨by simp⟩, ⟨by simp⟩, ⟨by omega⟩⟩
  case round =>
    obtain ⟨pos, acc, hit, hRa, hbw, hacc, hal, hpl⟩ := hrel
    have hszI : w2.heap.size < wr.heap.size := (Array.getElem?_eq_some_iff.1 hit.out).1
    by_cases hp : pos < s.size
    · obtain ⟨c_, wd_, hdec_, _, hwd_, hle_⟩ := Utf.step s pos hp
      have hnx0 : ∀ ty, (Instr.next (.pointer (some ⟨w2.heap.size, 0, none⟩)) true ty).run Try.prog wr = _ := fun ty => Lib.run_next_any_at wr w2.heap.size s pos ty hit.out hp
      rw [hdec_] at hnx0
      have hit2 := Aside0.mk (Lib.iterAt_heap wr w2.heap.size s pos (pos + wd_) hit.out)
      have hbw2 := Aside0.mk (Lib.below_iterAt hbw.out (k := w2.heap.size) (Nat.le_refl _) s (pos + wd_))
      have hRa2 := Aside0.mk (Kd.R_step hRa.out (w1 := wr.iterAt w2.heap.size s (pos + wd_)) (fun k hk _ => Lib.iterAt_other wr w2.heap.size k s (pos + wd_) hk))
      have hs2 : (wr.iterAt w2.heap.size s (pos + wd_)).heap.size = wr.heap.size := Lib.iterAt_size ..
      obtain ⟨W2, hW2⟩ : ∃ W2, W2 = wr.iterAt w2.heap.size s (pos + wd_) := ⟨_, rfl⟩
      rw [← hW2] at hnx0 hit2 hbw2 hRa2 hs2
      have hnx : ∀ ty, (Instr.next (.pointer (some ⟨w2.heap.size, 0, none⟩)) true ty).run Try.prog wr = .ok (.tuple #[.bool true, .int .i64 pos, .int .i32 (c_ : Int)]) W2 := hnx0
      have hsz2 : w2.heap.size < W2.heap.size := by omega
      have HD := Aside0.mk hdec_
      clear hnx0 hdec_ hW2 hs2
      obtain ⟨A', D, hD, hrun, hQ, hcl⟩ := drop_own (P := Try.prog) 31 5 Try.underlying31 info5 (Kd.Q_of_R HR2.out) pos (by have := HSZ.out; omega)
      obtain ⟨_, _, hCd⟩ := Kd.Q_reads' hQ
      have HQ := Aside0.mk hQ
      have HCd := Aside0.mk hCd
      clear hQ hCd
      have hposL : (pos : Int) ≤ (L.length : Int) := by have := HSZ.out; omega
      obtain ⟨b, hb⟩ : ∃ b, b = Utf.pend ((Utf.nats s).drop pos) := ⟨_, rfl⟩
      have HB := Aside0.mk hb
      have HF : Aside0 (utf_Pending.f D = some b) := ⟨by unfold utf_Pending.f; rw [hD, nats_str_drop, ← HS.out, ← HB.out]⟩
      have HDD := Aside0.mk hD
      clear hb hD
      go_wp2_with (go_at_call 45; (with_reducible refine (utf_Pending.calls A' (c - pos) D b W2 (Kd.C_below HCd.out hbw2.out) hcl HF.out).mono ?_))
      (first | rintro e w' rfl hb3 | rintro e w' ⟨rfl, hb3⟩)
      have hbw3 := Aside0.mk (hbw2.out.trans (hb3.mono hbw2.out.size))
      have hit3 : w'.heap[w2.heap.size]? = some (.stringIter s (pos + wd_)) := by rw [hb3.block _ hsz2]; exact hit2.out
      have hRa3 := Aside0.mk (Kd.R_below hRa2.out hb3)
      have hsz3 : w2.heap.size < w'.heap.size := Nat.lt_of_lt_of_le hsz2 hb3.size
      have hit3 := Aside0.mk hit3
      clear hb3
      cases b with
      | true =>
        go_wp2
        go_quiet (fail)
        go_wp2
        go_ret2
        have e := Utf.fed_pend s pos HB.out.symm
        have ha := hacc.out
        rw [e, List.append_nil] at ha
        have hrr := HR.out
        unfold utf_Feed.r at hrr
        rw [← HS.out, ← ha] at hrr
        simp only [Prod.mk.injEq] at hrr
        obtain ⟨e1, e2⟩ := hrr
        have e3 : L.length - (s.size - pos) = pos := by have := HSZ.out; omega
        rw [e3, ← HDD.out] at e2
        subst e1 e2
        have hB := HB2.out.trans (hbw3.out.mono HB2.out.size)
        exact ⟨_, _, rfl, Kd.R_drewN (Kd.R_mono (Kd.R_lower hRa3.out HB2.out.size) (fun _ _ => trivial)) _, Kd.Q_drewN (Kd.Q_below HQ.out hbw3.out) _, pw_below_drewN hB _⟩
      | false =>
        obtain ⟨c2, wd2, hd2, hfed, hw2, hl2⟩ := Utf.fed_step s pos hp HB.out.symm
        rw [HD.out] at hd2
        simp only [Prod.mk.injEq] at hd2
        obtain ⟨rfl, rfl⟩ := hd2
        have HFE := Aside0.mk hfed
        clear hfed hrun
        go_wp2_with (((with_reducible refine gate_builtin (b := .append) (xs := #[.tmp 30, .tmp 32]) rfl ?_); at_builtin; refine Kd.R_append (Kd.int .i32) (w0 := w2) w2.heap.size rfl (.tmp 30) (.tmp 32) 29 21 (.int .i32 0) 4 rfl Try.underlying29 info21 rfl (by decide) (by omega) _ acc (c_ : Int) [.int .i32 c_] (fun k => k ≠ w2.heap.size) (fun _ => False) rfl rfl rfl (fun _ hk => hk.elim) (fun k hk => by omega) hRa3.out hbw3.out (hbw3.out).size (by have := hal.out; have := HSZ.out; have := HLN.out; omega) ?_))
        intro v3 w3 hR3 hb3 hg3 hat3
        have hit4 : w3.heap[w2.heap.size]? = some (.stringIter s (pos + wd_)) := by
          rw [hg3.block _ hsz3 (fun e => hRa3.out.1 _ e.symm rfl)]; exact hit3.out
        have hR3 := Aside0.mk hR3
        have hb3 := Aside0.mk hb3
        have hit4 := Aside0.mk hit4
        clear hat3 hg3
        go_wp2
        go_roundw
        case rel => exact ⟨pos + wd_, acc ++ [(c_ : Int)], hit4, hR3, hb3, ⟨by rw [← hacc.out, HFE.out]; simp⟩, ⟨by have := hal.out; simp; omega⟩, ⟨hle_⟩⟩
        case measure =>
          rw [iterPos_of hit4.out, iterPos_of hit.out]
          omega
    · have hnx : ∀ ty, (Instr.next (.pointer (some ⟨w2.heap.size, 0, none⟩)) true ty).run Try.prog wr = _ := fun ty => Lib.run_next_end_at wr w2.heap.size s pos ty hit.out hp
      have HE := Aside0.mk (Utf.fed_end s pos hp)
      go_wp2
      go_ret2
      have ha := hacc.out
      rw [HE.out, List.append_nil] at ha
      have hrr := HR.out
      unfold utf_Feed.r at hrr
      rw [← HS.out, ← ha] at hrr
      simp only [Prod.mk.injEq, Nat.sub_zero, List.drop_length] at hrr
      obtain ⟨e1, e2⟩ := hrr
      subst e1 e2
      exact ⟨_, _, rfl, Kd.R_mono (Kd.R_lower hRa.out HB2.out.size) (fun _ _ => trivial), Kd.Q_nil _ _ _ _ _, HB2.out.trans (hbw.out.mono HB2.out.size)⟩
/-- The same, nothing pending ahead of it. -/
theorem utf_Feed.calls0 (A1 : Option Addr) (c1 : Nat) (l1 : List Int) (r1 : List Int) (r2 : List Int) (w : World) (hr1 : Kd.C (Kd.int .u8) w A1 l1.length l1) (hc1 : l1.length ≤ c1) (h : utf_Feed.f [] l1 = some (r1, r2)) :
    Calls Try.prog 35 #[.slice none 0 0, .slice A1 l1.length c1] w fun e w' => ∃ v0_ v1_ : Value, e = .returned (.tuple #[v0_, v1_]) ∧ Kd.R (Kd.int .i32) 21 w' w.heap.size (fun _ => True) v0_ r1 ∧ Kd.Q (Kd.int .u8) 5 w' w.heap.size (fun _ => True) v1_ r2 ∧ Below w.heap.size w w' :=
  utf_Feed.calls none 0 [] A1 c1 l1 r1 r2 w (Kd.C_nil _ w) (Nat.le_refl _) hr1 hc1 h
end Go.Proofs.Ythpemcchgebecaa.K
