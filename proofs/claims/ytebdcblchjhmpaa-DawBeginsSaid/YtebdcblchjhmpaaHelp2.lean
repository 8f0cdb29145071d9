/- Conversions between strings and runes, as the walks meet them. -/
import Derived.Laws.Cover4
import Derived.Laws.IdiomStrings
import Derived.Test.YtebdcblchjhmpaaProg
import Derived.Below
import Derived.Deep.Draws
import Derived.Deep.AppendLies
import Derived.Maps.AppendAt
import Derived.OwnWalk
import Derived.Laws.BytesArg
import Derived.Laws.MakeOwn
import Derived.Laws.OwnMore
import Derived.Deep.OwnRows
import Derived.Tactics
import Derived.Lib.ConvBytes
import Derived.Laws.Slices
import Derived.WalkKit
import Derived.KernelRfl
import Derived.RowKit3
import Derived.Deep.LoopGhost
import Derived.Deep.QuietTactic
import Derived.BigQuiet
import Derived.WideLaws
import Derived.Deep.DeepCutAuto
import Derived.Deep.CutBlock
import Derived.Deep.RegionHeld3
import Derived.Laws.Rows
import Derived.Lib.AppendStr
import Derived.ArgAppend
import Derived.Laws.IdiomCopy
import Derived.OrdersHeld
import Derived.Laws.BitsLemmas
import Derived.RowKit
import Derived.Lib.OthersKept
import Derived.WalkSmall
import Derived.Deep.RegionLaw
import Derived.BigRegion
import Derived.Test.YtebdcblchjhmpaaWWords
import Derived.Test.YtebdcblchjhmpaaWLast
import Derived.Test.YtebdcblchjhmpaaWTab
import Derived.Test.YtebdcblchjhmpaaWFour
import Derived.Test.YtebdcblchjhmpaaWQPut
import Derived.Test.YtebdcblchjhmpaaWApart
import Derived.Test.YtebdcblchjhmpaaWArr
import Derived.Test.YtebdcblchjhmpaaWZeros
import Derived.Test.YtebdcblchjhmpaaWFoot
import Derived.Test.YtebdcblchjhmpaaWKept
import Derived.Test.YtebdcblchjhmpaaWShare
import Derived.Test.YtebdcblchjhmpaaWN
import Derived.Test.YtebdcblchjhmpaaWFootNe
import Derived.Test.YtebdcblchjhmpaaWAt
import Derived.Test.YtebdcblchjhmpaaWEqStruct
import Derived.Test.YtebdcblchjhmpaaWRepsOne
import Derived.Test.YtebdcblchjhmpaaWInv
import Derived.Test.YtebdcblchjhmpaaWInvWords
import Derived.Test.YtebdcblchjhmpaaWGuard
import Derived.Test.YtebdcblchjhmpaaWNEv
import Derived.Test.YtebdcblchjhmpaaWMore
import Derived.Test.YtebdcblchjhmpaaInfo
import Derived.Test.YtebdcblchjhmpaaUtf
import Derived.Test.YtebdcblchjhmpaaHelp
namespace Go.Proofs.Ytebdcblchjhmpaa.K
open Go.RowKit Go.Proofs.YtebdcblchjhmpaaW.PrintWords Go.Proofs.YtebdcblchjhmpaaW.PrintLast Go.Proofs.YtebdcblchjhmpaaW.PrintMore Go.Proofs.Ytebdcblchjhmpaa
attribute [local go_sem] max2_int min2_int max_two min_two max_three min_three max_four min_four
set_option linter.unusedVariables false
set_option linter.unusedSimpArgs false
theorem conv_runesFrom (s : ByteArray) : ∀ (bound i : Nat) (acc : Array Value), s.size ≤ bound + i → Conv.runesFrom s bound i acc = acc ++ ((Utf.runesFrom s i).map (Value.int .i32)).toArray := by
  intro bound
  induction bound with
  | zero =>
    intro i acc h
    rw [Utf.runesFrom_end s i (by omega)]
    simp [Conv.runesFrom]
  | succ n ih =>
    intro i acc h
    by_cases hi : i < s.size
    · obtain ⟨c, wd, hd, hr, h1, h2⟩ := Utf.step s i hi
      rw [Conv.runesFrom, if_pos hi, hd, hr]
      simp only []
      rw [ih _ _ (by omega)]
      simp
    · rw [Utf.runesFrom_end s i hi, Conv.runesFrom, if_neg hi]
      simp
theorem conv_runesZ (s : ByteArray) : Conv.runesFrom s s.size 0 #[] = ((Utf.runesZ s).map (Value.int .i32)).toArray := by
  rw [conv_runesFrom s s.size 0 #[] (by omega)]; simp [Utf.runesZ]
theorem runesZ_length (s : ByteArray) : (Utf.runesZ s).length ≤ s.size := by
  unfold Utf.runesZ Utf.runesFrom
  rw [List.length_map, List.drop_zero]
  exact Nat.le_trans (Utf.all_length _) (by simp [Utf.nats])
section
variable {P : Program} {src dst e : TypeId}
/-- string(runes), of what came in. -/
theorem C_runes (hs : P.underlying src = some (.slice e)) (he : P.underlying e = some (.int .i32)) (hd : P.underlying dst = some .string) {A : Option Addr} {c : Nat} {l : List Int} {w : World}
    (h : Kd.C (Kd.int .i32) w A l.length l) : (convert src dst (.slice A l.length c)).run P w = .ok (.string (runesBytes l)) w := by
  cases A with
  | none =>
    match l with
    | [] => exact run_convert_runes_nil w src dst e 0 c hs he hd
    | a :: t => obtain ⟨_, hh, _⟩ := Kd.at_int h 0 (by omega) (by simp); simp at hh
  | some a =>
    have := run_convert_runes w src dst e a l.length c l (Nat.le_refl _) hs he hd (fun j hj => by
      obtain ⟨ad, hh, hc⟩ := Kd.at_int h (j : Int) (by omega) (by exact_mod_cast hj)
      cases hh
      rw [rd_nat] at hc
      simpa using hc)
    rwa [List.take_length] at this
theorem own_runes (hs : P.underlying src = some (.slice e)) (he : P.underlying e = some (.int .i32)) (hd : P.underlying dst = some .string) {w : World} {base t : Nat} {ok : Nat → Prop} {v : Value} {xs : List Int}
    (h : (Kd.int .i32).R t w base ok v xs) : (convert src dst v).run P w = .ok (.string (runesBytes xs)) w := by
  obtain ⟨A, c, rfl⟩ := Kd.R_slice h
  exact C_runes hs he hd (Kd.R_reads' h).2.2
theorem own_runes2 (hs : P.underlying src = some (.slice e)) (he : P.underlying e = some (.int .i32)) (hd : P.underlying dst = some .string) {w : World} {base t : Nat} {ok : Nat → Prop} {v : Value} {xs : List Int}
    (h : (Kd.int .i32).R t w base ok v xs) : (convert src dst v).run P w = .ok (.string (runesBytes xs)) w ∧ ∀ n, (convert src dst v).run P (w.drewN n) = .ok (.string (runesBytes xs)) (w.drewN n) :=
  ⟨own_runes hs he hd h, fun n => own_runes hs he hd (Kd.R_drewN h n)⟩
theorem own_string2 (hs : P.underlying src = some (.slice e)) (he : P.underlying e = some (.int .u8)) (hd : P.underlying dst = some .string) {w : World} {base t : Nat} {ok : Nat → Prop} {v : Value} {xs : List Int}
    (h : (Kd.int .u8).R t w base ok v xs) : (convert src dst v).run P w = .ok (.string (strOfNums xs)) w ∧ ∀ n, (convert src dst v).run P (w.drewN n) = .ok (.string (strOfNums xs)) (w.drewN n) :=
  ⟨own_string hs he hd (Kd.own_of_R h), fun n => own_string hs he hd (Kd.own_of_R (Kd.R_drewN h n))⟩
end
section
variable {P : Program} {ops : Array Oper} {rest : List Oper} {o : Oper} {a : Act} {Q : Exit → Act → World → Prop}
/-- []rune(s), at a step of a plain region: a row of one's own. -/
theorem R_convr {w0 W : World} (base : Nat) {src dst e : TypeId} (hs : P.underlying src = some .string) (hd : P.underlying dst = some (.slice e)) (he : P.underlying e = some (.int .i32))
    (hgd : o.guard = none) {N : Tmp} (_hd : o.dst = some N) {xs : List Int} {s : ByteArray} {ok okp : Nat → Prop}
    (hrun : (execOp a.eval o).run P W = ((convert src dst (.string s)).run P W).andThen fun v w' => .ok (.value v) w') (hx : Utf.runesZ s = xs) (hok : ∀ k, okp k → ok k) (hfresh : ok W.heap.size) (HB : Below base w0 W)
    (hbase : base ≤ W.heap.size) (hm : s.size ≤ 70368744177664)
    (h : ∀ v1 w1, (Kd.int .i32).R e w1 base ok v1 xs → Below base w0 w1 → W.grownBy w1 none → (∃ b, v1.ownBlock = some b ∧ W.heap.size ≤ b) → wpList P ops Q rest (a.put o.dst v1) w1) : wpList P ops Q (o :: rest) a W := by
  subst hx
  have hl := runesZ_length s
  have hsz : (Conv.runesFrom s s.size 0 #[]).size = (Utf.runesZ s).length := by rw [conv_runesZ]; simp
  have hr := run_runes_of_string (P := P) W src dst e s hs hd he (by rw [hsz]; omega)
  rw [hsz, conv_runesZ] at hr
  have hcap := grownCap_ge W (Utf.runesZ s).length 0 e
  have hmax := grownCap_le_maxLen W (Utf.runesZ s).length 0 e (by unfold maxLen; omega)
  generalize grownCap W (Utf.runesZ s).length 0 e = cap at hr hcap hmax
  refine Kd.event_run hgd (by rw [hrun, hr]; rfl) (h _ _ (Kd.R_of_own ⟨by simp [encs], .inr ⟨W.heap.size, cap, _, rfl, hbase, heap_alloc_new W.drew _, hcap, hmax, by simp; omega, ?_⟩⟩ (fun k hk => ?_)) ((below_drew HB).alloc hbase _) ?_ ⟨W.heap.size, by simp [Value.ownBlock], Nat.le_refl _⟩)
  · simp [encs]
  · have : W.heap.size = k := by simpa [Value.ownBlock] using hk
    subst this
    exact hfresh
  · have := World.grownBy_alloc W.drew (.cells (((Utf.runesZ s).map (Value.int .i32)).toArray ++ Array.replicate (cap - (Utf.runesZ s).length) (Value.int .i32 0)) e) none
    obtain ⟨g1, g2, g3, g4, g5⟩ := this
    exact ⟨g1, g2, g3, g4, g5⟩
end
end Go.Proofs.Ytebdcblchjhmpaa.K
