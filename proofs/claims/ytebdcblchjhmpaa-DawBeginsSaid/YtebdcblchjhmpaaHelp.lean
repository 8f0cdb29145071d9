/- Small laws for my walks: slices cut, strings made of bytes, an iterator over a string. -/
import Derived.Test.YtebdcblchjhmpaaProg
import Derived.Below
import Derived.Deep.Draws
import Derived.Deep.AppendLies
import Derived.Maps.AppendAt
import Derived.OwnWalk
import Derived.Laws.BytesArg
import Derived.Laws.MakeOwn
import Derived.Laws.OwnMore
import Derived.Deep.OwnRows
import Derived.Tactics
import Derived.Lib.ConvBytes
import Derived.Laws.Slices
import Derived.WalkKit
import Derived.KernelRfl
import Derived.RowKit3
import Derived.Deep.LoopGhost
import Derived.Deep.QuietTactic
import Derived.BigQuiet
import Derived.WideLaws
import Derived.Deep.DeepCutAuto
import Derived.Deep.CutBlock
import Derived.Deep.RegionHeld3
import Derived.Laws.Rows
import Derived.Lib.AppendStr
import Derived.ArgAppend
import Derived.Laws.IdiomCopy
import Derived.OrdersHeld
import Derived.Laws.BitsLemmas
import Derived.RowKit
import Derived.Lib.OthersKept
import Derived.WalkSmall
import Derived.Deep.RegionLaw
import Derived.BigRegion
import Derived.Test.YtebdcblchjhmpaaWWords
import Derived.Test.YtebdcblchjhmpaaWLast
import Derived.Test.YtebdcblchjhmpaaWTab
import Derived.Test.YtebdcblchjhmpaaWFour
import Derived.Test.YtebdcblchjhmpaaWQPut
import Derived.Test.YtebdcblchjhmpaaWApart
import Derived.Test.YtebdcblchjhmpaaWArr
import Derived.Test.YtebdcblchjhmpaaWZeros
import Derived.Test.YtebdcblchjhmpaaWFoot
import Derived.Test.YtebdcblchjhmpaaWKept
import Derived.Test.YtebdcblchjhmpaaWShare
import Derived.Test.YtebdcblchjhmpaaWN
import Derived.Test.YtebdcblchjhmpaaWFootNe
import Derived.Test.YtebdcblchjhmpaaWAt
import Derived.Test.YtebdcblchjhmpaaWEqStruct
import Derived.Test.YtebdcblchjhmpaaWRepsOne
import Derived.Test.YtebdcblchjhmpaaWInv
import Derived.Test.YtebdcblchjhmpaaWInvWords
import Derived.Test.YtebdcblchjhmpaaWGuard
import Derived.Test.YtebdcblchjhmpaaWNEv
import Derived.Test.YtebdcblchjhmpaaWMore
import Derived.Test.YtebdcblchjhmpaaInfo
import Derived.Test.YtebdcblchjhmpaaUtf
namespace Go.Proofs.Ytebdcblchjhmpaa.K
open Go.RowKit Go.Proofs.YtebdcblchjhmpaaW.PrintWords Go.Proofs.YtebdcblchjhmpaaW.PrintLast Go.Proofs.YtebdcblchjhmpaaW.PrintMore Go.Proofs.Ytebdcblchjhmpaa
attribute [local go_sem] max2_int min2_int max_two min_two max_three min_three max_four min_four
set_option linter.unusedVariables false
set_option linter.unusedSimpArgs false
section
variable {P : Program} {α : Type} {d : Kd α} {w : World} {base c : Nat} {ok : Nat → Prop} {A : Option Addr} {xs : List α}
theorem info_row {e : TypeId} {z : Value} {sz bytes : Nat} (h : (P.info? e).map (fun i => (i.zero, i.size, i.bytes)) = some (some z, sz, bytes)) : ∃ i, P.info? e = some i ∧ i.size = sz := by
  obtain ⟨i, hi, _, hs, _⟩ := info_parts h
  exact ⟨i, hi, hs⟩
/-- x[j:] of what the call owns; what is left has a name of its own. -/
theorem drop_own (t e : TypeId) {z : Value} {bytes : Nat} (ht : P.underlying t = some (.slice e)) (hinfo : (P.info? e).map (fun i => (i.zero, i.size, i.bytes)) = some (some z, d.sz, bytes))
    (h : d.Q e w base ok (.slice A xs.length c) xs) (j : Nat) (hj : j ≤ xs.length) :
    ∃ A' D, D = xs.drop j ∧ (∀ W : World, (Instr.slice t (.slice A xs.length c) (some (.int .i64 (j : Int))) none none).run P W = .ok (.slice A' D.length (c - j)) W) ∧ d.Q e w base ok (.slice A' D.length (c - j)) D ∧ D.length ≤ c - j := by
  obtain ⟨i, hi, hs⟩ := info_row hinfo
  have hl : (xs.drop j).length = xs.length - j := List.length_drop
  have hq := Kd.Q_drop h hj
  refine ⟨_, _, rfl, fun W => ?_, by rw [hl]; exact hq, ?_⟩
  · have hr := cut_from (P := P) t e .i64 ht hi d.sz hs A xs.length c (j : Int) (by omega) (by omega) W
    rw [hl]; simpa using hr
  · have := (Kd.Q_reads' h).2.1
    omega
/-- x[j:] of what came in. -/
theorem drop_came (t e : TypeId) {z : Value} {bytes : Nat} (ht : P.underlying t = some (.slice e)) (hinfo : (P.info? e).map (fun i => (i.zero, i.size, i.bytes)) = some (some z, d.sz, bytes))
    (h : d.C w A xs.length xs) (hc : xs.length ≤ c) (j : Nat) (hj : j ≤ xs.length) :
    ∃ A' D, D = xs.drop j ∧ (∀ W : World, (Instr.slice t (.slice A xs.length c) (some (.int .i64 (j : Int))) none none).run P W = .ok (.slice A' D.length (c - j)) W) ∧ d.C w A' D.length D ∧ D.length ≤ c - j := by
  obtain ⟨i, hi, hs⟩ := info_row hinfo
  have hl : (xs.drop j).length = xs.length - j := List.length_drop
  refine ⟨_, _, rfl, fun W => ?_, Kd.C_drop (c := c) h hj hc, by omega⟩
  have hr := cut_from (P := P) t e .i64 ht hi d.sz hs A xs.length c (j : Int) (by omega) (by omega) W
  rw [hl]; simpa using hr
/-- x[:j] of what came in. -/
theorem take_came (t e : TypeId) {z : Value} {bytes : Nat} (ht : P.underlying t = some (.slice e)) (hinfo : (P.info? e).map (fun i => (i.zero, i.size, i.bytes)) = some (some z, d.sz, bytes))
    (h : d.C w A xs.length xs) (hc : xs.length ≤ c) (j : Nat) (hj : j ≤ xs.length) :
    ∃ D, D = xs.take j ∧ (∀ W : World, (Instr.slice t (.slice A xs.length c) none (some (.int .i64 (j : Int))) none).run P W = .ok (.slice A D.length c) W) ∧ d.C w A D.length D ∧ D.length ≤ c := by
  obtain ⟨i, hi, hs⟩ := info_row hinfo
  have hl : (xs.take j).length = j := by rw [List.length_take]; omega
  refine ⟨_, rfl, fun W => ?_, Kd.C_take h hj, by omega⟩
  have hr := cut_to (P := P) t e .i64 ht hi A xs.length c (j : Int) (by omega) (by omega) hc W
  rw [hl]; simpa using hr
/-- x[a:b] of what came in. -/
theorem mid_came (t e : TypeId) {z : Value} {bytes : Nat} (ht : P.underlying t = some (.slice e)) (hinfo : (P.info? e).map (fun i => (i.zero, i.size, i.bytes)) = some (some z, d.sz, bytes))
    (h : d.C w A xs.length xs) (hc : xs.length ≤ c) (a b : Nat) (hab : a ≤ b) (hb : b ≤ xs.length) :
    ∃ A' D, D = (xs.take b).drop a ∧ (∀ W : World, (Instr.slice t (.slice A xs.length c) (some (.int .i64 (a : Int))) (some (.int .i64 (b : Int))) none).run P W = .ok (.slice A' D.length (c - a)) W) ∧ d.C w A' D.length D ∧ D.length ≤ c - a := by
  obtain ⟨i, hi, hs⟩ := info_row hinfo
  have hl : ((xs.take b).drop a).length = b - a := by rw [List.length_drop, List.length_take]; omega
  refine ⟨_, _, rfl, fun W => ?_, Kd.C_mid (c := c) h hab hb hc, by omega⟩
  have hr := cut_mid (P := P) t e .i64 .i64 ht hi d.sz hs A xs.length c (a : Int) (b : Int) (by omega) (by omega) (by omega) hc W
  rw [hl]; simpa using hr
end
theorem q_string {P : Program} {src dst e : TypeId} (hs : P.underlying src = some (.slice e)) (he : P.underlying e = some (.int .u8)) (hd : P.underlying dst = some .string)
    {w : World} {base t : Nat} {ok : Nat → Prop} {v : Value} {xs : List Int} (h : (Kd.int .u8).Q t w base ok v xs) : (convert src dst v).run P w = .ok (.string (strOfNums xs)) w := by
  obtain ⟨A, c, rfl, _⟩ := Kd.Q_slice h
  exact Kd.C_string hs he hd (Kd.Q_reads' h).2.2
theorem q_string2 {P : Program} {src dst e : TypeId} (hs : P.underlying src = some (.slice e)) (he : P.underlying e = some (.int .u8)) (hd : P.underlying dst = some .string)
    {w : World} {base t : Nat} {ok : Nat → Prop} {v : Value} {xs : List Int} (h : (Kd.int .u8).Q t w base ok v xs) :
    (convert src dst v).run P w = .ok (.string (strOfNums xs)) w ∧ ∀ n, (convert src dst v).run P (w.drewN n) = .ok (.string (strOfNums xs)) (w.drewN n) :=
  ⟨q_string hs he hd h, fun n => q_string hs he hd (Kd.Q_drewN h n)⟩
/-- A region that draws its order, some of its first operations listed: what follows is quiet, and one walk in the text's order serves every order. -/
theorem wpAny_lex_lit {P : Program} {md : Region.Mode} {l : List Oper} {Q : Exit → Act → World → Prop} {listed : Array Bool} {a : Act} {w : World} (k : Nat) (rest : List Oper) (hl : l.drop k = rest)
    {fuel : Nat} (hf : fuel = rest.length) (hs : Region.noSelect l.toArray = true) (hB : Region.lexFrom md l.toArray rest.length k listed = true)
    (h : wpQuiet P l.toArray (fun w' => ∃ n, w' = w.drewN n) (fun a' => ∀ w', (∃ n, w' = w.drewN n) → Q .normal a' w') rest a) : wpAny P md l.toArray Q fuel listed a w := by
  subst hf
  refine wpAny_of_quiet (C := fun w' => ∃ n, w' = w.drewN n) (Q := fun a' => ∀ w', (∃ n, w' = w.drewN n) → Q .normal a' w') (fun _ w' hw' h => h w' hw') _ _ _ _ ⟨0, rfl⟩ ?_
  refine wpAnyQ_lex hs rest k listed a (fun j => ?_) hB h
  rw [← hl]; simp
theorem rd_nat (l : List Int) (k : Nat) : rd l (k : Int) = l.getD k 0 := by simp [rd]
/-- The bytes of a string that was made of bytes. -/
theorem nats_str (l : List Int) : Utf.nats (strOfNums l) = l.map fun n => n.toNat % 256 := by
  unfold Utf.nats
  rw [strOfNums_data, List.map_map]
  apply List.map_congr_left
  intro n _
  simp
theorem nats_str_drop (l : List Int) (k : Nat) : Utf.nats (strOfNums (l.drop k)) = (Utf.nats (strOfNums l)).drop k := by
  rw [nats_str, nats_str, List.map_drop]
end Go.Proofs.Ytebdcblchjhmpaa.K
