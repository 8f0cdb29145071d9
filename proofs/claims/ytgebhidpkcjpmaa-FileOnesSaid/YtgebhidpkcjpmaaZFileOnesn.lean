/- FileOnes. (The texts that the proof is made of, one behind the other: part 14 of 17.) -/
import Derived.Test.YtgebhidpkcjpmaaProg
import Derived.Below
import Derived.Deep.Draws
import Derived.Deep.AppendLies
import Derived.Maps.AppendAt
import Derived.OwnWalk
import Derived.Laws.BytesArg
import Derived.Laws.MakeOwn
import Derived.Laws.OwnMore
import Derived.Deep.OwnRows
import Derived.Tactics
import Derived.Lib.ConvBytes
import Derived.Laws.Slices
import Derived.WalkKit
import Derived.KernelRfl
import Derived.RowKit3
import Derived.Deep.LoopGhost
import Derived.Deep.QuietTactic
import Derived.BigQuiet
import Derived.WideLaws
import Derived.Deep.DeepCutAuto
import Derived.Deep.CutBlock
import Derived.Deep.RegionHeld3
import Derived.Laws.Rows
import Derived.Lib.AppendStr
import Derived.ArgAppend
import Derived.Laws.IdiomCopy
import Derived.OrdersHeld
import Derived.Laws.BitsLemmas
import Derived.RowKit
import Derived.Lib.OthersKept
import Derived.WalkSmall
import Derived.Deep.RegionLaw
import Derived.BigRegion
import Derived.Test.YtgebhidpkcjpmaaZFileOnesa
import Derived.Test.YtgebhidpkcjpmaaZFileOnesb
import Derived.Test.YtgebhidpkcjpmaaZFileOnesc
import Derived.Test.YtgebhidpkcjpmaaZFileOnesd
import Derived.Test.YtgebhidpkcjpmaaZFileOnese
import Derived.Test.YtgebhidpkcjpmaaZFileOnesf
import Derived.Test.YtgebhidpkcjpmaaZFileOnesg
import Derived.Test.YtgebhidpkcjpmaaZFileOnesh
import Derived.Test.YtgebhidpkcjpmaaZFileOnesi
import Derived.Test.YtgebhidpkcjpmaaZFileOnesj
import Derived.Test.YtgebhidpkcjpmaaZFileOnesk
import Derived.Test.YtgebhidpkcjpmaaZFileOnesl
import Derived.Test.YtgebhidpkcjpmaaZFileOnesm
namespace Go.Proofs.Ytgebhidpkcjpmaa.K
open Go.RowKit Go.Proofs.YtgebhidpkcjpmaaW.PrintWords Go.Proofs.YtgebhidpkcjpmaaW.PrintLast Go.Proofs.YtgebhidpkcjpmaaW.PrintMore Go.Proofs.Ytgebhidpkcjpmaa
attribute [local go_sem] max2_int min2_int max_two min_two max_three min_three max_four min_four
set_option linter.unusedVariables false
set_option linter.unusedSimpArgs false
open Go Go.Proofs.Ytgebhidpkcjpmaa.PR13 Go.Proofs.Ytgebhidpkcjpmaa.PDk Go.Proofs.Ytgebhidpkcjpmaa.PDm Go.Proofs.Ytgebhidpkcjpmaa.PIx Go.Proofs.Ytgebhidpkcjpmaa.PFl Go.Proofs.Ytgebhidpkcjpmaa.PLg Go.Proofs.Ytgebhidpkcjpmaa.PMk Go.Proofs.Ytgebhidpkcjpmaa.PEn Go.Proofs.Ytgebhidpkcjpmaa.PSh16 Go.Proofs.Ytgebhidpkcjpmaa.Daw Go.Proofs.Ytgebhidpkcjpmaa.Fil Go.Proofs.Ytgebhidpkcjpmaa.Crc
theorem ents_nil : Ents [] := ⟨by simp, by decide, by decide⟩
theorem dict_nil_len : (dictB []).length = 31 := by
  unfold dictB
  rw [show wordsN (Wl []) = [] from rfl, build_nil]
  have hs : statesB [(false, [])] = [1, 0] := by
    unfold statesB stsB stB hdN
    simp [stsB, put_low]
  have hc : countsB (cN []) = [0] := by
    unfold countsB cN Cl
    simp [put_low]
  have hk : kN [] = [] := rfl
  unfold encB
  rw [hs, hc, hk]
  unfold recB
  have hm : magicB.length = 8 := rfl
  simp only [List.length_append, sumB_len, hm, List.length_cons, List.length_nil, put_low (show 8 < 128 by decide), put_low (show 0 + 1 < 128 by decide), put_low (show 0 < 128 by decide), put_low (show 0 + 1 + 1 < 128 by decide)]
theorem ents_a : Ents [(⟨(⟨#[97]⟩ : ByteArray), 3⟩ : EnS)] := by
  refine ⟨fun x hx => ?_, by decide, by decide⟩
  rw [List.mem_singleton.1 hx]
  decide
theorem build_a : build [[97]] = [(true, []), (false, [(97, 0)])] := by
  simp [build, finish, add, Daw.start, leave, common, num, ends]
theorem shown16 : Ev manteletlaw16_shown.f true := by
  unfold manteletlaw16_shown.f
  refine Ev.bind (make_ev ents_nil) (Ev.bind (ents_nil.encoded (by decide)) (Ev.bind (make_ev ents_a) ?_))
  have e1 : ((build (wordsN (Wl []))).map toS).length = 1 := by
    rw [show wordsN (Wl []) = [] from rfl, build_nil]; rfl
  have e2 : ((build (wordsN (Wl [(⟨(⟨#[97]⟩ : ByteArray), 3⟩ : EnS)]))).map toS).length = 2 := by
    rw [show wordsN (Wl [(⟨(⟨#[97]⟩ : ByteArray), 3⟩ : EnS)]) = [[97]] from by decide, build_a]; rfl
  refine Ev.congr (f := fun _ => some true) (fun k => ?_) (Ev.now _)
  dsimp only
  rw [if_pos rfl, if_pos rfl, if_pos rfl, if_pos (by rw [e1]; rfl), if_pos (by rw [zs_len, dict_nil_len]; rfl), if_pos (by rw [e2]; rfl), if_pos (by rw [Cl_len]; rfl), if_pos (by rw [Cl_len]; decide)]
  rfl
end Go.Proofs.Ytgebhidpkcjpmaa.K

namespace Go.Proofs.Ytgebhidpkcjpmaa.PFileOnes
open Go.RowKit Go.Proofs.YtgebhidpkcjpmaaW.PrintWords Go.Proofs.YtgebhidpkcjpmaaW.PrintLast Go.Proofs.YtgebhidpkcjpmaaW.PrintMore Go.Proofs.Ytgebhidpkcjpmaa.K Go.Proofs.Ytgebhidpkcjpmaa.PDk Go.Proofs.Ytgebhidpkcjpmaa.PDm Go.Proofs.Ytgebhidpkcjpmaa.PEn Go.Proofs.Ytgebhidpkcjpmaa.PFl Go.Proofs.Ytgebhidpkcjpmaa.PIx Go.Proofs.Ytgebhidpkcjpmaa.PLg Go.Proofs.Ytgebhidpkcjpmaa.PMk Go.Proofs.Ytgebhidpkcjpmaa.PR13
attribute [local go_sem] max2_int min2_int max_two min_two max_three min_three max_four min_four   -- for this text's walks alone
set_option linter.unusedVariables false
set_option linter.unusedSimpArgs false



def errW : Option Int → Value
  | none => .nilIface
  | some c => .iface 0 (.int .i64 c)
theorem errW_none : errW none = .nilIface := rfl
theorem errW_some (c : Int) : errW (some c) = .iface 0 (.int .i64 c) := rfl

end Go.Proofs.Ytgebhidpkcjpmaa.PFileOnes

namespace Go.Proofs.Ytgebhidpkcjpmaa.PFileOnes
open Go.RowKit Go.Proofs.YtgebhidpkcjpmaaW.PrintWords Go.Proofs.YtgebhidpkcjpmaaW.PrintLast Go.Proofs.YtgebhidpkcjpmaaW.PrintMore Go.Proofs.Ytgebhidpkcjpmaa.K Go.Proofs.Ytgebhidpkcjpmaa.PDk Go.Proofs.Ytgebhidpkcjpmaa.PDm Go.Proofs.Ytgebhidpkcjpmaa.PEn Go.Proofs.Ytgebhidpkcjpmaa.PFl Go.Proofs.Ytgebhidpkcjpmaa.PIx Go.Proofs.Ytgebhidpkcjpmaa.PLg Go.Proofs.Ytgebhidpkcjpmaa.PMk Go.Proofs.Ytgebhidpkcjpmaa.PR13
attribute [local go_sem] max2_int min2_int max_two min_two max_three min_three max_four min_four   -- for this text's walks alone
set_option linter.unusedVariables false
set_option linter.unusedSimpArgs false

theorem eqA49 (d : Nat) (w : World) (x0 y0 : ByteArray) (x1 y1 : Int) :
    (Op.equalIn (d + 2) 49 (.agg #[.string x0, .int .u64 x1]) (.agg #[.string y0, .int .u64 y1])).run Try.prog w = .ok (x0.toList == y0.toList && (x1 == y1)) w := by
  refine eqA_of Try.underlying49 (by kernel_rfl) ?_
  refine eqf_cons (by rfl) (by go_simp; rfl) (by go_simp; rfl) (by go_simp) ?_
  exact eqf_last (by rfl) (by go_simp; rfl) (by go_simp; rfl) (by go_simp)
end Go.Proofs.Ytgebhidpkcjpmaa.PFileOnes

