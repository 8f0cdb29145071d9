/- Plain laws that the statements on distances lean on. -/
import Derived.Test.YtbnjakihgmhpdaaFuzK
import Derived.Test.YtbnjakihgmhpdaaFuzRP
import Derived.Test.YtbnjakihgmhpdaaUtfE
import Derived.Test.YtbnjakihgmhpdaaPSh18x
namespace Go.Proofs.Ytbnjakihgmhpdaa.K
open Go.RowKit Go.Proofs.YtbnjakihgmhpdaaW.PrintWords Go.Proofs.YtbnjakihgmhpdaaW.PrintLast Go.Proofs.YtbnjakihgmhpdaaW.PrintMore Go.Proofs.Ytbnjakihgmhpdaa Go.Proofs.Ytbnjakihgmhpdaa.PFz Go.Proofs.Ytbnjakihgmhpdaa.PSh18
set_option linter.unusedVariables false
set_option linter.unusedSimpArgs false
theorem runesZ_le (s : ByteArray) : (Utf.runesZ s).length ≤ s.size := by
  unfold Utf.runesZ Utf.runesFrom
  rw [List.length_map, List.drop_zero]
  exact Nat.le_trans (Utf.all_length _) (by simp [Utf.nats])
theorem distF {a b : ByteArray} (ha : a.size < 1000000000) (hb : b.size < 1000000000) : fuzzy_Dist.f a b = some ((Lev.dist (Utf.runesZ a) (Utf.runesZ b) : Nat) : Int) := by
  unfold fuzzy_Dist.f; rw [if_pos ⟨ha, hb⟩]
theorem drow_next {t p L L' : List Int} {c : Int} (h : drow t p = L) (ht : t.length < 1000) (hp : p.length < 1000) (h2 : fuzzy_row.f (t.length + 1) L t c = some L') : drow t (p ++ [c]) = L' := by
  have := row_eq t p c (by omega) (by omega) (t.length + 1) (Nat.le_refl _)
  rw [h, h2] at this
  exact (Option.some.inj this).symm
theorem kitten : Lev.dist [107, 105, 116, 116, 101, 110] [115, 105, 116, 116, 105, 110, 103] = 3 := by
  have h0 : drow [107, 105, 116, 116, 101, 110] [] = [0, 1, 2, 3, 4, 5, 6] := by rw [iota_drow]; rfl
  have h1 := drow_next (c := 115) (L' := [1, 1, 2, 3, 4, 5, 6]) h0 (by decide) (by decide) (by decide +kernel)
  have h2 := drow_next (c := 105) (L' := [2, 2, 1, 2, 3, 4, 5]) h1 (by decide) (by decide) (by decide +kernel)
  have h3 := drow_next (c := 116) (L' := [3, 3, 2, 1, 2, 3, 4]) h2 (by decide) (by decide) (by decide +kernel)
  have h4 := drow_next (c := 116) (L' := [4, 4, 3, 2, 1, 2, 3]) h3 (by decide) (by decide) (by decide +kernel)
  have h5 := drow_next (c := 105) (L' := [5, 5, 4, 3, 2, 2, 3]) h4 (by decide) (by decide) (by decide +kernel)
  have h6 := drow_next (c := 110) (L' := [6, 6, 5, 4, 3, 3, 2]) h5 (by decide) (by decide) (by decide +kernel)
  have h7 := drow_next (c := 103) (L' := [7, 7, 6, 5, 4, 4, 3]) h6 (by decide) (by decide) (by decide +kernel)
  have := drow_get [107, 105, 116, 116, 101, 110] [115, 105, 116, 116, 105, 110, 103] 6 (by decide)
  rw [show ([115, 105, 116, 116, 105, 110, 103] : List Int) = (((((([] ++ [115]) ++ [105]) ++ [116]) ++ [116]) ++ [105]) ++ [110]) ++ [103] from rfl, h7] at this
  have e : rd [7, 7, 6, 5, 4, 4, 3] ((6 : Nat) : Int) = 3 := rfl
  rw [e] at this
  have : (3 : Int) = ((Lev.dist ([107, 105, 116, 116, 101, 110].take 6) [115, 105, 116, 116, 105, 110, 103] : Nat) : Int) := this
  rw [show ([107, 105, 116, 116, 101, 110] : List Int).take 6 = [107, 105, 116, 116, 101, 110] from rfl] at this
  omega
theorem runes_of {s : ByteArray} {l : List Int} (h : runesBytes l = s) (hl : l.map Utf.sane = l) : Utf.runesZ s = l := by rw [← h, Utf.runesZ_bytes, hl]
theorem shown18 : manteletlaw18_shown.f = some true := by
  have e1 : Utf.runesZ (⟨#[107, 105, 116, 116, 101, 110]⟩ : ByteArray) = [107, 105, 116, 116, 101, 110] := runes_of (by rfl) (by decide)
  have e2 : Utf.runesZ (⟨#[115, 105, 116, 116, 105, 110, 103]⟩ : ByteArray) = [115, 105, 116, 116, 105, 110, 103] := runes_of (by rfl) (by decide)
  have e3 : Utf.runesZ (⟨#[]⟩ : ByteArray) = [] := runes_of (by rfl) (by decide)
  have e4 : Utf.runesZ (⟨#[195, 164]⟩ : ByteArray) = [228] := runes_of (by rfl) (by decide)
  unfold manteletlaw18_shown.f
  rw [distF (by decide) (by decide), e1, e2, kitten]
  simp only [Option.bind_some]
  rw [if_pos (by decide), distF (by decide) (by decide), e3, e4, Lev.dist_nil_left]
  rfl
theorem runesL_app (l : List Int) (t : ByteArray) : Utf.runesZ (runesBytes l ++ t) = l.map Utf.sane ++ Utf.runesZ t := Utf.runesZ_append l t
theorem dist_front (u v : List Int) : Lev.dist u (u ++ v) = v.length := by
  have h1 := Lev.dist_append u u [] v
  rw [List.append_nil, Lev.dist_self, Lev.dist_nil_left] at h1
  have h2 := (Lev.dist_len u (u ++ v)).2
  rw [List.length_append] at h2
  omega
theorem dist_behind (u v : List Int) : Lev.dist (v ++ u) u = v.length := by
  have h1 := Lev.dist_append v [] u u
  rw [List.nil_append, Lev.dist_self, Lev.dist_nil_right] at h1
  have h2 := (Lev.dist_len (v ++ u) u).1
  rw [List.length_append] at h2
  omega
end Go.Proofs.Ytbnjakihgmhpdaa.K
