/- daw's builder in memory: a word is added. -/
import Derived.Maps.OwnSet
import Derived.Maps.OwnOps
import Derived.Test.YtebdcblchjhmpaaDawP
import Derived.Test.YtebdcblchjhmpaaDawK
import Derived.Test.YtebdcblchjhmpaaDawN
import Derived.Test.YtebdcblchjhmpaaDawV
import Derived.Test.YtebdcblchjhmpaaProg
import Derived.Below
import Derived.Deep.Draws
import Derived.Deep.AppendLies
import Derived.Maps.AppendAt
import Derived.OwnWalk
import Derived.Laws.BytesArg
import Derived.Laws.MakeOwn
import Derived.Laws.OwnMore
import Derived.Deep.OwnRows
import Derived.Tactics
import Derived.Lib.ConvBytes
import Derived.Laws.Slices
import Derived.WalkKit
import Derived.KernelRfl
import Derived.RowKit3
import Derived.Deep.LoopGhost
import Derived.Deep.QuietTactic
import Derived.BigQuiet
import Derived.WideLaws
import Derived.Deep.DeepCutAuto
import Derived.Deep.CutBlock
import Derived.Deep.RegionHeld3
import Derived.Laws.Rows
import Derived.Lib.AppendStr
import Derived.ArgAppend
import Derived.Laws.IdiomCopy
import Derived.OrdersHeld
import Derived.Laws.BitsLemmas
import Derived.RowKit
import Derived.Lib.OthersKept
import Derived.WalkSmall
import Derived.Deep.RegionLaw
import Derived.BigRegion
import Derived.Test.YtebdcblchjhmpaaWWords
import Derived.Test.YtebdcblchjhmpaaWLast
import Derived.Test.YtebdcblchjhmpaaWTab
import Derived.Test.YtebdcblchjhmpaaWFour
import Derived.Test.YtebdcblchjhmpaaWQPut
import Derived.Test.YtebdcblchjhmpaaWApart
import Derived.Test.YtebdcblchjhmpaaWArr
import Derived.Test.YtebdcblchjhmpaaWZeros
import Derived.Test.YtebdcblchjhmpaaWFoot
import Derived.Test.YtebdcblchjhmpaaWKept
import Derived.Test.YtebdcblchjhmpaaWShare
import Derived.Test.YtebdcblchjhmpaaWN
import Derived.Test.YtebdcblchjhmpaaWFootNe
import Derived.Test.YtebdcblchjhmpaaWAt
import Derived.Test.YtebdcblchjhmpaaWEqStruct
import Derived.Test.YtebdcblchjhmpaaWRepsOne
import Derived.Test.YtebdcblchjhmpaaWInv
import Derived.Test.YtebdcblchjhmpaaWInvWords
import Derived.Test.YtebdcblchjhmpaaWGuard
import Derived.Test.YtebdcblchjhmpaaWNEv
import Derived.Test.YtebdcblchjhmpaaWMore
import Derived.Test.YtebdcblchjhmpaaInfo
import Derived.Test.YtebdcblchjhmpaaUtf
import Derived.Test.YtebdcblchjhmpaaHelp
import Derived.Test.YtebdcblchjhmpaaHelp2
import Derived.Test.YtebdcblchjhmpaaHelp5
import Derived.Test.YtebdcblchjhmpaaUtfE
import Derived.Test.YtebdcblchjhmpaaPDkx
namespace Go.Proofs.Ytebdcblchjhmpaa.K
open Go.RowKit Go.Proofs.YtebdcblchjhmpaaW.PrintWords Go.Proofs.YtebdcblchjhmpaaW.PrintLast Go.Proofs.YtebdcblchjhmpaaW.PrintMore Go.Proofs.Ytebdcblchjhmpaa
attribute [local go_sem] max2_int min2_int max_two min_two max_three min_three max_four min_four
set_option linter.unusedVariables false
set_option linter.unusedSimpArgs false
open Go.Proofs.Ytebdcblchjhmpaa.PDk Go.Proofs.Ytebdcblchjhmpaa.Daw Go.Maps
theorem common_step (a b : List Nat) (n : Nat) (ha : n < a.length) (hb : n < b.length) (h : a.getD n 0 = b.getD n 0) : common (a.drop n) (b.drop n) = common (a.drop (n + 1)) (b.drop (n + 1)) + 1 := by
  rw [List.drop_eq_getElem_cons ha, List.drop_eq_getElem_cons hb, common]
  rw [List.getD_eq_getElem?_getD, List.getD_eq_getElem?_getD, List.getElem?_eq_getElem ha, List.getElem?_eq_getElem hb] at h
  rw [if_pos (by simpa using h)]
theorem common_stop (a b : List Nat) (n : Nat) (h : ¬ (n < a.length ∧ n < b.length) ∨ a.getD n 0 ≠ b.getD n 0) : common (a.drop n) (b.drop n) = 0 := by
  by_cases ha : n < a.length
  · by_cases hb : n < b.length
    · rw [List.drop_eq_getElem_cons ha, List.drop_eq_getElem_cons hb, common]
      rcases h with h | h
      · exact absurd ⟨ha, hb⟩ h
      · rw [List.getD_eq_getElem?_getD, List.getD_eq_getElem?_getD, List.getElem?_eq_getElem ha, List.getElem?_eq_getElem hb] at h
        rw [if_neg (by simpa using h)]
    · have e : b.drop n = [] := List.drop_eq_nil_of_le (by omega)
      rw [e]; cases a.drop n <;> rfl
  · have e : a.drop n = [] := List.drop_eq_nil_of_le (by omega)
    rw [e]; rfl
theorem nats_len (s : ByteArray) : (Utf.nats s).length = s.size := by simp [Utf.nats]
theorem leave_len (W : List Nat) (n : Nat) : ∀ (k : Nat) (left path : List DS), path.length = k → (leave W n left path).2.length = min path.length (n + 1)
  | 0, left, [], _ => by rw [leave]; simp
  | 1, left, [s], _ => by rw [leave]; simp
  | k + 2, left, s :: u :: r, hk => by
    rw [leave]
    by_cases h : n < r.length + 1
    · rw [if_pos h, leave_len W n (k + 1) _ _ (by simpa using hk)]
      simp only [List.length_cons]; omega
    · rw [if_neg h]; simp only [List.length_cons]; omega
theorem fit_add {B N : Nat} {lt pt0 : List DS} (h : Fit B lt pt0) (j : Nat) (hp : 0 < pt0.length) (hl : (List.replicate j ((false, []) : DS) ++ pt0).length = N + 1) : Fit (B + N + 1) lt (ends (List.replicate j ((false, []) : DS) ++ pt0)) := by
  obtain ⟨h1, h2⟩ := h
  have hel : ∀ p : List DS, (ends p).length = p.length := fun p => by cases p <;> rfl
  have hin : ∀ p : List DS, ∀ s ∈ ends p, ∃ t ∈ p, s.2 = t.2 := fun p s hs => by
    cases p with
    | nil => simp [ends] at hs
    | cons a r =>
      rcases List.mem_cons.1 hs with rfl | hs
      · exact ⟨a, by simp, rfl⟩
      · exact ⟨s, by simp [hs], rfl⟩
  refine ⟨by rw [hel, hl]; omega, fun s hs => ?_⟩
  rw [hel, hl]
  obtain ⟨t, ht, e⟩ := hin _ s hs
  have hok : OkS t ∧ t.2.length ≤ B := by
    rcases List.mem_append.1 ht with ht | ht
    · rw [List.eq_of_mem_replicate ht]
      exact ⟨fun e he => by simp at he, by simp⟩
    · have := h2 t ht
      exact ⟨this.1, by omega⟩
  refine ⟨fun x hx => hok.1 x (by rw [← e]; exact hx), ?_⟩
  rw [e]
  have := hok.2
  omega
theorem drewN_below {w : World} {b : Nat} (q : Nat) : Below b w (w.drewN q) := pw_below_drewN (Below.refl _ _) q
theorem Bd_drewN {w : World} {base g bm : Nat} {left path : List DS} {word : ByteArray} (h : Bd w base g bm left path word) (q : Nat) : Bd (w.drewN q) base g bm left path word := by
  obtain ⟨vL, vP, okL, okP, m, D, hg, hm, hml, hD, hL, hP, hLP⟩ := h
  have e : ∀ k : Nat, (w.drewN q).heap[k]? = w.heap[k]? := fun k => rfl
  exact ⟨vL, vP, okL, okP, m, D, (e g).trans hg, map_move hm (e bm), hml, hD, Kd.S_drewN hL q, Kd.S_drewN hP q, hLP⟩
/-- What add leaves. -/
def AddQ (base g bm B : Nat) (left path : List DS) (word new : ByteArray) (w w' : World) : Prop :=
  ∀ X, add ⟨left, path, Utf.nats word⟩ (Utf.nats new) = X → Bd w' base g bm X.left X.path new ∧ Fit (B + new.size + 1) X.left X.path ∧ X.path.length = new.size + 1 ∧ Below base w w'
set_option maxHeartbeats 4000000 in
set_option maxRecDepth 100000 in
theorem add_k (base g bm B : Nat) (left path : List DS) (word new : ByteArray) (w : World) (h : Bd w base g bm left path word) (hf : Fit B left path) (hB : B + new.size + 1 ≤ 1000000) (hb : base ≤ w.heap.size) (hbg : base ≤ g) (hbm : base ≤ bm)
    (hw : path.length = word.size + 1) (hws : word.size ≤ 1000000) :
    Calls Try.prog 32 #[.pointer (some ⟨g, 0, none⟩), .string new] w fun e w' => e = .returned (.tuple #[]) ∧ AddQ base g bm B left path word new w w' := by
  have H0 := Aside0.mk h; have F0 := Aside0.mk hf; have HB := Aside0.mk hB; have HBS := Aside0.mk hb; have HBG := Aside0.mk hbg; have HBM := Aside0.mk hbm; have HW := Aside0.mk hw; have HWS := Aside0.mk hws
  clear h hf hB hb hbg hbm hw hws
  obtain ⟨vL, vP, okL, okP, m, D, hg, hm, hml, hD, hL, hP, hLP⟩ := H0.out
  have huS := Try.underlying31
  have huE := Try.underlying33
  have g3 : ∀ w' : World, w'.heap[g]? = w.heap[g]? → w'.cell? ⟨g, 3, none⟩ = some (.string word) := fun w' e => (blk_cell (e.trans hg) 3).trans rfl
  have G3 := Aside0.mk g3
  have HBw0 : w.heap.size ≤ w.heap.size := Nat.le_refl _
  clear hg hm hml hD hL hP hLP g3 HBw0
  have hnb := HB.out; have hwb := HWS.out
  have hns : (new.size : Int) ≤ 1000000 := by omega
  have hws : (word.size : Int) ≤ 1000000 := by omega
  clear hnb hwb
  go_enter Try.func32, Try.ntmps32
  go_upto_block 0 with fail
  go_cut [4] from 5 to 28 (fun s4 wx => ∃ n : Nat, s4 = .int .i64 n ∧ Aside0 (common (Utf.nats new) (Utf.nats word) = n) ∧ Aside0 (∃ q, wx = w.drewN q))
  case first =>
    go_wp2
    go_loopg [4] new.size (fun gg v4 wr => ∃ n : Nat, v4 = .int .i64 n ∧ Aside0 (n ≤ new.size ∧ n ≤ word.size ∧ new.size ≤ gg + n) ∧ Aside0 (common (Utf.nats new) (Utf.nats word) = common ((Utf.nats new).drop n) ((Utf.nats word).drop n) + n) ∧ Aside0 (∃ q, wr = w.drewN q))
    case atStart => exact ⟨0, rfl, ⟨by omega, by omega, by omega⟩, ⟨by simp⟩, ⟨0, rfl⟩⟩
    case round =>
      obtain ⟨n, rfl, hn, hcm, hwr⟩ := hrel
      have e3 : ∀ q, (wr.drewN q).cell? ⟨g, 3, none⟩ = some (.string word) := fun q => G3.out _ (by obtain ⟨q2, rfl⟩ := hwr.out; rfl)
      have e30 : wr.cell? ⟨g, 3, none⟩ = some (.string word) := e3 0
      by_cases hc : n < new.size ∧ n < word.size
      · have h0 : (0 : Int) ≤ (n : Int) := by omega
        have h1 : (n : Int) < (new.size : Int) := by omega
        have h2 : (n : Int) < (word.size : Int) := by omega
        have h3 : n < new.size := hc.1
        have h4 : n < word.size := hc.2
        have hb1 := byte_nat new n h3
        have hb2 := byte_nat word n h4
        have hcb : decide (n < word.size) = true := decide_eq_true h4
        have hcb2 : decide (n < new.size) = true := decide_eq_true h3
        have HC := Aside0.mk hc
        clear hc
        by_cases he : (Utf.nats new).getD n 0 = (Utf.nats word).getD n 0
        · have hbe : (((new[n]'h3).toNat : Int) == ((word[n]'h4).toNat : Int)) = true := by rw [hb1, hb2, he]; exact beq_self_eq_true _
          have hst := Aside0.mk (common_step (Utf.nats new) (Utf.nats word) n (by rw [nats_len]; exact h3) (by rw [nats_len]; exact h4) he)
          clear hb1 hb2 he
          by_cases hmn : word.size < new.size
          all_goals
            go_wp2
            go_quiet (fail)
            go_wp2
            go_roundg (new.size - (n + 1))
            case measure => have := hn.out; have := HC.out; omega
            case rel =>
              refine ⟨n + 1, ?_, ⟨?_⟩, ⟨?_⟩, ⟨?_⟩⟩
              · exact congrArg (Value.int .i64) (by omega)
              · have := hn.out; have := HC.out; omega
              · rw [hcm.out, hst.out]; omega
              · obtain ⟨q, rfl⟩ := hwr.out; exact ⟨q + nq, by rw [World.drewN_drewN]⟩
        · have hbe : (((new[n]'h3).toNat : Int) == ((word[n]'h4).toNat : Int)) = false := by rw [hb1, hb2]; exact beq_eq_false_iff_ne.2 (by omega)
          have hst := Aside0.mk (common_stop (Utf.nats new) (Utf.nats word) n (Or.inr he))
          clear hb1 hb2 he
          by_cases hmn : word.size < new.size
          all_goals
            go_wp2
            go_quiet (fail)
            go_wp2
            go_meet
            exact ⟨n, rfl, ⟨by rw [hcm.out, hst.out]; omega⟩, ⟨by obtain ⟨q, rfl⟩ := hwr.out; exact ⟨q + nq, by rw [World.drewN_drewN]⟩⟩⟩
      · have hst := Aside0.mk (common_stop (Utf.nats new) (Utf.nats word) n (Or.inl (by rw [nats_len, nats_len]; exact hc)))
        have hn1 := hn.out
        have hcx := Aside0.mk hc
        clear hc
        by_cases hmn : word.size < new.size
        · have hcb : decide (n < word.size) = false := decide_eq_false (fun h => hcx.out ⟨by omega, h⟩)
          go_wp2
          go_quiet (fail)
          go_wp2
          go_meet
          exact ⟨n, rfl, ⟨by rw [hcm.out, hst.out]; omega⟩, ⟨by obtain ⟨q, rfl⟩ := hwr.out; exact ⟨q + nq, by rw [World.drewN_drewN]⟩⟩⟩
        · have hcb : decide (n < new.size) = false := decide_eq_false (fun h => hcx.out ⟨h, by omega⟩)
          go_wp2
          go_quiet (fail)
          go_wp2
          go_meet
          exact ⟨n, rfl, ⟨by rw [hcm.out, hst.out]; omega⟩, ⟨by obtain ⟨q, rfl⟩ := hwr.out; exact ⟨q + nq, by rw [World.drewN_drewN]⟩⟩⟩
  case rest =>
    obtain ⟨n, rfl, hcn, hwx⟩ := hcut
    obtain ⟨q, rfl⟩ := hwx.out
    have H1 := Aside0.mk (Bd_drewN H0.out q)
    clear H0 G3 hwx
    have hbs1 : base ≤ (w.drewN q).heap.size := HBS.out
    have HBS1 := Aside0.mk hbs1
    have hbw0 := Aside0.mk (drewN_below (w := w) (b := base) q)
    clear hbs1
    have hn1 : n ≤ 1000000 := by have h1 := (common_le (Utf.nats new) (Utf.nats word)).1; rw [nats_len] at h1; have h2 := hcn.out; omega
    have HN := Aside0.mk hn1
    clear hn1
    generalize w.drewN q = wa at H1 HBS1 hbw0 ⊢
    go_wp2_with (first | (go_at_call 33; (with_reducible refine ((leave_k base g bm B n left path word wa H1.out F0.out (by have := HB.out; omega) HBS1.out HBG.out HBM.out HN.out (Nat.le_of_eq HW.out) HWS.out)).mono ?_)))
    (first | rintro e w1 rfl hq | rintro e w1 ⟨rfl, hq⟩)
    obtain ⟨lt, pt0, hX⟩ : ∃ lt pt, leave (Utf.nats word) n left path = (lt, pt) := ⟨_, _, rfl⟩
    have hpl := leave_len (Utf.nats word) n path.length left path rfl
    rw [hX] at hq hpl
    have HP0 : Aside0 (pt0.length ≤ new.size + 1 ∧ pt0.length ≤ word.size + 1 ∧ 0 < pt0.length) := ⟨by
      have h1 := (common_le (Utf.nats new) (Utf.nats word)).1; rw [nats_len] at h1; have h2 := hcn.out
      have h3 := HW.out
      simp only at hpl
      omega⟩
    have HXL := Aside0.mk hX
    obtain ⟨hb1, hf1, hw1⟩ := hq
    obtain ⟨vL, vP, okL, okP, m, D, hg, hm, hml, hD, hL, hP, hLP⟩ := hb1
    have HG := Aside0.mk hg; have HM := Aside0.mk hm; have HML := Aside0.mk hml; have HD := Aside0.mk hD; have HL := Aside0.mk hL; have HP := Aside0.mk hP; have HLP := Aside0.mk hLP
    have HF1 := Aside0.mk hf1; have HBw1 := Aside0.mk (hbw0.out.trans hw1)
    have f3 := blk_frozen HG.out 3
    have e3 : w1.cell? ⟨g, 3, none⟩ = some (.string word) := (blk_cell HG.out 3).trans rfl
    clear hpl hX hg hm hml hD hL hP hLP hf1 hw1 H1 HBS1 hbw0
    go_wp2
    have HB2 : Aside0 (Bd (w1.setCell ⟨g, 3, none⟩ (.string new)) base g bm lt pt0 new) := ⟨⟨vL, vP, _, _, m, D, blk_put HG.out 3 (.string new) rfl, map_move HM.out (Below.heap_setCell w1 ⟨g, 3, none⟩ (.string new) bm (Ne.symm (map_cells HM.out HG.out))), HML.out, HD.out, Kd.S_mono (Kd.S_set HL.out HG.out (by decide) 3 (.string new)) (fun k hk => hk), Kd.S_mono (Kd.S_set HP.out HG.out (by decide) 3 (.string new)) (fun k hk => hk), HLP.out⟩⟩
    have HBw2 := Aside0.mk (HBw1.out.setCell (p := ⟨g, 3, none⟩) HBG.out (.string new))
    clear HG HM HML HD HL HP HLP HBw1 f3 e3
    generalize w1.setCell ⟨g, 3, none⟩ (.string new) = w2 at HB2 HBw2 ⊢
    go_loopg [] (new.size + 1) (fun gg wr => ∃ (pt : List DS), Aside0 (Bd wr base g bm lt pt new) ∧ Aside0 (∃ j, pt = List.replicate j ((false, []) : DS) ++ pt0) ∧ Aside0 (pt.length ≤ new.size + 1 ∧ new.size + 1 ≤ gg + pt.length) ∧ Aside0 (Below base w wr))
    case atStart => exact ⟨pt0, HB2, ⟨0, by simp⟩, ⟨by have := HP0.out; omega⟩, HBw2⟩
    case round =>
      obtain ⟨pt, H, hj, hl, hbw⟩ := hrel
      obtain ⟨vL, vP, okL, okP, m, D, hg, hm, hml, hD, hL, hP, hLP⟩ := H.out
      obtain ⟨AP, cP, hvP⟩ := Kd.S_slice hP
      rw [List.length_map, List.length_reverse] at hvP
      obtain ⟨L, hL0⟩ : ∃ L, L = pt.length := ⟨_, rfl⟩
      rw [← hL0] at hvP
      subst hvP
      have hbsz : base ≤ wr.heap.size := Nat.le_trans HBS.out hbw.out.size
      have hlt := blk_lt hg
      have hLb := Kd.S_mono (Kd.S_bound hL) (ok' := fun k => okL k ∧ k < wr.heap.size ∧ k ≠ bm) (fun k hk => ⟨hk.1, hk.2.2.1, by obtain ⟨_, _, cells, hc⟩ := hk.2.2.2; exact map_cells hm hc⟩)
      have hPb := Kd.S_mono (Kd.S_bound hP) (ok' := fun k => okP k ∧ k < wr.heap.size ∧ k ≠ bm) (fun k hk => ⟨hk.1, hk.2.2.1, by obtain ⟨_, _, cells, hc⟩ := hk.2.2.2; exact map_cells hm hc⟩)
      have HG := Aside0.mk hg; have HL := Aside0.mk hLb; have HP := Aside0.mk hPb; have HM := Aside0.mk hm
      have HML := Aside0.mk hml; have HLP := Aside0.mk hLP; have HSZ := Aside0.mk hbsz; have HL0 := Aside0.mk hL0; have HD := Aside0.mk hD; have HGL := Aside0.mk hlt
      have hmlt := Aside0.mk hm.lt
      clear hg hL hP hLb hPb hm hml hLP hbsz H hL0 hD hlt
      have e2 : wr.cell? ⟨g, 2, none⟩ = some (.slice AP L cP) := (blk_cell HG.out 2).trans rfl
      have f2 := blk_frozen HG.out 2
      have hbb := HB.out
      by_cases hc : L ≤ new.size
      · have hcb : decide (L ≤ new.size) = true := decide_eq_true hc
        have hcb2 : decide ((L : Int) ≤ (new.size : Int)) = true := decide_eq_true (by omega)
        have HLL : Aside0 (L ≤ 1000000) := ⟨by omega⟩
        clear hbb
        go_wp2_with ((with_reducible refine gate_builtin (b := .append) (xs := #[.tmp 48, .tmp 50]) rfl ?_); at_builtin; refine Kd.S_append (k31) (w0 := w) base rfl (.tmp 48) (.tmp 50) 25 31 (.agg #[(.bool false), (.slice none 0 0)]) 32 rfl Try.underlying25 info31 rfl (by decide) (by omega) (.slice AP L cP) (pt.reverse.map toS) (toS (false, [])) [.bool false, .slice none 0 0] (fun k => okP k ∧ k ≠ bm ∨ wr.heap.size ≤ k) (fun _ => False) rfl rfl (k31_mkM _ _ _ (toS (false, [])) (Kd.R_nil _ _ _ _ _)) (fun _ h => h.elim) (fun k hk => Or.inr hk) (Kd.S_mono HP.out (fun k hk => ⟨Or.inl ⟨hk.1, hk.2.2⟩, fun h => h⟩)) hbw.out HSZ.out (by have h1 := HLL.out; have h2 := HL0.out; rw [List.length_map, List.length_reverse, ← h2]; omega) ?_)
        intro v1 w3 hS3 hb3 hg3 hat3
        have hgB := Kd.own_other2 (Kd.S_R HP.out) HG.out (by decide)
        have hmB : some bm ≠ (Value.slice AP L cP).ownBlock := fun e => ((Kd.S_R HP.out).1 bm e.symm).2.2 rfl
        have HG3 := Aside0.mk (blk_grown HG.out hg3 hgB)
        have HM3 := Aside0.mk (HM.out.kept hg3 hmB)
        have HL3 := Aside0.mk (Kd.S_grown HL.out hg3 (fun k hk e => HLP.out k hk.1 ((Kd.S_R HP.out).1 k e.symm).1))
        obtain ⟨A3, M3, c3, hv3⟩ : ∃ A3 M3 c3, v1 = .slice A3 M3 c3 := by obtain ⟨A3, c3, h⟩ := Kd.S_slice hS3; exact ⟨_, _, _, h⟩
        subst hv3
        have HS3 := Aside0.mk hS3
        have HB3 := Aside0.mk hb3
        have f2 := blk_frozen HG3.out 2
        have e2 : w3.cell? ⟨g, 2, none⟩ = some (.slice AP L cP) := (blk_cell HG3.out 2).trans rfl
        clear hS3 hb3 hg3 hat3 hgB hmB HG HM HL HP
        go_wp2
        have HG4 := blk_put HG3.out 2 (.slice A3 M3 c3) rfl
        have HM4 := map_move HM3.out (Below.heap_setCell w3 ⟨g, 2, none⟩ (.slice A3 M3 c3) bm (Ne.symm (map_cells HM3.out HG3.out)))
        have HL4 := Kd.S_set HL3.out HG3.out (by decide) 2 (.slice A3 M3 c3)
        have HS4 := Kd.S_set HS3.out HG3.out (by decide) 2 (.slice A3 M3 c3)
        have HB4 := HB3.out.setCell (p := ⟨g, 2, none⟩) HBG.out (.slice A3 M3 c3)
        go_roundg (new.size - L)
        case measure => have h1 := hl.out; have h2 := HL0.out; omega
        case rel =>
          refine ⟨(false, []) :: pt, ⟨⟨_, _, _, fun k => okP k ∧ ¬ k = bm ∨ wr.heap.size ≤ k, m, D, HG4, HM4, HML.out, HD.out, HL4, ?_, ?_⟩⟩, ⟨?_⟩, ⟨by have h2 := HL0.out; simp only [List.length_cons]; omega⟩, ⟨HB4⟩⟩
          · have e : ((((false, []) : DS) :: pt).reverse).map toS = (pt.map toS).reverse ++ [toS (false, [])] := by rw [List.reverse_cons, List.map_append, List.map_reverse]; rfl
            rw [e]
            exact Kd.S_mono HS4 (fun k hk => hk)
          · rintro k h1 (h2 | h2)
            · exact HLP.out k h1.1 h2.1
            · have := h1.2.1; omega
          · obtain ⟨j, rfl⟩ := hj.out
            exact ⟨j + 1, by rw [List.replicate_succ]; rfl⟩
      · have hcb : decide (L ≤ new.size) = false := decide_eq_false hc
        have hcb2 : decide ((L : Int) ≤ (new.size : Int)) = false := decide_eq_false (by omega)
        obtain ⟨s, r, rfl⟩ : ∃ s r, pt = s :: r := by
          obtain ⟨j, rfl⟩ := hj.out
          cases j with
          | zero => cases pt0 with
            | nil => have := HP0.out.2.2; simp at this
            | cons a r => exact ⟨a, r, by simp⟩
          | succ j => exact ⟨_, _, by rw [List.replicate_succ, List.cons_append]⟩
        have hln : L = new.size + 1 := by have h1 := hl.out.1; have h2 := HL0.out; omega
        have hrn : r.length = new.size := by have h2 := HL0.out; simp only [List.length_cons] at h2; omega
        have hPlen : ((s :: r).reverse.map toS).length = L := by rw [List.length_map, List.length_reverse]; exact HL0.out.symm
        obtain ⟨gP, cP', hvP, hgPb, hgPl, cellsP, hgPc⟩ := Kd.S_form HP.out (by rw [hPlen]; omega)
        rw [hPlen] at hvP
        injection hvP with hA _ hcc
        subst hA; subst hcc
        have hx0 : (0 : Int) ≤ (new.size : Int) := by omega
        have hx1 : (new.size : Int) < (L : Int) := by omega
        obtain ⟨oki, cs, hcl, hcM, hce, hfr, hoki, hH⟩ := Kd.S_elem HP.out ⟨false, []⟩ (new.size : Int) hx0 hx1
        have hr0 := rev_get0 s r ⟨false, []⟩
        rw [hrn] at hr0
        rw [Int.toNat_natCast] at hcM hce hfr
        rw [hr0] at hcM
        obtain ⟨vE, rfl, hE⟩ := k31_openM hcM
        have hz0 : wr.cell? ⟨gP, new.size * 2, none⟩ = some (.bool s.1) := hce 0 _ rfl
        have hz1 : wr.frozen? ⟨gP, new.size * 2, none⟩ = false := hfr 0
        have HE := Aside0.mk hE; have HH := Aside0.mk hH; have HOK := Aside0.mk hoki; have HLN := Aside0.mk hln; have HRN := Aside0.mk hrn; have HGPC := Aside0.mk hgPc
        clear hcl hcM hce hfr hoki hH hE hr0 hPlen hln hrn hbb hgPc f2
        go_wp2
        go_end0
        refine ⟨rfl, ?_⟩
        unfold AddQ
        rintro X rfl
        obtain ⟨j, hj2⟩ := hj.out
        have hjn : j = new.size + 1 - pt0.length := by
          have h1 := congrArg List.length hj2
          rw [List.length_append, List.length_replicate] at h1
          have h2 := HRN.out; have h3 := HP0.out
          simp only [List.length_cons] at h1
          omega
        have hX : add ⟨left, path, Utf.nats word⟩ (Utf.nats new) = ⟨lt, (true, s.2) :: r, Utf.nats new⟩ := by
          unfold add
          simp only [hcn.out, HXL.out, nats_len]
          rw [← hjn, ← hj2]
          rfl
        rw [hX]
        have hM5 : (k31).M wr base oki (toS (true, s.2)) ([Value.bool (toS s).f0, vE].take 0 ++ [Value.bool true] ++ [Value.bool (toS s).f0, vE].drop (0 + 1)) :=
          k31_mkM _ _ _ _ HE.out
        have hH5 := Kd.H_mono HH.out (ok' := fun k => (okP k ∧ k < wr.heap.size ∧ k ≠ bm) ∧ ¬ False) (fun k hk => ⟨hk, fun h => h⟩)
        obtain ⟨hS5, hg5⟩ := Kd.S_seg (okg := fun _ => False) hH5 hx0 hx1 (seg := [Value.bool true]) (j := 0) (Nat.le_succ 1) hM5 (fun k hk => Or.inl hk) (fun k hk => hk.elim)
        have e5 : wr.setCells gP ((new.size : Int).toNat * (k31).sz + 0) [Value.bool true] = wr.setCell ⟨gP, new.size * 2, none⟩ (Value.bool true) := by rw [Int.toNat_natCast]; rfl
        rw [e5, Int.toNat_natCast, ← HRN.out, rev_set, HRN.out] at hS5
        rw [e5] at hg5
        have hgm : gP ≠ bm := ((Kd.S_R HP.out).1 gP (by simp [Value.ownBlock])).2.2
        have hgg : gP ≠ g := by rintro rfl; have h1 := HGPC.out; rw [HG.out] at h1; injection h1 with h1; injection h1 with _ h1; exact absurd h1 (by decide)
        have hgo : okP gP := ((Kd.S_R HP.out).1 gP (by simp [Value.ownBlock])).1
        have HG5 := blk_grown HG.out hg5 (fun e => hgg (by injection e with e; exact e.symm))
        have HM5 := HM.out.kept hg5 (fun e => hgm (by injection e with e; exact e.symm))
        have HL5 := Kd.S_grown HL.out hg5 (fun k hk e => HLP.out k hk.1 (by injection e with e; rw [e]; exact hgo))
        have HB5 := hbw.out.grown hg5 (Nat.le_trans HBS.out hbw.out.size) (fun k hk => by injection hk with hk; rw [← hk]; exact hgPb)
        refine ⟨⟨_, _, _, _, m, D, HG5, HM5, HML.out, HD.out, HL5, hS5, fun k h1 h2 => HLP.out k h1.1 h2.1⟩, ?_, ?_, HB5⟩
        · have := fit_add (N := new.size) HF1.out j HP0.out.2.2 (by rw [← hj2]; simp only [List.length_cons]; rw [HRN.out])
          rw [← hj2] at this
          exact this
        · show ((true, s.2) :: r).length = _
          rw [List.length_cons, HRN.out]
end Go.Proofs.Ytebdcblchjhmpaa.K
