/- ConfChecks. (The texts that the proof is made of, one behind the other: part 4 of 10.) -/
import Derived.Test.YtkkkfgnaojhmeaaProg
import Derived.Below
import Derived.Deep.Draws
import Derived.Deep.AppendLies
import Derived.Maps.AppendAt
import Derived.OwnWalk
import Derived.Laws.BytesArg
import Derived.Laws.MakeOwn
import Derived.Laws.OwnMore
import Derived.Deep.OwnRows
import Derived.Tactics
import Derived.Lib.ConvBytes
import Derived.Laws.Slices
import Derived.WalkKit
import Derived.KernelRfl
import Derived.RowKit3
import Derived.Deep.LoopGhost
import Derived.Deep.QuietTactic
import Derived.BigQuiet
import Derived.WideLaws
import Derived.Deep.DeepCutAuto
import Derived.Deep.CutBlock
import Derived.Deep.RegionHeld3
import Derived.Laws.Rows
import Derived.Lib.AppendStr
import Derived.ArgAppend
import Derived.Laws.IdiomCopy
import Derived.OrdersHeld
import Derived.Laws.BitsLemmas
import Derived.RowKit
import Derived.Lib.OthersKept
import Derived.WalkSmall
import Derived.Deep.RegionLaw
import Derived.BigRegion
import Derived.Shelf.SlSortCmp.NoneTotal
import Derived.Shelf.SlGeneric
import Derived.Shelf.Small.Strs
import Derived.Ground.SlsfProg
import Derived.Ground.NamesProg
import Derived.Lib.SliceRun
import Derived.Test.YtkkkfgnaojhmeaaZConfChecksa
import Derived.Test.YtkkkfgnaojhmeaaZConfChecksb
import Derived.Test.YtkkkfgnaojhmeaaZConfChecksc
namespace Go.Proofs.Ytkkkfgnaojhmeaa.K
open Go.RowKit Go.Proofs.YtkkkfgnaojhmeaaW.PrintWords Go.Proofs.YtkkkfgnaojhmeaaW.PrintLast Go.Proofs.YtkkkfgnaojhmeaaW.PrintMore Go.Proofs.Ytkkkfgnaojhmeaa
attribute [local go_sem] max2_int min2_int max_two min_two max_three min_three max_four min_four
set_option linter.unusedVariables false
set_option linter.unusedSimpArgs false
open Go.Proofs.Ytkkkfgnaojhmeaa.PTb Go.Proofs.Ytkkkfgnaojhmeaa.Tab
theorem tab_open {base g room : Nat} {F : Nat → Prop} {L : List En} {w : World} (h : TabF base g room F L w) : ∃ (Aa : Option Addr) (ca : Nat) (ar : List Int) (gs cs : Nat) (sl : List Sl),
    w.heap[g]? = some (.cells #[.int .i64 (room : Int), .int .i64 (L.length : Int), .slice Aa ar.length ca, .slice (some ⟨gs, 0, none⟩) sl.length cs] 48 (0, 0)) ∧ base ≤ g ∧ base ≤ gs ∧ gs ≠ g ∧
    Kd.R (Kd.int .u8) 5 w base (fun k => k ≠ g ∧ F k) (.slice Aa ar.length ca) ar ∧ Kd.R kSl 57 w base (fun k => k ≠ g ∧ F k) (.slice (some ⟨gs, 0, none⟩) sl.length cs) sl ∧ TabR room ar sl L ∧ 0 < sl.length ∧ sl.length ≤ 1000000 ∧ F g ∧ F gs := by
  obtain ⟨va, vs, ar, sl, h1, h2, h3, h4, h5⟩ := h
  have hsl : 0 < sl.length := by rw [h5.len]; have := h5.lo; omega
  have hslm : sl.length ≤ 1000000 := by rw [h5.len]; have := h5.hi; omega
  obtain ⟨Aa, ca, ea⟩ := Kd.R_slice h3
  subst ea
  obtain ⟨gs, cs, es, hgs, _, _⟩ := Kd.R_form h4 hsl
  subst es
  exact ⟨Aa, ca, ar, gs, cs, sl, h1, h2.1, hgs, (h4.1 gs rfl).1, h3, h4, h5, hsl, hslm, h2.2, (h4.1 gs rfl).2⟩
theorem u8_ne : ∀ q, q ∈ 5 :: (Kd.int .u8).E → q ≠ 57 := fun q hq => by
  rcases List.mem_cons.1 hq with rfl | hq
  · decide
  · have : q ∈ ([] : List Nat) := hq
    cases this
theorem ne_emp {word : ByteArray} (hne : Utf.nats word ≠ []) : word.toList.isEmpty = false := by
  cases hh : word.toList with
  | nil => exact absurd (by rw [ByteArray.toList_eq] at hh; unfold Utf.nats; rw [hh]; rfl) hne
  | cons a l => rfl
/-- The slot p stored anew: its count alone. -/
theorem slots_cnt {w : World} {base gs cs : Nat} {ok : Nat → Prop} {sl : List Sl} (h : Kd.R kSl 57 w base ok (.slice (some ⟨gs, 0, none⟩) sl.length cs) sl) {p : Nat} (hp : p < sl.length) {s : Sl} (hs : sl.getD p zSl = s)
    (hcc : ∀ j u, ([.int .i64 s.f0, .int .i64 s.f1, .int .u64 s.f2] : List Value)[j]? = some u → w.cell? ((⟨gs, 0, none⟩ : Addr).add (p * 3 + j)) = some u) (c : Int) :
    Kd.R kSl 57 (w.setCell ⟨gs, p * 3 + 2, none⟩ (.int .u64 c)) base ok (.slice (some ⟨gs, 0, none⟩) sl.length cs) (sl.set p ⟨s.f0, s.f1, c⟩) := by
  have hq := (Kd.R_seg h (p : Int) (by omega) (by omega) (c := [.int .i64 s.f0, .int .i64 s.f1, .int .u64 s.f2]) (seg := [.int .u64 c]) (j := 2) rfl (fun j u hj => by have := hcc j u hj; rw [add_plain] at this; rw [Int.toNat_natCast]; exact this) (by exact Nat.le_refl 3) (x' := ⟨s.f0, s.f1, c⟩) (okp := fun _ => False) (kSl_mkM _ _ _ _) (fun _ hk => hk.elim)).1
  rw [Int.toNat_natCast] at hq
  exact hq
/-- The slot p stored anew, all of it. -/
theorem slots_all {w : World} {base gs cs : Nat} {ok : Nat → Prop} {sl : List Sl} (h : Kd.R kSl 57 w base ok (.slice (some ⟨gs, 0, none⟩) sl.length cs) sl) {p : Nat} (hp : p < sl.length) {s : Sl} (hs : sl.getD p zSl = s)
    (hcc : ∀ j u, ([.int .i64 s.f0, .int .i64 s.f1, .int .u64 s.f2] : List Value)[j]? = some u → w.cell? ((⟨gs, 0, none⟩ : Addr).add (p * 3 + j)) = some u) (a b c : Int) :
    Kd.R kSl 57 (w.setCells gs (p * 3) [.int .i64 a, .int .i64 b, .int .u64 c]) base ok (.slice (some ⟨gs, 0, none⟩) sl.length cs) (sl.set p ⟨a, b, c⟩) := by
  have hq := (Kd.R_seg h (p : Int) (by omega) (by omega) (c := [.int .i64 s.f0, .int .i64 s.f1, .int .u64 s.f2]) (seg := [.int .i64 a, .int .i64 b, .int .u64 c]) (j := 0) rfl (fun j u hj => by have := hcc j u hj; rw [add_plain] at this; rw [Int.toNat_natCast]; exact this) (by exact Nat.le_refl 3) (x' := ⟨a, b, c⟩) (okp := fun _ => False) (kSl_mkM _ _ _ _) (fun _ hk => hk.elim)).1
  rw [Int.toNat_natCast] at hq
  exact hq
theorem cells_below {w w1 : World} (hb : Below w.heap.size w w1) {f : Nat → Addr} (cs : List Value) (h : ∀ (j : Nat) (u : Value), cs[j]? = some u → w.cell? (f j) = some u) : ∀ (j : Nat) (u : Value), cs[j]? = some u → w1.cell? (f j) = some u := fun j u hj => pw_cell_below hb (h j u hj)
set_option maxHeartbeats 4000000 in
set_option maxRecDepth 100000 in
theorem add_set (base g room : Nat) (F : Nat → Prop) (L : List En) (word : ByteArray) (n : Nat) (w : World) (h : TabF base g room F L w) (hwz : word.size ≤ 1048576) (hne : Utf.nats word ≠ []) (hn : n ≠ 0) (hov : getL L (Utf.nats word) + n ≤ 4611686018427387904) (hpos : 0 < getL L (Utf.nats word)) :
    Calls Try.prog 12 #[.pointer (some ⟨g, 0, none⟩), .string word, .int .u64 (n : Int)] w fun e w' => e = .returned (.int .i64 0) ∧ TabF base g room F (putL L (Utf.nats word) (getL L (Utf.nats word) + n)) w' ∧ Below base w w' ∧ Kept w w' F := by
  obtain ⟨Aa, ca, ar, gs, cs, sl, h1, hbg, hbs, hgs, h3, h4, h5, hsl, hslm, hfg, hfs⟩ := tab_open h
  obtain ⟨_, hca, hCa⟩ := Kd.R_reads' h3
  obtain ⟨_, hcs, hCs⟩ := Kd.R_reads' h4
  have hfind := find_k g _ _ Aa ca ar ⟨gs, 0, none⟩ cs sl word w h1 hCa hca hCs (fun s hs => (h5.ok s hs).1) hsl hslm (by omega) (tab_free h5 word)
  have HF := Aside0.mk hfind; have HC := Aside0.mk hCs; have H5 := Aside0.mk h5; have H1 := Aside0.mk h1; have H3 := Aside0.mk h3; have H4 := Aside0.mk h4
  have HBG := Aside0.mk (And.intro hbg (And.intro hbs hgs)); have HFF := Aside0.mk (And.intro hfg hfs)
  have hsz : base ≤ w.heap.size := by have := Kd.R_lt h4 gs rfl; omega
  have HSZ := Aside0.mk hsz
  have hemp := ne_emp hne
  have hnb : ((n : Int) == 0) = false := beq_eq_false_iff_ne.2 (by omega)
  have HOV := Aside0.mk (And.intro hov hpos)
  clear h h1 h3 h4 h5 hfind hCa hCs hca hcs hne hov hn hpos hbg hbs hgs hsl hslm hwz hsz hfg hfs
  go_enter Try.func12, Try.ntmps12
  go_wp2_with (first | (go_at_call 16; (with_reducible refine (HF.out).mono ?_)))
  rintro e w2 ⟨p, d, rfl, hp, hpd, he, hpast, hb⟩
  obtain ⟨ad2, cc, e0, _, hK, hcc⟩ := Kd.C_get (Kd.C_below HC.out hb) zSl (p : Int) (by omega) (by omega)
  cases e0
  rw [Int.toNat_natCast] at hK hcc
  have hg := find_get H5.out word p d hp hpd he hpast
  obtain ⟨s, hs⟩ : ∃ s, sl.getD p zSl = s := ⟨_, rfl⟩
  have hz : s.f2 ≠ 0 := by rw [← hs, hg]; have := HOV.out.2; omega
  have hw : slotW ar (sl.getD p zSl) = word := by
    rcases he with h | h
    · rw [hs] at h; exact absurd h hz
    · exact h
  have hset := tabR_set H5.out word p d hp hpd (by rw [hs]; exact hz) hw hpast (getL L (Utf.nats word) + n) (by have := HOV.out.2; omega) HOV.out.1
  have HSET := Aside0.mk hset
  have hadd := num_fits (a := getL L (Utf.nats word)) (n := n) HOV.out.1
  rw [← hg, hs] at hadd
  rw [hs] at hK
  obtain rfl := kSl_open hK
  have HCC := Aside0.mk hcc
  have HG := Aside0.mk hg; have HP := Aside0.mk hp; have HS := Aside0.mk hs
  have q2 : w2.cell? ⟨gs, p * 3 + 2, none⟩ = some (.int .u64 s.f2) := by have := hcc 2 _ rfl; rwa [add_plain] at this
  obtain ⟨m, hm⟩ : ∃ m, m = getL L (Utf.nats word) + n := ⟨_, rfl⟩
  rw [← hm] at hadd
  have HM := Aside0.mk hm
  have HADD := Aside0.mk hadd
  have HB := Aside0.mk hb
  clear hm
  have hzb : decide (s.f2 > 0) = true := decide_eq_true (by have := HOV.out.2; rw [hs] at hg; omega)
  rw [add_plain]
  clear hK hcc hg hb hadd hset hpast hpd he hw hz hs hp
  go_wp2_with (first | (go_at_call 17; (with_reducible refine (num_Add.calls s.f2 (n : Int) _ _ w2 HADD.out).mono ?_)))
  rintro e w3 ⟨rfl, hdr⟩
  have HB3 := Aside0.mk (HB.out.trans (hdr.below.mono HB.out.size))
  have q3 : w3.cell? ⟨gs, p * 3 + 2, none⟩ = some (.int .u64 s.f2) := by
    have := cells_below hdr.below _ HCC.out 2 _ rfl
    rwa [add_plain] at this
  have hR4 := Kd.R_below H4.out HB3.out
  obtain ⟨cells4, hc4⟩ := own_typed (Kd.R_own hR4).choose_spec gs rfl
  have hfz : w3.frozen? ⟨gs, p * 3 + 2, none⟩ = false := blk_frozen hc4 _
  have HR4 := Aside0.mk hR4; have HC4 := Aside0.mk hc4
  have HC3 := Aside0.mk (cells_below hdr.below _ HCC.out)
  clear q2 hdr hR4 hc4
  go_wp2
  go_ret
  have hbut : ∀ k, k ≠ gs → (w3.setCell ⟨gs, p * 3 + 2, none⟩ (.int .u64 (m : Int))).heap[k]? = w3.heap[k]? := fun k hk => Below.heap_setCell _ _ _ _ hk
  have hl := HSET.out.2
  rw [← HM.out] at hl
  refine ⟨rfl, ⟨_, _, ar, sl.set p ⟨s.f0, s.f1, (m : Int)⟩, ?_, ⟨HBG.out.1, HFF.out.1⟩, R_butg (Kd.R_below H3.out HB3.out) HC4.out u8_ne hbut, slots_cnt HR4.out HP.out HS.out HC3.out _, ?_⟩, ?_, (Kept.of_below HB3.out F).setCell (p := ⟨gs, p * 3 + 2, none⟩) (Or.inl HFF.out.2) _⟩
  · rw [hbut g (fun e => HBG.out.2.2 e.symm), ← HM.out, hl]
    exact blk_below H1.out HB3.out
  · have h6 := HSET.out.1
    rw [← HM.out, HS.out] at h6
    rw [← HM.out]
    exact h6
  · exact (HB3.out.mono HSZ.out).setCell (p := ⟨gs, p * 3 + 2, none⟩) HBG.out.2.1 _
end Go.Proofs.Ytkkkfgnaojhmeaa.K

namespace Go.Proofs.Ytkkkfgnaojhmeaa.K
open Go.RowKit Go.Proofs.YtkkkfgnaojhmeaaW.PrintWords Go.Proofs.YtkkkfgnaojhmeaaW.PrintLast Go.Proofs.YtkkkfgnaojhmeaaW.PrintMore Go.Proofs.Ytkkkfgnaojhmeaa
attribute [local go_sem] max2_int min2_int max_two min_two max_three min_three max_four min_four
set_option linter.unusedVariables false
set_option linter.unusedSimpArgs false
open Go.Lib
section
variable {P : Program}
theorem app_where {w : World} (base : Nat) (t u ty e : TypeId) (i : TypeInfo) (ht : P.underlying t = some (.slice e)) (hu : P.underlying u = some .string) (hi : P.info? e = some i) (hz : i.zero = some (.int .u8 0))
    (hsize : i.size = 1) (hby : i.bytes = 1) (v : Value) (n : Nat) (xs : List Value) (hown : w.ownsRow base e 1 v n xs) (s : ByteArray) (hbytes : n + s.size ≤ 140737488355328) {v' : Value} {w' : World}
    (hrun : (Builtin.append_ #[t, u] ty #[v, .string s]).run P w = .ok v' w') : ∀ k, v'.ownBlock = some k → v.ownBlock = some k ∨ w.heap.size ≤ k := by
  have hxl : xs.length = n := by simpa using hown.1
  rcases hown.2 with ⟨rfl, rfl⟩ | ⟨g, cap, cur, rfl, hbg, hg, hnc, hcm, hcs, htake⟩
  · by_cases hm : s.size = 0
    · have hf := run_firstCells_string (P := P) w 1 s
      rw [hm] at hf
      have hr : (Builtin.append_ #[t, u] ty #[.slice none 0 0, .string s]).run P w = .ok (.slice none 0 0) w := by
        simp [Builtin.append_, run_underlying ht, run_underlying hu, sizeOf, typeInfo, hi, hsize, Builtin.lenOf, hm, hf]
      rw [hr] at hrun
      injection hrun with h1 h2
      subst h1
      intro k hk
      simp [Value.ownBlock] at hk
    · have hr := run_append_nil_string (P := P) w t u ty e i (.int .u8 0) ht hu hi hz s (by omega) (by omega) (by rw [hby]; omega)
      rw [hr] at hrun
      injection hrun with h1 h2
      subst h1
      intro k hk
      have : w.heap.size = k := by simpa [Value.ownBlock] using hk
      exact Or.inr (by omega)
  · by_cases hroom : n + s.size ≤ cap
    · have hcs' : cur.size = cap := by simpa using hcs
      have hr := run_append_room_string (P := P) w t u ty e i ht hu hi hsize g n cap cur hg s hroom (by omega)
      rw [hr] at hrun
      injection hrun with h1 h2
      subst h1
      intro k hk
      exact Or.inl hk
    · have holds : ∀ j u, xs[j]? = some u → w.cell? ((⟨g, 0, none⟩ : Addr).add j) = some u := hown.cells (g := g) rfl
      have hr := run_append_grow_string (P := P) w t u ty e i (.int .u8 0) ht hu hi hz ⟨g, 0, none⟩ n cap xs (by rw [hsize]; simpa using hxl) holds s (by omega) (by omega) (by rw [hby]; exact growslice_fits (by omega) (by omega))
      rw [hr] at hrun
      injection hrun with h1 h2
      subst h1
      intro k hk
      have : w.heap.size = k := by simpa [Value.ownBlock] using hk
      exact Or.inr (by omega)
variable {ops : Array Oper} {rest : List Oper} {o : Oper} {a : Act} {Q : Exit → Act → World → Prop}
theorem append_str_at {w0 W : World} (base : Nat) (hgd : o.guard = none) (s x : Operand) (t u e : TypeId)
    (ho : o.op = .call { callee := .builtin .append, args := #[s, x], argTypes := #[t, u] })
    (ht : P.underlying t = some (.slice e)) (hu : P.underlying u = some .string) (hinfo : (P.info? e).map (fun i => (i.zero, i.size, i.bytes)) = some (some (.int .u8 0), 1, 1))
    (v : Value) (xs : List Int) (y : ByteArray) (hs : a.eval s = v) (hx : a.eval x = .string y)
    (HO : W.ownsRow base e 1 v xs.length (nums .u8 xs)) (HB : Below base w0 W) (hbase : base ≤ W.heap.size) (hl : xs.length + y.size ≤ 140737488355328)
    (h : ∀ v1 w1, w1.ownsRow base e 1 v1 (xs ++ bytesOf y).length (nums .u8 (xs ++ bytesOf y)) → Below base w0 w1 → W.grownBy w1 v.ownBlock → (∀ k, v1.ownBlock = some k → v.ownBlock = some k ∨ W.heap.size ≤ k) → wpList P ops Q rest (a.put o.dst v1) w1) :
    wpList P ops Q (o :: rest) a W := by
  obtain ⟨i0, hi, hzz⟩ := Option.map_eq_some_iff.1 hinfo
  simp only [Prod.mk.injEq] at hzz
  obtain ⟨hz0, hz1, hz2⟩ := hzz
  refine wpList_plain hgd fun K hK => ?_
  obtain ⟨v', w', hr, h2, h3, h4⟩ := run_append_own_string (P := P) W base t u o.type e i0 ht hu hi hz0 hz1 hz2 v xs.length (nums .u8 xs) HO y (by simp only [maxLen]; omega) hl hbase
  have hwh := app_where (P := P) base t u o.type e i0 ht hu hi hz0 hz1 hz2 v xs.length (nums .u8 xs) HO y hl hr
  unfold Oper.wp execOp
  simp only [ho, resolve, invoke, builtin, Sem.run_bind, Sem.run_pure, Result.andThen_ok, List.map_toArray, List.map_cons, List.map_nil, hs, hx, hr]
  have hl2 : (xs ++ bytesOf y).length = xs.length + y.size := by rw [List.length_append, bytesOf_length]
  have hc : nums .u8 (xs ++ bytesOf y) = nums .u8 xs ++ Lib.strCells y := by
    rw [nums_append]
    congr 1
    simp [nums, bytesOf, Lib.strCells]
  exact hK _ _ (h v' w' (by rw [hl2, hc]; exact h2) (HB.grown h3 hbase (own_base HO)) h3 hwh)
end
end Go.Proofs.Ytkkkfgnaojhmeaa.K

namespace Go.Proofs.Ytkkkfgnaojhmeaa.K
open Go.RowKit Go.Proofs.YtkkkfgnaojhmeaaW.PrintWords Go.Proofs.YtkkkfgnaojhmeaaW.PrintLast Go.Proofs.YtkkkfgnaojhmeaaW.PrintMore Go.Proofs.Ytkkkfgnaojhmeaa
attribute [local go_sem] max2_int min2_int max_two min_two max_three min_three max_four min_four
set_option linter.unusedVariables false
set_option linter.unusedSimpArgs false
open Go.Proofs.Ytkkkfgnaojhmeaa.PTb Go.Proofs.Ytkkkfgnaojhmeaa.Tab
theorem find_zero {room : Nat} {ar : List Int} {sl : List Sl} {L : List En} (h : TabR room ar sl L) (word : ByteArray) (p d : Nat) (hp : p < sl.length) (hpd : (hashW word + d) % sl.length = p) (he : (sl.getD p zSl).f2 = 0 ∨ slotW ar (sl.getD p zSl) = word)
    (hpast : ∀ d', d' < d → (sl.getD ((hashW word + d') % sl.length) zSl).f2 ≠ 0 ∧ slotW ar (sl.getD ((hashW word + d') % sl.length) zSl) ≠ word) (hg : getL L (Utf.nats word) = 0) : (sl.getD p zSl).f2 = 0 := by
  rw [find_get h word p d hp hpd he hpast, hg]; rfl
set_option maxHeartbeats 4000000 in
set_option maxRecDepth 100000 in
theorem add_full (base g room : Nat) (F : Nat → Prop) (L : List En) (word : ByteArray) (n : Nat) (w : World) (h : TabF base g room F L w) (hwz : word.size ≤ 1048576) (hne : Utf.nats word ≠ []) (hn : n ≠ 0) (hov : n ≤ 4611686018427387904) (hpos : getL L (Utf.nats word) = 0) (hfull : L.length = room) :
    Calls Try.prog 12 #[.pointer (some ⟨g, 0, none⟩), .string word, .int .u64 (n : Int)] w fun e w' => e = .returned (.int .i64 6) ∧ Below w.heap.size w w' := by
  obtain ⟨Aa, ca, ar, gs, cs, sl, h1, hbg, hbs, hgs, h3, h4, h5, hsl, hslm, hfg, hfs⟩ := tab_open h
  obtain ⟨_, hca, hCa⟩ := Kd.R_reads' h3
  obtain ⟨_, hcs, hCs⟩ := Kd.R_reads' h4
  have hfind := find_k g _ _ Aa ca ar ⟨gs, 0, none⟩ cs sl word w h1 hCa hca hCs (fun s hs => (h5.ok s hs).1) hsl hslm (by omega) (tab_free h5 word)
  have HF := Aside0.mk hfind; have HC := Aside0.mk hCs; have H5 := Aside0.mk h5; have H1 := Aside0.mk h1
  have hemp := ne_emp hne
  have hnb : ((n : Int) == 0) = false := beq_eq_false_iff_ne.2 (by omega)
  have HOV := Aside0.mk (And.intro hov hpos)
  have hfb : ((L.length : Int) == (room : Int)) = true := beq_iff_eq.2 (by omega)
  clear h h1 h3 h4 h5 hfind hCa hCs hca hcs hne hov hn hpos hbg hbs hgs hsl hslm hwz hfull
  go_enter Try.func12, Try.ntmps12
  go_wp2_with (first | (go_at_call 16; (with_reducible refine (HF.out).mono ?_)))
  rintro e w2 ⟨p, d, rfl, hp, hpd, he, hpast, hb⟩
  obtain ⟨ad2, cc, e0, _, hK, hcc⟩ := Kd.C_get (Kd.C_below HC.out hb) zSl (p : Int) (by omega) (by omega)
  cases e0
  rw [Int.toNat_natCast] at hK hcc
  have hz := find_zero H5.out word p d hp hpd he hpast HOV.out.2
  generalize sl.getD p zSl = s at hK hz
  have hadd := num_fits (a := 0) (n := n) (by have := HOV.out.1; omega)
  rw [Nat.zero_add] at hadd
  obtain rfl := kSl_open hK
  rw [hz] at hcc
  have q2 : w2.cell? ⟨gs, p * 3 + 2, none⟩ = some (.int .u64 0) := by have := hcc 2 _ rfl; rwa [add_plain] at this
  have HB := Aside0.mk hb
  have HADD := Aside0.mk hadd
  rw [add_plain]
  clear hK hcc hb hadd hpast hpd he hz hp
  go_wp2_with (first | (go_at_call 17; (with_reducible refine (num_Add.calls 0 (n : Int) _ _ w2 HADD.out).mono ?_)))
  rintro e w3 ⟨rfl, hdr⟩
  have HB3 := Aside0.mk (HB.out.trans (hdr.below.mono HB.out.size))
  have q3 : w3.cell? ⟨gs, p * 3 + 2, none⟩ = some (.int .u64 0) := pw_cell_below hdr.below q2
  have H13 := blk_below H1.out HB3.out
  have c0 : w3.cell? ⟨g, 0, none⟩ = some (.int .i64 (room : Int)) := (blk_cell H13 0).trans rfl
  have c1 : w3.cell? ⟨g, 1, none⟩ = some (.int .i64 (L.length : Int)) := (blk_cell H13 1).trans rfl
  clear q2 hdr H13
  go_upto_region 10 with fail
  go_quiet (fail)
  go_wp2
  go_ret
  exact ⟨rfl, pw_below_drewN HB3.out _⟩
theorem bytesI_of (s : ByteArray) : bytesI s = bytesOf s := by
  unfold bytesI bytesOf Utf.nats
  rw [List.map_map]; rfl
theorem slot_ne : ∀ q, q ∈ 57 :: kSl.E → q ≠ 5 := fun q hq => by
  rcases List.mem_cons.1 hq with rfl | hq
  · decide
  · have : q ∈ ([] : List Nat) := hq
    cases this
theorem arena_step {w4 w5 : World} {base g N : Nat} {F : Nat → Prop} {va vs v1 : Value} {ar : List Int} {sl : List Sl} {word : ByteArray} {cells : Array Value} (ho : w5.ownsRow base 5 1 v1 (ar ++ bytesOf word).length (nums .u8 (ar ++ bytesOf word))) (hgr : w4.grownBy w5 va.ownBlock)
    (hg : w4.heap[g]? = some (.cells cells 48 (0, 0))) (hgl : g < w4.heap.size) (hN : N ≤ w4.heap.size) (hwh : ∀ k, v1.ownBlock = some k → va.ownBlock = some k ∨ w4.heap.size ≤ k) (hR : Kd.R (Kd.int .u8) 5 w4 base (fun k => k ≠ g ∧ F k) va ar) (hS : Kd.R kSl 57 w4 base (fun k => k ≠ g ∧ F k) vs sl) :
    ∃ A1 c1 M, v1 = .slice A1 M c1 ∧ Aside0 (M = ar.length + word.size) ∧ Aside0 (Kd.R (Kd.int .u8) 5 w5 base (fun k => k ≠ g ∧ (F k ∨ N ≤ k)) (.slice A1 M c1) (ar ++ bytesI word)) ∧ w5.heap[g]? = some (.cells cells 48 (0, 0)) ∧ Aside0 (Kd.R kSl 57 w5 base (fun k => k ≠ g ∧ (F k ∨ N ≤ k)) vs sl) := by
  have h5 : w5.heap[g]? = some (.cells cells 48 (0, 0)) := (hgr.block g hgl (fun e => (hR.1 g e.symm).1 rfl)).trans hg
  have hne : ∀ k, v1.ownBlock = some k → k ≠ g ∧ (F k ∨ N ≤ k) := fun k hk => by
    rcases hwh k hk with h | h
    · have := hR.1 k h
      exact ⟨this.1, Or.inl this.2⟩
    · exact ⟨by omega, Or.inr (by omega)⟩
  have h6 := Kd.R_of_own (h1 := fun _ => rfl) (ok := fun k => k ≠ g ∧ (F k ∨ N ≤ k)) ho hne
  rw [← bytesI_of] at h6
  obtain ⟨A1, c1, e1⟩ := Kd.R_slice h6
  subst e1
  exact ⟨A1, c1, _, rfl, ⟨by rw [List.length_append, bytesI_len]⟩, ⟨h6⟩, h5, ⟨Kd.R_mono (Kd.R_over hS hR slot_ne hgr) (fun k hk => ⟨hk.1, Or.inl hk.2⟩)⟩⟩
set_option maxHeartbeats 4000000 in
set_option maxRecDepth 100000 in
theorem add_new (base g room : Nat) (F : Nat → Prop) (L : List En) (word : ByteArray) (n : Nat) (w : World) (h : TabF base g room F L w) (hwz : word.size ≤ 1048576) (hne : Utf.nats word ≠ []) (hn : n ≠ 0) (hov : n ≤ 4611686018427387904) (hpos : getL L (Utf.nats word) = 0) (hfull : L.length ≠ room) :
    Calls Try.prog 12 #[.pointer (some ⟨g, 0, none⟩), .string word, .int .u64 (n : Int)] w fun e w' => e = .returned (.int .i64 0) ∧ TabF base g room (fun k => F k ∨ w.heap.size ≤ k) (putL L (Utf.nats word) n) w' ∧ Below base w w' ∧ Kept w w' F := by
  obtain ⟨Aa, ca, ar, gs, cs, sl, h1, hbg, hbs, hgs, h3, h4, h5, hsl, hslm, hfg, hfs⟩ := tab_open h
  obtain ⟨_, hca, hCa⟩ := Kd.R_reads' h3
  obtain ⟨_, hcs, hCs⟩ := Kd.R_reads' h4
  have hfind := find_k g _ _ Aa ca ar ⟨gs, 0, none⟩ cs sl word w h1 hCa hca hCs (fun s hs => (h5.ok s hs).1) hsl hslm (by omega) (tab_free h5 word)
  have HF := Aside0.mk hfind; have HC := Aside0.mk hCs; have H5 := Aside0.mk h5; have H1 := Aside0.mk h1; have H3 := Aside0.mk h3; have H4 := Aside0.mk h4
  have HBG := Aside0.mk (And.intro hbg (And.intro hbs hgs)); have HFF := Aside0.mk (And.intro hfg hfs); have HFA := Aside0.mk (fun k (hk : (Value.slice Aa ar.length ca).ownBlock = some k) => (h3.1 k hk).2)
  have hsz : base ≤ w.heap.size := by have := Kd.R_lt h4 gs rfl; omega
  have hwl : w.heap.size > g := by
    rcases Nat.lt_or_ge g w.heap.size with h6 | h6
    · exact h6
    · rw [Array.getElem?_eq_none (by omega)] at h1; cases h1
  have HSZ := Aside0.mk hsz
  have hlr : L.length < room := by have := h5.many; omega
  have harl : ar.length + word.size ≤ 140737488355328 := by have := h5.small; have := h5.hi; have := h5.many; omega
  have HAR := Aside0.mk (And.intro harl (And.intro hlr (And.intro hwl h5.hi)))
  have hemp := ne_emp hne
  have hnb : ((n : Int) == 0) = false := beq_eq_false_iff_ne.2 (by omega)
  have HOV := Aside0.mk (And.intro hov (And.intro hpos (And.intro hn hwz)))
  have hfb : ((L.length : Int) == (room : Int)) = false := beq_eq_false_iff_ne.2 (by omega)
  clear h h1 h3 h4 h5 hfind hCa hCs hca hcs hne hov hn hpos hbg hbs hgs hsl hslm hwz hfull hsz harl hlr hwl hfg hfs
  go_enter Try.func12, Try.ntmps12
  go_wp2_with (first | (go_at_call 16; (with_reducible refine (HF.out).mono ?_)))
  rintro e w2 ⟨p, d, rfl, hp, hpd, he, hpast, hb⟩
  obtain ⟨ad2, cc, e0, _, hK, hcc⟩ := Kd.C_get (Kd.C_below HC.out hb) zSl (p : Int) (by omega) (by omega)
  cases e0
  rw [Int.toNat_natCast] at hK hcc
  have hz := find_zero H5.out word p d hp hpd he hpast HOV.out.2.1
  have HNEW := Aside0.mk (tabR_new H5.out word p d hp hpd hz hpast n (by have := HOV.out.2.2.1; omega) HOV.out.1 HAR.out.2.1 HOV.out.2.2.2)
  obtain ⟨s, hs⟩ : ∃ s, sl.getD p zSl = s := ⟨_, rfl⟩
  rw [hs] at hK hz
  have hadd := num_fits (a := 0) (n := n) (by have := HOV.out.1; omega)
  rw [Nat.zero_add] at hadd
  obtain rfl := kSl_open hK
  have HCC := Aside0.mk hcc
  have HP := Aside0.mk hp; have HS := Aside0.mk hs
  have q2 : w2.cell? ⟨gs, p * 3 + 2, none⟩ = some (.int .u64 0) := by have := hcc 2 _ rfl; rw [add_plain, hz] at this; exact this
  have HB := Aside0.mk hb
  have HADD := Aside0.mk hadd
  rw [add_plain]
  clear hK hcc hb hadd hpast hpd he hz hp hs
  go_wp2_with (first | (go_at_call 17; (with_reducible refine (num_Add.calls 0 (n : Int) _ _ w2 HADD.out).mono ?_)))
  rintro e w3 ⟨rfl, hdr⟩
  have HB3 := Aside0.mk (HB.out.trans (hdr.below.mono HB.out.size))
  have q3 : w3.cell? ⟨gs, p * 3 + 2, none⟩ = some (.int .u64 0) := pw_cell_below hdr.below q2
  have H13 := blk_below H1.out HB3.out
  have c0 : w3.cell? ⟨g, 0, none⟩ = some (.int .i64 (room : Int)) := (blk_cell H13 0).trans rfl
  have c1 : w3.cell? ⟨g, 1, none⟩ = some (.int .i64 (L.length : Int)) := (blk_cell H13 1).trans rfl
  have HC3 := Aside0.mk (cells_below hdr.below _ HCC.out)
  clear q2 hdr H13
  go_upto_region 10 with fail
  go_quiet (fail)
  go_upto_region 12 with fail
  have HB4 := Aside0.mk (pw_below_drewN HB3.out nq)
  have HC4 := Aside0.mk (cells_below (pw_below_drewN (Below.refl _ w3) nq) _ HC3.out)
  clear q3 c0 c1 HB3 HC3 HB HCC
  generalize w3.drewN nq = w4 at HB4 HC4 ⊢
  have H14 := Aside0.mk (blk_below H1.out HB4.out)
  have c2 : w4.cell? ⟨g, 2, none⟩ = some (.slice Aa ar.length ca) := (blk_cell H14.out 2).trans rfl
  have H34 := Aside0.mk (Kd.R_below H3.out HB4.out)
  have H44 := Aside0.mk (Kd.R_below H4.out HB4.out)
  have HSZ4 : Aside0 (base ≤ w4.heap.size) := ⟨Nat.le_trans HSZ.out HB4.out.size⟩
  go_upto_region 13 with fail
  clear c2
  have c2 : w4.cell? ⟨g, 2, none⟩ = some (.slice Aa ar.length ca) := (blk_cell H14.out 2).trans rfl
  go_upto_region 14 with ((with_reducible refine gate_builtin (b := .append) (xs := #[.tmp 65, .tmp 66]) rfl ?_); at_builtin; refine append_str_at (w0 := w4) base rfl (.tmp 65) (.tmp 66) 33 9 5 rfl Try.underlying33 Try.underlying9 info5 (.slice Aa ar.length ca) ar word rfl rfl (Kd.own_of_R H34.out) (Below.refl _ _) HSZ4.out HAR.out.1 ?_; intro v1 w5 ho hb5 hg5 hwh; obtain ⟨A1, c1', M, e1, HM, HA5, h5g, HS5⟩ := arena_step ho hg5 H14.out (Nat.lt_of_lt_of_le HAR.out.2.2.1 HB4.out.size) HB4.out.size hwh H34.out H44.out; subst e1; have hz5 := blk_frozen h5g 2; have c25 : w5.cell? ⟨g, 2, none⟩ = some (.slice Aa ar.length ca) := (blk_cell h5g 2).trans rfl; have H5G := Aside0.mk h5g; have HB5 := Aside0.mk (hb5.trans (Below.refl _ _)); have HGR := Aside0.mk hg5; clear ho hb5 hg5 h5g hwh)
  have HB6 := Aside0.mk ((HB5.out.setCell (p := ⟨g, 2, none⟩) HBG.out.1 (.slice A1 M c1')))
  have H6 := Aside0.mk (blk_put H5G.out 2 (.slice A1 M c1') rfl)
  have HA6 := Aside0.mk (Kd.R_far HA5.out (p := ⟨g, 2, none⟩) (fun k hk => hk.1) (.slice A1 M c1'))
  have HS6 := Aside0.mk (Kd.R_far HS5.out (p := ⟨g, 2, none⟩) (fun k hk => hk.1) (.slice A1 M c1'))
  have HK6 := Aside0.mk ((Kept.of_grown HGR.out (Kept.of_below HB4.out F) (fun k hk => Or.inl (HFA.out k hk))).setCell (p := ⟨g, 2, none⟩) (Or.inl HFF.out.1) (.slice A1 M c1'))
  have HZ6 : Aside0 (w4.heap.size ≤ (w5.setCell ⟨g, 2, none⟩ (.slice A1 M c1')).heap.size) := ⟨by rw [show (w5.setCell ⟨g, 2, none⟩ (.slice A1 M c1')).heap.size = w5.heap.size by simp [World.setCell]]; exact HGR.out.size⟩
  clear hz5 c25 c2 HA5 HS5 HB5 H5G HGR
  generalize w5.setCell ⟨g, 2, none⟩ (.slice A1 M c1') = w6 at HB6 H6 HA6 HS6 HZ6 HK6 ⊢
  obtain ⟨_, _, hC6⟩ := Kd.R_reads' HS6.out
  obtain ⟨ad3, cc3, e3, _, hK6, hcc6⟩ := Kd.C_get hC6 zSl (p : Int) (by omega) (by have := HP.out; omega)
  cases e3
  rw [Int.toNat_natCast, HS.out] at hK6
  rw [Int.toNat_natCast] at hcc6
  obtain rfl := kSl_open hK6
  have HC6 := Aside0.mk hcc6
  obtain ⟨cells6, hc6⟩ := own_typed (Kd.R_own HS6.out).choose_spec gs rfl
  have fz0 : w6.frozen? ⟨gs, p * 3, none⟩ = false := blk_frozen hc6 _
  have fz1 : w6.frozen? ⟨gs, p * 3 + 1, none⟩ = false := blk_frozen hc6 _
  have fz2 : w6.frozen? ⟨gs, p * 3 + 2, none⟩ = false := blk_frozen hc6 _
  have q0 : w6.cell? ⟨gs, p * 3, none⟩ = some (.int .i64 s.f0) := by have := hcc6 0 _ rfl; rwa [add_plain] at this
  have q1 : w6.cell? ⟨gs, p * 3 + 1, none⟩ = some (.int .i64 s.f1) := by have := hcc6 1 _ rfl; rwa [add_plain] at this
  have q2 : w6.cell? ⟨gs, p * 3 + 2, none⟩ = some (.int .u64 s.f2) := by have := hcc6 2 _ rfl; rwa [add_plain] at this
  have c2 : w6.cell? ⟨g, 2, none⟩ = some (.slice A1 M c1') := (blk_cell H6.out 2).trans rfl
  have HC66 := Aside0.mk hc6
  clear hC6 hK6 hcc6 hc6
  go_upto_region 15 with fail
  have hw7 : ((w6.setCell ⟨gs, p * 3, none⟩ (.int .i64 (ar.length : Int))).setCell ⟨gs, p * 3 + 1, none⟩ (.int .i64 (M : Int))).setCell ⟨gs, p * 3 + 2, none⟩ (.int .u64 (n : Int)) = w6.setCells gs (p * 3) [.int .i64 (ar.length : Int), .int .i64 (M : Int), .int .u64 (n : Int)] := rfl
  rw [hw7]
  clear hw7 fz0 fz1 fz2 q0 q1 q2 c2
  have hbut : ∀ k, k ≠ gs → (w6.setCells gs (p * 3) [.int .i64 (ar.length : Int), .int .i64 (M : Int), .int .u64 (n : Int)]).heap[k]? = w6.heap[k]? := fun k hk => setCells_far _ _ k hk
  have HS7 := Aside0.mk (slots_all HS6.out HP.out HS.out HC6.out (ar.length : Int) (M : Int) (n : Int))
  have HA7 := Aside0.mk (R_butg HA6.out HC66.out u8_ne hbut)
  have H7 := Aside0.mk ((hbut g (fun e => HBG.out.2.2 e.symm)).trans H6.out)
  have HB7 : Aside0 (Below base w (w6.setCells gs (p * 3) [.int .i64 (ar.length : Int), .int .i64 (M : Int), .int .u64 (n : Int)])) := ⟨((((HB4.out.mono HSZ.out).trans HB6.out).setCell (p := ⟨gs, p * 3, none⟩) HBG.out.2.1 _).setCell (p := ⟨gs, p * 3 + 1, none⟩) HBG.out.2.1 _).setCell (p := ⟨gs, p * 3 + 2, none⟩) HBG.out.2.1 _⟩
  have HK7 : Aside0 (Kept w (w6.setCells gs (p * 3) [.int .i64 (ar.length : Int), .int .i64 (M : Int), .int .u64 (n : Int)]) F) := ⟨((HK6.out.setCell (p := ⟨gs, p * 3, none⟩) (Or.inl HFF.out.2) _).setCell (p := ⟨gs, p * 3 + 1, none⟩) (Or.inl HFF.out.2) _).setCell (p := ⟨gs, p * 3 + 2, none⟩) (Or.inl HFF.out.2) _⟩
  clear HS6 HA6 H6 HB6 HC6 HC66 hbut HZ6 HK6
  generalize w6.setCells gs (p * 3) [.int .i64 (ar.length : Int), .int .i64 (M : Int), .int .u64 (n : Int)] = w7 at HS7 HA7 H7 HB7 HK7 ⊢
  have fz : w7.frozen? ⟨g, 1, none⟩ = false := blk_frozen H7.out 1
  have c1 : w7.cell? ⟨g, 1, none⟩ = some (.int .i64 (L.length : Int)) := (blk_cell H7.out 1).trans rfl
  have hwr : wrap64 ((L.length : Int) + 1) = ((L.length + 1 : Nat) : Int) := by have := HAR.out; unfold wrap64; omega
  go_wp2
  go_ret
  have hnew := HNEW.out
  have hM := HM.out
  have e8 : (w7.setCell ⟨g, 1, none⟩ (.int .i64 ((L.length + 1 : Nat) : Int))).heap[g]? = some (.cells #[.int .i64 (room : Int), .int .i64 ((putL L (Utf.nats word) n).length : Int), .slice A1 M c1', .slice (some ⟨gs, 0, none⟩) sl.length cs] 48 (0, 0)) := by
    rw [hnew.2]
    exact blk_put H7.out 1 _ rfl
  refine ⟨rfl, ⟨_, _, ar ++ bytesI word, sl.set p ⟨(ar.length : Int), (M : Int), (n : Int)⟩, e8, ⟨HBG.out.1, Or.inl HFF.out.1⟩, Kd.R_far HA7.out (p := ⟨g, 1, none⟩) (fun k hk => hk.1) _, Kd.R_far HS7.out (p := ⟨g, 1, none⟩) (fun k hk => hk.1) _, ?_⟩, HB7.out.setCell (p := ⟨g, 1, none⟩) HBG.out.1 _, HK7.out.setCell (p := ⟨g, 1, none⟩) (Or.inl HFF.out.1) _⟩
  rw [hM]
  exact hnew.1
/-- Add, in one. -/
theorem addF (base g room : Nat) (F : Nat → Prop) (L : List En) (word : ByteArray) (n : Nat) (w : World) (h : TabF base g room F L w) (hwz : word.size ≤ 1048576) :
    Calls Try.prog 12 #[.pointer (some ⟨g, 0, none⟩), .string word, .int .u64 (n : Int)] w fun e w' => e = .returned (.int .i64 (addL L room (Utf.nats word) n).2) ∧ TabF base g room (fun k => F k ∨ w.heap.size ≤ k) (addL L room (Utf.nats word) n).1 w' ∧ Below base w w' ∧ Kept w w' F := by
  have hsz : base ≤ w.heap.size := by
    obtain ⟨Aa, ca, ar, gs, cs, sl, h1, hbg, hbs, hgs, h3, h4, h5, hsl, hslm, hfg, hfs⟩ := tab_open h
    have := Kd.R_lt h4 gs rfl
    omega
  unfold addL
  by_cases h1 : Utf.nats word = [] ∨ n = 0
  · rw [if_pos h1]
    refine (add_none base g room L word n w h1).mono ?_
    rintro e w' ⟨rfl, rfl⟩
    exact ⟨rfl, h.mono (fun _ hk => Or.inl hk), Below.refl _ _, Kept.refl _ _⟩
  · rw [if_neg h1]
    have hne : Utf.nats word ≠ [] := fun e => h1 (Or.inl e)
    have hn : n ≠ 0 := fun e => h1 (Or.inr e)
    by_cases h2 : 4611686018427387904 < getL L (Utf.nats word) + n
    · rw [if_pos h2]
      refine (add_over base g room F L word n w h (by omega) hne hn h2).mono ?_
      rintro e w' ⟨rfl, hb⟩
      exact ⟨rfl, (h.step hb).mono (fun _ hk => Or.inl hk), hb.mono hsz, Kept.of_below hb F⟩
    · rw [if_neg h2]
      by_cases h3 : 0 < getL L (Utf.nats word)
      · rw [if_pos h3]
        refine (add_set base g room F L word n w h hwz hne hn (by omega) h3).mono ?_
        rintro e w' ⟨rfl, hT, hB, hK⟩
        exact ⟨rfl, hT.mono (fun _ hk => Or.inl hk), hB, hK⟩
      · rw [if_neg h3]
        by_cases h4 : L.length = room
        · rw [if_pos h4]
          refine (add_full base g room F L word n w h hwz hne hn (by omega) (by omega) h4).mono ?_
          rintro e w' ⟨rfl, hb⟩
          exact ⟨rfl, (h.step hb).mono (fun _ hk => Or.inl hk), hb.mono hsz, Kept.of_below hb F⟩
        · rw [if_neg h4]
          exact add_new base g room F L word n w h hwz hne hn (by omega) (by omega) h4
end Go.Proofs.Ytkkkfgnaojhmeaa.K

namespace Go.Proofs.Ytkkkfgnaojhmeaa.K
open Go Go.Shelf
set_option linter.unusedVariables false
set_option linter.unusedSimpArgs false
def lays106_ren : Go.Shelf.Ren := ⟨fun | 106 => 21 | 213 => 26 | 265 => 44 | n => n, fun | 9 => 9 | 3 => 3 | n => n, fun | n => n⟩
theorem lays106 : Go.Proofs.Lays.n106 Try.prog lays106_ren := {
  mixed := by kernel_rfl
  f106 := Try.func21.trans (congrArg some (by kernel_rfl))
  f213 := Try.func26.trans (congrArg some (by kernel_rfl))
  f265 := Try.func44.trans (congrArg some (by kernel_rfl))
  t3 := Try.underlying3
  a3 := Try.isAgg3
  z3 := Try.sizeOf3
  v3 := Try.zeroValue3
  t9 := Try.underlying9
  a9 := Try.isAgg9
  z9 := Try.sizeOf9
  v9 := Try.zeroValue9 }
open Go.RowKit in
theorem strings_Compare_k (a b : ByteArray) (w : World) :
    Calls Try.prog 21 #[.string a, .string b] w fun e w' => e = .returned (.int .i64 (Lib.compareBytes a.data.toList b.data.toList)) ∧ w' = w := Any.strings_Compare lays106 a b w
def sortE_ren : Go.Shelf.Ren := ⟨fun | 6 => 19 | 15 => 25 | 14 => 24 | 28 => 42 | 29 => 43 | 20 => 34 | 21 => 35 | 22 => 36 | 23 => 37 | 24 => 38 | 25 => 39 | 26 => 40 | 27 => 41 | 46 => 49 | 47 => 50 | 48 => 51 | 49 => 52 | 50 => 53 | 57 => 55 | n => n, fun | 22 => 30 | 24 => 37 | 25 => 61 | 3 => 3 | 39 => 70 | 0 => 0 | 53 => 67 | 55 => 22 | 4 => 4 | 46 => 78 | 45 => 77 | 50 => 82 | 5 => 5 | 9 => 9 | 66 => 92 | 70 => 96 | 76 => 99 | 77 => 100 | n => n, fun | n => n⟩
theorem sortE : Go.Proofs.SlLaysF0.n6 Try.prog sortE_ren := {
  mixed := by kernel_rfl
  f6 := ⟨Try.f19.name, by decide, Try.func19.trans (congrArg some (by kernel_rfl))⟩
  f14 := ⟨Try.f24.name, by decide, Try.func24.trans (congrArg some (by kernel_rfl))⟩
  f15 := Try.func25.trans (congrArg some (by kernel_rfl))
  f20 := ⟨Try.f34.name, by decide, Try.func34.trans (congrArg some (by kernel_rfl))⟩
  f21 := ⟨Try.f35.name, by decide, Try.func35.trans (congrArg some (by kernel_rfl))⟩
  f22 := ⟨Try.f36.name, by decide, Try.func36.trans (congrArg some (by kernel_rfl))⟩
  f23 := ⟨Try.f37.name, by decide, Try.func37.trans (congrArg some (by kernel_rfl))⟩
  f24 := ⟨Try.f38.name, by decide, Try.func38.trans (congrArg some (by kernel_rfl))⟩
  f25 := ⟨Try.f39.name, by decide, Try.func39.trans (congrArg some (by kernel_rfl))⟩
  f26 := ⟨Try.f40.name, by decide, Try.func40.trans (congrArg some (by kernel_rfl))⟩
  f27 := ⟨Try.f41.name, by decide, Try.func41.trans (congrArg some (by kernel_rfl))⟩
  f28 := Try.func42.trans (congrArg some (by kernel_rfl))
  f29 := Try.func43.trans (congrArg some (by kernel_rfl))
  f46 := ⟨Try.f49.name, by decide, Try.func49.trans (congrArg some (by kernel_rfl))⟩
  f47 := Try.func50.trans (congrArg some (by kernel_rfl))
  f48 := Try.func51.trans (congrArg some (by kernel_rfl))
  f49 := ⟨Try.f52.name, by decide, Try.func52.trans (congrArg some (by kernel_rfl))⟩
  f50 := ⟨Try.f53.name, by decide, Try.func53.trans (congrArg some (by kernel_rfl))⟩
  f57 := ⟨Try.f55.name, by decide, Try.func55.trans (congrArg some (by kernel_rfl))⟩
  t0 := Try.underlying0
  a0 := Try.isAgg0
  z0 := Try.sizeOf0
  v0 := Try.zeroValue0
  t3 := Try.underlying3
  a3 := Try.isAgg3
  z3 := Try.sizeOf3
  v3 := Try.zeroValue3
  t4 := Try.underlying4
  a4 := Try.isAgg4
  z4 := Try.sizeOf4
  v4 := Try.zeroValue4
  t5 := Try.underlying5
  a5 := Try.isAgg5
  z5 := Try.sizeOf5
  v5 := Try.zeroValue5
  t9 := Try.underlying9
  a9 := Try.isAgg9
  z9 := Try.sizeOf9
  v9 := Try.zeroValue9
  t22 := Try.underlying30
  a22 := Try.isAgg30
  z22 := Try.sizeOf30
  v22 := Try.zeroValue30
  t25 := Try.underlying61
  a25 := Try.isAgg61
  z25 := Try.sizeOf61
  v25 := Try.zeroValue61
  t39 := Try.underlying70
  a39 := Try.isAgg70
  z39 := Try.sizeOf70
  v39 := Try.zeroValue70
  t45 := Try.underlying77
  a45 := Try.isAgg77
  z45 := Try.sizeOf77
  v45 := Try.zeroValue77
  t46 := Try.underlying78
  a46 := Try.isAgg78
  z46 := Try.sizeOf78
  v46 := Try.zeroValue78
  t50 := Try.underlying82
  a50 := Try.isAgg82
  z50 := Try.sizeOf82
  v50 := Try.zeroValue82
  t53 := Try.underlying67
  a53 := Try.isAgg67
  z53 := Try.sizeOf67
  v53 := Try.zeroValue67
  t55 := Try.underlying22
  a55 := Try.isAgg22
  z55 := Try.sizeOf22
  v55 := Try.zeroValue22
  t66 := Try.underlying92
  a66 := Try.isAgg92
  z66 := Try.sizeOf92
  v66 := Try.zeroValue92
  t70 := Try.underlying96
  a70 := Try.isAgg96
  z70 := Try.sizeOf96
  v70 := Try.zeroValue96
  t76 := Try.underlying99
  a76 := Try.isAgg99
  z76 := Try.sizeOf99
  v76 := Try.zeroValue99
  t77 := Try.underlying100
  a77 := Try.isAgg100
  z77 := Try.sizeOf100
  v77 := Try.zeroValue100 }
end Go.Proofs.Ytkkkfgnaojhmeaa.K

namespace Go.Proofs.Ytkkkfgnaojhmeaa.K
open Go.RowKit Go.Proofs.YtkkkfgnaojhmeaaW.PrintWords Go.Proofs.YtkkkfgnaojhmeaaW.PrintLast Go.Proofs.YtkkkfgnaojhmeaaW.PrintMore Go.Proofs.Ytkkkfgnaojhmeaa
attribute [local go_sem] max2_int min2_int max_two min_two max_three min_three max_four min_four
set_option linter.unusedVariables false
set_option linter.unusedSimpArgs false
open Go Go.Shelf Go.Proofs.Ytkkkfgnaojhmeaa.PTb Go.Proofs.Ytkkkfgnaojhmeaa.Tab
instance : Inhabited S37 := ⟨z37⟩
def encE (x : S37) : List Value := [.string x.f0, .int .u64 x.f1]
def cmpE (x y : S37) : Int := Lib.compareBytes x.f0.data.toList y.f0.data.toList
theorem cmp_lt : ∀ a b : List UInt8, Lib.compareBytes a b < 0 ↔ (a.map (fun c : UInt8 => c.toNat)) < (b.map (fun c : UInt8 => c.toNat))
  | [], [] => by simp [Lib.compareBytes]
  | [], _ :: _ => by simp [Lib.compareBytes]
  | _ :: _, [] => by simp [Lib.compareBytes]
  | x :: xs, y :: ys => by
    have ih := cmp_lt xs ys
    unfold Lib.compareBytes
    rw [List.map_cons, List.map_cons, List.cons_lt_cons_iff]
    by_cases h1 : x < y
    · rw [if_pos h1]
      have : x.toNat < y.toNat := h1
      simp [this]
    · rw [if_neg h1]
      have h3 : ¬ x.toNat < y.toNat := h1
      by_cases h2 : y < x
      · rw [if_pos h2]
        have h4 : y.toNat < x.toNat := h2
        constructor
        · intro h; simp at h
        · rintro (h | ⟨h, _⟩)
          · exact absurd h h3
          · omega
      · rw [if_neg h2, ih]
        have h4 : ¬ y.toNat < x.toNat := h2
        constructor
        · intro h; exact Or.inr ⟨by omega, h⟩
        · rintro (h | ⟨_, h⟩)
          · exact absurd h h3
          · exact h
theorem ltOf_cmpE (x y : S37) : Go.Proofs.ltOf cmpE x y = decide (Utf.nats x.f0 < Utf.nats y.f0) := by
  unfold Go.Proofs.ltOf cmpE
  exact decide_eq_decide.2 (cmp_lt _ _)
theorem swoE : Go.Sort.SWO (Go.Proofs.ltOf cmpE) where
  irrefl x := by rw [ltOf_cmpE]; exact decide_eq_false (List.lt_irrefl _)
  trans x y z h1 h2 := by
    rw [ltOf_cmpE] at *
    exact decide_eq_true (List.lt_trans (of_decide_eq_true h1) (of_decide_eq_true h2))
  ntrans x y z h1 h2 := by
    rw [ltOf_cmpE] at *
    refine decide_eq_false (fun h => ?_)
    have h3 := of_decide_eq_false h1
    have h4 := of_decide_eq_false h2
    rcases lt_tri (Utf.nats y.f0) (Utf.nats z.f0) with h5 | h5 | h5
    · exact h4 h5
    · rw [← h5] at h; exact h3 h
    · exact h3 (List.lt_trans h h5)
set_option maxHeartbeats 4000000 in
set_option maxRecDepth 100000 in
theorem closE (x y : S37) (W : World) : Calls Try.prog 20 (#[.agg (encE x).toArray, .agg (encE y).toArray] ++ #[]) W fun e w' => e = .returned (.int .i64 (cmpE x y)) ∧ ∃ q os', w' = Go.Sort.grow (W.drewN q) os' := by
  obtain ⟨x0, x1⟩ := x
  obtain ⟨y0, y1⟩ := y
  show Calls Try.prog 20 #[.agg #[.string x0, .int .u64 x1], .agg #[.string y0, .int .u64 y1]] W _
  have hcon := fun W' => strings_Compare_k x0 y0 W'
  unfold cmpE
  generalize Lib.compareBytes x0.data.toList y0.data.toList = r at hcon ⊢
  go_enter Try.func20, Try.ntmps20
  go_wp2_with (first | (go_at_call 21; refine (hcon _).mono ?_; rintro e w' ⟨rfl, rfl⟩))
  go_ret
  exact ⟨rfl, 0, _, by rw [Go.Sort.alloc_eq_grow, Go.Sort.alloc_eq_grow, Go.Sort.grow_grow]; rfl⟩

theorem flatE_len (d : Array S37) : (Go.Sort.flatK encE 2 d).toList.length = d.size * 2 := by rw [Array.length_toList, Go.Sort.size_flatK]
theorem flatE_at (d : Array S37) (j : Nat) (h : j < d.size) : ((Go.Sort.flatK encE 2 d).toList.drop (j * 2)).take 2 = encE d[j] := by
  have h0 := Go.Sort.get_flatK encE 2 d (j * 2) (by omega)
  have h1 := Go.Sort.get_flatK encE 2 d (j * 2 + 1) (by omega)
  rw [show j * 2 / 2 = j by omega, show j * 2 % 2 = 0 by omega, getElem!_pos d j h] at h0
  rw [show (j * 2 + 1) / 2 = j by omega, show (j * 2 + 1) % 2 = 1 by omega, getElem!_pos d j h] at h1
  have hs0 : j * 2 < (Go.Sort.flatK encE 2 d).size := by rw [Go.Sort.size_flatK]; omega
  have hs1 : j * 2 + 1 < (Go.Sort.flatK encE 2 d).size := by rw [Go.Sort.size_flatK]; omega
  rw [getElem!_pos (Go.Sort.flatK encE 2 d) _ hs0] at h0
  rw [getElem!_pos (Go.Sort.flatK encE 2 d) _ hs1] at h1
  have l0 : j * 2 < (Go.Sort.flatK encE 2 d).toList.length := by rw [Array.length_toList]; exact hs0
  have l1 : j * 2 + 1 < (Go.Sort.flatK encE 2 d).toList.length := by rw [Array.length_toList]; exact hs1
  rw [List.drop_eq_getElem_cons l0, List.take_succ_cons, List.drop_eq_getElem_cons l1, List.take_succ_cons, List.take_zero, Array.getElem_toList, Array.getElem_toList, h0, h1]
  rfl
theorem flatE_reps (w : World) (base : Nat) (ok : Nat → Prop) (d : Array S37) : Reps (k37.M w base ok) 2 d.toList (Go.Sort.flatK encE 2 d).toList := by
  refine ⟨by rw [flatE_len, Array.length_toList], fun j p hj => ?_⟩
  obtain ⟨hl, rfl⟩ := List.getElem?_eq_some_iff.1 hj
  rw [Array.length_toList] at hl
  rw [flatE_at d j hl, Array.getElem_toList]
  exact k37_mkM _ _ _ _
/-- A row of entries, as the sort asks for it. -/
theorem holdsE {w : World} {base g cap : Nat} {ok : Nat → Prop} {es : List S37} (h : Kd.R k37 37 w base ok (.slice (some ⟨g, 0, none⟩) es.length cap) es) : Go.Sort.HoldsK encE 2 w g 0 es.toArray := by
  obtain ⟨_, _, hC⟩ := Kd.R_reads' h
  obtain ⟨_, _, hC⟩ := hC
  obtain ⟨cells, hc⟩ := own_typed (Kd.R_own h).choose_spec g rfl
  intro t ht
  rw [Go.Sort.size_flatK] at ht
  have hts : t < es.length * 2 := by simpa using ht
  refine ⟨?_, blk_frozen hc _⟩
  obtain ⟨ad, e0, hall⟩ := hC (by omega)
  cases e0
  have hj : t / 2 < es.length := by omega
  obtain ⟨c, _, hK, hcc⟩ := hall (t / 2) es[t / 2] (List.getElem?_eq_getElem hj)
  have hce := k37_open hK
  rw [Go.Sort.get_flatK encE 2 _ t ht]
  have he : es.toArray[t / 2]! = es[t / 2] := by rw [getElem!_pos es.toArray _ (by simpa using hj)]; simp
  rw [he]
  have h2 := hcc (t % 2) (encE es[t / 2])[t % 2]! (by
    rw [hce]
    rcases (show t % 2 = 0 ∨ t % 2 = 1 by omega) with h | h <;> rw [h] <;> rfl)
  rw [add_plain, show k37.sz = 2 from rfl, show t / 2 * 2 + t % 2 = t by omega] at h2
  rw [Nat.zero_add]
  exact h2
/-- Behind the sort the same slice owns the row that is there then. -/
theorem sortedE {w : World} {base g cap n : Nat} {ok : Nat → Prop} {os : Array Obj} {es : List S37} {d' : Array S37} (h : Kd.R k37 37 w base ok (.slice (some ⟨g, 0, none⟩) es.length cap) es) (hd : d'.size = es.length) :
    Kd.R k37 37 (Go.Proofs.sortWorldK encE 2 w g 0 n d' os) base ok (.slice (some ⟨g, 0, none⟩) es.length cap) d'.toList ∧ w.grownBy (Go.Proofs.sortWorldK encE 2 w g 0 n d' os) (some g) := by
  obtain ⟨hok, inner, ho, hr⟩ := h
  obtain ⟨hil, ho2⟩ := ho
  rcases ho2 with ⟨hv, _⟩ | ⟨g', cap', cur, hv, hb, hh, hnc, hcm, hcs, ht⟩
  · cases hv
  injection hv with ha _ hc
  injection ha with ha
  injection ha with hg
  subst hg; subst hc
  have hgl : g < w.heap.size := (Array.getElem?_eq_some_iff.1 hh).1
  have hheap : (Go.Proofs.sortWorldK encE 2 w g 0 n d' os).heap[g]? = some (.cells (Go.Sort.putCells id 0 (Go.Sort.flatK encE 2 d') cur) 37 (0, 0)) := by
    unfold Go.Proofs.sortWorldK
    rw [Go.Sort.heap_grow_old _ _ (by simpa [Go.Sort.putRowK] using hgl)]
    simp [Go.Sort.putRowK, Go.Sort.putRow, Go.Sort.mapBlock, Go.Sort.ahead, Array.getElem?_modify, hh, Go.Sort.onCells]
  have hgr : w.grownBy (Go.Proofs.sortWorldK encE 2 w g 0 n d' os) (some g) := by
    refine ⟨rfl, rfl, rfl, by simp [Go.Proofs.sortWorldK, Go.Sort.grow, Go.Sort.putRowK, Go.Sort.putRow, Go.Sort.mapBlock, Go.Sort.ahead], fun k hk hne => ?_⟩
    unfold Go.Proofs.sortWorldK
    rw [Go.Sort.heap_grow_old _ _ (by simpa [Go.Sort.putRowK] using hk)]
    have : g ≠ k := fun e => hne (by rw [e])
    simp [Go.Sort.putRowK, Go.Sort.putRow, Go.Sort.mapBlock, Go.Sort.ahead, Array.getElem?_modify, this]
  have hdl : d'.toList.length = es.length := (Array.length_toList (xs := d')).trans hd
  refine ⟨⟨hok, (Go.Sort.flatK encE 2 d').toList, ⟨by rw [flatE_len, hdl, hd]; rfl, Or.inr ⟨g, cap, _, by rw [hdl], hb, hheap, by rw [hdl]; exact hnc, hcm, ?_, ?_⟩⟩, flatE_reps _ _ _ d'⟩, hgr⟩
  · simp [Go.Sort.putCells, hcs]
  · have hfit : d'.size * 2 ≤ cur.size := by rw [hcs, hd]; exact Nat.mul_le_mul_right _ hnc
    rw [hdl, ← hd]
    apply List.ext_getElem?
    intro j
    show ((Go.Sort.putCells id 0 (Go.Sort.flatK encE 2 d') cur).toList.take (d'.size * 2))[j]? = _
    by_cases hj : j < d'.size * 2
    · rw [List.getElem?_take_of_lt hj, Array.getElem?_toList, Array.getElem?_toList]
      have hj2 : j < (Go.Sort.flatK encE 2 d').size := by rw [Go.Sort.size_flatK]; exact hj
      have hj3 : j < cur.size := by omega
      simp [Go.Sort.putCells, hj, hj2, hj3]
    · rw [List.getElem?_take_eq_none (by omega), List.getElem?_eq_none (by rw [flatE_len]; omega)]

/-- slices.SortFunc at entries, by their words. -/
theorem sort_k (w : World) (base : Nat) (ok : Nat → Prop) (v : Value) (es : List S37) (h : Kd.R k37 37 w base ok v es) (hsz : es.length < 4611686018427387904) :
    Calls Try.prog 19 #[v, .func (.func 20) #[] #[]] w fun e w' => e = .returned (.tuple #[]) ∧ ∃ es', es'.Perm es ∧ es'.Pairwise (fun a b => ¬ Utf.nats b.f0 < Utf.nats a.f0) ∧ Kd.R k37 37 w' base ok v es' ∧ w.grownBy w' v.ownBlock := by
  obtain ⟨A, c, ev⟩ := Kd.R_slice h
  by_cases h0 : es.length = 0
  · have hnil : es = [] := List.length_eq_zero_iff.1 h0
    subst hnil
    subst ev
    have hcon := AnyF.slices_SortFunc_none sortE A c (.func (.func 20) #[] #[]) w
    change Calls Try.prog 19 _ _ _ at hcon
    refine hcon.mono ?_
    rintro e w' ⟨rfl, rfl⟩
    exact ⟨rfl, [], List.Perm.refl _, List.Pairwise.nil, h, ⟨rfl, rfl, rfl, Nat.le_refl _, fun _ _ _ => rfl⟩⟩
  · obtain ⟨g, cap, ev2, hbg, hgl, _⟩ := Kd.R_form h (by omega)
    subst ev2
    clear ev
    have eg : ∀ args w, (callFunc 20 args).run Try.prog w = .ok (.enter 20 args) w := enters_of Try.func20 (by kernel_rfl) rfl
    have hcon := AnyQ.slices_SortFunc sortE 2 Try.isAgg37 Try.sizeOf37 encE (fun _ => rfl) (fun x v hv => by
      simp [encE] at hv
      rcases hv with rfl | rfl <;> rfl) cmpE swoE 20 #[] g 0 cap es.toArray w eg (fun m os dk _ x y => closE x y _) (holdsE h) hgl (by simpa using hsz)
    change Calls Try.prog 19 _ _ _ at hcon
    rw [List.size_toArray] at hcon
    refine hcon.mono ?_
    rintro e w' ⟨rfl, d', n, os, hp, hs, rfl⟩
    obtain ⟨hds0, _, hperm⟩ := hp
    have hds : d'.size = es.length := by simpa using hds0
    obtain ⟨hR, hgr⟩ := sortedE (n := n) (os := os) h hds
    refine ⟨rfl, d'.toList, ?_, ?_, hR, hgr⟩
    · have e1 : d'.extract 0 es.length = d' := by rw [← hds]; simp
      have e2 : es.toArray.extract 0 es.length = es.toArray := by
        have : es.length = es.toArray.size := by simp
        rw [this]; simp
      rw [e1, e2] at hperm
      simpa using hperm
    · rw [List.pairwise_iff_getElem]
      intro i j hi hj hij
      rw [Array.length_toList] at hi hj
      have h2 := hs i j (Nat.zero_le _) hij (by rw [← hds]; exact hj)
      rw [ltOf_cmpE, getElem!_pos d' i hi, getElem!_pos d' j hj] at h2
      rw [Array.getElem_toList, Array.getElem_toList]
      exact of_decide_eq_false h2
end Go.Proofs.Ytkkkfgnaojhmeaa.K

namespace Go.Proofs.Ytkkkfgnaojhmeaa.K
open Go.RowKit Go.Proofs.YtkkkfgnaojhmeaaW.PrintWords Go.Proofs.YtkkkfgnaojhmeaaW.PrintLast Go.Proofs.YtkkkfgnaojhmeaaW.PrintMore Go.Proofs.Ytkkkfgnaojhmeaa
attribute [local go_sem] max2_int min2_int max_two min_two max_three min_three max_four min_four
set_option linter.unusedVariables false
set_option linter.unusedSimpArgs false
open Go.Proofs.Ytkkkfgnaojhmeaa.PTb Go.Proofs.Ytkkkfgnaojhmeaa.Tab
def zc3 : Array Value := #[.int .i64 0, .int .i64 0, .int .u64 0]
def zcs (n : Nat) : List Value := (Builtin.zeroCells zc3 n).toList
theorem zcs_len (n : Nat) : (zcs n).length = n * 3 := by unfold zcs Builtin.zeroCells; simp [zc3]
theorem zcs_get (n j : Nat) (h : j < (zcs n).length) : (zcs n)[j] = zc3[j % 3]! := by
  unfold zcs Builtin.zeroCells
  simp [zc3]
theorem zcs_at (n j : Nat) (h : j < n) : ((zcs n).drop (j * 3)).take 3 = [.int .i64 0, .int .i64 0, .int .u64 0] := by
  have hl := zcs_len n
  have l0 : j * 3 < (zcs n).length := by omega
  have l1 : j * 3 + 1 < (zcs n).length := by omega
  have l2 : j * 3 + 1 + 1 < (zcs n).length := by omega
  rw [List.drop_eq_getElem_cons l0, List.take_succ_cons, List.drop_eq_getElem_cons l1, List.take_succ_cons, List.drop_eq_getElem_cons l2, List.take_succ_cons, List.take_zero, zcs_get, zcs_get, zcs_get]
  rw [show j * 3 % 3 = 0 by omega, show (j * 3 + 1) % 3 = 1 by omega, show (j * 3 + 1 + 1) % 3 = 2 by omega]
  rfl
theorem zcs_reps (w : World) (base : Nat) (ok : Nat → Prop) (n : Nat) : Reps (kSl.M w base ok) 3 (List.replicate n zSl) (zcs n) := by
  refine ⟨by rw [zcs_len, List.length_replicate], fun j p hj => ?_⟩
  obtain ⟨hl, rfl⟩ := List.getElem?_eq_some_iff.1 hj
  rw [List.length_replicate] at hl
  rw [zcs_at n j hl, List.getElem_replicate]
  exact kSl_mkM _ _ _ zSl
theorem zcs_one (n : Nat) : ∀ v ∈ zcs n, v.oneCell' = true := fun v hv => by
  obtain ⟨j, hj, rfl⟩ := List.getElem_of_mem hv
  rw [zcs_get]
  rcases (show j % 3 = 0 ∨ j % 3 = 1 ∨ j % 3 = 2 by omega) with h | h | h <;> rw [h] <;> rfl
/-- clear(slots). -/
theorem clear_R {w : World} {base g cap : Nat} {ok : Nat → Prop} {sl : List Sl} (h : Kd.R kSl 57 w base ok (.slice (some ⟨g, 0, none⟩) sl.length cap) sl) (hp : 0 < sl.length) (ty : TypeId) :
    (Builtin.clear_ #[46] ty #[.slice (some ⟨g, 0, none⟩) sl.length cap]).run Try.prog w = .ok (.tuple #[]) (w.setCells g 0 (zcs sl.length)) ∧
    Kd.R kSl 57 (w.setCells g 0 (zcs sl.length)) base ok (.slice (some ⟨g, 0, none⟩) sl.length cap) (List.replicate sl.length zSl) ∧ w.grownBy (w.setCells g 0 (zcs sl.length)) (some g) := by
  obtain ⟨hok, inner, ho, hr⟩ := h
  obtain ⟨hil, ho2⟩ := ho
  rcases ho2 with ⟨hv, _⟩ | ⟨g', cap', cur, hv, hb, hh, hnc, hcm, hcs, ht⟩
  · cases hv
  injection hv with ha _ hc
  injection ha with ha
  injection ha with hg
  subst hg; subst hc
  have hfit : 0 + (zcs sl.length).length ≤ cur.size := by rw [zcs_len, hcs, Nat.zero_add]; exact Nat.mul_le_mul_right _ hnc
  have hl : (List.replicate sl.length zSl).length = sl.length := List.length_replicate
  refine ⟨?_, ?_, ?_⟩
  · have hst := run_storeCells_cells (P := Try.prog) g 0 (zcs sl.length) 0 w (fun j hj => by
      have : j < cur.size := by omega
      simp only [World.cell?, hh, Nat.zero_add, Option.isSome_none, Bool.false_eq_true, if_false]
      rw [Array.getElem?_eq_getElem this]; rfl) (fun j hj => blk_frozen hh _) (zcs_one _)
    obtain ⟨m, hm⟩ : ∃ m, sl.length = m + 1 := ⟨sl.length - 1, by omega⟩
    have hz : ∀ w, (zeroValue 57).run Try.prog w = .ok (.agg zc3) w := Try.zeroValue57
    have hzc : (Value.agg zc3).cells = zc3 := by rfl
    rw [hm] at hst ⊢
    unfold zcs at hst ⊢
    simp [Builtin.clear_, run_underlying Try.underlying46, hz, hzc, hst]
  · obtain ⟨cur', h3, h4, h5⟩ := setCells_row (zcs sl.length) 0 w cur hh hfit
    refine ⟨hok, zcs sl.length, ⟨by rw [zcs_len, hl]; rfl, Or.inr ⟨g, cap, cur', by rw [hl], hb, h3, by rw [hl]; exact hnc, hcm, by rw [h4]; exact hcs, ?_⟩⟩, zcs_reps _ _ _ _⟩
    rw [h5, hl, show sl.length * kSl.sz = (zcs sl.length).length by rw [zcs_len]; rfl]
    simp
  · obtain ⟨s1, s2, s3, s4⟩ := setCells_same g (zcs sl.length) 0 w
    exact ⟨s1, s2, s3, Nat.le_of_eq s4.symm, fun k hk hne => setCells_far _ _ k (fun e => hne (by rw [e]))⟩
end Go.Proofs.Ytkkkfgnaojhmeaa.K

namespace Go.Proofs.Ytkkkfgnaojhmeaa.K
open Go.RowKit Go.Proofs.YtkkkfgnaojhmeaaW.PrintWords Go.Proofs.YtkkkfgnaojhmeaaW.PrintLast Go.Proofs.YtkkkfgnaojhmeaaW.PrintMore Go.Proofs.Ytkkkfgnaojhmeaa
attribute [local go_sem] max2_int min2_int max_two min_two max_three min_three max_four min_four
set_option linter.unusedVariables false
set_option linter.unusedSimpArgs false
open Go.Proofs.Ytkkkfgnaojhmeaa.PTb Go.Proofs.Ytkkkfgnaojhmeaa.Tab
/-- A slot's entry. -/
def entO (ar : List Int) (s : Sl) : Option S37 := if s.f2 = 0 then none else some ⟨slotW ar s, s.f2⟩
def entsO (ar : List Int) (sl : List Sl) : List S37 := sl.filterMap (entO ar)
theorem ents_none {ar : List Int} {sl : List Sl} {i : Nat} (h : i < sl.length) (hz : sl[i].f2 = 0) : entsO ar (sl.take (i + 1)) = entsO ar (sl.take i) := by
  unfold entsO
  rw [List.take_succ_eq_append_getElem h, List.filterMap_append]
  have : entO ar sl[i] = none := by unfold entO; rw [if_pos hz]
  simp [this]
theorem ents_some {ar : List Int} {sl : List Sl} {i : Nat} (h : i < sl.length) (hz : sl[i].f2 ≠ 0) : entsO ar (sl.take (i + 1)) = entsO ar (sl.take i) ++ [⟨slotW ar sl[i], sl[i].f2⟩] := by
  unfold entsO
  rw [List.take_succ_eq_append_getElem h, List.filterMap_append]
  have : entO ar sl[i] = some ⟨slotW ar sl[i], sl[i].f2⟩ := by unfold entO; rw [if_neg hz]
  simp [this]
theorem ents_len (ar : List Int) (sl : List Sl) (i : Nat) : (entsO ar (sl.take i)).length ≤ i := by
  unfold entsO
  refine Nat.le_trans (List.length_filterMap_le _ _) ?_
  rw [List.length_take]; exact Nat.min_le_left _ _
def DrOut (base g room : Nat) (F : Nat → Prop) (ar : List Int) (sl : List Sl) (w : World) (e : Ending) (w' : World) : Prop :=
  ∃ v es, e = .returned v ∧ es.Perm (entsO ar sl) ∧ es.Pairwise (fun a b => ¬ Utf.nats b.f0 < Utf.nats a.f0) ∧ Kd.R k37 37 w' w.heap.size (fun _ => True) v es ∧ TabF base g room F [] w' ∧ Below base w w' ∧ Kept w w' F
set_option maxHeartbeats 4000000 in
set_option maxRecDepth 100000 in
theorem drain_0 (base g room : Nat) (F : Nat → Prop) (HFF : Aside0 (F g)) (L : List En) (w : World) (Aa : Option Addr) (ca : Nat) (ar : List Int) (gs cs : Nat) (sl : List Sl)
    (H1 : Aside0 (w.heap[g]? = some (.cells #[.int .i64 (room : Int), .int .i64 (L.length : Int), .slice Aa ar.length ca, .slice (some ⟨gs, 0, none⟩) sl.length cs] 48 (0, 0)))) (HBG : Aside0 (base ≤ g ∧ base ≤ gs ∧ gs ≠ g ∧ base ≤ w.heap.size ∧ sl.length ≤ 1000000 ∧ ar.length ≤ ca))
    (H3 : Aside0 (Kd.R (Kd.int .u8) 5 w base (fun k => k ≠ g ∧ F k) (.slice Aa ar.length ca) ar)) (H4 : Aside0 (Kd.R kSl 57 w base (fun k => k ≠ g ∧ F k) (.slice (some ⟨gs, 0, none⟩) sl.length cs) sl)) (H5 : Aside0 (TabR room ar sl L)) :
    Calls Try.prog 13 #[.pointer (some ⟨g, 0, none⟩)] w (DrOut base g room F ar sl w) := by
  go_enter Try.func13, Try.ntmps13
  go_upto_region 4 with fail
  have c3 : w.cell? ⟨g, 3, none⟩ = some (.slice (some ⟨gs, 0, none⟩) sl.length cs) := (blk_cell H1.out 3).trans rfl
  go_upto_block 0 with fail
  clear c3
  go_wp2
  go_loopg [3, 13] sl.length (fun gg v3 v13 wr => ∃ i : Nat, v13 = .int .i64 (i : Int) ∧ Aside0 (i ≤ sl.length ∧ sl.length ≤ gg + i) ∧ Aside0 (Kd.R k37 37 wr w.heap.size (fun _ => True) v3 (entsO ar (sl.take i))) ∧ Aside0 (Below w.heap.size w wr))
  case atStart => exact ⟨0, rfl, ⟨Nat.zero_le _, by omega⟩, ⟨Kd.R_nil _ _ _ _ _⟩, ⟨Below.refl _ _⟩⟩
  case round =>
    obtain ⟨i, rfl, hi, hr, hb⟩ := hrel
    by_cases hlt : i < sl.length
    · have hcb : decide ((i : Int) < (sl.length : Int)) = true := decide_eq_true (by omega)
      have z0 : (0 : Int) ≤ (i : Int) := by omega
      have z1 : (i : Int) < (sl.length : Int) := by omega
      obtain ⟨_, _, hCs⟩ := Kd.R_reads' (Kd.R_below H4.out hb.out)
      obtain ⟨ad, cc, e0, _, hK, hcc⟩ := Kd.C_get hCs zSl (i : Int) z0 z1
      rw [Int.toNat_natCast] at hK hcc
      rw [List.getD_eq_getElem?_getD, List.getElem?_eq_getElem hlt, Option.getD_some] at hK
      have HS : ∃ s, sl[i] = s := ⟨_, rfl⟩
      obtain ⟨s, hs⟩ := HS
      rw [hs] at hK
      have HS := Aside0.mk hs
      obtain rfl := kSl_open hK
      have hc : ∀ j u, ([.int .i64 s.f0, .int .i64 s.f1, .int .u64 s.f2] : List Value)[j]? = some u → wr.cell? (ad.add (i * 3 + j)) = some u := hcc
      cases e0
      have q0 : wr.cell? ⟨gs, i * 3, none⟩ = some (.int .i64 s.f0) := by have := hc 0 _ rfl; rwa [add_plain] at this
      have q1 : wr.cell? ⟨gs, i * 3 + 1, none⟩ = some (.int .i64 s.f1) := by have := hc 1 _ rfl; rwa [add_plain] at this
      have q2 : wr.cell? ⟨gs, i * 3 + 2, none⟩ = some (.int .u64 s.f2) := by have := hc 2 _ rfl; rwa [add_plain] at this
      have hso := H5.out.ok s (by rw [← hs]; exact List.getElem_mem hlt)
      clear hcc hc hK hs hCs
      have HT := Aside0.mk hlt
      have hiw : wrap64 ((i : Int) + 1) = ((i + 1 : Nat) : Int) := by have := HBG.out.2.2.2.2.1; unfold wrap64; omega
      have HIW := Aside0.mk hiw
      clear hiw
      by_cases hz : s.f2 = 0
      · have hzb : decide (s.f2 > 0) = false := decide_eq_false (by omega)
        have HZ := Aside0.mk hz
        clear hz hso
        go_upto_region 7 with fail
        have n1 := heap_alloc_new wr (.cells #[.int .i64 s.f0, .int .i64 s.f1, .int .u64 s.f2] 57)
        have b1 : Below wr.heap.size wr (wr.alloc (.cells #[.int .i64 s.f0, .int .i64 s.f1, .int .u64 s.f2] 57)) := below_alloc (Below.refl _ _) _
        have HB1 := Aside0.mk (hb.out.trans (b1.mono hb.out.size))
        have HR1 := Aside0.mk (Kd.R_below hr.out b1)
        have r2 := (blk_cell n1 2).trans rfl
        clear q0 q1 q2 b1 hb hr n1
        obtain ⟨bx, hbx⟩ : ∃ bx, bx = wr.heap.size := ⟨_, rfl⟩
        rw [← hbx] at r2 ⊢
        clear hbx
        generalize wr.alloc (.cells #[.int .i64 s.f0, .int .i64 s.f1, .int .u64 s.f2] 57) = w1 at HB1 HR1 r2 ⊢
        have hiw := HIW.out
        go_wp2
        go_roundg (sl.length - (i + 1))
        case measure => have := hi.out; have := HT.out; omega
        case rel =>
          refine ⟨i + 1, rfl, ⟨by have := HT.out; omega⟩, ?_, HB1⟩
          rw [ents_none HT.out (by rw [HS.out]; exact HZ.out)]
          exact HR1
      · have hzb : decide (s.f2 > 0) = true := decide_eq_true (by omega)
        have hslot : ∃ a b : Nat, s.f0 = (a : Int) ∧ s.f1 = (b : Int) ∧ a ≤ b ∧ b ≤ ar.length := by
          rcases hso.1 with h | h
          · exact absurd h hz
          · exact h
        obtain ⟨a, b, ea, eb, hab, hbl⟩ := hslot
        have hsw : slotW ar s = strOfNums (cutA ar a b) := by unfold slotW; rw [ea, eb, Int.toNat_natCast, Int.toNat_natCast]
        have HSW := Aside0.mk hsw
        rw [ea] at q0
        rw [eb] at q1
        have HZ := Aside0.mk hz
        have HAB := Aside0.mk (And.intro hab hbl)
        clear hz hso hsw ea eb hab hbl
        go_upto_region 7 with fail
        have n1 := heap_alloc_new wr (.cells #[.int .i64 (a : Int), .int .i64 (b : Int), .int .u64 s.f2] 57)
        have b1 : Below wr.heap.size wr (wr.alloc (.cells #[.int .i64 (a : Int), .int .i64 (b : Int), .int .u64 s.f2] 57)) := below_alloc (Below.refl _ _) _
        have HB1 := Aside0.mk (hb.out.trans (b1.mono hb.out.size))
        have HR1 := Aside0.mk (Kd.R_below hr.out b1)
        have r2 := (blk_cell n1 2).trans rfl
        clear q0 q1 q2 b1 hb hr
        obtain ⟨bx, hbx⟩ : ∃ bx, bx = wr.heap.size := ⟨_, rfl⟩
        rw [← hbx] at r2 n1 ⊢
        have HN1 := Aside0.mk n1
        clear hbx n1
        generalize wr.alloc (.cells #[.int .i64 (a : Int), .int .i64 (b : Int), .int .u64 s.f2] 57) = w1 at HB1 HR1 r2 HN1 ⊢
        go_upto_region 8 with fail
        clear r2
        refine start_ (n := 10) (S := fun w' => w'.heap[bx]? = some (.cells #[.int .i64 (a : Int), .int .i64 (b : Int), .int .u64 s.f2] 57 (0, 0))) (ds := [8, 9]) #[false, false, false, false, false, false, false, false, false, false] (by kernel_rfl) rfl rfl (by exact blk_drew HN1.out) (fun hHeld => ?_)
        have HB2 := Aside0.mk (below_drew HB1.out)
        have HR2 := Aside0.mk (Kd.R_drew HR1.out)
        clear HB1 HR1 HN1
        generalize w1.drew = w2 at HB2 HR2 hHeld ⊢
        (refine pure_ (i := 0) (N := some 20) (v := ?_) (a' := ?_) #[true, false, false, false, false, false, false, false, false, false] rfl rfl (by kernel_rfl) (fun _ _ _ h => h) (Or.inl ⟨by rfl, ?_⟩) ?_ ?_; rotate_left; (intro w'; go_simp; with_reducible rfl); rotate_left; (simp only [Act.put, List.setIfInBounds_toArray, List.set_cons_zero, List.set_cons_succ, i64_w, i32_w]; rfl)); (refine pure_ (i := 1) (N := some 21) (v := ?_) (a' := ?_) #[true, true, false, false, false, false, false, false, false, false] rfl rfl (by kernel_rfl) (fun _ _ _ h => h) (Or.inl ⟨by rfl, ?_⟩) ?_ ?_; rotate_left; (intro w'; go_simp; with_reducible rfl); rotate_left; (simp only [Act.put, List.setIfInBounds_toArray, List.set_cons_zero, List.set_cons_succ, i64_w, i32_w]; rfl)); (refine pure_ (i := 4) (N := some 24) (v := ?_) (a' := ?_) #[true, true, false, false, true, false, false, false, false, false] rfl rfl (by kernel_rfl) (fun _ _ _ h => h) (Or.inl ⟨by rfl, ?_⟩) ?_ ?_; rotate_left; (intro w'; go_simp; with_reducible rfl); rotate_left; (simp only [Act.put, List.setIfInBounds_toArray, List.set_cons_zero, List.set_cons_succ, i64_w, i32_w]; rfl))
        refine take_ (i := 2) (N := some 22) (v := ?_) (a' := ?_) #[true, true, true, false, true, false, false, false, false, false] rfl rfl (by kernel_rfl) (fun _ _ _ h => h) (Or.inl ⟨by rfl, ?_⟩) hHeld ?_ ?_
        rotate_left
        · intro w' s
          have s0 : w'.cell? ⟨bx, 0, none⟩ = some (.int .i64 (a : Int)) := (blk_cell s 0).trans rfl
          have s1 : w'.cell? ⟨bx, 1, none⟩ = some (.int .i64 (b : Int)) := (blk_cell s 1).trans rfl
          have s2 := (blk_cell s 2).trans rfl
          clear s
          go_simp
          with_reducible rfl
        rotate_left
        · simp only [Act.put, List.setIfInBounds_toArray, List.set_cons_zero, List.set_cons_succ, i64_w, i32_w]
          rfl
        refine take_ (i := 5) (N := some 25) (v := ?_) (a' := ?_) #[true, true, true, false, true, true, false, false, false, false] rfl rfl (by kernel_rfl) (fun _ _ _ h => h) (Or.inl ⟨by rfl, ?_⟩) hHeld ?_ ?_
        rotate_left
        · intro w' s
          have s2 := (blk_cell s 2).trans rfl
          clear s
          go_simp
          with_reducible rfl
        rotate_left
        · simp only [Act.put, List.setIfInBounds_toArray, List.set_cons_zero, List.set_cons_succ, i64_w, i32_w]
          rfl
        skip
        refine one_ (i := 3) (N := some 23) #[true, true, true, true, true, true, false, false, false, false] rfl rfl (by kernel_rfl) (by decide) (fun K hK => ?_)
        refine goes_ Try.func18 (by kernel_rfl) rfl #[.pointer (some ⟨g, 0, none⟩), .agg #[.int .i64 (a : Int), .int .i64 (b : Int), .int .u64 s.f2]] (by rfl) rfl rfl (by simp only [List.map_toArray, List.map_cons, List.map_nil]; rfl) ?_
        refine (word_k g _ _ _ Aa ca ar a b s.f2 w2 (blk_below H1.out HB2.out) (Kd.C_below (Kd.R_reads' H3.out).2.2 HB2.out) HBG.out.2.2.2.2.2 HAB.out.1 HAB.out.2).mono fun e w3 hh => ?_
        obtain ⟨rfl, hb3⟩ := hh
        refine ⟨_, rfl, hK.out _ _ (blk_below hHeld hb3) (fun hHeld => ?_)⟩
        have HB3 := Aside0.mk (HB2.out.trans (hb3.mono HB2.out.size))
        have HR3 := Aside0.mk (Kd.R_below HR2.out hb3)
        clear HB2 HR2 hb3
        (clear hK K; refine norm_ (a' := ?_) ?_ ?_; rotate_left; (show Act.put _ (some 23) _ = _; simp only [Act.put, List.setIfInBounds_toArray, List.set_cons_zero, List.set_cons_succ, i64_w, i32_w]; rfl))
        rw [← HSW.out]
        obtain ⟨x, hx⟩ : ∃ x, slotW ar s = x := ⟨_, rfl⟩
        rw [hx]
        have HX := Aside0.mk hx
        clear hx
        (refine pure_ (i := 6) (N := some 26) (v := ?_) (a' := ?_) #[true, true, true, true, true, true, true, false, false, false] rfl rfl (by kernel_rfl) (fun _ _ _ h => h) (Or.inl ⟨by rfl, ?_⟩) ?_ ?_; rotate_left; (intro w'; go_simp; with_reducible rfl); rotate_left; (simp only [Act.put, List.setIfInBounds_toArray, List.set_cons_zero, List.set_cons_succ, i64_w, i32_w]; rfl))
        refine one_ (i := 7) (N := some 27) #[true, true, true, true, true, true, true, true, false, false] rfl rfl (by kernel_rfl) (by decide) (fun K hK => ?_)
        (refine value_ (w1 := ?_) (v := ?_) (by rfl) rfl ?_ ?_; rotate_left 2; (go_simp; constructor; rfl; rfl))
        refine hK.out _ _ (blk_below hHeld (below_alloc (Below.refl _ _) _)) (fun hHeld => ?_)
        (clear hK K; refine norm_ (a' := ?_) ?_ ?_; rotate_left; (show Act.put _ (some 27) _ = _; simp only [Act.put, List.setIfInBounds_toArray, List.set_cons_zero, List.set_cons_succ, i64_w, i32_w]; rfl))
        refine last_ (i := 8) (N := some 28) #[true, true, true, true, true, true, true, true, true, false] rfl rfl (by kernel_rfl) (by decide) (fun K hK => ?_)
        refine Kd.R_append_step (k37) (w0 := w) (w.heap.size) (by rfl) (.tmp 20) (.tmp 27) 30 37 (.agg #[(.string ⟨#[]⟩), (.int .u64 0)]) 24 rfl Try.underlying30 info37 rfl (by decide) (by omega) u3 (entsO ar (sl.take i)) (⟨x, s.f2⟩ : S37) [.string x, .int .u64 s.f2] (fun _ => True) (fun _ => False) rfl rfl ?aP ?aK ?aF ?aO ?aB ?aS ?aL ?_
        (case aP => exact k37_mkM _ _ _ _)
        (case aK => exact fun _ h => h.elim)
        (case aF => exact fun _ _ => trivial)
        (case aO => exact HR3.out)
        (case aB => exact HB3.out)
        (case aS => exact HB3.out.size)
        (case aL => have h1 := ents_len ar sl i; have h2 := HT.out; have h3 := HBG.out.2.2.2.2.1; omega)
        intro v1 w4 hR4 hb4 hg4 hat4
        have HR4 := Aside0.mk hR4; have HB4 := Aside0.mk hb4
        clear hg4 hat4 hHeld hR4 hb4 HB3 HR3
        refine hK.out _ _ ?_
        (clear hK K; refine norm_ (a' := ?_) ?_ ?_; rotate_left; (show Act.put _ (some 28) _ = _; simp only [Act.put, List.setIfInBounds_toArray, List.set_cons_zero, List.set_cons_succ, i64_w, i32_w]; rfl))
        (refine pure_ (i := 9) (N := some 3) (v := ?_) (a' := ?_) #[true, true, true, true, true, true, true, true, true, true] rfl rfl (by kernel_rfl) (fun _ _ _ h => h) (Or.inl ⟨by rfl, ?_⟩) ?_ ?_; rotate_left; (intro w'; go_simp; with_reducible rfl); rotate_left; (simp only [Act.put, List.setIfInBounds_toArray, List.set_cons_zero, List.set_cons_succ, i64_w, i32_w]; rfl))
        refine done_ (by kernel_rfl) ?_
        have hiw := HIW.out
        try go_wp2
        go_roundg (sl.length - (i + 1))
        case measure => have := hi.out; have := HT.out; omega
        case rel =>
          refine ⟨i + 1, rfl, ⟨by have := HT.out; omega⟩, ?_, HB4⟩
          rw [ents_some HT.out (by rw [HS.out]; exact HZ.out), HS.out, HX.out]
          exact HR4
    · have hcb : decide ((i : Int) < (sl.length : Int)) = false := decide_eq_false (by omega)
      have htk : sl.take i = sl := List.take_of_length_le (by omega)
      rw [htk] at hr
      clear htk
      go_upto_region 10 with fail
      clear hcb
      have HSORT := Aside0.mk (sort_k wr w.heap.size (fun _ => True) _ (entsO ar sl) hr.out (by have h1 := ents_len ar sl sl.length; rw [List.take_length] at h1; have h3 := HBG.out.2.2.2.2.1; omega))
      go_upto_region 11 with (first | (go_at_call 19; (with_reducible refine (HSORT.out).mono ?_); rintro e w2 ⟨rfl, es, hp, hpw, hR, hg⟩; have HP := Aside0.mk hp; have HPW := Aside0.mk hpw; have HR := Aside0.mk hR; have HGR := Aside0.mk hg; clear hp hpw hR hg))
      have HB2 : Aside0 (Below w.heap.size w w2) := ⟨hb.out.grown HGR.out hb.out.size (fun k hk => Kd.R_base hr.out k hk)⟩
      clear hb hr HSORT HGR
      have hsp : 0 < sl.length := by rw [H5.out.len]; have := H5.out.lo; omega
      have hclr := clear_R (Kd.R_below H4.out HB2.out) hsp 0
      have hrun := hclr.1
      have HCL := Aside0.mk hclr.2
      have H12 := Aside0.mk (blk_below H1.out HB2.out)
      have c3 : w2.cell? ⟨g, 3, none⟩ = some (.slice (some ⟨gs, 0, none⟩) sl.length cs) := (blk_cell H12.out 3).trans rfl
      have HFS := Aside0.mk ((H4.out.1 gs rfl).2)
      clear hclr
      go_upto_region 12 with fail
      have hfar : ∀ k, k ≠ gs → (w2.setCells gs 0 (zcs sl.length)).heap[k]? = w2.heap[k]? := fun k hk => setCells_far _ _ k hk
      have H13 := Aside0.mk ((hfar g (fun e => HBG.out.2.2.1 e.symm)).trans H12.out)
      have HS3 := Aside0.mk HCL.out.1
      have HB3 : Aside0 (Below base w (w2.setCells gs 0 (zcs sl.length))) := ⟨(HB2.out.mono HBG.out.2.2.2.1).grown HCL.out.2 (Nat.le_trans HBG.out.2.2.2.1 HB2.out.size) (fun k hk => by injection hk with hk; rw [← hk]; exact HBG.out.2.1)⟩
      have hgsl : gs < w.heap.size := Kd.R_lt H4.out gs rfl
      have hgl : g < w.heap.size := blk_lt H1.out
      have HR3 : Aside0 (Kd.R k37 37 (w2.setCells gs 0 (zcs sl.length)) w.heap.size (fun k => w.heap.size ≤ k) u3 es) := ⟨Kd.R_mono (Kd.R_move (Kd.R_bound HR.out) (fun k hk => hfar k (fun e => by have := hk.2.1; omega))) (fun k hk => hk.2.1)⟩
      have HK3 : Aside0 (Kept w (w2.setCells gs 0 (zcs sl.length)) F) := ⟨Kept.of_grown HCL.out.2 (Kept.of_below HB2.out F) (fun k hk => by injection hk with hk; rw [← hk]; exact Or.inl HFS.out)⟩
      have HGL := Aside0.mk hgl
      clear hfar hrun c3 HCL H12 HB2 HR hgsl hgl hsp
      generalize w2.setCells gs 0 (zcs sl.length) = w3 at H13 HS3 HB3 HR3 HK3 ⊢
      have fz1 : w3.frozen? ⟨g, 1, none⟩ = false := blk_frozen H13.out 1
      have fz2 : w3.frozen? ⟨g, 2, none⟩ = false := blk_frozen H13.out 2
      have c1 : w3.cell? ⟨g, 1, none⟩ = some (.int .i64 (L.length : Int)) := (blk_cell H13.out 1).trans rfl
      have c2 : w3.cell? ⟨g, 2, none⟩ = some (.slice Aa ar.length ca) := (blk_cell H13.out 2).trans rfl
      go_wp2
      go_ret
      have hlen : (List.replicate sl.length zSl) = List.replicate (2 * room) zSl := by rw [H5.out.len]
      have e8 := blk_put (blk_put H13.out 2 (.slice none 0 0) rfl) 1 (.int .i64 (([] : List En).length : Int)) rfl
      have hfar2 : ∀ k, k ≠ g → ((w3.setCell ⟨g, 2, none⟩ (.slice none 0 0)).setCell ⟨g, 1, none⟩ (.int .i64 0)).heap[k]? = w3.heap[k]? := fun k hk => far2 k hk
      refine ⟨_, es, rfl, HP.out, HPW.out, Kd.R_mono (Kd.R_move HR3.out (fun k hk => hfar2 k (fun e => by have := HGL.out; omega))) (fun _ _ => trivial), ⟨_, _, [], List.replicate sl.length zSl, e8, ⟨HBG.out.1, HFF.out⟩, Kd.R_nil _ _ _ _ _, Kd.R_move HS3.out (fun k hk => hfar2 k hk.1), by rw [hlen]; exact tab_empty room H5.out.lo H5.out.hi⟩, (HB3.out.setCell (p := ⟨g, 2, none⟩) HBG.out.1 _).setCell (p := ⟨g, 1, none⟩) HBG.out.1 _, (HK3.out.setCell (p := ⟨g, 2, none⟩) (Or.inl HFF.out) _).setCell (p := ⟨g, 1, none⟩) (Or.inl HFF.out) _⟩
end Go.Proofs.Ytkkkfgnaojhmeaa.K

namespace Go.Proofs.Ytkkkfgnaojhmeaa.K
open Go.RowKit Go.Proofs.YtkkkfgnaojhmeaaW.PrintWords Go.Proofs.YtkkkfgnaojhmeaaW.PrintLast Go.Proofs.YtkkkfgnaojhmeaaW.PrintMore Go.Proofs.Ytkkkfgnaojhmeaa
attribute [local go_sem] max2_int min2_int max_two min_two max_three min_three max_four min_four
set_option linter.unusedVariables false
set_option linter.unusedSimpArgs false
open Go.Proofs.Ytkkkfgnaojhmeaa.PTb Go.Proofs.Ytkkkfgnaojhmeaa.Tab
def toEn (x : S37) : En := (Utf.nats x.f0, x.f1.toNat)
theorem sorted_ext : ∀ (A B : List En), A.Pairwise (fun a b => a.1 < b.1) → B.Pairwise (fun a b => a.1 < b.1) → (∀ e, e ∈ A ↔ e ∈ B) → A = B
  | [], [], _, _, _ => rfl
  | [], b :: B, _, _, h => by have := (h b).2 (by simp); simp at this
  | a :: A, [], _, _, h => by have := (h a).1 (by simp); simp at this
  | a :: A, b :: B, hA, hB, h => by
    rw [List.pairwise_cons] at hA hB
    have hab : a = b := by
      rcases List.mem_cons.1 ((h a).1 (by simp)) with e | e
      · exact e
      · rcases List.mem_cons.1 ((h b).2 (by simp)) with e2 | e2
        · exact e2.symm
        · exact absurd (hB.1 a e) (lt_no (hA.1 b e2))
    subst hab
    congr 1
    refine sorted_ext A B hA.2 hB.2 (fun e => ?_)
    constructor
    · intro he
      rcases List.mem_cons.1 ((h e).1 (List.mem_cons_of_mem _ he)) with rfl | h2
      · exact absurd (hA.1 e he) (List.lt_irrefl _)
      · exact h2
    · intro he
      rcases List.mem_cons.1 ((h e).2 (List.mem_cons_of_mem _ he)) with rfl | h2
      · exact absurd (hB.1 e he) (List.lt_irrefl _)
      · exact h2
theorem entO_ct {ar : List Int} {sl : List Sl} {p : Nat} (hp : p < sl.length) : (entO ar sl[p]).map toEn = ctOf ar sl p := by
  unfold entO ctOf
  rw [List.getD_eq_getElem?_getD, List.getElem?_eq_getElem hp, Option.getD_some]
  by_cases hz : sl[p].f2 = 0
  · rw [if_pos hz, if_pos hz]; rfl
  · rw [if_neg hz, if_neg hz]; rfl
/-- What is drained is the list. -/
theorem drained {room : Nat} {ar : List Int} {sl : List Sl} {L : List En} (h : TabR room ar sl L) {es : List S37} (hp : es.Perm (entsO ar sl)) (hpw : es.Pairwise (fun a b => ¬ Utf.nats b.f0 < Utf.nats a.f0)) :
    es.map toEn = L ∧ ∀ x ∈ es, 0 ≤ x.f1 ∧ x.f1 ≤ 4611686018427387904 := by
  have hmem : ∀ x, x ∈ es ↔ ∃ p, ∃ hp : p < sl.length, entO ar sl[p] = some x := fun x => by
    rw [hp.mem_iff]
    unfold entsO
    rw [List.mem_filterMap]
    constructor
    · rintro ⟨s, hs, he⟩
      obtain ⟨p, hpl, rfl⟩ := List.getElem_of_mem hs
      exact ⟨p, hpl, he⟩
    · rintro ⟨p, hpl, he⟩
      exact ⟨_, List.getElem_mem hpl, he⟩
  have hne : es.Pairwise (fun a b => Utf.nats a.f0 ≠ Utf.nats b.f0) := by
    refine hp.symm.pairwise (R := fun a b : S37 => Utf.nats a.f0 ≠ Utf.nats b.f0) ?_ (fun h e => h e.symm)
    unfold entsO
    rw [List.pairwise_filterMap, List.pairwise_iff_getElem]
    intro i j hi hj hij x hx y hy hxy
    have h1 : ctOf ar sl i = some (toEn x) := by rw [← entO_ct hi, hx]; rfl
    have h2 : ctOf ar sl j = some (toEn y) := by rw [← entO_ct hj, hy]; rfl
    rw [h.len] at hi hj
    have := h.ti.uniq i j _ _ hi hj h1 h2 hxy
    omega
  constructor
  · refine sorted_ext _ _ ?_ h.ti.sorted (fun e => ?_)
    · rw [List.pairwise_map]
      refine (hpw.and hne).imp ?_
      rintro a b ⟨h1, h2⟩
      rcases lt_tri (Utf.nats a.f0) (Utf.nats b.f0) with h3 | h3 | h3
      · exact h3
      · exact absurd h3 h2
      · exact absurd h3 h1
    · rw [List.mem_map, h.ti.mem e]
      constructor
      · rintro ⟨x, hx, rfl⟩
        obtain ⟨p, hpl, he⟩ := (hmem x).1 hx
        exact ⟨p, by rw [← h.len]; exact hpl, by rw [← entO_ct hpl, he]; rfl⟩
      · rintro ⟨p, hpl, he⟩
        rw [← h.len] at hpl
        rw [← entO_ct hpl] at he
        obtain ⟨x, hx, hxe⟩ := Option.map_eq_some_iff.1 he
        exact ⟨x, (hmem x).2 ⟨p, hpl, hx⟩, hxe⟩
  · intro x hx
    obtain ⟨p, hpl, he⟩ := (hmem x).1 hx
    unfold entO at he
    split at he
    · cases he
    · injection he with he
      subst he
      exact (h.ok _ (List.getElem_mem hpl)).2
/-- Drain, in one. -/
theorem drainF (base g room : Nat) (F : Nat → Prop) (L : List En) (w : World) (h : TabF base g room F L w) :
    Calls Try.prog 13 #[.pointer (some ⟨g, 0, none⟩)] w fun e w' => ∃ v es, e = .returned v ∧ es.map toEn = L ∧ (∀ x ∈ es, 0 ≤ x.f1 ∧ x.f1 ≤ 4611686018427387904) ∧ Kd.R k37 37 w' w.heap.size (fun _ => True) v es ∧ TabF base g room F [] w' ∧ Below base w w' ∧ Kept w w' F := by
  obtain ⟨Aa, ca, ar, gs, cs, sl, h1, hbg, hbs, hgs, h3, h4, h5, hsl, hslm, hfg, hfs⟩ := tab_open h
  have hsz : base ≤ w.heap.size := by have := Kd.R_lt h4 gs rfl; omega
  refine (drain_0 base g room F ⟨hfg⟩ L w Aa ca ar gs cs sl ⟨h1⟩ ⟨⟨hbg, hbs, hgs, hsz, hslm, (Kd.R_reads' h3).2.1⟩⟩ ⟨h3⟩ ⟨h4⟩ ⟨h5⟩).mono ?_
  rintro e w' ⟨v, es, rfl, hp, hpw, hR, hT, hB, hK⟩
  obtain ⟨k1, k2⟩ := drained h5 hp hpw
  exact ⟨v, es, rfl, k1, k2, hR, hT, hB, hK⟩
end Go.Proofs.Ytkkkfgnaojhmeaa.K

namespace Go.Proofs.Ytkkkfgnaojhmeaa.K
open Go.RowKit Go.Proofs.YtkkkfgnaojhmeaaW.PrintWords Go.Proofs.YtkkkfgnaojhmeaaW.PrintLast Go.Proofs.YtkkkfgnaojhmeaaW.PrintMore Go.Proofs.Ytkkkfgnaojhmeaa
attribute [local go_sem] max2_int min2_int max_two min_two max_three min_three max_four min_four
set_option linter.unusedVariables false
set_option linter.unusedSimpArgs false
open Go.Proofs.Ytkkkfgnaojhmeaa.PTb Go.Proofs.Ytkkkfgnaojhmeaa.Tab
theorem same_l0 (l : List S37) (hb : l.length < 4611686018427387904) : ∀ (n i K : Nat), l.length = i + n → n < K → manteletref08_Same.l0 K l l (i : Int) = some true := by
  intro n
  induction n with
  | zero =>
    intro i K h hK
    obtain ⟨K, rfl⟩ : ∃ m, K = m + 1 := ⟨K - 1, by omega⟩
    unfold manteletref08_Same.l0
    rw [if_neg (by omega)]
  | succ n ih =>
    intro i K h hK
    obtain ⟨K, rfl⟩ : ∃ m, K = m + 1 := ⟨K - 1, by omega⟩
    unfold manteletref08_Same.l0
    rw [if_pos (by omega), if_pos (by omega), if_pos (by omega), if_neg (by simp)]
    have hw : wrap64 ((i : Int) + 1) = ((i + 1 : Nat) : Int) := by unfold wrap64; omega
    rw [hw]
    exact ih (i + 1) K (by omega) (by omega)
theorem same_refl (l : List S37) (hb : l.length < 4611686018427387904) : manteletref08_Same.f (l.length + 1) l l = some true := by
  unfold manteletref08_Same.f
  rw [if_pos rfl]
  exact same_l0 l hb l.length 0 _ (by omega) (by omega)
/-- Entries are told by their list. -/
theorem toEn_inj {x y : S37} (h : toEn x = toEn y) (hx : 0 ≤ x.f1) (hy : 0 ≤ y.f1) : x = y := by
  obtain ⟨a, b⟩ := x
  obtain ⟨c, d⟩ := y
  unfold toEn at h
  injection h with h1 h2
  have h3 : a = c := nats_inj3 h1
  have h4 : b = d := by simp only at h2 hx hy; omega
  rw [h3, h4]
theorem map_toEn_inj : ∀ (a b : List S37), a.map toEn = b.map toEn → (∀ x ∈ a, 0 ≤ x.f1) → (∀ x ∈ b, 0 ≤ x.f1) → a = b
  | [], [], _, _, _ => rfl
  | [], _ :: _, h, _, _ => by simp at h
  | _ :: _, [], h, _, _ => by simp at h
  | x :: a, y :: b, h, hx, hy => by
    rw [List.map_cons, List.map_cons] at h
    injection h with h1 h2
    rw [toEn_inj h1 (hx x (by simp)) (hy y (by simp)), map_toEn_inj a b h2 (fun z hz => hx z (by simp [hz])) (fun z hz => hy z (by simp [hz]))]
abbrev wA : ByteArray := ⟨#[97]⟩
abbrev wB : ByteArray := ⟨#[98]⟩
abbrev wC : ByteArray := ⟨#[99]⟩
theorem lit2C (w : World) (a b : ByteArray) (m n : Int) : Kd.C k37 (w.alloc (.cells #[.string a, .int .u64 m, .string b, .int .u64 n] 37)) (some ⟨w.heap.size, 0, none⟩) 2 [⟨a, m⟩, ⟨b, n⟩] := by
  have hn := heap_alloc_new w (.cells #[.string a, .int .u64 m, .string b, .int .u64 n] 37)
  refine ⟨rfl, by decide, fun _ => ⟨_, rfl, fun j p hj => ?_⟩⟩
  match j, hj with
  | 0, hj =>
    injection hj with hj
    subst hj
    refine ⟨_, rfl, k37_mk _ _, fun i u hu => ?_⟩
    rw [add_plain]
    match i, hu with
    | 0, hu => injection hu with hu; subst hu; exact (blk_cell hn 0).trans rfl
    | 1, hu => injection hu with hu; subst hu; exact (blk_cell hn 1).trans rfl
    | i + 2, hu => simp at hu
  | 1, hj =>
    injection hj with hj
    subst hj
    refine ⟨_, rfl, k37_mk _ _, fun i u hu => ?_⟩
    rw [add_plain]
    match i, hu with
    | 0, hu => injection hu with hu; subst hu; exact (blk_cell hn 2).trans rfl
    | 1, hu => injection hu with hu; subst hu; exact (blk_cell hn 3).trans rfl
    | i + 2, hu => simp at hu
  | j + 2, hj => simp at hj
end Go.Proofs.Ytkkkfgnaojhmeaa.K

namespace Go.Proofs.Ytkkkfgnaojhmeaa.K
open Go.RowKit Go.Proofs.YtkkkfgnaojhmeaaW.PrintWords Go.Proofs.YtkkkfgnaojhmeaaW.PrintLast Go.Proofs.YtkkkfgnaojhmeaaW.PrintMore Go.Proofs.Ytkkkfgnaojhmeaa
attribute [local go_sem] max2_int min2_int max_two min_two max_three min_three max_four min_four
set_option linter.unusedVariables false
set_option linter.unusedSimpArgs false
open Go.Proofs.Ytkkkfgnaojhmeaa.PTb Go.Proofs.Ytkkkfgnaojhmeaa.Tab
theorem sum_put : ∀ (L : List En) (w : Wd) (c : Nat), L.Pairwise (fun a b => a.1 < b.1) → ((putL L w c).map (fun e => e.2)).sum + getL L w = (L.map (fun e => e.2)).sum + c
  | [], w, c, _ => by simp [putL, getL]
  | x :: r, w, c, hs => by
    have hs0 := hs
    rw [List.pairwise_cons] at hs
    have ih := sum_put r w c hs.2
    unfold putL
    by_cases h1 : w < x.1
    · rw [if_pos h1]
      have hg : getL (x :: r) w = 0 := get_none (fun y hy he => by
        rcases List.mem_cons.1 hy with rfl | hy
        · rw [he] at h1; exact List.lt_irrefl w h1
        · have := hs.1 y hy
          rw [he] at this
          exact lt_no h1 this)
      rw [hg]; simp; omega
    · rw [if_neg h1]
      by_cases h2 : x.1 = w
      · rw [if_pos h2]
        have hg : getL (x :: r) w = x.2 := by rw [← h2]; exact get_mem hs0 (by simp)
        rw [hg]; simp; omega
      · rw [if_neg h2]
        have hg : getL (x :: r) w = getL r w := by
          unfold getL
          rw [List.find?_cons_of_neg (by simpa using h2)]
        rw [hg]; simp; omega
structure CI (ws : List Wd) (k : Nat) (L : List En) : Prop where
  sorted : L.Pairwise (fun a b => a.1 < b.1)
  mem : ∀ e : En, e ∈ L ↔ e.1 ≠ [] ∧ 0 < ws.count e.1 ∧ e.2 = k * ws.count e.1
  len : L.length ≤ ws.length
  sum : (L.map (fun e => e.2)).sum = k * (ws.filter (fun w => w ≠ [])).length
theorem CI.nil (k : Nat) : CI [] k [] := ⟨List.Pairwise.nil, fun e => by simp, Nat.le_refl _, by simp⟩
theorem CI.get {ws : List Wd} {k : Nat} {L : List En} (h : CI ws k L) {w : Wd} (hw : w ≠ []) : getL L w = k * ws.count w := by
  by_cases hc : 0 < ws.count w
  · have : (w, k * ws.count w) ∈ L := (h.mem _).2 ⟨hw, hc, rfl⟩
    exact get_mem h.sorted this
  · have h0 : ws.count w = 0 := by omega
    rw [h0, Nat.mul_zero]
    exact get_none (fun e he hew => by
      have := ((h.mem e).1 he).2.1
      rw [hew] at this
      omega)
theorem CI.step {ws : List Wd} {k : Nat} {L : List En} (h : CI ws k L) (hk : 1 ≤ k) {room : Nat} (hroom : ws.length < room) (hmax : k * (ws.length + 1) ≤ 4611686018427387904) (w : Wd) : ∃ L' r, addL L room w k = (L', r) ∧ CI (ws ++ [w]) k L' ∧ (r = 0 ↔ w ≠ []) := by
  unfold addL
  by_cases hw : w = []
  · rw [if_pos (Or.inl hw)]
    subst hw
    refine ⟨L, 1, rfl, ⟨h.sorted, fun e => ?_, by rw [List.length_append]; have := h.len; simp; omega, ?_⟩, by simp⟩
    · rw [h.mem e]
      constructor
      · rintro ⟨a, b, c⟩
        have : List.count e.1 (ws ++ [[]]) = ws.count e.1 := by rw [List.count_append, List.count_singleton, if_neg (by simpa using fun e2 : [] = e.1 => a e2.symm)]; rfl
        rw [this]; exact ⟨a, b, c⟩
      · rintro ⟨a, b, c⟩
        have : List.count e.1 (ws ++ [[]]) = ws.count e.1 := by rw [List.count_append, List.count_singleton, if_neg (by simpa using fun e2 : [] = e.1 => a e2.symm)]; rfl
        rw [this] at b c; exact ⟨a, b, c⟩
    · rw [h.sum, List.filter_append]; simp
  · rw [if_neg (by rintro (e | e); exact hw e; omega)]
    have hget := h.get hw
    have hcl : ws.count w ≤ ws.length := List.count_le_length
    have hle : getL L w + k ≤ 4611686018427387904 := by
      rw [hget]
      refine Nat.le_trans ?_ hmax
      rw [Nat.mul_add, Nat.mul_one]
      exact Nat.add_le_add_right (Nat.mul_le_mul_left _ hcl) _
    rw [if_neg (by omega)]
    have hlen : L.length ≠ room := by have := h.len; omega
    have hci : CI (ws ++ [w]) k (putL L w (getL L w + k)) := by
      have hcw : List.count w (ws ++ [w]) = ws.count w + 1 := by rw [List.count_append, List.count_singleton, if_pos (by simp)]
      refine ⟨sorted_put _ _ _ h.sorted, fun e => ?_, ?_, ?_⟩
      · rw [mem_put _ _ _ h.sorted, h.mem e]
        constructor
        · rintro (rfl | ⟨⟨a, b, c⟩, d⟩)
          · refine ⟨hw, by rw [hcw]; omega, ?_⟩
            show getL L w + k = k * List.count w (ws ++ [w])
            rw [hcw, hget, Nat.mul_add, Nat.mul_one]
          · have : List.count e.1 (ws ++ [w]) = ws.count e.1 := by rw [List.count_append, List.count_singleton, if_neg (by simpa using fun e2 : w = e.1 => d e2.symm)]; rfl
            rw [this]; exact ⟨a, b, c⟩
        · rintro ⟨a, b, c⟩
          by_cases d : e.1 = w
          · left
            obtain ⟨e1, e2⟩ := e
            simp only at d c
            subst d
            rw [hcw] at c
            rw [c, hget, Nat.mul_add, Nat.mul_one]
          · right
            have : List.count e.1 (ws ++ [w]) = ws.count e.1 := by rw [List.count_append, List.count_singleton, if_neg (by simpa using fun e2 : w = e.1 => d e2.symm)]; rfl
            rw [this] at b c; exact ⟨⟨a, b, c⟩, d⟩
      · rw [len_put _ _ _ h.sorted, List.length_append]
        have := h.len
        split <;> simp <;> omega
      · have h1 := sum_put L w (getL L w + k) h.sorted
        have h2 := h.sum
        rw [List.filter_append, List.length_append]
        have h3 : ([w].filter (fun w => w ≠ [])).length = 1 := by simp [hw]
        rw [h3, Nat.mul_add, Nat.mul_one]
        omega
    by_cases hp : 0 < getL L w
    · rw [if_pos hp]
      exact ⟨_, 0, rfl, hci, by simp [hw]⟩
    · rw [if_neg hp, if_neg hlen]
      have : getL L w = 0 := by omega
      rw [this, Nat.zero_add] at hci
      exact ⟨_, 0, rfl, hci, by simp [hw]⟩
end Go.Proofs.Ytkkkfgnaojhmeaa.K

namespace Go.Proofs.Ytkkkfgnaojhmeaa.K
open Go.RowKit Go.Proofs.YtkkkfgnaojhmeaaW.PrintWords Go.Proofs.YtkkkfgnaojhmeaaW.PrintLast Go.Proofs.YtkkkfgnaojhmeaaW.PrintMore Go.Proofs.Ytkkkfgnaojhmeaa
attribute [local go_sem] max2_int min2_int max_two min_two max_three min_three max_four min_four
set_option linter.unusedVariables false
set_option linter.unusedSimpArgs false
end Go.Proofs.Ytkkkfgnaojhmeaa.K

