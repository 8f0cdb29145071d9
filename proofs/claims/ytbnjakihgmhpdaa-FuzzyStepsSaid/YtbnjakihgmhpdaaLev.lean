/- Edit distances of lists, as plain laws: the least cost of an alignment. -/
namespace Go.Proofs.Ytbnjakihgmhpdaa.Lev
set_option linter.unusedVariables false
set_option linter.unusedSimpArgs false
def ne (x y : Int) : Nat := if x = y then 0 else 1
theorem ne_self (x : Int) : ne x x = 0 := by simp [ne]
theorem ne_comm (x y : Int) : ne x y = ne y x := by unfold ne; by_cases h : x = y <;> simp [h, eq_comm]
theorem ne_le (x y : Int) : ne x y ≤ 1 := by unfold ne; split <;> omega
theorem ne_tri (x y z : Int) : ne x z ≤ ne x y + ne y z := by
  unfold ne
  by_cases h1 : x = y
  · subst h1; simp
  · simp only [h1, if_false]; split <;> omega
def lev : List Int → List Int → Nat
  | [], b => b.length
  | x :: a, [] => a.length + 1
  | x :: a, y :: b => min (min (lev a (y :: b)) (lev (x :: a) b) + 1) (lev a b + ne x y)
termination_by a b => a.length + b.length
/-- An alignment and its cost. -/
inductive Al : List Int → List Int → Nat → Prop
  | nil : Al [] [] 0
  | ins {a b n} (y : Int) : Al a b n → Al a (y :: b) (n + 1)
  | del {a b n} (x : Int) : Al a b n → Al (x :: a) b (n + 1)
  | sub {a b n} (x y : Int) : Al a b n → Al (x :: a) (y :: b) (n + ne x y)
theorem lev_nil_right (a : List Int) : lev a [] = a.length := by cases a <;> simp [lev]
theorem lev_cons (x : Int) (a : List Int) (y : Int) (b : List Int) : lev (x :: a) (y :: b) = min (min (lev a (y :: b)) (lev (x :: a) b) + 1) (lev a b + ne x y) := by rw [lev]
theorem al_ins_all : ∀ b : List Int, Al [] b b.length
  | [] => .nil
  | y :: b => .ins y (al_ins_all b)
theorem al_del_all : ∀ a : List Int, Al a [] a.length
  | [] => .nil
  | x :: a => .del x (al_del_all a)
theorem al_lev : ∀ (N : Nat) (a b : List Int), a.length + b.length ≤ N → Al a b (lev a b) := by
  intro N
  induction N with
  | zero =>
    intro a b h
    have ha : a = [] := List.eq_nil_of_length_eq_zero (by omega)
    have hb : b = [] := List.eq_nil_of_length_eq_zero (by omega)
    subst ha; subst hb
    simpa [lev] using Al.nil
  | succ N ih =>
    intro a b h
    match a, b with
    | [], b => rw [lev]; exact al_ins_all b
    | x :: a, [] => rw [lev_nil_right]; exact al_del_all _
    | x :: a, y :: b =>
      simp only [List.length_cons] at h
      have h1 := ih a (y :: b) (by simp; omega)
      have h2 := ih (x :: a) b (by simp; omega)
      have h3 := ih a b (by omega)
      rw [lev_cons]
      by_cases c1 : min (lev a (y :: b)) (lev (x :: a) b) + 1 ≤ lev a b + ne x y
      · rw [Nat.min_eq_left c1]
        by_cases c2 : lev a (y :: b) ≤ lev (x :: a) b
        · rw [Nat.min_eq_left c2]; exact .del x h1
        · rw [Nat.min_eq_right (by omega)]; exact .ins y h2
      · rw [Nat.min_eq_right (by omega)]; exact .sub x y h3
theorem al (a b : List Int) : Al a b (lev a b) := al_lev _ a b (Nat.le_refl _)
theorem lev_ins (a b : List Int) (y : Int) : lev a (y :: b) ≤ lev a b + 1 := by
  match a with
  | [] => simp [lev]
  | x :: a => rw [lev_cons]; have := Nat.min_le_right (lev a (y :: b)) (lev (x :: a) b); omega
theorem lev_del (a b : List Int) (x : Int) : lev (x :: a) b ≤ lev a b + 1 := by
  match b with
  | [] => simp [lev_nil_right]
  | y :: b => rw [lev_cons]; have := Nat.min_le_left (lev a (y :: b)) (lev (x :: a) b); omega
theorem lev_le {a b : List Int} {n : Nat} (h : Al a b n) : lev a b ≤ n := by
  induction h with
  | nil => simp [lev]
  | ins y _ ih => exact Nat.le_trans (lev_ins _ _ _) (by omega)
  | del x _ ih => exact Nat.le_trans (lev_del _ _ _) (by omega)
  | sub x y _ ih => rw [lev_cons]; omega
theorem Al.symm {a b : List Int} {n : Nat} (h : Al a b n) : Al b a n := by
  induction h with
  | nil => exact .nil
  | ins y _ ih => exact .del y ih
  | del x _ ih => exact .ins x ih
  | sub x y _ ih => rw [ne_comm]; exact .sub y x ih
theorem Al.append {a b c d : List Int} {n m : Nat} (h : Al a b n) (h2 : Al c d m) : Al (a ++ c) (b ++ d) (n + m) := by
  induction h with
  | nil => simpa using h2
  | @ins a b n y _ ih => have := Al.ins y ih; rwa [show n + m + 1 = n + 1 + m by omega] at this
  | @del a b n x _ ih => have := Al.del x ih; rwa [show n + m + 1 = n + 1 + m by omega] at this
  | @sub a b n x y _ ih => have := Al.sub x y ih; rwa [show n + m + ne x y = n + ne x y + m by omega] at this
theorem Al.reverse {a b : List Int} {n : Nat} (h : Al a b n) : Al a.reverse b.reverse n := by
  induction h with
  | nil => exact .nil
  | ins y _ ih => have := ih.append (Al.ins y .nil); simpa using this
  | del x _ ih => have := ih.append (Al.del x .nil); simpa using this
  | @sub a b n x y _ ih => have := ih.append (Al.sub x y .nil); simpa using this
theorem Al.self : ∀ a : List Int, Al a a 0
  | [] => .nil
  | x :: a => by have := Al.sub x x (Al.self a); rwa [ne_self] at this
theorem Al.eq {a b : List Int} {n : Nat} (h : Al a b n) : n = 0 → a = b := by
  induction h with
  | nil => intro _; rfl
  | ins y _ ih => intro h; omega
  | del x _ ih => intro h; omega
  | sub x y _ ih =>
    intro h
    have h1 : ne x y = 0 := by omega
    have h2 : x = y := by
      unfold ne at h1
      by_cases hx : x = y
      · exact hx
      · rw [if_neg hx] at h1; omega
    rw [h2, ih (by omega)]
theorem Al.len {a b : List Int} {n : Nat} (h : Al a b n) : a.length ≤ b.length + n ∧ b.length ≤ a.length + n := by
  induction h with
  | nil => simp
  | ins y _ ih => simp; omega
  | del x _ ih => simp; omega
  | sub x y _ ih => simp; omega
theorem Al.apart {a b : List Int} {n : Nat} (h : Al a b n) : (∀ x ∈ a, ∀ y ∈ b, x ≠ y) → a.length ≤ n ∧ b.length ≤ n := by
  induction h with
  | nil => intro _; simp
  | ins y _ ih => intro h; have := ih (fun x hx z hz => h x hx z (by simp [hz])); simp; omega
  | del x _ ih => intro h; have := ih (fun z hz y hy => h z (by simp [hz]) y hy); simp; omega
  | sub x y _ ih =>
    intro h
    have := ih (fun z hz w hw => h z (by simp [hz]) w (by simp [hw]))
    have h1 : ne x y = 1 := by unfold ne; rw [if_neg (h x (by simp) y (by simp))]
    simp; omega
theorem Al.max_ : ∀ (a b : List Int), ∃ n, n ≤ max a.length b.length ∧ Al a b n
  | [], b => ⟨b.length, by simp, al_ins_all b⟩
  | x :: a, [] => ⟨_, by simp, al_del_all (x :: a)⟩
  | x :: a, y :: b => by
    obtain ⟨n, hn, h⟩ := Al.max_ a b
    have := ne_le x y
    exact ⟨_, by simp; omega, .sub x y h⟩
theorem Al.trans_ : ∀ (N : Nat) {a b c : List Int} {n m : Nat}, a.length + b.length + c.length ≤ N → Al a b n → Al b c m → ∃ k, k ≤ n + m ∧ Al a c k := by
  intro N
  induction N with
  | zero =>
    intro a b c n m h _ _
    have ha : a = [] := List.eq_nil_of_length_eq_zero (by omega)
    have hc : c = [] := List.eq_nil_of_length_eq_zero (by omega)
    subst ha; subst hc
    exact ⟨0, by omega, .nil⟩
  | succ N ih =>
    intro a b c n m h h1 h2
    cases h1 with
    | nil => exact ⟨m, by omega, h2⟩
    | del x h1 =>
      simp only [List.length_cons] at h
      obtain ⟨k, hk, h3⟩ := ih (by omega) h1 h2
      exact ⟨k + 1, by omega, .del x h3⟩
    | ins y h1 =>
      cases h2 with
      | ins z h2 =>
        simp only [List.length_cons] at h
        obtain ⟨k, hk, h3⟩ := ih (by simp; omega) (Al.ins y h1) h2
        exact ⟨k + 1, by omega, .ins z h3⟩
      | del _ h2 =>
        simp only [List.length_cons] at h
        obtain ⟨k, hk, h3⟩ := ih (by omega) h1 h2
        exact ⟨k, by omega, h3⟩
      | sub _ z h2 =>
        simp only [List.length_cons] at h
        obtain ⟨k, hk, h3⟩ := ih (by omega) h1 h2
        exact ⟨k + 1, by omega, .ins z h3⟩
    | sub x y h1 =>
      cases h2 with
      | ins z h2 =>
        simp only [List.length_cons] at h
        obtain ⟨k, hk, h3⟩ := ih (by simp; omega) (Al.sub x y h1) h2
        exact ⟨k + 1, by omega, .ins z h3⟩
      | del _ h2 =>
        simp only [List.length_cons] at h
        obtain ⟨k, hk, h3⟩ := ih (by omega) h1 h2
        exact ⟨k + 1, by omega, .del x h3⟩
      | sub _ z h2 =>
        simp only [List.length_cons] at h
        obtain ⟨k, hk, h3⟩ := ih (by omega) h1 h2
        have := ne_tri x y z
        exact ⟨k + ne x z, by omega, .sub x z h3⟩
/-- The distance as the program's tables tell it: from the front. -/
def dist (a b : List Int) : Nat := lev a.reverse b.reverse
theorem dist_al (a b : List Int) : Al a b (dist a b) := by have := (al a.reverse b.reverse).reverse; simpa [dist] using this
theorem dist_le {a b : List Int} {n : Nat} (h : Al a b n) : dist a b ≤ n := lev_le h.reverse
theorem dist_self (a : List Int) : dist a a = 0 := Nat.le_zero.1 (dist_le (Al.self a))
theorem dist_eq_zero {a b : List Int} : dist a b = 0 ↔ a = b := ⟨fun h => (dist_al a b).eq h, fun h => by subst h; exact dist_self a⟩
theorem dist_comm (a b : List Int) : dist a b = dist b a := Nat.le_antisymm (dist_le (dist_al b a).symm) (dist_le (dist_al a b).symm)
theorem dist_tri (a b c : List Int) : dist a c ≤ dist a b + dist b c := by
  obtain ⟨k, hk, h⟩ := Al.trans_ _ (Nat.le_refl _) (dist_al a b) (dist_al b c)
  exact Nat.le_trans (dist_le h) hk
theorem dist_max (a b : List Int) : dist a b ≤ max a.length b.length := by
  obtain ⟨n, hn, h⟩ := Al.max_ a b
  exact Nat.le_trans (dist_le h) hn
theorem dist_len (a b : List Int) : a.length ≤ b.length + dist a b ∧ b.length ≤ a.length + dist a b := (dist_al a b).len
theorem dist_append (a b c d : List Int) : dist (a ++ c) (b ++ d) ≤ dist a b + dist c d := dist_le ((dist_al a b).append (dist_al c d))
theorem dist_nil_left (b : List Int) : dist [] b = b.length := by simp [dist, lev]
theorem dist_nil_right (b : List Int) : dist b [] = b.length := by simp [dist, lev_nil_right]
theorem dist_apart {a b : List Int} (h : ∀ x ∈ a, ∀ y ∈ b, x ≠ y) : dist a b = max a.length b.length := by
  have h1 := (dist_al a b).apart h
  have h2 := dist_max a b
  omega
/-- One more at both ends. -/
theorem dist_snoc (a b : List Int) (x y : Int) : dist (a ++ [x]) (b ++ [y]) = min (min (dist a (b ++ [y])) (dist (a ++ [x]) b) + 1) (dist a b + ne x y) := by
  simp [dist, lev_cons]
end Go.Proofs.Ytbnjakihgmhpdaa.Lev
