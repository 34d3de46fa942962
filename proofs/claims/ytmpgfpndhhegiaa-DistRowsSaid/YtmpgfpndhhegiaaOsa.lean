/- The distance of two words by its recurrence (words from their ends), and what holds of it. Conditions: none. -/
namespace Go.Proofs.Ytmpgfpndhhegiaa.Osa

/-- The last step of the recurrence: x and y are the words' last runes, t what an exchange leaves. -/
def step (x y : Int) (l u d : Nat) (t : Option Nat) : Nat :=
  let m := min (min (u + 1) (l + 1)) (d + if x = y then 0 else 1)
  match t with
  | some n => min m (n + 1)
  | none => m

def D : List Int → List Int → Nat
  | [], b => b.length
  | x :: a, [] => a.length + 1
  | [x], y :: b => step x y (D [x] b) (D [] (y :: b)) (D [] b) none
  | x :: x' :: a, [y] => step x y (D (x :: x' :: a) []) (D (x' :: a) [y]) (D (x' :: a) []) none
  | x :: x' :: a, y :: y' :: b => step x y (D (x :: x' :: a) (y' :: b)) (D (x' :: a) (y :: y' :: b)) (D (x' :: a) (y' :: b)) (if x = y' ∧ x' = y then some (D a b) else none)
termination_by a b => a.length + b.length

theorem D_nil (b : List Int) : D [] b = b.length := by unfold D; rfl
theorem D_nil' (a : List Int) : D a [] = a.length := by cases a <;> (unfold D; simp)
/-- What an exchange leaves. -/
def swap (x y : Int) : List Int → List Int → Option Nat
  | x' :: a, y' :: b => if x = y' ∧ x' = y then some (D a b) else none
  | _, _ => none
theorem D_cons (x y : Int) (a b : List Int) : D (x :: a) (y :: b) = step x y (D (x :: a) b) (D a (y :: b)) (D a b) (swap x y a b) := by
  cases a with
  | nil => conv => lhs; rw [D]
           rfl
  | cons x' a =>
    cases b with
    | nil => conv => lhs; rw [D]
             rfl
    | cons y' b => conv => lhs; rw [D]
                   rfl

theorem step_le_u {x y : Int} {l u d : Nat} {t : Option Nat} : step x y l u d t ≤ u + 1 := by unfold step; cases t <;> simp only <;> omega
theorem step_le_l {x y : Int} {l u d : Nat} {t : Option Nat} : step x y l u d t ≤ l + 1 := by unfold step; cases t <;> simp only <;> omega
theorem step_le_d {x y : Int} {l u d : Nat} {t : Option Nat} : step x y l u d t ≤ d + 1 := by unfold step; cases t <;> simp only <;> split <;> omega
theorem step_le_same {x : Int} {l u d : Nat} {t : Option Nat} : step x x l u d t ≤ d := by unfold step; cases t <;> simp only [if_true] <;> omega
theorem step_le_t {x y : Int} {l u d n : Nat} : step x y l u d (some n) ≤ n + 1 := by unfold step; simp only; omega
/-- One of the four it is. -/
theorem step_is (x y : Int) (l u d : Nat) (t : Option Nat) : step x y l u d t = u + 1 ∨ step x y l u d t = l + 1 ∨ (step x y l u d t = d ∧ x = y) ∨ (step x y l u d t = d + 1) ∨ ∃ n, t = some n ∧ step x y l u d t = n + 1 := by
  unfold step
  by_cases h : x = y
  · cases t with
    | none => simp only [h, if_true]; simp; omega
    | some n => simp only [h, if_true]; simp; omega
  · cases t with
    | none => simp only [h, if_false]; simp; omega
    | some n => simp only [h, if_false]; simp; omega

theorem D_up (x : Int) (a b : List Int) : D (x :: a) b ≤ D a b + 1 := by
  cases b with
  | nil => rw [D_nil', D_nil']; simp
  | cons y b => rw [D_cons]; exact step_le_u
theorem D_left (y : Int) (a b : List Int) : D a (y :: b) ≤ D a b + 1 := by
  cases a with
  | nil => rw [D_nil, D_nil]; simp
  | cons x a => rw [D_cons]; exact step_le_l
theorem D_both (x y : Int) (a b : List Int) : D (x :: a) (y :: b) ≤ D a b + 1 := by rw [D_cons]; exact step_le_d
theorem D_same (x : Int) (a b : List Int) : D (x :: a) (x :: b) ≤ D a b := by rw [D_cons]; exact step_le_same
theorem D_swap (x y : Int) (a b : List Int) : D (x :: y :: a) (y :: x :: b) ≤ D a b + 1 := by
  rw [D_cons]
  have h : swap x y (y :: a) (x :: b) = some (D a b) := by simp [swap]
  rw [h]
  exact step_le_t
theorem D_apps (c a b : List Int) : D (c ++ a) (c ++ b) ≤ D a b := by
  induction c with
  | nil => exact Nat.le_refl _
  | cons x c ih => exact Nat.le_trans (D_same _ _ _) ih
theorem D_self (a : List Int) : D a a = 0 := by
  have := D_apps a [] []
  rw [D_nil] at this
  simpa using this

/-- Which of the steps it was. -/
theorem D_is (x y : Int) (a b : List Int) : D (x :: a) (y :: b) = D a (y :: b) + 1 ∨ D (x :: a) (y :: b) = D (x :: a) b + 1 ∨ (D (x :: a) (y :: b) = D a b ∧ x = y) ∨ D (x :: a) (y :: b) = D a b + 1 ∨ ∃ a' b', a = y :: a' ∧ b = x :: b' ∧ D (x :: a) (y :: b) = D a' b' + 1 := by
  have h := step_is x y (D (x :: a) b) (D a (y :: b)) (D a b) (swap x y a b)
  rw [← D_cons] at h
  rcases h with h | h | h | h | ⟨n, h1, h2⟩
  · exact .inl h
  · exact .inr (.inl h)
  · exact .inr (.inr (.inl h))
  · exact .inr (.inr (.inr (.inl h)))
  · refine .inr (.inr (.inr (.inr ?_)))
    cases a with
    | nil => simp [swap] at h1
    | cons x' a =>
      cases b with
      | nil => simp [swap] at h1
      | cons y' b =>
        simp only [swap] at h1
        split at h1
        · rename_i hc
          obtain ⟨rfl, rfl⟩ := hc
          injection h1 with h1
          subst h1
          exact ⟨a, b, rfl, rfl, h2⟩
        · simp at h1

theorem D_symm : ∀ (n : Nat) (a b : List Int), a.length + b.length ≤ n → D a b = D b a := by
  intro n
  induction n with
  | zero =>
    intro a b h
    cases a <;> cases b <;> simp_all
  | succ n ih =>
    intro a b h
    cases a with
    | nil => rw [D_nil, D_nil']
    | cons x a =>
      cases b with
      | nil => rw [D_nil, D_nil']
      | cons y b =>
        simp only [List.length_cons] at h
        rw [D_cons, D_cons, ih (x :: a) b (by simp; omega), ih a (y :: b) (by simp; omega), ih a b (by omega)]
        have hs : swap x y a b = swap y x b a := by
          cases a with
          | nil => cases b <;> rfl
          | cons x' a =>
            cases b with
            | nil => rfl
            | cons y' b =>
              simp only [List.length_cons] at h
              simp only [swap]
              rw [ih a b (by omega)]
              by_cases hc : x = y' ∧ x' = y
              · rw [if_pos hc, if_pos ⟨hc.2.symm, hc.1.symm⟩]
              · rw [if_neg hc, if_neg (fun h => hc ⟨h.2.symm, h.1.symm⟩)]
        rw [hs]
        have hc : (if x = y then 0 else 1 : Nat) = if y = x then 0 else 1 := by
          by_cases e : x = y
          · rw [if_pos e, if_pos e.symm]
          · rw [if_neg e, if_neg (fun h => e h.symm)]
        unfold step
        rw [hc]
        cases swap y x b a <;> simp only <;> omega
theorem D_comm (a b : List Int) : D a b = D b a := D_symm _ a b (Nat.le_refl _)

/-- No nearer than the lengths differ, no further than the longer one is long. -/
theorem D_bounds : ∀ (n : Nat) (a b : List Int), a.length + b.length ≤ n → D a b ≤ max a.length b.length ∧ a.length ≤ D a b + b.length ∧ b.length ≤ D a b + a.length := by
  intro n
  induction n with
  | zero =>
    intro a b h
    cases a <;> cases b <;> simp_all [D_nil]
  | succ n ih =>
    intro a b h
    cases a with
    | nil => rw [D_nil]; simp
    | cons x a =>
      cases b with
      | nil => rw [D_nil']; simp
      | cons y b =>
        simp only [List.length_cons] at h
        have h3 := ih a b (by omega)
        have hb := D_both x y a b
        have h1 := ih (x :: a) b (by simp; omega)
        have h2 := ih a (y :: b) (by simp; omega)
        simp only [List.length_cons] at h1 h2 ⊢
        rcases D_is x y a b with h | h | ⟨h, _⟩ | h | ⟨a', b', rfl, rfl, h⟩
        · omega
        · omega
        · omega
        · omega
        · have h4 := ih a' b' (by simp only [List.length_cons] at *; omega)
          simp only [List.length_cons] at *
          omega
theorem D_zero : ∀ (a b : List Int), D a b = 0 → a = b := by
  intro a
  induction a with
  | nil =>
    intro b h
    rw [D_nil] at h
    exact (List.eq_nil_of_length_eq_zero h).symm
  | cons x a ih =>
    intro b h
    cases b with
    | nil => rw [D_nil'] at h; simp at h
    | cons y b =>
      rcases D_is x y a b with h1 | h1 | ⟨h1, rfl⟩ | h1 | ⟨a', b', _, _, h1⟩
      · omega
      · omega
      · rw [ih b (by omega)]
      · omega
      · omega
/-- One rune more is one further at most, one nearer at most. -/
theorem D_drop : ∀ (n : Nat) (x : Int) (a b : List Int), a.length + b.length ≤ n → D a b ≤ D (x :: a) b + 1 := by
  intro n
  induction n with
  | zero =>
    intro x a b h
    cases a <;> cases b <;> simp_all [D_nil]
  | succ n ih =>
    intro x a b h
    cases b with
    | nil => rw [D_nil', D_nil']; simp; omega
    | cons y b =>
      simp only [List.length_cons] at h
      have h1 := ih x a b (by omega)
      have h2 := D_left y a b
      rcases D_is x y a b with h | h | ⟨h, _⟩ | h | ⟨a', b', rfl, rfl, h⟩
      · omega
      · omega
      · omega
      · omega
      · have h4 := D_same y a' (x :: b')
        have h5 := D_left x a' b'
        omega
theorem D_more (x : Int) (a b : List Int) : D (x :: a) b ≤ D a b + 1 ∧ D a b ≤ D (x :: a) b + 1 := ⟨D_up _ _ _, D_drop _ x a b (Nat.le_refl _)⟩

/-- Two put together are no further than both. -/
theorem D_append : ∀ (n : Nat) (c d a b : List Int), c.length + d.length ≤ n → D (c ++ a) (d ++ b) ≤ D c d + D a b := by
  intro n
  induction n with
  | zero =>
    intro c d a b h
    have hc : c = [] := List.eq_nil_of_length_eq_zero (by omega)
    have hd : d = [] := List.eq_nil_of_length_eq_zero (by omega)
    subst hc
    subst hd
    simp
  | succ n ih =>
    intro c d a b h
    cases c with
    | nil =>
      cases d with
      | nil => simp
      | cons y d =>
        have h1 := ih [] d a b (by simp at h ⊢; omega)
        have h2 := D_left y a (d ++ b)
        rw [D_nil] at h1 ⊢
        simp only [List.nil_append, List.cons_append, List.length_cons] at *
        omega
    | cons x c =>
      cases d with
      | nil =>
        have h1 := ih c [] a b (by simp at h ⊢; omega)
        have h2 := D_up x (c ++ a) b
        rw [D_nil'] at h1 ⊢
        simp only [List.nil_append, List.cons_append, List.length_cons] at *
        omega
      | cons y d =>
        simp only [List.length_cons] at h
        simp only [List.cons_append]
        rcases D_is x y c d with e | e | ⟨e, rfl⟩ | e | ⟨c', d', rfl, rfl, e⟩
        · have h1 := ih c (y :: d) a b (by simp; omega)
          have h2 := D_up x (c ++ a) (y :: (d ++ b))
          simp only [List.cons_append] at h1
          omega
        · have h1 := ih (x :: c) d a b (by simp; omega)
          have h2 := D_left y (x :: (c ++ a)) (d ++ b)
          simp only [List.cons_append] at h1
          omega
        · have h1 := ih c d a b (by omega)
          have h2 := D_same x (c ++ a) (d ++ b)
          omega
        · have h1 := ih c d a b (by omega)
          have h2 := D_both x y (c ++ a) (d ++ b)
          omega
        · have h1 := ih c' d' a b (by simp only [List.length_cons] at h; omega)
          have h2 := D_swap x y (c' ++ a) (d' ++ b)
          simp only [List.cons_append]
          omega
theorem D_parts (c d a b : List Int) : D (c ++ a) (d ++ b) ≤ D c d + D a b := D_append _ c d a b (Nat.le_refl _)

/-! ### of words as they stand -/
/-- How far the first i and k runes of two words are apart. -/
def dist (a b : List Int) : Nat := D a.reverse b.reverse
theorem dist_comm (a b : List Int) : dist a b = dist b a := D_comm _ _
theorem dist_self (a : List Int) : dist a a = 0 := D_self _
theorem dist_zero (a b : List Int) : dist a b = 0 ↔ a = b := ⟨fun h => List.reverse_inj.1 (D_zero _ _ h), fun h => by rw [h]; exact dist_self _⟩
theorem dist_bounds (a b : List Int) : dist a b ≤ max a.length b.length ∧ a.length ≤ dist a b + b.length ∧ b.length ≤ dist a b + a.length := by
  have := D_bounds _ a.reverse b.reverse (Nat.le_refl _)
  simpa [dist] using this
theorem dist_more (a b : List Int) (r : Int) : dist (a ++ [r]) b ≤ dist a b + 1 ∧ dist a b ≤ dist (a ++ [r]) b + 1 := by
  have := D_more r a.reverse b.reverse
  simpa [dist] using this
theorem dist_parts (a b c d : List Int) : dist (a ++ c) (b ++ d) ≤ dist a b + dist c d := by
  have := D_parts c.reverse d.reverse a.reverse b.reverse
  simp only [dist, List.reverse_append]
  omega
theorem dist_ends (a c d : List Int) : dist (a ++ c) (a ++ d) ≤ dist c d := by
  have := dist_parts a a c d
  rw [dist_self] at this
  omega
theorem dist_begins (a b c : List Int) : dist (a ++ c) (b ++ c) ≤ dist a b := by
  have := dist_parts a b c c
  rw [dist_self] at this
  omega
theorem dist_nil (a : List Int) : dist [] a = a.length := by simp [dist, D_nil]
theorem dist_nil' (a : List Int) : dist a [] = a.length := by rw [dist_comm, dist_nil]
theorem dist_one (p q : List Int) (r s : List Int) : dist (p ++ r ++ q) (p ++ s ++ q) ≤ dist r s := by
  have h1 := dist_begins (p ++ r) (p ++ s) q
  have h2 := dist_ends p r s
  omega
/-- One put in. -/
theorem dist_put (p q : List Int) (r : Int) : dist (p ++ [r] ++ q) (p ++ q) ≤ 1 := by
  have := dist_one p q [r] []
  rw [dist_nil'] at this
  simpa using this
theorem dist_turn (p q : List Int) (r s : Int) : dist (p ++ [r] ++ q) (p ++ [s] ++ q) ≤ 1 := by
  have := dist_one p q [r] [s]
  have h := D_both r s [] []
  rw [D_nil] at h
  have e : dist [r] [s] = D [r] [s] := rfl
  simp only [List.length_nil] at h
  omega
theorem dist_swap (p q : List Int) (r s : Int) : dist (p ++ [r, s] ++ q) (p ++ [s, r] ++ q) ≤ 1 := by
  have := dist_one p q [r, s] [s, r]
  have h := D_swap s r [] []
  rw [D_nil] at h
  have e : dist [r, s] [s, r] = D [s, r] [r, s] := rfl
  simp only [List.length_nil] at h
  omega
/-- The recurrence, of prefixes. -/
theorem dist_snoc (a b : List Int) (x y : Int) : dist (a ++ [x]) (b ++ [y]) = step x y (dist (a ++ [x]) b) (dist a (b ++ [y])) (dist a b) (swap x y a.reverse b.reverse) := by
  simp only [dist, List.reverse_append, List.reverse_cons, List.reverse_nil, List.nil_append, List.singleton_append]
  exact D_cons _ _ _ _

/-- How far the first i and k runes are apart. -/
def pd (a b : List Int) (i k : Nat) : Nat := dist (a.take i) (b.take k)
theorem take_snoc (a : List Int) (i : Nat) (h : i < a.length) : a.take (i + 1) = a.take i ++ [a.getD i 0] := by
  rw [List.take_succ_eq_append_getElem h, List.getD_eq_getElem?_getD, List.getElem?_eq_getElem h]; rfl
theorem pd_zero (a b : List Int) (k : Nat) (h : k ≤ b.length) : pd a b 0 k = k := by
  unfold pd
  rw [List.take_zero, dist_nil, List.length_take]
  omega
theorem pd_zero' (a b : List Int) (i : Nat) (h : i ≤ a.length) : pd a b i 0 = i := by
  unfold pd
  rw [List.take_zero, dist_nil', List.length_take]
  omega
theorem swap_none_left (x y : Int) (b : List Int) : swap x y [] b = none := rfl
theorem swap_none_right (x y : Int) (a : List Int) : swap x y a [] = none := by cases a <;> rfl
theorem swap_snoc (x y x' y' : Int) (a b : List Int) : swap x y (a ++ [x']).reverse (b ++ [y']).reverse = if x = y' ∧ x' = y then some (dist a b) else none := by
  simp [swap, dist]
/-- What an exchange leaves, of prefixes. -/
def pswap (a b : List Int) (i k : Nat) : Option Nat :=
  if 0 < i ∧ 0 < k ∧ a.getD i 0 = b.getD (k - 1) 0 ∧ a.getD (i - 1) 0 = b.getD k 0 then some (pd a b (i - 1) (k - 1)) else none
theorem pd_succ (a b : List Int) (i k : Nat) (hi : i < a.length) (hk : k < b.length) :
    pd a b (i + 1) (k + 1) = step (a.getD i 0) (b.getD k 0) (pd a b (i + 1) k) (pd a b i (k + 1)) (pd a b i k) (pswap a b i k) := by
  have h := dist_snoc (a.take i) (b.take k) (a.getD i 0) (b.getD k 0)
  rw [← take_snoc a i hi, ← take_snoc b k hk] at h
  have hs : swap (a.getD i 0) (b.getD k 0) (a.take i).reverse (b.take k).reverse = pswap a b i k := by
    cases i with
    | zero => rw [List.take_zero]; simp [swap_none_left, pswap]
    | succ i =>
      cases k with
      | zero => rw [List.take_zero, List.reverse_nil, swap_none_right]; simp [pswap]
      | succ k =>
        rw [take_snoc a i (by omega), take_snoc b k (by omega), swap_snoc]
        simp only [pswap, Nat.add_sub_cancel, pd]
        by_cases hc : a.getD (i + 1) 0 = b.getD k 0 ∧ a.getD i 0 = b.getD (k + 1) 0
        · rw [if_pos hc, if_pos ⟨by omega, by omega, hc⟩]
        · rw [if_neg hc, if_neg (fun h => hc h.2.2)]
  rw [hs] at h
  exact h
theorem pd_le (a b : List Int) (i k : Nat) : pd a b i k ≤ max a.length b.length := by
  have := (dist_bounds (a.take i) (b.take k)).1
  have h1 := List.length_take_le i a
  have h2 := List.length_take_le k b
  rw [List.length_take, List.length_take] at this
  unfold pd
  omega
theorem pd_all (a b : List Int) : pd a b a.length b.length = dist a b := by simp [pd]

end Go.Proofs.Ytmpgfpndhhegiaa.Osa
