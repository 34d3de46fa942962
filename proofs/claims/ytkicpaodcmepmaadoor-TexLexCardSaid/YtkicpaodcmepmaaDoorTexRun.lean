/- How a text of TeX is read from a place on, in plain lists. Conditions: none. -/
import Derived.Test.YtkicpaodcmepmaaDoorTexFnd
set_option linter.unusedVariables false
set_option linter.unusedSimpArgs false
namespace Go.Proofs.YtkicpaodcmepmaaDoor.Tex
open Go.Proofs.YtkicpaodcmepmaaDoor.L

theorem lexN_fuel (b : List Int) : ∀ (n m p : Nat) (L : List Int), L.length = b.length → b.length ≤ p + n → b.length ≤ p + m → lexN b n p L = lexN b m p L := by
  intro n
  induction n with
  | zero =>
    intro m p L hL h1 h2
    cases m with
    | zero => rfl
    | succ m => unfold lexN; rw [if_neg (by omega)]
  | succ n ih =>
    intro m p L hL h1 h2
    by_cases hp : p < b.length
    · cases m with
      | zero => omega
      | succ m =>
        unfold lexN
        rw [if_pos hp, if_pos hp]
        have := step_ok b p L hp hL
        exact ih m _ _ this.2.2 (by omega) (by omega)
    · have e : ∀ k, lexN b k p L = L := by
        intro k
        cases k with
        | zero => rfl
        | succ k => unfold lexN; rw [if_neg hp]
      rw [e, e]
/-- What is read from a place on. -/
def lexAt (b : List Int) (p : Nat) (L : List Int) : List Int := lexN b (b.length - p) p L
theorem lexL_at (b : List Int) : lexL b = lexAt b 0 (List.replicate b.length 1) := rfl
theorem lexAt_step (b : List Int) (p : Nat) (L : List Int) (hp : p < b.length) (hL : L.length = b.length) : lexAt b p L = lexAt b (step b p L).1 (step b p L).2 := by
  have h := step_ok b p L hp hL
  unfold lexAt
  obtain ⟨n, hn⟩ : ∃ n, b.length - p = n + 1 := ⟨b.length - p - 1, by omega⟩
  rw [hn]
  conv => lhs; unfold lexN
  rw [if_pos hp]
  exact lexN_fuel b _ _ _ _ h.2.2 (by omega) (by omega)
theorem lexAt_end (b : List Int) (p : Nat) (L : List Int) (hp : b.length ≤ p) : lexAt b p L = L := by
  unfold lexAt
  rw [show b.length - p = 0 by omega]
  rfl
/-- A byte that is but text. -/
def plainB (c : Int) : Bool := c != 37 && c != 92 && c != 36 && !isMk c
theorem step_plain (b : List Int) (p : Nat) (L : List Int) (h : plainB (b.getD p 0) = true) : step b p L = (p + 1, L) := by
  unfold plainB at h
  simp only [Bool.and_eq_true, bne_iff_ne, Bool.not_eq_true'] at h
  unfold step
  rw [if_neg h.1.1.1, if_neg h.1.1.2, if_neg h.1.2, if_neg (by rw [h.2]; simp)]
theorem lexAt_txt (b : List Int) (L : List Int) (hL : L.length = b.length) : ∀ (n p : Nat), p + n ≤ b.length → (∀ i, p ≤ i → i < p + n → plainB (b.getD i 0) = true) → lexAt b p L = lexAt b (p + n) L := by
  intro n
  induction n with
  | zero => intro p _ _; rfl
  | succ n ih =>
    intro p hp h
    rw [lexAt_step b p L (by omega) hL, step_plain b p L (h p (by omega) (by omega))]
    simp only []
    rw [ih (p + 1) (by omega) (fun i h1 h2 => h i (by omega) (by omega)), show p + 1 + n = p + (n + 1) by omega]
theorem step_mark (b : List Int) (p : Nat) (L : List Int) (h : isMk (b.getD p 0) = true) : step b p L = (p + 1, setL L 2 (p : Int) ((p + 1 : Nat) : Int)) := by
  have h1 : b.getD p 0 ≠ 37 := by intro e; rw [e] at h; cases h
  have h2 : b.getD p 0 ≠ 92 := by intro e; rw [e] at h; cases h
  have h3 : b.getD p 0 ≠ 36 := by intro e; rw [e] at h; cases h
  unfold step
  rw [if_neg h1, if_neg h2, if_neg h3, if_pos h]
theorem step_slash (b : List Int) (p : Nat) (L : List Int) (h : b.getD p 0 = 92) : step b p L = cmd b p L := by
  unfold step
  rw [if_neg (by omega), if_pos h]
theorem wrdN_run (b : List Int) (q : Nat) (hq : q < b.length → ltr (b.getD q 0) = false) : ∀ (n k : Nat), k ≤ q → q ≤ k + n → (∀ i, k ≤ i → i < q → i < b.length ∧ ltr (b.getD i 0) = true) → wrdN b n k = q := by
  intro n
  induction n with
  | zero => intro k h1 h2 _; show k = q; omega
  | succ n ih =>
    intro k h1 h2 h
    unfold wrdN
    by_cases hk : k < q
    · rw [if_pos (h k (by omega) hk)]
      exact ih (k + 1) (by omega) (by omega) (fun i h3 h4 => h i (by omega) h4)
    · obtain rfl : k = q := by omega
      rw [if_neg (by rintro ⟨h3, h4⟩; rw [hq h3] at h4; cases h4)]
theorem wrd_run (b : List Int) (k q : Nat) (h1 : k ≤ q) (h2 : q ≤ b.length) (h : ∀ i, k ≤ i → i < q → ltr (b.getD i 0) = true) (hq : q < b.length → ltr (b.getD q 0) = false) : wrd b k = q :=
  wrdN_run b q hq b.length k h1 (by omega) (fun i h3 h4 => ⟨by omega, h i h3 h4⟩)
/-! ### A command of letters -/
/-- A command and what stands in its brackets. -/
def cmdT (s t : List Int) : List Int := [92] ++ s ++ [123] ++ t ++ [125]
theorem words_lex (s t : List Int) (hs : ∀ x ∈ s, ltr x = true) (hx : s.head? = some 120) (ht : ∀ x ∈ t, plainB x = true) (i : Nat) (hi : i < (cmdT s t).length) :
    (lexL (cmdT s t))[i]? = some (if s.length + 2 ≤ i ∧ i < (cmdT s t).length - 1 then 1 else 2) := by
  have hlen : (cmdT s t).length = s.length + t.length + 3 := by unfold cmdT; simp; omega
  have hs1 : 1 ≤ s.length := by
    cases s with
    | nil => cases hx
    | cons x s => simp
  have g0 : (cmdT s t).getD 0 0 = 92 := by unfold cmdT; simp
  have gs : ∀ i, 1 ≤ i → i < s.length + 1 → ltr ((cmdT s t).getD i 0) = true := by
    intro i h1 h2
    obtain ⟨j, rfl⟩ : ∃ j, i = j + 1 := ⟨i - 1, by omega⟩
    have : (cmdT s t)[j + 1]? = s[j]? := by
      unfold cmdT
      simp only [List.cons_append, List.nil_append, List.append_assoc, List.getElem?_cons_succ]
      rw [List.getElem?_append_left (by omega)]
    rw [List.getD_eq_getElem?_getD, this, List.getElem?_eq_getElem (by omega)]
    exact hs _ (List.getElem_mem _)
  have gb : (cmdT s t).getD (s.length + 1) 0 = 123 := by
    unfold cmdT
    rw [List.getD_eq_getElem?_getD]
    simp [List.getElem?_append]
  have gt : ∀ i, s.length + 2 ≤ i → i < s.length + 2 + t.length → plainB ((cmdT s t).getD i 0) = true := by
    intro i h1 h2
    obtain ⟨j, rfl⟩ : ∃ j, i = s.length + 2 + j := ⟨i - (s.length + 2), by omega⟩
    have : (cmdT s t)[s.length + 2 + j]? = t[j]? := by
      unfold cmdT
      rw [List.getElem?_append_left (by simp; omega), List.getElem?_append_right (by simp)]
      congr 1
      simp
    rw [List.getD_eq_getElem?_getD, this, List.getElem?_eq_getElem (by omega)]
    exact ht _ (List.getElem_mem _)
  have ge : (cmdT s t).getD (s.length + 2 + t.length) 0 = 125 := by
    unfold cmdT
    rw [List.getD_eq_getElem?_getD, List.getElem?_append_right (by simp; omega)]
    have : s.length + 2 + t.length - ([92] ++ s ++ [123] ++ t).length = 0 := by simp; omega
    rw [this]
    rfl
  have hnm : ((cmdT s t).take (s.length + 1)).drop 1 = s := by
    unfold cmdT
    simp [List.take_append]
  generalize hb : cmdT s t = b at *
  have hw : wrd b 1 = s.length + 1 := wrd_run b 1 (s.length + 1) (by omega) (by omega) (fun i h1 h2 => gs i h1 h2) (fun _ => by rw [gb]; decide)
  have hnv : s ≠ nVerb := by rintro rfl; cases hx
  have hnb : s ∉ bareN := by
    intro h
    have : ∀ l ∈ bareN, l.head? ≠ some 120 := by decide
    exact this s h hx
  have hR : (List.replicate b.length (1 : Int)).length = b.length := by simp
  have e1 : step b 0 (List.replicate b.length 1) = (s.length + 1, setL (List.replicate b.length 1) 2 0 ((s.length + 1 : Nat) : Int)) := by
    rw [step_slash b 0 _ g0]
    unfold cmd
    rw [show 0 + 1 = 1 from rfl, hw, if_neg (by omega), hnm]
    unfold namS
    rw [if_neg hnv, if_neg hnb]
    rfl
  rw [lexL_at, lexAt_step b 0 _ (by omega) hR, e1]
  simp only []
  rw [lexAt_step b _ _ (by omega) (by rw [setL_length]; exact hR), step_mark b _ _ (by rw [gb]; rfl)]
  simp only []
  rw [lexAt_txt b _ (by rw [setL_length, setL_length]; exact hR) t.length (s.length + 1 + 1) (by omega) (fun i h1 h2 => gt i (by omega) (by omega))]
  rw [show s.length + 1 + 1 + t.length = s.length + 2 + t.length by omega, lexAt_step b _ _ (by omega) (by rw [setL_length, setL_length]; exact hR), step_mark b _ _ (by rw [ge]; rfl)]
  simp only []
  rw [lexAt_end b _ _ (by omega), setL_get, setL_get, setL_get, List.getElem?_replicate, if_pos hi]
  simp only [Option.map_some]
  congr 1
  by_cases h1 : s.length + 2 ≤ i ∧ i < b.length - 1
  · rw [if_pos h1, if_neg (by omega), if_neg (by omega), if_neg (by omega)]
  · rw [if_neg h1]
    by_cases h2 : i < s.length + 1
    · rw [if_neg (by omega), if_neg (by omega), if_pos (by omega)]
    · by_cases h3 : i = s.length + 1
      · rw [if_neg (by omega), if_pos (by omega)]
      · rw [if_pos (by omega)]
end Go.Proofs.YtkicpaodcmepmaaDoor.Tex
