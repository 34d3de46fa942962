/- Where a text is found, in plain lists: more. Conditions: none. -/
import Derived.Test.YtkicpaodcmepmaaDoorTexPlain
set_option linter.unusedVariables false
set_option linter.unusedSimpArgs false
namespace Go.Proofs.YtkicpaodcmepmaaDoor.Tex
open Go.Proofs.YtkicpaodcmepmaaDoor.L

theorem fnd_at (t : List Int) (ht : t ≠ []) : ∀ (l : List Int) (i : Nat), fnd t l = some i → t.isPrefixOf (l.drop i) = true := by
  intro l
  induction l with
  | nil => intro i h; rw [fnd_nil t ht] at h; cases h
  | cons x l ih =>
    intro i h
    unfold fnd at h
    split at h
    · rename_i hp
      cases h
      exact hp
    · cases hf : fnd t l with
      | none => rw [hf] at h; cases h
      | some j =>
        rw [hf] at h
        cases h
        exact ih j hf
theorem fnd_none (t : List Int) (ht : t ≠ []) : ∀ (l : List Int), fnd t l = none → ∀ j, t.isPrefixOf (l.drop j) = false := by
  intro l
  induction l with
  | nil =>
    intro _ j
    rw [List.drop_nil]
    cases t with
    | nil => exact absurd rfl ht
    | cons x t => rfl
  | cons x l ih =>
    intro h j
    unfold fnd at h
    split at h
    · cases h
    · rename_i hp
      have hf : fnd t l = none := by
        cases hf : fnd t l with
        | none => rfl
        | some j => rw [hf] at h; cases h
      cases j with
      | zero => exact Bool.eq_false_iff.2 hp
      | succ j => exact ih hf j
theorem fnd_first (t : List Int) : ∀ (l : List Int) (i : Nat), t.isPrefixOf (l.drop i) = true → i ≤ l.length → (∀ j, j < i → t.isPrefixOf (l.drop j) = false) → fnd t l = some i := by
  intro l
  induction l with
  | nil =>
    intro i h hi hj
    obtain rfl : i = 0 := by simpa using hi
    unfold fnd
    rw [if_pos (by simpa using h)]
  | cons x l ih =>
    intro i h hi hj
    unfold fnd
    cases i with
    | zero => rw [if_pos (by simpa using h)]
    | succ i =>
      have h0 : t.isPrefixOf (x :: l) = false := hj 0 (by omega)
      rw [if_neg (Bool.eq_false_iff.1 h0), ih i (by simpa using h) (by simpa using hi) (fun j hj' => by have := hj (j + 1) (by omega); simpa using this)]
      rfl
theorem fnd_no (t : List Int) : ∀ (l : List Int), (∀ j, j ≤ l.length → t.isPrefixOf (l.drop j) = false) → fnd t l = none := by
  intro l
  induction l with
  | nil =>
    intro h
    have : t.isPrefixOf [] = false := h 0 (by simp)
    unfold fnd
    rw [if_neg (Bool.eq_false_iff.1 this)]
  | cons x l ih =>
    intro h
    have h0 : t.isPrefixOf (x :: l) = false := h 0 (by simp)
    unfold fnd
    rw [if_neg (Bool.eq_false_iff.1 h0), ih (fun j hj => by have := h (j + 1) (by simp; omega); simpa using this)]
    rfl
theorem suf_yes (t b : List Int) (ht : t ≠ []) (e i : Nat) (h : fnd t (b.drop e) = some i) : t.isSuffixOf ((b.take (e + i + t.length)).drop e) = true := by
  have h1 := fnd_at t ht _ _ h
  obtain ⟨r, hr⟩ := List.isPrefixOf_iff_prefix.1 h1
  rw [List.isSuffixOf_iff_suffix]
  refine ⟨(b.drop e).take i, ?_⟩
  rw [List.drop_take, show e + i + t.length - e = i + t.length by omega, List.take_add, ← hr, List.take_left]
theorem suf_no (t b : List Int) (ht : t ≠ []) (e : Nat) (h : fnd t (b.drop e) = none) : t.isSuffixOf ((b.take b.length).drop e) = false := by
  rw [List.take_length, Bool.eq_false_iff]
  intro hs
  obtain ⟨a, ha⟩ := List.isSuffixOf_iff_suffix.1 hs
  have := fnd_none t ht _ h a.length
  rw [← ha, List.drop_left, Bool.eq_false_iff] at this
  exact this (List.isPrefixOf_iff_prefix.2 (List.prefix_refl t))
end Go.Proofs.YtkicpaodcmepmaaDoor.Tex
