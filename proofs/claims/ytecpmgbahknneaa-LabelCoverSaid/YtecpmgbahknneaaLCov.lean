/- Parts of a sheet, in plain lists: side by side, from the first label to the last, two neighbours unlike, each bearing its labels. Conditions: none. -/
import Derived.Test.YtecpmgbahknneaaLSeg
namespace Go.Proofs.Ytecpmgbahknneaa.L
open Go.RowKit Go.Proofs.YtecpmgbahknneaaW.PrintWords

/-- Parts side by side from p on: where they end. -/
def chain : Int → List Sg → Option Int
  | p, [] => some p
  | p, s :: S => if s.2.1 = p ∧ 1 ≤ s.2.2 then chain (p + s.2.2) S else none
theorem chain_append (S T : List Sg) : ∀ p, chain p (S ++ T) = (chain p S).bind fun q => chain q T := by
  induction S with
  | nil => intro p; rfl
  | cons s S ih =>
    intro p
    simp only [List.cons_append, chain]
    split
    · exact ih _
    · rfl
theorem chain_snoc (S : List Sg) (s : Sg) (p q : Int) (h : chain p S = some q) (h1 : s.2.1 = q) (h2 : 1 ≤ s.2.2) : chain p (S ++ [s]) = some (q + s.2.2) := by
  rw [chain_append, h]
  simp only [Option.bind_some, chain]
  rw [if_pos ⟨h1, h2⟩]
theorem chain_snoc' (S : List Sg) (s : Sg) (p q : Int) (h : chain p (S ++ [s]) = some q) : chain p S = some s.2.1 ∧ 1 ≤ s.2.2 ∧ q = s.2.1 + s.2.2 := by
  rw [chain_append] at h
  cases e : chain p S with
  | none => rw [e] at h; simp at h
  | some r =>
    rw [e] at h
    simp only [Option.bind_some, chain] at h
    split at h
    · rename_i hh
      have := Option.some.inj h
      obtain ⟨h1, h2⟩ := hh
      exact ⟨by rw [h1], h2, by omega⟩
    · simp at h
/-- Behind a part that bears x: every part unlike the one ahead of it. -/
def unlike : Int → List Sg → Prop
  | _, [] => True
  | x, s :: S => s.1 ≠ x ∧ unlike s.1 S
def lastOf (x : Int) (S : List Sg) : Int := (S.getLast?.map (·.1)).getD x
theorem lastOf_nil (x : Int) : lastOf x [] = x := rfl
theorem lastOf_snoc (x : Int) (S : List Sg) (s : Sg) : lastOf x (S ++ [s]) = s.1 := by simp [lastOf]
theorem lastOf_cons (x : Int) (S : List Sg) (s : Sg) : lastOf x (s :: S) = lastOf s.1 S := by
  rcases List.eq_nil_or_concat S with rfl | ⟨T, t, rfl⟩
  · rfl
  · rw [List.concat_eq_append, ← List.cons_append, lastOf_snoc, lastOf_snoc]
theorem unlike_snoc (s : Sg) (S : List Sg) : ∀ x, unlike x (S ++ [s]) ↔ unlike x S ∧ s.1 ≠ lastOf x S := by
  induction S with
  | nil => intro x; simp [unlike, lastOf]
  | cons t S ih =>
    intro x
    rw [List.cons_append, unlike, unlike, ih, lastOf_cons, and_assoc]
/-- What Segs tells of a sheet's first i labels. -/
theorem segsTo_cover (L : List Int) (h0 : ∀ x ∈ L, x ≠ 0) : ∀ i, i ≤ L.length → chain 0 (segsTo L i) = some (i : Int) ∧ unlike 0 (segsTo L i) ∧ ∀ s ∈ segsTo L i, ∀ j : Nat, s.2.1 ≤ (j : Int) → (j : Int) < s.2.1 + s.2.2 → L[j]? = some s.1 := by
  intro i
  induction i with
  | zero => intro _; exact ⟨rfl, trivial, fun s h => by simp [segsTo] at h⟩
  | succ i ih =>
    intro hi
    obtain ⟨h1, h2, h3⟩ := ih (by omega)
    have hx : L[i]? = some (L.getD i 0) := by rw [List.getD_eq_getElem?_getD, List.getElem?_eq_getElem (by omega)]; rfl
    have hx0 : L.getD i 0 ≠ 0 := h0 _ (List.mem_of_getElem? hx)
    rw [segsTo]
    generalize segsTo L i = S at *
    generalize L.getD i 0 = x at *
    rcases List.eq_nil_or_concat S with rfl | ⟨T, s, rfl⟩
    · rw [segsStep_nil]
      have hi0 : i = 0 := by
        have : (0 : Int) = (i : Int) := Option.some.inj h1
        omega
      subst hi0
      refine ⟨by simp [chain], ⟨hx0, trivial⟩, fun s hs j hj1 hj2 => ?_⟩
      simp only [List.mem_singleton] at hs
      subst hs
      have : j = 0 := by simp only at hj1 hj2; omega
      subst this
      exact hx
    · rw [List.concat_eq_append] at *
      rw [segsStep_snoc]
      obtain ⟨c1, c2, c3⟩ := chain_snoc' _ _ _ _ h1
      obtain ⟨u1, u2⟩ := (unlike_snoc _ _ _).1 h2
      split
      · rename_i he
        refine ⟨?_, (unlike_snoc _ _ _).2 ⟨u1, u2⟩, fun t ht j hj1 hj2 => ?_⟩
        · rw [chain_snoc T (s.1, s.2.1, s.2.2 + 1) 0 _ c1 rfl (by show 1 ≤ s.2.2 + 1; omega)]
          congr 1
          show s.2.1 + (s.2.2 + 1) = _
          omega
        · rcases List.mem_append.1 ht with ht | ht
          · exact h3 t (List.mem_append_left _ ht) j hj1 hj2
          · simp only [List.mem_singleton] at ht
            subst ht
            simp only at hj1 hj2 ⊢
            by_cases hj : j = i
            · subst hj
              rw [he]
              exact hx
            · exact h3 s (by simp) j hj1 (by omega)
      · rename_i he
        refine ⟨?_, (unlike_snoc _ _ _).2 ⟨h2, ?_⟩, fun t ht j hj1 hj2 => ?_⟩
        · rw [chain_snoc (T ++ [s]) _ _ _ h1 rfl (by simp)]
          simp
        · rw [lastOf_snoc]
          exact fun h => he h.symm
        · rcases List.mem_append.1 ht with ht | ht
          · exact h3 t ht j hj1 hj2
          · simp only [List.mem_singleton] at ht
            subst ht
            simp only at hj1 hj2 ⊢
            have : j = i := by omega
            subst this
            exact hx
theorem segsOf_cover (L : List Int) (h0 : ∀ x ∈ L, x ≠ 0) : chain 0 (segsOf L) = some (L.length : Int) ∧ unlike 0 (segsOf L) ∧ ∀ s ∈ segsOf L, ∀ j : Nat, s.2.1 ≤ (j : Int) → (j : Int) < s.2.1 + s.2.2 → L[j]? = some s.1 := segsTo_cover L h0 _ (Nat.le_refl _)
theorem chain_take (S : List Sg) (n : Int) (h : chain 0 S = some n) (q : Nat) (s : Sg) (hs : S[q]? = some s) : chain 0 (S.take q) = some s.2.1 ∧ chain 0 (S.take (q + 1)) = some (s.2.1 + s.2.2) ∧ 1 ≤ s.2.2 := by
  obtain ⟨hq, he⟩ := List.getElem?_eq_some_iff.1 hs
  have e : S = S.take q ++ s :: S.drop (q + 1) := by
    rw [← he, ← List.drop_eq_getElem_cons hq, List.take_append_drop]
  have e2 : S.take (q + 1) = S.take q ++ [s] := by rw [List.take_add_one, hs]; rfl
  have h2 : ∃ r, chain 0 (S.take (q + 1)) = some r := by
    rw [← List.take_append_drop (q + 1) S, chain_append] at h
    cases c : chain 0 (S.take (q + 1)) with
    | none => rw [c] at h; simp at h
    | some r => exact ⟨r, rfl⟩
  obtain ⟨r, hr⟩ := h2
  rw [e2] at hr ⊢
  obtain ⟨a, b, c⟩ := chain_snoc' _ _ _ _ hr
  exact ⟨a, by rw [hr, c], b⟩
theorem unlike_take (S : List Sg) (x : Int) (h : unlike x S) (q : Nat) (s : Sg) (hs : S[q]? = some s) : s.1 ≠ lastOf x (S.take q) ∧ lastOf x (S.take (q + 1)) = s.1 := by
  have e2 : S.take (q + 1) = S.take q ++ [s] := by rw [List.take_add_one, hs]; rfl
  have h2 : unlike x (S.take (q + 1)) := by
    have : ∀ (A B : List Sg) x, unlike x (A ++ B) → unlike x A := by
      intro A
      induction A with
      | nil => intro B x _; trivial
      | cons a A ih => intro B x h; exact ⟨h.1, ih B _ h.2⟩
    exact this _ (S.drop (q + 1)) x (by rw [List.take_append_drop]; exact h)
  rw [e2] at h2 ⊢
  exact ⟨((unlike_snoc _ _ _).1 h2).2, lastOf_snoc _ _ _⟩
end Go.Proofs.Ytecpmgbahknneaa.L
