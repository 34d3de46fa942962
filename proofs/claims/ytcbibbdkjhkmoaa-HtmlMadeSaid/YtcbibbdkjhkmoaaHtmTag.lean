/- Bounds of tags and steps, in plain lists. Conditions: none. -/
import Derived.Test.YtcbibbdkjhkmoaaHtmLex
set_option linter.unusedVariables false
set_option linter.unusedSimpArgs false
namespace Go.Proofs.Ytcbibbdkjhkmoaa.Htm
open Go.Proofs.Ytcbibbdkjhkmoaa.L

theorem lt_of_some {b : List Int} {p : Nat} {x : Int} (h : b[p]? = some x) : p < b.length := (List.getElem?_eq_some_iff.1 h).1
theorem attr_ok (b : List Int) (p : Nat) (hp : p < b.length) : p < (attr b p).1 ∧ (attr b p).1 ≤ b.length ∧ ∀ u z, (attr b p).2 = some (u, z) → u + z ≤ b.length ∧ p < u ∧ 0 < z := by
  have h1 := whl_ge keyB b (p + 1)
  have k1 := whl_le keyB b (p + 1) hp
  have h2 := whl_ge blankB b (whl keyB b (p + 1))
  have k2 := whl_le blankB b _ k1
  unfold attr
  dsimp only
  split
  · rename_i hq
    have l2 := lt_of_some hq
    have h3 := whl_ge blankB b (whl blankB b (whl keyB b (p + 1)) + 1)
    have k3 := whl_le blankB b (whl blankB b (whl keyB b (p + 1)) + 1) l2
    split
    · rename_i hqq
      have l3 : whl blankB b (whl blankB b (whl keyB b (p + 1)) + 1) < b.length := by rcases hqq with h | h <;> exact lt_of_some h
      have h4 := whl_ge (fun c => c != b.getD (whl blankB b (whl blankB b (whl keyB b (p + 1)) + 1)) 0) b (whl blankB b (whl blankB b (whl keyB b (p + 1)) + 1) + 1)
      have k4 := whl_le (fun c => c != b.getD (whl blankB b (whl blankB b (whl keyB b (p + 1)) + 1)) 0) b (whl blankB b (whl blankB b (whl keyB b (p + 1)) + 1) + 1) l3
      dsimp only
      refine ⟨by split <;> omega, by split <;> omega, ?_⟩
      intro u z hu
      split at hu
      · injection hu with hu
        injection hu with e1 e2
        omega
      · cases hu
    · have h4 := whl_ge bareB b (whl blankB b (whl blankB b (whl keyB b (p + 1)) + 1))
      have k4 := whl_le bareB b _ k3
      dsimp only
      exact ⟨by omega, k4, fun u z hu => by cases hu⟩
  · dsimp only
    exact ⟨by omega, k2, fun u z hu => by cases hu⟩
theorem attrs_ok (b : List Int) : ∀ (n p : Nat) (S : List (Nat × Nat)) (f : Nat) (S' : List (Nat × Nat)), p ≤ b.length → attrs b n p S = some (f, S') → S.length ≤ p → (∀ u z, (u, z) ∈ S → u + z ≤ b.length) → p < f ∧ f ≤ b.length ∧ S'.length ≤ f ∧ ∀ u z, (u, z) ∈ S' → u + z ≤ b.length := by
  intro n
  induction n with
  | zero => intro p S f S' _ h; cases h
  | succ n ih =>
    intro p S f S' hp h hl hS
    have hg := whl_ge gapB b p
    have hk := whl_le gapB b p hp
    unfold attrs at h
    generalize whl gapB b p = q at *
    dsimp only at h
    split at h
    · cases h
    · rename_i hq
      have hql : q < b.length := by
        rcases Nat.lt_or_ge q b.length with k | k
        · exact k
        · exact absurd (List.getElem?_eq_none k) hq
      split at h
      · injection h with h
        injection h with e1 e2
        subst e1
        subst e2
        exact ⟨by omega, hql, by omega, hS⟩
      · obtain ⟨a1, a2, a3⟩ := attr_ok b q hql
        have hlen : (S ++ (attr b q).2.toList).length ≤ S.length + 1 := by
          rw [List.length_append]
          cases (attr b q).2 <;> simp
        have := ih _ _ f S' a2 h (by omega) (by
          intro u z hu
          rcases List.mem_append.1 hu with h | h
          · exact hS u z h
          · rw [Option.mem_toList] at h
            exact (a3 u z h).1)
        exact ⟨by omega, this.2⟩
theorem opens_ge (b : List Int) (p : Nat) : p < opens b p := by unfold opens; split <;> omega
theorem isLetter_lt {b : List Int} {p : Nat} (h : isLetter b p = true) : p < b.length := by
  rcases Nat.lt_or_ge p b.length with k | k
  · exact k
  · unfold isLetter at h
    rw [List.getElem?_eq_none k] at h
    cases h
theorem read_ok (b : List Int) (p : Nat) (T : Tg) (h : read b p = some T) : p < T.fin ∧ T.fin ≤ b.length ∧ T.prose.length ≤ T.fin ∧ (∀ u z, (u, z) ∈ T.prose → u + z ≤ b.length) ∧ T.name.length ≤ b.length ∧ ∃ q m, T.name = ((b.drop q).take m).map sm := by
  unfold read at h
  split at h
  · rename_i hh
    have hq := isLetter_lt hh.2
    have h1 := whl_ge nameB b (opens b p)
    have h2 := whl_le nameB b (opens b p) (Nat.le_of_lt hq)
    have h3 := opens_ge b p
    cases ha : attrs b (b.length + 1) (whl nameB b (opens b p)) [] with
    | none => rw [ha] at h; cases h
    | some r =>
      obtain ⟨f, S'⟩ := r
      rw [ha] at h
      injection h with h
      subst h
      obtain ⟨g1, g2, g3, g4⟩ := attrs_ok b _ _ _ f S' h2 ha (by simp) (by intro u z h; cases h)
      refine ⟨by show p < f; omega, g2, g3, g4, ?_, _, _, rfl⟩
      rw [List.length_map, List.length_take, List.length_drop]
      omega
  · cases h
theorem begs_le {b t : List Int} {p : Nat} (h : begs b p t = true) (hp : p ≤ b.length) : p + t.length ≤ b.length := by
  unfold begs at h
  have := (List.isPrefixOf_iff_prefix.1 h).length_le
  rw [List.length_drop] at this
  omega
theorem step_ok (b : List Int) (p : Nat) (L : List Int) (hp : p < b.length) (hL : L.length = b.length) : p < (step b p L).1 ∧ (step b p L).1 ≤ b.length ∧ (step b p L).2.length = b.length := by
  have hlt : p ≤ b.length := Nat.le_of_lt hp
  unfold step
  split
  · exact ⟨by show p < p + 1; omega, hp, hL⟩
  split
  · rename_i h
    have := begs_le h hlt
    simp only [List.length_cons, List.length_nil] at this
    have g := untl_ge [45, 45, 62] b (p + 4) (by omega)
    exact ⟨by show p < untl _ _ _; omega, untl_le _ b (p + 4) (by simp) (by omega), by rw [setL_length]; exact hL⟩
  split
  · rename_i h
    have := begs_le h hlt
    simp only [List.length_cons, List.length_nil] at this
    have g := untl_ge [93, 93, 62] b (p + 9) (by omega)
    exact ⟨by show p < untl _ _ _; omega, untl_le _ b (p + 9) (by simp) (by omega), by rw [setL_length]; exact hL⟩
  split
  · rename_i h
    have : p + 2 ≤ b.length := by
      rw [Bool.or_eq_true] at h
      rcases h with h | h
      · exact begs_le h hlt
      · exact begs_le h hlt
    have g := untl_ge [62] b (p + 2) this
    exact ⟨by show p < untl _ _ _; omega, untl_le _ b (p + 2) (by simp) this, by rw [setL_length]; exact hL⟩
  split
  · rename_i T hT
    obtain ⟨h1, h2, _⟩ := read_ok b p T hT
    obtain ⟨h3, h4⟩ := shutP_le b T.name T.fin h2
    have hl : (tagL p T L).length = b.length := by rw [tagL_length, hL]
    unfold past
    split
    · exact ⟨h1, h2, hl⟩
    split
    · exact ⟨by show p < shutP _ _ _; omega, h4, by rw [setL_length]; exact hl⟩
    split
    · exact ⟨by show p < shutP _ _ _; omega, h4, hl⟩
    · exact ⟨h1, h2, hl⟩
  · split
    · exact ⟨hp, Nat.le_refl _, by rw [setL_length]; exact hL⟩
    · exact ⟨by show p < p + 1; omega, hp, hL⟩
end Go.Proofs.Ytcbibbdkjhkmoaa.Htm
