/- The edits in their order: what comes of one edit more; a permutation, ascending; one alone if no two have the same place and length. Conditions: as each lemma says. -/
import Derived.Test.YtgcjkijndibejaaESrtE
import Derived.Sort.LotA
set_option linter.unusedVariables false
set_option linter.unusedSimpArgs false
namespace Go.Proofs.Ytgcjkijndibejaa.Srt
open Go.Sort

def tl (es : List Ed) : List Nat := (stb (ltOf (cT es)) (Array.range es.length)).toList
theorem tl_size (es : List Ed) : (stb (ltOf (cT es)) (Array.range es.length)).size = es.length := by rw [size_stb, Array.size_range]
theorem tl_perm (es : List Ed) : (tl es).Perm (List.range es.length) := by
  have h := (srtT es).1.2.2
  have e1 : (stb (ltOf (cT es)) (Array.range es.length)).extract 0 es.length = stb (ltOf (cT es)) (Array.range es.length) := by
    have h1 := tl_size es
    rw [Array.extract_eq_self_of_le (by omega)]
  have e2 : (Array.range es.length).extract 0 es.length = Array.range es.length := by
    rw [Array.extract_eq_self_of_le (by simp)]
  rw [e1, e2, Array.toList_range] at h
  exact h
theorem tl_sorted (es : List Ed) : (tl es).Pairwise (fun x y => (!sT es y x) = true) := by
  rw [List.pairwise_iff_getElem]
  intro i j hi hj hij
  have hs := tl_size es
  have hi' : i < (stb (ltOf (cT es)) (Array.range es.length)).size := by simpa [tl] using hi
  have hj' : j < (stb (ltOf (cT es)) (Array.range es.length)).size := by simpa [tl] using hj
  have := (srtT es).2 i j (Nat.zero_le _) hij (by omega)
  rw [getElem!_pos _ j hj', getElem!_pos _ i hi'] at this
  simp only [tl, Array.getElem_toList, Bool.not_eq_true']
  exact this
theorem tl_unique (es : List Ed) (l : List Nat) (hp : l.Perm (List.range es.length)) (hs : l.Pairwise (fun x y => (!sT es y x) = true)) : l = tl es :=
  List.Perm.eq_of_pairwise (le := fun x y => (!sT es y x) = true) (fun a b _ _ h1 h2 => by
    simp only [Bool.not_eq_true'] at h1 h2
    exact sT_tot es a b h2 h1) hs (tl_sorted es) (hp.trans (tl_perm es).symm)
theorem srtE_eq (es : List Ed) : srtE es = (tl es).map (fun i => es.getD i dE) := rfl
theorem tl_lt (es : List Ed) (i : Nat) (h : i ∈ tl es) : i < es.length := by
  have := (tl_perm es).mem_iff.1 h
  simpa using this
theorem ltE_iff (x y : Ed) : ltE x y = true ↔ (x.1 < y.1 ∨ (x.1 = y.1 ∧ x.2.1 < y.2.1)) := by
  unfold ltE
  rw [decide_eq_true_eq]
  exact cE_lt x y
theorem ltE_nff (x y : Ed) : ltE x y = false ↔ ¬ (x.1 < y.1 ∨ (x.1 = y.1 ∧ x.2.1 < y.2.1)) := by
  rw [← Bool.not_eq_true, ltE_iff]
/-- One edit more stands behind those that are not later, ahead of those that are. -/
theorem srtE_snoc (es : List Ed) (e : Ed) (k : Nat) (h1 : ∀ x ∈ (srtE es).take k, ltE e x = false) (h2 : ∀ x ∈ (srtE es).drop k, ltE e x = true) : srtE (es ++ [e]) = (srtE es).take k ++ e :: (srtE es).drop k := by
  rw [srtE_eq es, ← List.map_take] at h1
  rw [srtE_eq es, ← List.map_drop] at h2
  have hsame : ∀ i j, i < es.length → j < es.length → sT (es ++ [e]) i j = sT es i j := fun i j hi hj => by
    rw [Bool.eq_iff_iff, sT_iff, sT_iff]
    simp only [List.getD_eq_getElem?_getD, List.getElem?_append_left hi, List.getElem?_append_left hj]
  have hl : ∀ i, i < es.length → (es ++ [e]).getD i dE = es.getD i dE := fun i hi => by
    simp only [List.getD_eq_getElem?_getD, List.getElem?_append_left hi]
  have hn : (es ++ [e]).getD es.length dE = e := by simp [List.getD_eq_getElem?_getD]
  have ht : tl (es ++ [e]) = (tl es).take k ++ es.length :: (tl es).drop k := by
    symm
    refine tl_unique _ _ ?_ ?_
    · rw [List.length_append, List.length_singleton, List.range_succ]
      refine List.perm_middle.trans ?_
      rw [List.take_append_drop]
      exact ((tl_perm es).cons es.length).trans (List.perm_append_comm (l₁ := [es.length]))
    · have hs := tl_sorted es
      rw [← List.take_append_drop k (tl es), List.pairwise_append] at hs
      rw [List.pairwise_append, List.pairwise_cons]
      have m1 : ∀ i ∈ (tl es).take k, i < es.length := fun i hi => tl_lt es i (List.mem_of_mem_take hi)
      have m2 : ∀ i ∈ (tl es).drop k, i < es.length := fun i hi => tl_lt es i (List.mem_of_mem_drop hi)
      refine ⟨hs.1.imp_of_mem (fun {a b} ha hb h => by rw [hsame b a (m1 b hb) (m1 a ha)]; exact h), ⟨fun j hj => ?_, hs.2.1.imp_of_mem (fun {a b} ha hb h => by rw [hsame b a (m2 b hb) (m2 a ha)]; exact h)⟩, fun i hi j hj => ?_⟩
      · have := h2 _ (List.mem_map.2 ⟨j, hj, rfl⟩)
        rw [ltE_iff] at this
        rw [Bool.not_eq_true', ← Bool.not_eq_true, sT_iff, hn, hl j (m2 j hj)]
        omega
      · rcases List.mem_cons.1 hj with rfl | hj
        · have := h1 _ (List.mem_map.2 ⟨i, hi, rfl⟩)
          have hm := m1 i hi
          rw [ltE_nff] at this
          rw [Bool.not_eq_true', ← Bool.not_eq_true, sT_iff, hn, hl i hm]
          omega
        · rw [hsame j i (m2 j hj) (m1 i hi)]
          exact hs.2.2 i hi j hj
  rw [srtE_eq (es ++ [e]), ht, List.map_append, List.map_cons, hn, srtE_eq es, ← List.map_take, ← List.map_drop]
  congr 1
  · exact List.map_congr_left (fun i hi => hl i (tl_lt es i (List.mem_of_mem_take hi)))
  · congr 1
    exact List.map_congr_left (fun i hi => hl i (tl_lt es i (List.mem_of_mem_drop hi)))
theorem map_range_getD (es : List Ed) : (List.range es.length).map (fun i => es.getD i dE) = es := by
  refine List.ext_getElem (by simp) (fun i h1 h2 => ?_)
  simp only [List.getElem_map, List.getElem_range, List.getD_eq_getElem?_getD, List.getElem?_eq_getElem h2, Option.getD_some]
theorem srtE_perm (es : List Ed) : (srtE es).Perm es := by
  have := (tl_perm es).map (fun i => es.getD i dE)
  rw [map_range_getD] at this
  exact this
theorem srtE_sorted (es : List Ed) : (srtE es).Pairwise (fun x y => ltE y x = false) := by
  rw [srtE_eq, List.pairwise_map]
  refine (tl_sorted es).imp (fun {a b} h => ?_)
  rw [Bool.not_eq_true', ← Bool.not_eq_true, sT_iff] at h
  rw [ltE_nff]
  omega
/-- A list whose edits ascend, none like the next, is what the order makes of any list with the same edits. -/
theorem srtE_of (es l : List Ed) (hp : es.Perm l) (hs : l.Pairwise (fun x y => ltE x y = true)) : srtE es = l := by
  have hs2 : l.Pairwise (fun x y => ltE y x = false) := hs.imp (fun {a b} h => by
    rw [ltE_iff] at h
    rw [ltE_nff]
    omega)
  refine List.Perm.eq_of_pairwise (le := fun x y => ltE y x = false) (fun a b ha hb h1 h2 => ?_) (srtE_sorted es) hs2 ((srtE_perm es).trans hp)
  have ha' : a ∈ l := (((srtE_perm es).trans hp).mem_iff).1 ha
  obtain ⟨i, hi, rfl⟩ := List.getElem_of_mem ha'
  obtain ⟨j, hj, rfl⟩ := List.getElem_of_mem hb
  have hpw := List.pairwise_iff_getElem.1 hs
  by_cases hij : i = j
  · subst hij; rfl
  · rcases Nat.lt_or_gt_of_ne hij with h | h
    · have := hpw i j hi hj h
      rw [h2] at this
      cases this
    · have := hpw j i hj hi h
      rw [h1] at this
      cases this
theorem srtE_one (e : Ed) : srtE [e] = [e] := srtE_of [e] [e] (List.Perm.refl _) (List.pairwise_singleton _ _)
theorem srtE_nil : srtE [] = [] := srtE_of [] [] (List.Perm.refl _) List.Pairwise.nil
end Go.Proofs.Ytgcjkijndibejaa.Srt
