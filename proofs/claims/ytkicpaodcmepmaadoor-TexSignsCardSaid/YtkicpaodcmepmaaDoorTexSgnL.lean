/- Letters, digits and blanks are prose, a remark none, in plain lists. Conditions: none. -/
import Derived.Test.YtkicpaodcmepmaaDoorTexRun
set_option linter.unusedVariables false
set_option linter.unusedSimpArgs false
namespace Go.Proofs.YtkicpaodcmepmaaDoor.Tex
open Go.Proofs.YtkicpaodcmepmaaDoor.L

/-- A remark, or none. -/
def NoteOk (m : List Int) : Prop := m = [] ∨ ∃ r, m = 37 :: r ∧ (10 : Int) ∉ r
theorem NoteOk.snoc {m : List Int} (h : NoteOk m) (hm : m ≠ []) {y : Int} (hy : y ≠ 10) : NoteOk (m ++ [y]) := by
  rcases h with h | ⟨r, rfl, hr⟩
  · exact absurd h hm
  · refine .inr ⟨r ++ [y], rfl, fun h => ?_⟩
    rcases List.mem_append.1 h with h | h
    · exact hr h
    · simp at h; exact hy h.symm
theorem NoteOk.one {y : Int} (hy : y ≠ 10) : NoteOk [37, y] := .inr ⟨[y], rfl, fun h => by simp at h; exact hy h.symm⟩
theorem getD_app (a b : List Int) (i : Nat) : (a ++ b).getD i 0 = if i < a.length then a.getD i 0 else b.getD (i - a.length) 0 := by
  simp only [List.getD_eq_getElem?_getD]
  by_cases h : i < a.length
  · rw [if_pos h, List.getElem?_append_left h]
  · rw [if_neg h, List.getElem?_append_right (by omega)]
theorem getD_in (a : List Int) (i : Nat) (h : i < a.length) : a.getD i 0 ∈ a := by
  rw [List.getD_eq_getElem?_getD, List.getElem?_eq_getElem h]
  exact List.getElem_mem _
theorem signs_lex (s m : List Int) (hs : ∀ x ∈ s, plainB x = true) (hm : NoteOk m) :
    (∀ i, i < s.length + m.length → (lexL (s ++ m ++ [10, 120]))[i]? = some (if s.length ≤ i then 3 else 1)) ∧ (lexL (s ++ m ++ [10, 120]))[s.length + m.length + 1]? = some 1 := by
  have hlen : (s ++ m ++ [10, 120]).length = s.length + m.length + 2 := by simp; omega
  have gs : ∀ i, i < s.length → plainB ((s ++ m ++ [10, 120]).getD i 0) = true := by
    intro i h
    rw [List.append_assoc, getD_app, if_pos h]
    exact hs _ (getD_in s i h)
  have ge0 : (s ++ m ++ [10, 120]).getD (s.length + m.length) 0 = 10 := by
    rw [getD_app, if_neg (by simp), List.length_append, Nat.sub_self]; rfl
  have ge1 : (s ++ m ++ [10, 120]).getD (s.length + m.length + 1) 0 = 120 := by
    rw [getD_app, if_neg (by simp), List.length_append, Nat.add_sub_cancel_left]; rfl
  have hR : (List.replicate (s ++ m ++ [10, 120]).length (1 : Int)).length = (s ++ m ++ [10, 120]).length := by simp
  rcases hm with rfl | ⟨r, rfl, hr⟩
  · have hl : lexL (s ++ [] ++ [10, 120]) = List.replicate (s ++ [] ++ [10, 120]).length 1 := by
      rw [lexL_at, lexAt_txt _ _ hR (s.length + 2) 0 (by rw [hlen]; simp) (fun i _ h2 => ?_), lexAt_end _ _ _ (by rw [hlen]; simp)]
      by_cases h3 : i < s.length
      · exact gs i h3
      · by_cases h4 : i = s.length
        · subst h4
          rw [show s.length = s.length + ([] : List Int).length from rfl, ge0]; rfl
        · obtain rfl : i = s.length + ([] : List Int).length + 1 := by simp; omega
          rw [ge1]; rfl
    rw [hl]
    refine ⟨fun i hi => ?_, ?_⟩
    · rw [List.getElem?_replicate, if_pos (by rw [hlen]; omega), if_neg (by simp at hi; omega)]
    · rw [List.getElem?_replicate, if_pos (by rw [hlen]; omega)]
  · have g37 : (s ++ 37 :: r ++ [10, 120]).getD s.length 0 = 37 := by
      rw [List.append_assoc, getD_app, if_neg (by omega), Nat.sub_self]; rfl
    have hdrop : (s ++ 37 :: r ++ [10, 120]).drop s.length = 37 :: r ++ [10, 120] := by
      rw [List.append_assoc, List.drop_left]
    have hf : ((s ++ 37 :: r ++ [10, 120]).drop s.length).findIdx (· == 10) = r.length + 1 := by
      rw [hdrop]
      have : (37 :: r ++ [10, 120] : List Int).findIdx (· == 10) = (37 :: r).length := by
        rw [List.findIdx_append, List.findIdx_eq_length_of_false (xs := 37 :: r) (fun x hx => by
          rw [List.mem_cons] at hx
          rcases hx with rfl | hx
          · rfl
          · rw [beq_eq_false_iff_ne]; rintro rfl; exact hr hx), if_neg (by omega), show List.findIdx (fun x => x == 10) [(10 : Int), 120] = 0 from rfl, Nat.zero_add]
      rw [this]; simp
    have hline : lineE (s ++ 37 :: r ++ [10, 120]) s.length = s.length + (37 :: r).length + 1 := by
      unfold lineE
      simp only []
      rw [hf, hlen, if_pos (by simp; omega)]
      simp
    generalize hb : s ++ 37 :: r ++ [10, 120] = b at *
    have e1 : step b s.length (List.replicate b.length 1) = (s.length + (37 :: r).length + 1, setL (List.replicate b.length 1) 3 (s.length : Int) ((s.length + (37 :: r).length + 1 : Nat) : Int)) := by
      unfold step
      rw [if_pos g37, hline]
    have hl : lexL b = setL (List.replicate b.length 1) 3 (s.length : Int) ((s.length + (37 :: r).length + 1 : Nat) : Int) := by
      rw [lexL_at, lexAt_txt b _ hR s.length 0 (by omega) (fun i _ h2 => gs i (by omega)), Nat.zero_add, lexAt_step b _ _ (by omega) hR, e1]
      simp only []
      rw [lexAt_step b _ _ (by omega) (by rw [setL_length]; exact hR), step_plain b _ _ (by rw [ge1]; rfl)]
      simp only []
      rw [lexAt_end b _ _ (by omega)]
    rw [hl]
    refine ⟨fun i hi => ?_, ?_⟩
    · rw [setL_get, List.getElem?_replicate, if_pos (by omega)]
      simp only [Option.map_some]
      congr 1
      by_cases h : s.length ≤ i
      · rw [if_pos (by omega), if_pos h]
      · rw [if_neg (by omega), if_neg h]
    · rw [setL_get, List.getElem?_replicate, if_pos (by omega)]
      simp only [Option.map_some]
      rw [if_neg (by omega)]
end Go.Proofs.YtkicpaodcmepmaaDoor.Tex
