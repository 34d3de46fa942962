/- The edits in their order: a permutation, ascending, the first of equals first. Conditions: none. -/
import Derived.Test.YtgcjkijndibejaaESort
set_option linter.unusedVariables false
set_option linter.unusedSimpArgs false
namespace Go.Proofs.Ytgcjkijndibejaa.Srt
open Go.Sort

def ltE (x y : Ed) : Bool := decide (cE x y < 0)
theorem cE_lt (x y : Ed) : (cE x y < 0) ↔ (x.1 < y.1 ∨ (x.1 = y.1 ∧ x.2.1 < y.2.1)) := by
  unfold cE cI
  by_cases h1 : x.1 < y.1
  · simp [h1]
  · by_cases h2 : y.1 < x.1
    · simp [h1, h2]; omega
    · have h3 : x.1 = y.1 := by omega
      by_cases h4 : x.2.1 < y.2.1
      · simp [h3, h4]
      · by_cases h5 : y.2.1 < x.2.1
        · simp [h3, h4, h5]
        · simp [h3, h4, h5]
def sT (es : List Ed) (i j : Nat) : Bool := ltOf (cT es) i j || (!ltOf (cT es) j i && decide (i < j))
theorem lt_T (es : List Ed) (i j : Nat) : ltOf (cT es) i j = true ↔ ((es.getD i dE).1 < (es.getD j dE).1 ∨ ((es.getD i dE).1 = (es.getD j dE).1 ∧ (es.getD i dE).2.1 < (es.getD j dE).2.1)) := by
  unfold ltOf cT
  rw [decide_eq_true_eq]
  exact cE_lt _ _
theorem sT_iff (es : List Ed) (i j : Nat) : sT es i j = true ↔ ((es.getD i dE).1 < (es.getD j dE).1 ∨ ((es.getD i dE).1 = (es.getD j dE).1 ∧ ((es.getD i dE).2.1 < (es.getD j dE).2.1 ∨ ((es.getD i dE).2.1 = (es.getD j dE).2.1 ∧ i < j)))) := by
  unfold sT
  rw [Bool.or_eq_true, Bool.and_eq_true, lt_T, Bool.not_eq_true', ← Bool.not_eq_true, lt_T, decide_eq_true_eq]
  generalize (es.getD i dE).1 = a
  generalize (es.getD j dE).1 = b
  generalize (es.getD i dE).2.1 = c
  generalize (es.getD j dE).2.1 = d
  omega
theorem sT_swo (es : List Ed) : SWO (sT es) where
  irrefl x := by
    cases h : sT es x x with
    | false => rfl
    | true => rw [sT_iff] at h; omega
  trans x y z h1 h2 := by
    rw [sT_iff] at *
    omega
  ntrans x y z h1 h2 := by
    cases h : sT es x z with
    | false => rfl
    | true =>
      rw [← Bool.not_eq_true, sT_iff] at h1 h2
      rw [sT_iff] at h
      omega
theorem sT_ag (es : List Ed) (x y : Nat) (h : y < x) : ltOf (cT es) x y = sT es x y := by
  rw [Bool.eq_iff_iff, sT_iff, lt_T]
  omega
theorem sT_tot (es : List Ed) (x y : Nat) (h1 : sT es x y = false) (h2 : sT es y x = false) : x = y := by
  rw [← Bool.not_eq_true, sT_iff] at h1 h2
  omega
theorem srtT (es : List Ed) : PermIn 0 es.length (Array.range es.length) (stb (ltOf (cT es)) (Array.range es.length)) ∧ SortedIn (sT es) 0 es.length (stb (ltOf (cT es)) (Array.range es.length)) :=
  stb_sorts (sT_swo es) (sT_ag es) es.length
theorem srtE_mem (es : List Ed) (e : Ed) (h : e ∈ srtE es) : e ∈ es := by
  unfold srtE at h
  obtain ⟨i, hi, rfl⟩ := List.mem_map.1 h
  obtain ⟨j, hj, hji⟩ := List.getElem_of_mem hi
  rw [Array.length_toList, size_stb] at hj
  simp only [Array.size_range] at hj
  have hp := permIn_all _ _ 0 es.length (fun z => z < es.length) (by simp) (srtT es).1 (fun x _ hx => by simp [hx]) j (Nat.zero_le _) hj
  have hz : j < (stb (ltOf (cT es)) (Array.range es.length)).size := by rw [size_stb]; simpa using hj
  rw [getElem!_pos _ j hz] at hp
  rw [Array.getElem_toList] at hji
  rw [hji] at hp
  rw [List.getD_eq_getElem?_getD, List.getElem?_eq_getElem hp]
  exact List.getElem_mem _
end Go.Proofs.Ytgcjkijndibejaa.Srt
