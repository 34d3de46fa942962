/- Labels laid over a place of a sheet, in plain lists; steps of a remark and of a string. Conditions: as each lemma says. -/
import Derived.Test.YtjbbogcoabgcnaaLCore
import Derived.Test.YtjbbogcoabgcnaaSrcLaw
set_option linter.unusedVariables false
set_option linter.unusedSimpArgs false
namespace Go.Proofs.Ytjbbogcoabgcnaa.S
open Go.Proofs.Ytjbbogcoabgcnaa.L Go.Proofs.Ytjbbogcoabgcnaa.Src

def ov (L : List Int) (p : Nat) (M : List Int) : List Int := L.take p ++ M ++ L.drop (p + M.length)
theorem ov_length (L : List Int) (p : Nat) (M : List Int) (h : p + M.length ≤ L.length) : (ov L p M).length = L.length := by
  unfold ov
  simp only [List.length_append, List.length_take, List.length_drop]
  omega
theorem ov_nil (L : List Int) (p : Nat) : ov L p [] = L := by
  unfold ov
  simp
theorem ov_get (L : List Int) (p : Nat) (M : List Int) (h : p + M.length ≤ L.length) (i : Nat) : (ov L p M)[i]? = if i < p then L[i]? else if i < p + M.length then M[i - p]? else L[i]? := by
  unfold ov
  rw [List.append_assoc, List.getElem?_append, List.length_take, Nat.min_eq_left (by omega)]
  by_cases h1 : i < p
  · rw [if_pos h1, if_pos h1, List.getElem?_take, if_pos h1]
  · rw [if_neg h1, if_neg h1, List.getElem?_append]
    by_cases h2 : i < p + M.length
    · rw [if_pos h2, if_pos (by omega)]
    · rw [if_neg h2, if_neg (by omega), List.getElem?_drop]
      congr 1
      omega
theorem ov_set (L : List Int) (p : Nat) (X : List Int) (l : Int) (m : Nat) (h : p + X.length + m ≤ L.length) (a : Int) (ha : a = ((p + X.length : Nat) : Int)) : setL (ov L p X) l a (a + m) = ov L p (X ++ List.replicate m l) := by
  subst ha
  apply List.ext_getElem?
  intro i
  rw [setL_get, ov_get _ _ _ (by omega), ov_get _ _ _ (by simp; omega)]
  simp only [List.length_append, List.length_replicate]
  by_cases h1 : i < p
  · simp only [if_pos h1]
    cases L[i]? with
    | none => rfl
    | some x => rw [Option.map_some, if_neg (by omega)]
  · simp only [if_neg h1]
    by_cases h2 : i < p + X.length
    · rw [if_pos h2, if_pos (by omega), List.getElem?_append_left (by omega)]
      cases X[i - p]? with
      | none => rfl
      | some x => rw [Option.map_some, if_neg (by omega)]
    · rw [if_neg h2]
      by_cases h3 : i < p + (X.length + m)
      · rw [if_pos h3, List.getElem?_append_right (by omega), List.getElem?_replicate, if_pos (by omega), List.getElem?_eq_getElem (by omega), Option.map_some, if_pos (by omega)]
      · rw [if_neg h3]
        cases L[i]? with
        | none => rfl
        | some x => rw [Option.map_some, if_neg (by omega)]
theorem ov_same (L : List Int) (p : Nat) (X : List Int) (l : Int) (m : Nat) (h : p + X.length + m ≤ L.length) (hl : ∀ i, p + X.length ≤ i → i < p + X.length + m → L[i]? = some l) : ov L p (X ++ List.replicate m l) = ov L p X := by
  apply List.ext_getElem?
  intro i
  rw [ov_get _ _ _ (by simp; omega), ov_get _ _ _ (by omega)]
  simp only [List.length_append, List.length_replicate]
  by_cases h1 : i < p
  · rw [if_pos h1, if_pos h1]
  · rw [if_neg h1, if_neg h1]
    by_cases h2 : i < p + X.length
    · rw [if_pos h2, if_pos (by omega), List.getElem?_append_left (by omega)]
    · rw [if_neg h2]
      by_cases h3 : i < p + (X.length + m)
      · rw [if_pos h3, List.getElem?_append_right (by omega), List.getElem?_replicate, if_pos (by omega), hl i (by omega) (by omega)]
      · rw [if_neg h3]
/-- Laid behind what was laid. -/
theorem ov_ov (L : List Int) (p : Nat) (X Y : List Int) (h : p + X.length + Y.length ≤ L.length) : ov (ov L p X) (p + X.length) Y = ov L p (X ++ Y) := by
  have e := ov_length L p X (by omega)
  apply List.ext_getElem?
  intro i
  rw [ov_get _ _ _ (by omega), ov_get _ _ _ (by omega), ov_get _ _ _ (by simp; omega)]
  simp only [List.length_append]
  by_cases h1 : i < p
  · rw [if_pos h1, if_pos h1, if_pos (by omega)]
  · rw [if_neg h1, if_neg h1]
    by_cases h2 : i < p + X.length
    · rw [if_pos h2, if_pos h2, if_pos (by omega), List.getElem?_append_left (by omega)]
    · rw [if_neg h2, if_neg h2]
      by_cases h3 : i < p + X.length + Y.length
      · rw [if_pos h3, if_pos (by omega), List.getElem?_append_right (by omega)]
        congr 1
        omega
      · rw [if_neg h3, if_neg (by omega)]
/-- Over code that is not yet read. -/
theorem ov_code (X M : List Int) (r : Nat) (h : M.length ≤ r) : ov (X ++ List.replicate r 4) X.length M = X ++ M ++ List.replicate (r - M.length) 4 := by
  unfold ov
  rw [List.take_left', List.drop_append]
  · simp
  · rfl

/-! ### a remark's steps -/
theorem blkW_end (F : Fam) (d : Nat) : blkW F d [] = [] := by unfold blkW; rfl
theorem drop_cons (m : List Int) (c : Int) (r : List Int) (h : 0 < m.length) : (c :: r).drop m.length = r.drop (m.length - 1) := by
  obtain ⟨k, hk⟩ : ∃ k, m.length = k + 1 := ⟨m.length - 1, by omega⟩
  rw [hk, List.drop_succ_cons, Nat.add_sub_cancel]
theorem blkW_o (F : Fam) (d : Nat) (s : List Int) (h : beg F.opn s = true) (hd : d = 0 ∨ F.nest = true) (h32 : d < 32) : blkW F d s = List.replicate F.opn.length 3 ++ blkW F (d + 1) (s.drop F.opn.length) := by
  have hl := beg_length h
  cases s with
  | nil => have h1 := hl.1; have h2 := hl.2; simp only [List.length_nil] at h1; omega
  | cons c r =>
    unfold blkW
    rw [List.length_cons, blk, if_pos ⟨h, hd⟩, if_neg (by omega), drop_cons _ _ _ hl.2]
    congr 1
    exact blk_fuel F _ _ _ _ (by simp only [List.length_drop]; omega) (by simp)
theorem blkW_oo (F : Fam) (d : Nat) (s : List Int) (h : beg F.opn s = true) (hd : d = 0 ∨ F.nest = true) (h32 : 32 ≤ d) : blkW F d s = List.replicate s.length 6 := by
  have hl := beg_length h
  cases s with
  | nil => have h1 := hl.1; have h2 := hl.2; simp only [List.length_nil] at h1; omega
  | cons c r =>
    unfold blkW
    rw [List.length_cons, blk, if_pos ⟨h, hd⟩, if_pos (by omega)]
theorem blkW_s (F : Fam) (d : Nat) (s : List Int) (h : ¬ (beg F.opn s = true ∧ (d = 0 ∨ F.nest = true))) (h2 : beg F.shut s = true) (hd : 1 < d) : blkW F d s = List.replicate F.shut.length 3 ++ blkW F (d - 1) (s.drop F.shut.length) := by
  have hl := beg_length h2
  cases s with
  | nil => have h1 := hl.1; have h2 := hl.2; simp only [List.length_nil] at h1; omega
  | cons c r =>
    unfold blkW
    rw [List.length_cons, blk, if_neg h, if_pos h2, if_neg (by omega), drop_cons _ _ _ hl.2]
    congr 1
    exact blk_fuel F _ _ _ _ (by simp only [List.length_drop]; omega) (by simp)
theorem blkW_ss (F : Fam) (s : List Int) (h : ¬ (beg F.opn s = true ∧ ((1 : Nat) = 0 ∨ F.nest = true))) (h2 : beg F.shut s = true) : blkW F 1 s = List.replicate F.shut.length 3 := by
  have hl := beg_length h2
  cases s with
  | nil => have h1 := hl.1; have h2 := hl.2; simp only [List.length_nil] at h1; omega
  | cons c r =>
    unfold blkW
    rw [List.length_cons, blk, if_neg h, if_pos h2, if_pos rfl, List.append_nil]
theorem blkW_p (F : Fam) (d : Nat) (c : Int) (r : List Int) (h : ¬ (beg F.opn (c :: r) = true ∧ (d = 0 ∨ F.nest = true))) (h2 : beg F.shut (c :: r) = false) : blkW F d (c :: r) = 1 :: blkW F d r := by
  unfold blkW
  rw [List.length_cons, blk, if_neg h, if_neg (by simp [h2])]

/-! ### a string's steps -/
def txtW (t : Tx) (s : List Int) : List Int := txt t s.length s
theorem txtW_end (t : Tx) : txtW t [] = [] := rfl
theorem txtW_le (t : Tx) (s : List Int) : (txtW t s).length ≤ s.length := txt_le t _ _
theorem txtW_fuel (t : Tx) (n : Nat) (s : List Int) (h : s.length ≤ n) : txt t n s = txtW t s := txt_fuel t _ _ _ h (Nat.le_refl _)
theorem txtW_nl (t : Tx) (r : List Int) (h : t.long = false) : txtW t (10 :: r) = [] := by
  unfold txtW
  rw [List.length_cons, txt, if_pos ⟨rfl, h⟩]
theorem txtW_esc (t : Tx) (x : Int) (r : List Int) (h : t.escape = true) (hx : t.long = true ∨ x ≠ 10) : txtW t (92 :: x :: r) = t.what :: t.what :: txtW t r := by
  unfold txtW
  rw [List.length_cons, txt, if_neg (by simp), if_pos ⟨h, rfl, by simp, by simpa using hx⟩]
  congr 2
  exact txt_fuel t _ _ _ (by simp) (by simp)
/-- Not an escape. -/
def noesc (t : Tx) (c : Int) (r : List Int) : Prop := ¬ (t.escape = true ∧ c = 92 ∧ r ≠ [] ∧ (t.long = true ∨ r.head? ≠ some 10))
theorem txtW_twice (t : Tx) (c : Int) (r : List Int) (h0 : ¬ (c = 10 ∧ t.long = false)) (h1 : noesc t c r) (h : t.twice = true) (h2 : beg (t.mark ++ t.mark) (c :: r) = true) : txtW t (c :: r) = List.replicate (2 * t.mark.length) t.what ++ txtW t ((c :: r).drop (2 * t.mark.length)) := by
  have hl := beg_length h2
  simp only [List.length_append, List.length_cons] at hl
  unfold txtW
  rw [List.length_cons, txt, if_neg h0, if_neg h1, if_pos ⟨h, h2⟩]
  have e : (c :: r).drop (2 * t.mark.length) = r.drop (2 * t.mark.length - 1) := by
    obtain ⟨k, hk⟩ : ∃ k, 2 * t.mark.length = k + 1 := ⟨2 * t.mark.length - 1, by omega⟩
    rw [hk, List.drop_succ_cons, Nat.add_sub_cancel]
  rw [e]
  congr 1
  exact txt_fuel t _ _ _ (by simp) (by simp)
theorem txtW_mark (t : Tx) (c : Int) (r : List Int) (h0 : ¬ (c = 10 ∧ t.long = false)) (h1 : noesc t c r) (h : ¬ (t.twice = true ∧ beg (t.mark ++ t.mark) (c :: r) = true)) (h2 : beg t.mark (c :: r) = true) : txtW t (c :: r) = List.replicate t.mark.length 4 := by
  unfold txtW
  rw [List.length_cons, txt, if_neg h0, if_neg h1, if_neg h, if_pos h2]
theorem txtW_one (t : Tx) (c : Int) (r : List Int) (h0 : ¬ (c = 10 ∧ t.long = false)) (h1 : noesc t c r) (h : ¬ (t.twice = true ∧ beg (t.mark ++ t.mark) (c :: r) = true)) (h2 : beg t.mark (c :: r) = false) : txtW t (c :: r) = t.what :: txtW t r := by
  unfold txtW
  rw [List.length_cons, txt, if_neg h0, if_neg h1, if_neg h, if_neg (by simp [h2])]
end Go.Proofs.Ytjbbogcoabgcnaa.S
