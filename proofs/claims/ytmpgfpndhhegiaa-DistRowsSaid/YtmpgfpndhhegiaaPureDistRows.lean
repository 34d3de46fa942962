/- DistRows, in plain lists: every row that the package's rounds come to holds the reference's distances of the words' beginnings. Conditions: none. -/
import Derived.Test.YtmpgfpndhhegiaaDBRows
import Derived.Test.YtmpgfpndhhegiaaDistOf
namespace Go.Proofs.Ytmpgfpndhhegiaa.DB
open Go.RowKit Go.Proofs.YtmpgfpndhhegiaaW.PrintWords Go.Proofs.YtmpgfpndhhegiaaW.PrintLast Go.Proofs.YtmpgfpndhhegiaaW.PrintMore Go.Proofs.Ytmpgfpndhhegiaa.Osa

theorem drop_at (xs : List Int) (i : Nat) (h : i < xs.length) : xs.drop i = xs.getD i 0 :: xs.drop (i + 1) := by
  rw [List.drop_eq_getElem_cons h, List.getD_eq_getElem?_getD, List.getElem?_eq_getElem h]
  rfl
theorem least_l0 (xs : List Int) (hx : xs.length ≤ 1000) : ∀ (d k i : Nat) (acc : Int), xs.length - i = d → i ≤ xs.length → d < k → dist_Row_Least.l0 k acc xs (xs.length : Int) i = some ((xs.drop i).foldl mn acc) := by
  intro d
  induction d with
  | zero =>
    intro k i acc hd hi hk
    obtain ⟨k, rfl⟩ : ∃ m, k = m + 1 := ⟨k - 1, by omega⟩
    simp only [dist_Row_Least.l0]
    rw [if_neg (by omega), List.drop_eq_nil_of_le (by omega)]
    rfl
  | succ d ih =>
    intro k i acc hd hi hk
    obtain ⟨k, rfl⟩ : ∃ m, k = m + 1 := ⟨k - 1, by omega⟩
    simp only [dist_Row_Least.l0]
    rw [if_pos (by omega), if_pos (by omega), if_pos (by omega), w64p i (by omega), rd_nat, ih k (i + 1) _ (by omega) (by omega) (by omega), drop_at xs i (by omega)]
    rfl
theorem least_f (xs : List Int) (k : Nat) (hx : xs.length ≤ 1000) (h0 : 0 < xs.length) (hk : xs.length < k) : dist_Row_Least.f k xs = some (xs.foldl mn (xs.getD 0 0)) := by
  unfold dist_Row_Least.f
  rw [if_neg (by omega), if_pos (by omega), show rd xs 0 = xs.getD 0 0 from rfl]
  exact least_l0 xs hx xs.length k 0 _ rfl (by omega) hk
theorem last_f (xs : List Int) (hx : xs.length ≤ 1000) (h0 : 0 < xs.length) : dist_Row_Last.f xs = some (xs.getD (xs.length - 1) 0) := by
  unfold dist_Row_Last.f
  have hw : wrap64 ((xs.length : Int) - 1) = ((xs.length - 1 : Nat) : Int) := by unfold wrap64; omega
  rw [if_neg (by omega), hw, if_pos (by omega), if_pos (by omega), rd_nat]
theorem foldl_mn_le (xs : List Int) : ∀ (acc : Int), xs.foldl mn acc ≤ acc ∧ ∀ x ∈ xs, xs.foldl mn acc ≤ x := by
  induction xs with
  | nil => intro acc; simp
  | cons y ys ih =>
    intro acc
    have h := ih (mn acc y)
    have h1 : mn acc y ≤ acc ∧ mn acc y ≤ y := by unfold mn; omega
    rw [List.foldl_cons]
    refine ⟨by omega, fun x hx => ?_⟩
    rcases List.mem_cons.1 hx with rfl | hx
    · omega
    · exact h.2 x hx
theorem col_length (a b : List Int) (k : Nat) : (col a b k).length = a.length + 1 := rowOf_length _ _
theorem col_getD (a b : List Int) (k i : Nat) (h : i ≤ a.length) : (col a b k).getD i 0 = (pd a b i k : Int) := rowOf_getD _ _ _ h

theorem rows_l1 (a b : List Int) (ha : a.length ≤ 25) (hb : b.length ≤ 25) (kk : Nat) (hkk : kk < b.length) (K : Nat) (hK : 100 ≤ K)
    (next : ∀ k, K < k → redpenlaw08_DistRows.l0 k a b (col a b (kk + 1)) (col a b kk) (b.getD kk 0) b (b.length : Int) ((kk + 1 : Nat) : Int) = some true) :
    ∀ (e k j : Nat), a.length + 1 - j = e → j ≤ a.length + 1 → e + K + 1 < k →
      redpenlaw08_DistRows.l1 k a b (col a b (kk + 1)) (col a b kk) (b.getD kk 0) (kk : Int) b (b.length : Int) (kk : Int) ((col a b (kk + 1)).length : Int) (j : Int) = some true := by
  have hcl := col_length a b (kk + 1)
  intro e
  induction e with
  | zero =>
    intro k j he hj hk
    obtain ⟨k, rfl⟩ : ∃ m, k = m + 1 := ⟨k - 1, by omega⟩
    have : j = a.length + 1 := by omega
    subst this
    have hle := (foldl_mn_le (col a b (kk + 1)) ((col a b (kk + 1)).getD 0 0)).2 ((col a b (kk + 1)).getD a.length 0) (by
      rw [List.getD_eq_getElem?_getD, List.getElem?_eq_getElem (by omega)]
      exact List.getElem_mem _)
    rw [redpenlaw08_DistRows.l1, if_neg (by omega), last_f _ (by omega) (by omega), Option.bind_some, if_pos (by omega), if_pos (by omega), rd_nat, if_pos (by rw [hcl]; rfl), least_f _ k (by omega) (by omega) (by omega), Option.bind_some, Option.bind_some, if_neg (by rw [hcl]; exact Int.not_lt.2 hle), w64p kk (by omega)]
    exact next k (by omega)
  | succ e ih =>
    intro k j he hj hk
    obtain ⟨k, rfl⟩ : ∃ m, k = m + 1 := ⟨k - 1, by omega⟩
    rw [redpenlaw08_DistRows.l1, if_pos (by omega), if_pos (by omega), if_pos (by omega), if_pos (by omega), w64p kk (by omega), if_pos (by omega), if_pos (by omega), redpenref06_Dist.eq _ _ _ (by rw [List.length_take]; omega) (by rw [List.length_take]; omega), Option.bind_some, rd_nat, col_getD _ _ _ _ (by omega)]
    rw [if_pos (by rw [Int.toNat_natCast, Int.toNat_natCast]; rfl), w64p j (by omega)]
    exact ih k (j + 1) (by omega) (by omega) (by omega)
theorem rows_l0 (a b : List Int) (ha : a.length ≤ 25) (hb : b.length ≤ 25) : ∀ (d k kk : Nat) (before : List Int) (prev : Int), b.length - kk = d → kk ≤ b.length → d * 40 + 200 < k →
    (kk = 0 → before.length ≠ a.length + 1) → (0 < kk → before = col a b (kk - 1) ∧ prev = b.getD (kk - 1) 0) → redpenlaw08_DistRows.l0 k a b (col a b kk) before prev b (b.length : Int) kk = some true := by
  intro d
  induction d with
  | zero =>
    intro k kk before prev hd hkk hk h0 h1
    obtain ⟨k, rfl⟩ : ∃ m, k = m + 1 := ⟨k - 1, by omega⟩
    rw [redpenlaw08_DistRows.l0, if_neg (by omega)]
  | succ d ih =>
    intro k kk before prev hd hkk hk h0 h1
    obtain ⟨k, rfl⟩ : ∃ m, k = m + 1 := ⟨k - 1, by omega⟩
    have hw : wrap64 ((a.length : Int) + 1) = ((a.length + 1 : Nat) : Int) := w64p _ (by omega)
    rw [redpenlaw08_DistRows.l0, if_pos (by omega), if_pos (by omega), if_pos (by omega), rd_nat, next_eq a (col a b kk) _ _ _ k (by omega) (rowOf_length _ _) (by omega), next_col a b kk before prev (by omega) (by omega) (by omega) h0 h1, Option.bind_some, hw, if_pos (by rw [col_length])]
    exact rows_l1 a b ha hb kk (by omega) (d * 40 + 200) (by omega) (fun k hk => ih k (kk + 1) _ _ (by omega) (by omega) hk (by omega) (fun _ => ⟨rfl, rfl⟩)) (a.length + 1) k 0 (by omega) (by omega) (by omega)
theorem rows_j0 (a b : List Int) (ha : a.length ≤ 25) (hb : b.length ≤ 25) : redpenlaw08_DistRows.j0 1401 a b false = some true := by
  rw [redpenlaw08_DistRows.j0, if_neg (by simp), first_eq _ _ (by omega), Option.bind_some]
  have e : rowOf (fun j => (j : Int)) (max (min (a.length : Int) 64) 0).toNat = col a b 0 := by
    rw [show (max (min (a.length : Int) 64) 0).toNat = a.length from by omega]
    unfold col rowOf
    apply List.map_congr_left
    intro i hi
    rw [pd_zero' _ _ _ (by have := List.mem_range.1 hi; omega)]
  rw [e]
  exact rows_l0 a b ha hb b.length 1400 0 [] (-5) rfl (by omega) (by omega) (by simp) (by simp)
theorem DistRows : redpenlaw08_DistRows.Pure := by
  intro l0 l1 _ _ _ _ _ _
  refine ⟨1401, ?_⟩
  unfold redpenlaw08_DistRows.f
  rw [awake_eq 1401 (by omega), Option.bind_some, if_pos rfl]
  by_cases h0 : l0.length > 25
  · rw [if_pos (by omega), redpenlaw08_DistRows.j0, if_pos rfl]
  · rw [if_neg (by omega)]
    by_cases h1 : l1.length > 25
    · rw [show decide ((l1.length : Int) > 25) = true from by simp; omega, redpenlaw08_DistRows.j0, if_pos rfl]
    · rw [show decide ((l1.length : Int) > 25) = false from by simp; omega]
      exact rows_j0 l0 l1 (by omega) (by omega)
end Go.Proofs.Ytmpgfpndhhegiaa.DB
