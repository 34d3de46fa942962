/- What the printed functions of the dist package come to: First, Next, Of. Conditions: as each lemma says. -/
import Derived.Test.YtmpgfpndhhegiaaDBOf
import Derived.Test.YtmpgfpndhhegiaaOsa
namespace Go.Proofs.Ytmpgfpndhhegiaa.DB
open Go.RowKit Go.Proofs.YtmpgfpndhhegiaaW.PrintWords Go.Proofs.YtmpgfpndhhegiaaW.PrintLast Go.Proofs.YtmpgfpndhhegiaaW.PrintMore Go.Proofs.Ytmpgfpndhhegiaa.Osa

theorem w64 (x : Int) (h : -9223372036854775808 ≤ x ∧ x ≤ 9223372036854775807) : wrap64 x = x := by unfold wrap64; omega
theorem w64p (i : Nat) (h : i < 1000000) : wrap64 ((i : Int) + 1) = ((i + 1 : Nat) : Int) := by unfold wrap64; omega
theorem w64m (i : Nat) (h : i < 1000000) : wrap64 (((i + 1 : Nat) : Int) - 1) = (i : Int) := by unfold wrap64; omega
theorem w64m2 (i : Nat) (h : i < 1000000) : wrap64 (((i + 2 : Nat) : Int) - 2) = (i : Int) := by unfold wrap64; omega
theorem rd_nat (xs : List Int) (i : Nat) : rd xs (i : Int) = xs.getD i 0 := by unfold rd; rw [Int.toNat_natCast]
theorem set_take (xs : List Int) (i : Nat) (v : Int) (h : i < xs.length) : (xs.set i v).take (i + 1) = xs.take i ++ [v] := by
  apply List.ext_getElem?
  intro j
  rw [List.getElem?_take, List.getElem?_set, List.getElem?_append, List.length_take]
  by_cases h1 : j < i
  · rw [if_pos (by omega), if_neg (by omega), if_pos (by omega), List.getElem?_take, if_pos h1]
  · by_cases h2 : j = i
    · subst h2
      rw [if_pos (by omega), if_pos rfl, if_pos h, if_neg (by omega), show j - min j xs.length = 0 from by omega]
      rfl
    · rw [if_neg (by omega), if_neg (by omega)]
      symm
      apply List.getElem?_eq_none
      simp
      omega
theorem getD_take (xs : List Int) (i j : Nat) (h : j < i) : (xs.take i).getD j 0 = xs.getD j 0 := by
  rw [List.getD_eq_getElem?_getD, List.getD_eq_getElem?_getD, List.getElem?_take, if_pos h]

/-- A row of f's values at 0 to n. -/
def rowOf (f : Nat → Int) (n : Nat) : List Int := (List.range (n + 1)).map f
theorem rowOf_length (f : Nat → Int) (n : Nat) : (rowOf f n).length = n + 1 := by simp [rowOf]
theorem rowOf_getD (f : Nat → Int) (n i : Nat) (h : i ≤ n) : (rowOf f n).getD i 0 = f i := by
  rw [List.getD_eq_getElem?_getD, rowOf, List.getElem?_map, List.getElem?_range (by omega)]
  rfl
theorem rowOf_succ (f : Nat → Int) (n : Nat) : rowOf f (n + 1) = rowOf f n ++ [f (n + 1)] := by simp [rowOf, List.range_succ]

/-! ### First -/
theorem first_l0 (n : Nat) (hn : n ≤ 1000) : ∀ (d k i : Nat) (xs : List Int), n + 1 - i = d → i ≤ n + 1 → d < k → xs.length = n + 1 → (xs.take i = (List.range i).map (fun j : Nat => (j : Int))) →
    dist_First.l0 k xs (xs.length : Int) i = some (rowOf (fun j => (j : Int)) n) := by
  intro d
  induction d with
  | zero =>
    intro k i xs hd hi hk hl ht
    obtain ⟨k, rfl⟩ : ∃ m, k = m + 1 := ⟨k - 1, by omega⟩
    have : i = n + 1 := by omega
    subst this
    simp only [dist_First.l0]
    rw [if_neg (by omega)]
    rw [List.take_of_length_le (by omega)] at ht
    rw [ht]
    rfl
  | succ d ih =>
    intro k i xs hd hi hk hl ht
    obtain ⟨k, rfl⟩ : ∃ m, k = m + 1 := ⟨k - 1, by omega⟩
    simp only [dist_First.l0]
    rw [if_pos (by omega), if_pos (by omega), if_pos (by omega), w64p i (by omega), Int.toNat_natCast]
    have := ih k (i + 1) (xs.set i (i : Int)) (by omega) (by omega) (by omega) (by simpa using hl) (by
      rw [set_take _ _ _ (by omega), ht, List.range_succ, List.map_append]
      rfl)
    rw [List.length_set] at this
    exact this
theorem first_eq (k : Nat) (a : Int) (hk : 70 ≤ k) : dist_First.f k a = some (rowOf (fun j => (j : Int)) (max (min a 64) 0).toNat) := by
  unfold dist_First.f
  have hm : mx (mn a 64) 0 = (((max (min a 64) 0).toNat : Nat) : Int) := by unfold mx mn; omega
  have hle : (max (min a 64) 0).toNat ≤ 64 := by omega
  rw [hm]
  generalize (max (min a 64) 0).toNat = n at *
  rw [if_pos (by omega), if_pos (by omega), show ((n : Int) + 1).toNat = n + 1 from by omega]
  simp only [Option.bind_some]
  exact first_l0 n (by omega) (n + 1) k 0 _ rfl (by omega) (by omega) (by simp) rfl

/-! ### Next -/
/-- A number of the next row: o is the one ahead of it. -/
def vstep (a last before : List Int) (prev r : Int) (i : Nat) (o : Int) : Int :=
  let v := mn (mn (wrap64 (last.getD i 0 + 1)) (wrap64 (o + 1))) (wrap64 (last.getD (i - 1) 0 + if a.getD (i - 1) 0 = r then 0 else 1))
  if 1 < i ∧ before.length = last.length ∧ a.getD (i - 2) 0 = r ∧ a.getD (i - 1) 0 = prev then mn v (wrap64 (before.getD (i - 2) 0 + 1)) else v
def nextTo (a last before : List Int) (prev r : Int) : Nat → List Int
  | 0 => [wrap64 (last.getD 0 0 + 1)]
  | i + 1 => nextTo a last before prev r i ++ [vstep a last before prev r (i + 1) ((nextTo a last before prev r i).getD i 0)]
theorem nextTo_length (a last before : List Int) (prev r : Int) (i : Nat) : (nextTo a last before prev r i).length = i + 1 := by
  induction i with
  | zero => rfl
  | succ i ih => simp [nextTo, ih]
theorem next_l0 (a last before : List Int) (prev r : Int) (ha : a.length ≤ 1000) (hl : last.length = a.length + 1) : ∀ (d k i : Nat) (out : List Int), a.length - i = d → i ≤ a.length → d < k → out.length = a.length + 1 → out.take (i + 1) = nextTo a last before prev r i →
    dist_Next.l0 k a last before prev r out ((i + 1 : Nat) : Int) = some (nextTo a last before prev r a.length) := by
  intro d
  induction d with
  | zero =>
    intro k i out hd hi hk ho ht
    obtain ⟨k, rfl⟩ : ∃ m, k = m + 1 := ⟨k - 1, by omega⟩
    have : i = a.length := by omega
    subst this
    simp only [dist_Next.l0]
    rw [if_neg (by omega)]
    rw [List.take_of_length_le (by omega)] at ht
    rw [ht]
  | succ d ih =>
    intro k i out hd hi hk ho ht
    obtain ⟨k, rfl⟩ : ∃ m, k = m + 1 := ⟨k - 1, by omega⟩
    have ho1 : out.getD i 0 = (nextTo a last before prev r i).getD i 0 := by rw [← ht, getD_take _ _ _ (by omega)]
    have key : ∀ v, v = vstep a last before prev r (i + 1) (out.getD i 0) → dist_Next.l0 k a last before prev r (out.set (i + 1) v) ((i + 1 + 1 : Nat) : Int) = some (nextTo a last before prev r a.length) := by
      intro v hv
      refine ih k (i + 1) (out.set (i + 1) v) (by omega) (by omega) (by omega) (by simpa using ho) ?_
      rw [set_take _ _ _ (by omega), ht, hv, ho1]
      rfl
    have hw1 := w64p (i + 1) (by omega)
    have hw2 := w64m i (by omega)
    simp only [dist_Next.l0]
    rw [hw1, hw2, rd_nat, rd_nat, rd_nat, rd_nat, Int.toNat_natCast]
    rw [if_pos (by omega), if_pos (by omega), if_pos (by omega)]
    have tail : ∀ v, v = mn (mn (wrap64 (last.getD (i + 1) 0 + 1)) (wrap64 (out.getD i 0 + 1))) (wrap64 (last.getD i 0 + if a.getD i 0 = r then 0 else 1)) →
        (if ((i + 1 : Nat) : Int) > 1 then if (before.length : Int) = (last.length : Int) then
            if 0 ≤ wrap64 (((i + 1 : Nat) : Int) - 2) then
              if wrap64 (((i + 1 : Nat) : Int) - 2) < (a.length : Int) then
                if rd a (wrap64 (((i + 1 : Nat) : Int) - 2)) = r then
                  if a.getD i 0 = prev then
                    if wrap64 (((i + 1 : Nat) : Int) - 2) < (before.length : Int) then
                      dist_Next.l0 k a last before prev r ((out.set (i + 1) v).set (i + 1) (mn (rd (out.set (i + 1) v) ((i + 1 : Nat) : Int)) (wrap64 (rd before (wrap64 (((i + 1 : Nat) : Int) - 2)) + 1)))) ((i + 1 + 1 : Nat) : Int)
                    else none
                  else dist_Next.l0 k a last before prev r (out.set (i + 1) v) ((i + 1 + 1 : Nat) : Int)
                else dist_Next.l0 k a last before prev r (out.set (i + 1) v) ((i + 1 + 1 : Nat) : Int)
              else none
            else none
          else dist_Next.l0 k a last before prev r (out.set (i + 1) v) ((i + 1 + 1 : Nat) : Int)
        else dist_Next.l0 k a last before prev r (out.set (i + 1) v) ((i + 1 + 1 : Nat) : Int)) = some (nextTo a last before prev r a.length) := by
      intro v hv
      have hs : 1 < i + 1 ∧ before.length = last.length ∧ a.getD (i + 1 - 2) 0 = r ∧ a.getD (i + 1 - 1) 0 = prev → vstep a last before prev r (i + 1) (out.getD i 0) = mn v (wrap64 (before.getD (i + 1 - 2) 0 + 1)) := fun h => by
        unfold vstep
        simp only
        rw [if_pos h, hv]
        rfl
      have hn : ¬ (1 < i + 1 ∧ before.length = last.length ∧ a.getD (i + 1 - 2) 0 = r ∧ a.getD (i + 1 - 1) 0 = prev) → vstep a last before prev r (i + 1) (out.getD i 0) = v := fun h => by
        unfold vstep
        simp only
        rw [if_neg h, hv]
        rfl
      by_cases c1 : 1 < i + 1
      · rw [if_pos (by omega)]
        obtain ⟨j, rfl⟩ : ∃ j, i = j + 1 := ⟨i - 1, by omega⟩
        have hw3 := w64m2 j (by omega)
        rw [hw3, rd_nat, rd_nat, rd_nat]
        by_cases c2 : before.length = last.length
        · rw [if_pos (by omega), if_pos (by omega), if_pos (by omega)]
          by_cases c3 : a.getD j 0 = r
          · rw [if_pos c3]
            by_cases c4 : a.getD (j + 1) 0 = prev
            · rw [if_pos c4, if_pos (by omega), List.set_set]
              refine key _ ?_
              rw [hs ⟨c1, c2, c3, c4⟩]
              congr 1
              rw [List.getD_eq_getElem?_getD, List.getElem?_set_self (by omega)]
              rfl
            · rw [if_neg c4]
              exact key _ (hn (fun h => c4 h.2.2.2)).symm
          · rw [if_neg c3]
            exact key _ (hn (fun h => c3 h.2.2.1)).symm
        · rw [if_neg (by omega)]
          exact key _ (hn (fun h => c2 h.2.1)).symm
      · rw [if_neg (by omega)]
        exact key _ (hn (fun h => c1 h.1)).symm
    by_cases c0 : a.getD i 0 = r
    · rw [if_pos c0, if_pos (by omega), if_pos (by omega), if_pos (by omega), if_pos (by omega)]
      simp only [Option.bind_some]
      exact tail _ (by rw [if_pos c0, Int.add_zero])
    · rw [if_neg c0, if_pos (by omega), if_pos (by omega), if_pos (by omega), if_pos (by omega)]
      simp only [Option.bind_some]
      exact tail _ (by rw [if_neg c0])
theorem next_eq (a last before : List Int) (prev r : Int) (k : Nat) (ha : a.length ≤ 1000) (hl : last.length = a.length + 1) (hk : a.length < k) :
    dist_Next.f k a last before prev r = some (nextTo a last before prev r a.length) := by
  unfold dist_Next.f
  rw [w64 _ (by omega), if_pos (by omega), if_pos (by omega), if_pos (by omega)]
  simp only [Option.bind_some, Int.toNat_natCast, List.length_replicate]
  rw [if_pos (by omega), if_pos (by omega)]
  refine next_l0 a last before prev r ha hl a.length k 0 _ (by omega) (by omega) hk (by simpa using hl) ?_
  rw [show (0 : Int).toNat = 0 from rfl, set_take _ _ _ (by simp; omega)]
  rfl
theorem next_none (a last before : List Int) (prev r : Int) (k : Nat) (ha : a.length ≤ 1000) (hl : last.length ≠ a.length + 1) : dist_Next.f k a last before prev r = some [] := by
  unfold dist_Next.f
  rw [w64 _ (by omega), if_neg (by omega)]

/-! ### rows of distances -/
def col (a b : List Int) (k : Nat) : List Int := rowOf (fun i => (pd a b i k : Int)) a.length
theorem next_col (a b : List Int) (kk : Nat) (before : List Int) (prev : Int) (ha : a.length ≤ 1000) (hb : b.length ≤ 1000) (hk : kk < b.length)
    (h0 : kk = 0 → before.length ≠ a.length + 1) (h1 : 0 < kk → before = col a b (kk - 1) ∧ prev = b.getD (kk - 1) 0) :
    nextTo a (col a b kk) before prev (b.getD kk 0) a.length = col a b (kk + 1) := by
  have main : ∀ i, i ≤ a.length → nextTo a (col a b kk) before prev (b.getD kk 0) i = rowOf (fun i => (pd a b i (kk + 1) : Int)) i := by
    intro i
    induction i with
    | zero =>
      intro _
      have e : (col a b kk).getD 0 0 = (kk : Int) := by
        rw [col, rowOf_getD _ _ _ (by omega), pd_zero _ _ _ (by omega)]
      rw [nextTo, e, w64p _ (by omega)]
      have e2 : rowOf (fun i => (pd a b i (kk + 1) : Int)) 0 = [(pd a b 0 (kk + 1) : Int)] := rfl
      rw [e2, pd_zero _ _ _ (by omega)]
    | succ i ih =>
      intro hi
      rw [nextTo, ih (by omega), rowOf_succ, rowOf_getD _ _ _ (by omega)]
      congr 2
      have hs := pd_succ a b i kk (by omega) hk
      have p1 := pd_le a b i (kk + 1)
      have p2 := pd_le a b (i + 1) kk
      have p3 := pd_le a b i kk
      have p4 := pd_le a b (i - 1) (kk - 1)
      rw [hs]
      unfold vstep
      have e1 : (col a b kk).getD (i + 1) 0 = (pd a b (i + 1) kk : Int) := by rw [col, rowOf_getD _ _ _ (by omega)]
      have e2 : (col a b kk).getD (i + 1 - 1) 0 = (pd a b i kk : Int) := by rw [col, rowOf_getD _ _ _ (by omega)]; rfl
      simp only [e1, e2]
      have hcl : (col a b kk).length = a.length + 1 := rowOf_length _ _
      rw [hcl]
      have hc : (if a.getD (i + 1 - 1) 0 = b.getD kk 0 then (0 : Int) else 1) = ((if a.getD i 0 = b.getD kk 0 then 0 else 1 : Nat) : Int) := by
        rw [show i + 1 - 1 = i from rfl]
        split <;> rfl
      rw [hc]
      by_cases hsw : 0 < i ∧ 0 < kk ∧ a.getD i 0 = b.getD (kk - 1) 0 ∧ a.getD (i - 1) 0 = b.getD kk 0
      · obtain ⟨s1, s2, s3, s4⟩ := id hsw
        obtain ⟨rfl, rfl⟩ := h1 s2
        have e3 : (col a b (kk - 1)).getD (i + 1 - 2) 0 = (pd a b (i - 1) (kk - 1) : Int) := by
          rw [col, show i + 1 - 2 = i - 1 from by omega, rowOf_getD _ _ _ (by omega)]
        rw [if_pos ⟨by omega, rowOf_length _ _, by rw [show i + 1 - 2 = i - 1 from by omega]; exact s4, s3⟩, e3]
        unfold pswap
        rw [if_pos hsw]
        unfold Osa.step
        simp only
        generalize (if a.getD i 0 = b.getD kk 0 then 0 else 1 : Nat) = c at *
        have hc1 : c ≤ 1 := by
          have : (if a.getD i 0 = b.getD kk 0 then 0 else 1 : Nat) ≤ 1 := by split <;> omega
          omega
        rw [w64 _ (by omega), w64 _ (by omega), w64 _ (by omega), w64 _ (by omega)]
        unfold mn
        omega
      · rw [if_neg (fun h => hsw ⟨by omega, by
          by_cases hk0 : kk = 0
          · exact absurd h.2.1 (h0 hk0)
          · omega, by
          have hk0 : 0 < kk := by
            by_cases hk0 : kk = 0
            · exact absurd h.2.1 (h0 hk0)
            · omega
          rw [← (h1 hk0).2]
          exact h.2.2.2, by rw [show i - 1 = i + 1 - 2 from by omega]; exact h.2.2.1⟩)]
        unfold pswap
        rw [if_neg hsw]
        unfold Osa.step
        simp only
        generalize (if a.getD i 0 = b.getD kk 0 then 0 else 1 : Nat) = c at *
        have hc1 : c ≤ 1 := by
          have : (if a.getD i 0 = b.getD kk 0 then 0 else 1 : Nat) ≤ 1 := by split <;> omega
          omega
        rw [w64 _ (by omega), w64 _ (by omega), w64 _ (by omega)]
        unfold mn
        omega
  exact main a.length (Nat.le_refl _)

/-! ### Of -/
theorem of_l0 (a b : List Int) (ha : a.length ≤ 64) (hb : b.length ≤ 64) : ∀ (d k kk : Nat) (before : List Int) (prev : Int), b.length - kk = d → kk ≤ b.length → d + 70 < k →
    (kk = 0 → before.length ≠ a.length + 1) → (0 < kk → before = col a b (kk - 1) ∧ prev = b.getD (kk - 1) 0) → dist_Of.l0 k a (col a b kk) before prev b (b.length : Int) kk = some (dist a b : Int) := by
  intro d
  induction d with
  | zero =>
    intro k kk before prev hd hkk hk h0 h1
    obtain ⟨k, rfl⟩ : ∃ m, k = m + 1 := ⟨k - 1, by omega⟩
    have : kk = b.length := by omega
    subst this
    have hcl : (col a b b.length).length = a.length + 1 := rowOf_length _ _
    simp only [dist_Of.l0]
    rw [if_neg (by omega), if_pos (by omega), if_pos (by omega), rd_nat, col, rowOf_getD _ _ _ (by omega), pd_all]
  | succ d ih =>
    intro k kk before prev hd hkk hk h0 h1
    obtain ⟨k, rfl⟩ : ∃ m, k = m + 1 := ⟨k - 1, by omega⟩
    simp only [dist_Of.l0]
    rw [if_pos (by omega), if_pos (by omega), if_pos (by omega), rd_nat, next_eq a (col a b kk) _ _ _ k (by omega) (rowOf_length _ _) (by omega), next_col a b kk before prev (by omega) (by omega) (by omega) h0 h1]
    simp only [Option.bind_some]
    rw [w64p _ (by omega)]
    exact ih k (kk + 1) _ _ (by omega) (by omega) (by omega) (by omega) (fun _ => ⟨rfl, rfl⟩)
/-- Of, of words of at most 64 runes. -/
theorem of_eq (a b : List Int) (k : Nat) (ha : a.length ≤ 64) (hb : b.length ≤ 64) (hk : 200 ≤ k) : dist_Of.f k a b = some (dist a b : Int) := by
  obtain ⟨k, rfl⟩ : ∃ m, k = m + 1 := ⟨k - 1, by omega⟩
  unfold dist_Of.f
  rw [if_neg (by omega)]
  simp only [dist_Of.j0]
  rw [if_neg (by simp; omega), first_eq _ _ (by omega)]
  simp only [Option.bind_some]
  have e : rowOf (fun j => (j : Int)) (max (min (a.length : Int) 64) 0).toNat = col a b 0 := by
    rw [show (max (min (a.length : Int) 64) 0).toNat = a.length from by omega]
    unfold col rowOf
    apply List.map_congr_left
    intro i hi
    rw [pd_zero' _ _ _ (by have := List.mem_range.1 hi; omega)]
  rw [e]
  exact of_l0 a b ha hb b.length k 0 [] (-2) rfl (by omega) (by omega) (by simp) (by simp)
/-- Of a longer one. -/
theorem of_long (a b : List Int) (k : Nat) (h : 64 < a.length ∨ 64 < b.length) (hk : 0 < k) : dist_Of.f k a b = some ((max a.length b.length : Nat) : Int) := by
  obtain ⟨k, rfl⟩ : ∃ m, k = m + 1 := ⟨k - 1, by omega⟩
  unfold dist_Of.f
  have hm : mx (a.length : Int) (b.length : Int) = ((max a.length b.length : Nat) : Int) := by unfold mx; omega
  by_cases h1 : 64 < a.length
  · rw [if_pos (by omega)]
    simp only [dist_Of.j0]
    rw [if_pos trivial, hm]
  · rw [if_neg (by omega)]
    simp only [dist_Of.j0]
    rw [if_pos (by simp; omega), hm]
theorem awake_eq (k : Nat) (hk : 200 ≤ k) : redpenlaw08_Awake.f k = some true := by
  have h : redpenlaw08_Awake.f 200 = some true := by decide +kernel
  exact at_rounds (redpenlaw08_Awake.mono) hk h
end Go.Proofs.Ytmpgfpndhhegiaa.DB
