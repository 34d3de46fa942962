/- DistRaw, in plain lists: rows of any numbers: how long the next one is, how it begins; the least of a row. Conditions: none. -/
import Derived.Test.YtmpgfpndhhegiaaDBRaw
import Derived.Test.YtmpgfpndhhegiaaDistOf
namespace Go.Proofs.Ytmpgfpndhhegiaa.DB
open Go.RowKit Go.Proofs.YtmpgfpndhhegiaaW.PrintWords Go.Proofs.YtmpgfpndhhegiaaW.PrintLast Go.Proofs.YtmpgfpndhhegiaaW.PrintMore Go.Proofs.Ytmpgfpndhhegiaa.Osa

theorem drop_at (xs : List Int) (i : Nat) (h : i < xs.length) : xs.drop i = xs.getD i 0 :: xs.drop (i + 1) := by
  rw [List.drop_eq_getElem_cons h, List.getD_eq_getElem?_getD, List.getElem?_eq_getElem h]
  rfl
theorem least_l0 (xs : List Int) (hx : xs.length ≤ 1000) : ∀ (d k i : Nat) (acc : Int), xs.length - i = d → i ≤ xs.length → d < k → dist_Row_Least.l0 k acc xs (xs.length : Int) i = some ((xs.drop i).foldl mn acc) := by
  intro d
  induction d with
  | zero =>
    intro k i acc hd hi hk
    obtain ⟨k, rfl⟩ : ∃ m, k = m + 1 := ⟨k - 1, by omega⟩
    simp only [dist_Row_Least.l0]
    rw [if_neg (by omega), List.drop_eq_nil_of_le (by omega)]
    rfl
  | succ d ih =>
    intro k i acc hd hi hk
    obtain ⟨k, rfl⟩ : ∃ m, k = m + 1 := ⟨k - 1, by omega⟩
    simp only [dist_Row_Least.l0]
    rw [if_pos (by omega), if_pos (by omega), if_pos (by omega), w64p i (by omega), rd_nat, ih k (i + 1) _ (by omega) (by omega) (by omega), drop_at xs i (by omega)]
    rfl
theorem least_f (xs : List Int) (k : Nat) (hx : xs.length ≤ 1000) (h0 : 0 < xs.length) (hk : xs.length < k) : dist_Row_Least.f k xs = some (xs.foldl mn (xs.getD 0 0)) := by
  unfold dist_Row_Least.f
  rw [if_neg (by omega), if_pos (by omega), show rd xs 0 = xs.getD 0 0 from rfl]
  exact least_l0 xs hx xs.length k 0 _ rfl (by omega) hk
theorem least_nil (k : Nat) : dist_Row_Least.f k [] = some 0 := by
  unfold dist_Row_Least.f
  rw [if_pos (by simp)]
theorem last_f (xs : List Int) (hx : xs.length ≤ 1000) (h0 : 0 < xs.length) : dist_Row_Last.f xs = some (xs.getD (xs.length - 1) 0) := by
  unfold dist_Row_Last.f
  have hw : wrap64 ((xs.length : Int) - 1) = ((xs.length - 1 : Nat) : Int) := by unfold wrap64; omega
  rw [if_neg (by omega), hw, if_pos (by omega), if_pos (by omega), rd_nat]
theorem last_nil : dist_Row_Last.f [] = some 0 := by
  unfold dist_Row_Last.f
  rw [if_pos (by simp)]
theorem foldl_zero (l : List Int) (h : ∀ x ∈ l, 0 ≤ x) : l.foldl mn 0 = 0 := by
  induction l with
  | nil => rfl
  | cons x l ih =>
    have hx := h x (by simp)
    rw [List.foldl_cons, show mn 0 x = 0 from by unfold mn; omega]
    exact ih (fun y hy => h y (by simp [hy]))
theorem nextTo_zero (a last before : List Int) (prev r : Int) (i : Nat) : (nextTo a last before prev r i).getD 0 0 = wrap64 (last.getD 0 0 + 1) := by
  induction i with
  | zero => rfl
  | succ i ih =>
    rw [nextTo, List.getD_eq_getElem?_getD, List.getElem?_append_left (by rw [nextTo_length]; omega), ← List.getD_eq_getElem?_getD]
    exact ih
theorem raw_l0 (last out first : List Int) (n : Int) (hl : last.length ≤ 200) (h0 : 0 < last.length) (ho : out.length = last.length) (ho0 : out.getD 0 0 = wrap64 (last.getD 0 0 + 1))
    (hf : first = rowOf (fun j => (j : Int)) (max (min n 64) 0).toNat) : ∀ (d k i : Nat) (acc : Int), last.length - i = d → i ≤ last.length → d + 400 < k → (0 < i → acc = (last.take i).foldl mn (last.getD 0 0)) →
    redpenlaw08_DistRaw.l0 k last n out first acc last (last.length : Int) i = some true := by
  intro d
  induction d with
  | zero =>
    intro k i acc hd hi hk ha
    obtain ⟨k, rfl⟩ : ∃ m, k = m + 1 := ⟨k - 1, by omega⟩
    have hacc := ha (by omega)
    rw [List.take_of_length_le (by omega)] at hacc
    have hfl : first.length = (max (min n 64) 0).toNat + 1 := by rw [hf]; exact rowOf_length _ _
    have hm : mx (mn n 64) 0 = (((max (min n 64) 0).toNat : Nat) : Int) := by unfold mx mn; omega
    have hle : (max (min n 64) 0).toNat ≤ 64 := by omega
    have hlast : first.getD (first.length - 1) 0 = ((first.length - 1 : Nat) : Int) := by
      rw [hfl, hf, Nat.add_sub_cancel, rowOf_getD _ _ _ (by omega)]
    have hleast : first.foldl mn (first.getD 0 0) = 0 := by
      rw [hf, rowOf_getD _ _ _ (by omega)]
      refine foldl_zero _ (fun x hx => ?_)
      obtain ⟨j, _, rfl⟩ := List.mem_map.1 hx
      omega
    generalize (max (min n 64) 0).toNat = m at *
    have hw : wrap64 ((first.length : Int) - 1) = ((first.length - 1 : Nat) : Int) := by unfold wrap64; omega
    rw [redpenlaw08_DistRaw.l0, if_neg (by omega), if_pos (by omega), if_pos (by omega), if_pos (by omega), show rd out 0 = out.getD 0 0 from rfl, show rd last 0 = last.getD 0 0 from rfl, if_pos ho0]
    rw [hm, if_pos (by omega), last_f first (by omega) (by omega)]
    simp only [Option.bind_some]
    rw [hw, if_pos hlast, least_f first k (by omega) (by omega) (by omega)]
    simp only [Option.bind_some]
    rw [if_pos hleast, least_f last k (by omega) (by omega) (by omega)]
    simp only [Option.bind_some]
    rw [if_pos hacc.symm, last_nil, least_nil]
    rfl
  | succ d ih =>
    intro k i acc hd hi hk ha
    obtain ⟨k, rfl⟩ : ∃ m, k = m + 1 := ⟨k - 1, by omega⟩
    rw [redpenlaw08_DistRaw.l0, if_pos (by omega), if_pos (by omega), if_pos (by omega), rd_nat, w64p i (by omega)]
    have hs : last.take (i + 1) = last.take i ++ [last.getD i 0] := take_snoc last i (by omega)
    by_cases hi0 : i = 0
    · subst hi0
      rw [if_pos (by simp)]
      refine ih k 1 _ (by omega) (by omega) (by omega) (fun _ => ?_)
      rw [hs, List.foldl_append]
      simp [mn]
    · rw [if_neg (by omega)]
      have hacc := ha (by omega)
      by_cases hc : last.getD i 0 < acc
      · rw [if_pos hc]
        refine ih k (i + 1) _ (by omega) (by omega) (by omega) (fun _ => ?_)
        rw [hs, List.foldl_append, ← hacc]
        simp only [List.foldl_cons, List.foldl_nil]
        unfold mn
        rw [if_pos hc]
      · rw [if_neg hc]
        refine ih k (i + 1) _ (by omega) (by omega) (by omega) (fun _ => ?_)
        rw [hs, List.foldl_append, ← hacc]
        simp only [List.foldl_cons, List.foldl_nil]
        unfold mn
        rw [if_neg hc]
theorem raw_true (k : Nat) (a last before : List Int) (prev r n : Int) : redpenlaw08_DistRaw.j0 (k + 1) a last before prev r n true = some true := by
  rw [redpenlaw08_DistRaw.j0, if_pos rfl]
theorem raw_j0 (k : Nat) (hk : 700 ≤ k) (a last before : List Int) (prev r n : Int) (ha : a.length ≤ 100) (hl : last.length ≤ 100) : redpenlaw08_DistRaw.j0 (k + 1) a last before prev r n false = some true := by
  rw [redpenlaw08_DistRaw.j0, if_neg (by simp)]
  by_cases h : last.length = a.length + 1
  · rw [next_eq a last before prev r k (by omega) h (by omega)]
    rw [Option.bind_some]
    rw [w64 _ (by omega), if_pos (by omega), first_eq _ _ (by omega)]
    rw [Option.bind_some]
    exact raw_l0 last _ _ n (by omega) (by omega) (by rw [nextTo_length, h]) (nextTo_zero _ _ _ _ _ _) rfl last.length k 0 0 rfl (by omega) (by omega) (by omega)
  · rw [next_none a last before prev r k (by omega) h]
    rw [Option.bind_some]
    rw [w64 _ (by omega), if_neg (by omega)]
    rfl
end Go.Proofs.Ytmpgfpndhhegiaa.DB
namespace Go.Proofs.Ytmpgfpndhhegiaa.Pure
open Go.RowKit Go.Proofs.YtmpgfpndhhegiaaW.PrintWords Go.Proofs.Ytmpgfpndhhegiaa.DB
theorem DistRaw : redpenlaw08_DistRaw.Pure := by
  intro a last before prev r n _ _ _ _ _ _ _ _ _ _ _ _
  refine ⟨999 + 1, ?_⟩
  unfold redpenlaw08_DistRaw.f
  rw [awake_eq (999 + 1) (by omega)]
  simp only [Option.bind_some, if_true]
  by_cases c0 : 100 < a.length
  · rw [if_pos (by omega)]
    exact raw_true _ _ _ _ _ _ _
  · rw [if_neg (by omega)]
    by_cases c1 : 100 < last.length
    · rw [if_pos (by omega)]
      exact raw_true _ _ _ _ _ _ _
    · rw [if_neg (by omega)]
      by_cases c2 : 100 < before.length
      · rw [show decide ((before.length : Int) > 100) = true from by simp; omega]
        exact raw_true _ _ _ _ _ _ _
      · rw [show decide ((before.length : Int) > 100) = false from by simp; omega]
        exact raw_j0 999 (by omega) a last before prev r n (by omega) (by omega)
end Go.Proofs.Ytmpgfpndhhegiaa.Pure
