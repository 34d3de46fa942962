/- DistEdits, in plain lists: one rune put in, left out, turned, or changed for the next one is one away at most. Conditions: none. -/
import Derived.Test.YtmpgfpndhhegiaaDBEdits
import Derived.Test.YtmpgfpndhhegiaaDistOf
namespace Go.Proofs.Ytmpgfpndhhegiaa.DB
open Go.RowKit Go.Proofs.YtmpgfpndhhegiaaW.PrintWords Go.Proofs.YtmpgfpndhhegiaaW.PrintLast Go.Proofs.YtmpgfpndhhegiaaW.PrintMore Go.Proofs.Ytmpgfpndhhegiaa.Osa

theorem both_le (a b : List Int) (k : Nat) (ha : a.length ≤ 64) (hb : b.length ≤ 64) (hk : 200 ≤ k) (h : dist a b ≤ 1) :
    ((dist_Of.f k a b).bind fun t => if t ≤ 1 then (dist_Of.f k b a).bind fun u => some (decide (u ≤ 1)) else some false) = some true := by
  rw [of_eq a b k ha hb hk, of_eq b a k hb ha hk, dist_comm b a]
  simp only [Option.bind_some]
  rw [if_pos (by omega)]
  simp
  omega
theorem take_drop_at (a : List Int) (i : Nat) (h : i < a.length) : a = a.take i ++ [a.getD i 0] ++ a.drop (i + 1) := by
  rw [List.getD_eq_getElem?_getD, List.getElem?_eq_getElem h]
  simp
theorem set_at (a : List Int) (i : Nat) (v : Int) (h : i < a.length) : a.set i v = a.take i ++ [v] ++ a.drop (i + 1) := by
  rw [List.set_eq_take_append_cons_drop, if_pos h]
  simp
theorem edits_j0 (a : List Int) (x1 r kind : Int) (k : Nat) (hk : 200 ≤ k) (ha : 0 < a.length) (ha2 : a.length ≤ 60) (h1 : 0 ≤ x1) (h2 : x1 ≤ 255) :
    redpenlaw08_DistEdits.j0 (k + 1) a x1 r kind false = some true := by
  simp only [redpenlaw08_DistEdits.j0]
  obtain ⟨i, hi, hil⟩ : ∃ i : Nat, Int.tmod (wrap64 x1) (a.length : Int) = (i : Int) ∧ i < a.length := by
    have hw : wrap64 x1 = x1 := w64 _ (by omega)
    rw [hw, Int.tmod_eq_emod_of_nonneg h1]
    have g1 := Int.emod_nonneg x1 (b := (a.length : Int)) (by omega)
    have g2 := Int.emod_lt_of_pos x1 (b := (a.length : Int)) (by omega)
    exact ⟨(x1 % (a.length : Int)).toNat, by omega, by omega⟩
  rw [hi]
  have hw1 := w64p i (by omega)
  rw [hw1]
  simp only [Option.bind_some, Int.toNat_natCast, List.nil_append, List.length_nil, Bool.false_eq_true, if_false]
  have hs := take_drop_at a i hil
  have l1 : (a.take i).length = i := by rw [List.length_take]; omega
  have l2 : (a.drop (i + 1)).length = a.length - (i + 1) := List.length_drop
  have l3 : (a.drop i).length = a.length - i := List.length_drop
  rw [if_neg (by omega), if_pos (by omega)]
  by_cases c0 : Int.tmod kind 4 = 0
  · rw [if_pos c0, if_pos (by omega), if_pos (by omega), if_pos (by omega)]
    simp only [List.length_append, List.length_singleton]
    rw [if_pos (by omega), if_pos (by omega)]
    refine both_le _ _ k (by omega) (by simp only [List.length_append, List.length_singleton]; omega) hk ?_
    have h := dist_put (a.take i) (a.drop i) r
    rw [dist_comm, List.take_append_drop] at h
    exact h
  · rw [if_neg c0]
    by_cases c1 : Int.tmod kind 4 = 1
    · rw [if_pos c1, if_pos (by omega), if_pos (by omega), if_pos (by omega), if_pos (by omega), if_pos (by omega), if_pos (by omega)]
      refine both_le _ _ k (by omega) (by simp only [List.length_append]; omega) hk ?_
      have h := dist_put (a.take i) (a.drop (i + 1)) (a.getD i 0)
      rw [← hs] at h
      exact h
    · rw [if_neg c1]
      by_cases c2 : Int.tmod kind 4 = 2
      · rw [if_pos c2, if_pos (by omega), if_pos (by omega)]
        refine both_le _ _ k (by omega) (by simp; omega) hk ?_
        have h := dist_turn (a.take i) (a.drop (i + 1)) (a.getD i 0) r
        rw [← hs, ← set_at a i r hil] at h
        exact h
      · rw [if_neg c2]
        by_cases c3 : i + 1 < a.length
        · rw [if_pos (by omega), if_pos (by omega), if_pos (by omega), if_pos (by omega), if_pos (by omega), if_pos (by omega), rd_nat, rd_nat]
          refine both_le _ _ k (by omega) (by simp; omega) hk ?_
          have e1 : a = a.take i ++ [a.getD i 0, a.getD (i + 1) 0] ++ a.drop (i + 2) := by
            have h1 := take_drop_at a (i + 1) c3
            rw [take_snoc a i hil] at h1
            simpa using h1
          have e2 : (a.set i (a.getD (i + 1) 0)).set (i + 1) (a.getD i 0) = a.take i ++ [a.getD (i + 1) 0, a.getD i 0] ++ a.drop (i + 2) := by
            rw [set_at _ (i + 1) _ (by simpa using c3), set_take _ _ _ hil]
            simp [List.drop_set]
            intro h
            omega
          rw [e2]
          have h := dist_swap (a.take i) (a.drop (i + 2)) (a.getD i 0) (a.getD (i + 1) 0)
          rw [← e1] at h
          exact h
        · rw [if_neg (by omega)]
          refine both_le _ _ k (by omega) (by omega) hk ?_
          rw [dist_self]
          omega
end Go.Proofs.Ytmpgfpndhhegiaa.DB
namespace Go.Proofs.Ytmpgfpndhhegiaa.Pure
open Go.RowKit Go.Proofs.YtmpgfpndhhegiaaW.PrintWords Go.Proofs.Ytmpgfpndhhegiaa.DB
theorem DistEdits : redpenlaw08_DistEdits.Pure := by
  intro a x1 r kind _ _ _ h1 _ _
  simp only [Lit.wf, Bool.and_eq_true, decide_eq_true_eq] at h1
  have e1 : IntKind.u8.min = 0 := rfl
  have e2 : IntKind.u8.max = 255 := rfl
  refine ⟨201, ?_⟩
  unfold redpenlaw08_DistEdits.f
  rw [awake_eq 201 (by omega)]
  simp only [Option.bind_some, if_true]
  by_cases c0 : a.length = 0
  · rw [if_pos (by omega)]
    rfl
  · rw [if_neg (by omega)]
    by_cases c1 : 60 < a.length
    · rw [show decide ((a.length : Int) > 60) = true from by simp; omega]
      rfl
    · rw [show decide ((a.length : Int) > 60) = false from by simp; omega]
      exact edits_j0 a x1 r kind 200 (by omega) (by omega) (by omega) (by omega) (by omega)
end Go.Proofs.Ytmpgfpndhhegiaa.Pure
