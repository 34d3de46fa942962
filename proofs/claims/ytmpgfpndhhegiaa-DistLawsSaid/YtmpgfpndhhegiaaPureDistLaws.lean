/- DistLaws, in plain lists: the distance is a symmetric one, nought of one word alone, within the lengths' bounds; one rune more is one further at most. Conditions: none. -/
import Derived.Test.YtmpgfpndhhegiaaDBLaws
import Derived.Test.YtmpgfpndhhegiaaDistOf
namespace Go.Proofs.Ytmpgfpndhhegiaa.DB
open Go.RowKit Go.Proofs.YtmpgfpndhhegiaaW.PrintWords Go.Proofs.YtmpgfpndhhegiaaW.PrintLast Go.Proofs.YtmpgfpndhhegiaaW.PrintMore Go.Proofs.Ytmpgfpndhhegiaa.Osa

theorem laws_end (a b : List Int) (r : Int) (k : Nat) (e : Bool) (hk : 200 ≤ k) (ha : a.length ≤ 60) (hb : b.length ≤ 60) (he : (dist a b == 0) = e) :
    ((some (([] : List Int) : List Int)).bind fun y155 => (if y155.length + a.length < 35184372088832 then ((some (y155 ++ a : List Int)).bind fun y158 => (if y158.length < 35184372088832 then ((dist_Of.f k (y158 ++ [r]) b).bind fun t164 => ((dist_Of.f k b a).bind fun t165 => (if (dist a b : Int) = t165 then (if (((dist a b : Int) == 0) == e) = true then (if (dist a b : Int) ≤ (mx (a.length : Int) (b.length : Int)) then (if (dist a b : Int) ≥ (wrap64 ((mx (a.length : Int) (b.length : Int)) - (mn (a.length : Int) (b.length : Int)))) then (if t164 ≤ (wrap64 ((dist a b : Int) + 1)) then (some (decide (t164 ≥ (wrap64 ((dist a b : Int) - 1))))) else (some false)) else (some false)) else (some false)) else (some false)) else (some false)))) else (none))) else (none))) = some true := by
  have h1 := dist_bounds a b
  have h2 := dist_more a b r
  have hm : mx (a.length : Int) (b.length : Int) = ((max a.length b.length : Nat) : Int) := by unfold mx; omega
  have hn : mn (a.length : Int) (b.length : Int) = ((min a.length b.length : Nat) : Int) := by unfold mn; omega
  simp only [Option.bind_some, List.nil_append, List.length_nil]
  rw [if_pos (by omega), if_pos (by omega), of_eq (a ++ [r]) b k (by simp; omega) (by omega) hk, of_eq b a k (by omega) (by omega) hk, dist_comm b a, hm, hn]
  simp only [Option.bind_some]
  have hz : ((dist a b : Int) == 0) = (dist a b == 0) := by
    rw [Bool.eq_iff_iff, beq_iff_eq, beq_iff_eq]
    omega
  rw [if_pos trivial, hz, he]
  simp only [beq_self_eq_true, if_true]
  rw [w64 _ (by omega), w64 _ (by omega), w64 _ (by omega), if_pos (by omega), if_pos (by omega), if_pos (by omega)]
  congr 1
  simp
  omega
theorem laws_l0 (a b : List Int) (r : Int) (ha : a.length ≤ 60) (hb : b.length ≤ 60) (hl : a.length = b.length) : ∀ (d k i : Nat) (e : Bool), a.length - i = d → i ≤ a.length → d + 200 < k → e = decide (a.take i = b.take i) →
    redpenlaw08_DistLaws.l0 k a b r (dist a b : Int) e i = some true := by
  have stop : ∀ k e, 200 < k → (dist a b == 0) = e → (e = true → ∀ i : Nat, a.length ≤ i → redpenlaw08_DistLaws.l0 k a b r (dist a b : Int) e i = some true) ∧ (e = false → ∀ i : Nat, redpenlaw08_DistLaws.l0 k a b r (dist a b : Int) e i = some true) := by
    intro k e hk he
    obtain ⟨k, rfl⟩ : ∃ m, k = m + 1 := ⟨k - 1, by omega⟩
    constructor
    · rintro rfl i hi
      rw [redpenlaw08_DistLaws.l0, if_pos rfl, if_neg (by omega)]
      exact laws_end a b r k true (by omega) ha hb he
    · rintro rfl i
      rw [redpenlaw08_DistLaws.l0, if_neg (by simp)]
      exact laws_end a b r k false (by omega) ha hb he
  have hne : ∀ i, a.take i ≠ b.take i → (dist a b == 0) = false := by
    intro i h
    rw [beq_eq_false_iff_ne]
    intro h0
    rw [(dist_zero a b).1 h0] at h
    exact h rfl
  intro d
  induction d with
  | zero =>
    intro k i e hd hi hk he
    cases e with
    | false => exact (stop k false (by omega) (hne i (by simpa using he))).2 rfl i
    | true =>
      have h1 : a.take i = b.take i := by simpa using he
      have h2 : a = b := by
        rw [List.take_of_length_le (by omega), List.take_of_length_le (by omega)] at h1
        exact h1
      exact (stop k true (by omega) (by rw [beq_iff_eq]; exact (dist_zero a b).2 h2)).1 rfl i (by omega)
  | succ d ih =>
    intro k i e hd hi hk he
    cases e with
    | false => exact (stop k false (by omega) (hne i (by simpa using he))).2 rfl i
    | true =>
      have h1 : a.take i = b.take i := by simpa using he
      obtain ⟨k, rfl⟩ : ∃ m, k = m + 1 := ⟨k - 1, by omega⟩
      rw [redpenlaw08_DistLaws.l0, if_pos rfl, if_pos (by omega), if_pos (by omega), if_pos (by omega), w64p i (by omega), rd_nat, rd_nat]
      refine ih k (i + 1) _ (by omega) (by omega) (by omega) ?_
      rw [take_snoc a i (by omega), take_snoc b i (by omega), h1, Bool.eq_iff_iff, beq_iff_eq, decide_eq_true_eq]
      simp
theorem laws_j0 (a b : List Int) (r : Int) (ha : a.length ≤ 60) (hb : b.length ≤ 60) : redpenlaw08_DistLaws.j0 400 a b r false = some true := by
  simp only [redpenlaw08_DistLaws.j0]
  rw [if_neg (by simp), of_eq a b _ (by omega) (by omega) (by omega)]
  simp only [Option.bind_some]
  by_cases hl : a.length = b.length
  · rw [show ((a.length : Int) == (b.length : Int)) = true from by rw [beq_iff_eq]; omega]
    exact laws_l0 a b r ha hb hl a.length 399 0 true rfl (by omega) (by omega) (by simp)
  · rw [show ((a.length : Int) == (b.length : Int)) = false from by rw [beq_eq_false_iff_ne]; omega]
    rw [redpenlaw08_DistLaws.l0, if_neg (by simp)]
    refine laws_end a b r 398 false (by omega) ha hb ?_
    rw [beq_eq_false_iff_ne]
    intro h0
    exact hl (by rw [(dist_zero a b).1 h0])
end Go.Proofs.Ytmpgfpndhhegiaa.DB
namespace Go.Proofs.Ytmpgfpndhhegiaa.Pure
open Go.RowKit Go.Proofs.YtmpgfpndhhegiaaW.PrintWords Go.Proofs.Ytmpgfpndhhegiaa.DB
theorem DistLaws : redpenlaw08_DistLaws.Pure := by
  intro a b r _ _ _ _ _ _ _
  refine ⟨400, ?_⟩
  unfold redpenlaw08_DistLaws.f
  rw [awake_eq 400 (by omega)]
  simp only [Option.bind_some, if_true]
  by_cases c0 : 60 < a.length
  · rw [if_pos (by omega)]
    rfl
  · rw [if_neg (by omega)]
    by_cases c1 : 60 < b.length
    · rw [show decide ((b.length : Int) > 60) = true from by simp; omega]
      rfl
    · rw [show decide ((b.length : Int) > 60) = false from by simp; omega]
      exact laws_j0 a b r (by omega) (by omega)
end Go.Proofs.Ytmpgfpndhhegiaa.Pure
