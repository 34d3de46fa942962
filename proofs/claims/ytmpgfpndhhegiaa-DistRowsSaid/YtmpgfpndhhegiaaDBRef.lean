/- The reference's Dist as a Lean function, in the shape that the kit's print hands on: the distance, or the greater length where a word is longer than 64. Conditions: none. -/
import Derived.Test.YtmpgfpndhhegiaaDistRefM
import Derived.Test.YtmpgfpndhhegiaaDistRefLong
namespace Go.Proofs.Ytmpgfpndhhegiaa.DB
open Go.RowKit Go.Proofs.YtmpgfpndhhegiaaW.PrintWords Go.Proofs.YtmpgfpndhhegiaaW.PrintLast Go.Proofs.YtmpgfpndhhegiaaW.PrintMore Go.Proofs.Ytmpgfpndhhegiaa.Osa
set_option linter.unusedVariables false
def redpenref06_Dist.f (k : Nat) (l0 : List Int) (l1 : List Int) : Option (Int) :=
  if l0.length ≤ 64 ∧ l1.length ≤ 64 then some (dist l0 l1 : Int) else if l0.length ≤ 35184372088832 ∧ l1.length ≤ 35184372088832 then some ((max l0.length l1.length : Nat) : Int) else none
theorem redpenref06_Dist.mono : ∀ a0 a1 k, LeO (redpenref06_Dist.f k a0 a1) (redpenref06_Dist.f (k + 1) a0 a1) := fun _ _ _ _ h => h
theorem redpenref06_Dist.calls (k : Nat) (A0 : Option Addr) (c0 : Nat) (l0 : List Int) (A1 : Option Addr) (c1 : Nat) (l1 : List Int) (r : Int) (w : World) (hr0 : Kd.C (Kd.int .i32) w A0 l0.length l0) (hc0 : l0.length ≤ c0) (hr1 : Kd.C (Kd.int .i32) w A1 l1.length l1) (hc1 : l1.length ≤ c1) (h : redpenref06_Dist.f k l0 l1 = some r) :
    Calls Try.prog 11 #[.slice A0 l0.length c0, .slice A1 l1.length c1] w fun e w' => e = .returned (.int .i64 r) ∧ Below w.heap.size w w' := by
  unfold redpenref06_Dist.f at h
  by_cases h1 : l0.length ≤ 64 ∧ l1.length ≤ 64
  · rw [if_pos h1] at h
    obtain rfl := Option.some.inj h
    exact DR.dist_short A0 c0 l0 A1 c1 l1 w hr0 hr1 h1.1 h1.2
  · rw [if_neg h1] at h
    by_cases h2 : l0.length ≤ 35184372088832 ∧ l1.length ≤ 35184372088832
    · rw [if_pos h2] at h
      obtain rfl := Option.some.inj h
      exact DR.dist_long A0 c0 l0 A1 c1 l1 w h2.1 h2.2 (by omega) _ rfl
    · rw [if_neg h2] at h
      exact absurd h (by simp)
theorem redpenref06_Dist.eq (k : Nat) (a b : List Int) (ha : a.length ≤ 64) (hb : b.length ≤ 64) : redpenref06_Dist.f k a b = some (dist a b : Int) := if_pos ⟨ha, hb⟩
theorem redpenref06_Dist.long (k : Nat) (a b : List Int) (h : 64 < a.length ∨ 64 < b.length) (ha : a.length ≤ 1000) (hb : b.length ≤ 1000) : redpenref06_Dist.f k a b = some ((max a.length b.length : Nat) : Int) := by
  unfold redpenref06_Dist.f
  rw [if_neg (by omega), if_pos (by omega)]
end Go.Proofs.Ytmpgfpndhhegiaa.DB
