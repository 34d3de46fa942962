/- The reference's Dist, walked, on words longer than 64: the greater length. Conditions: none. -/
import Derived.Test.YtmpgfpndhhegiaaDB0
import Derived.Test.YtmpgfpndhhegiaaOsa
import Derived.Test.YtmpgfpndhhegiaaFr
import Derived.Outline
import Derived.IntWalk
import Derived.Lib.Hide
namespace Go.Proofs.Ytmpgfpndhhegiaa.DR
open Go.RowKit Go.Proofs.YtmpgfpndhhegiaaW.PrintWords Go.Proofs.YtmpgfpndhhegiaaW.PrintLast Go.Proofs.YtmpgfpndhhegiaaW.PrintMore Go.Proofs.Ytmpgfpndhhegiaa.Osa
set_option linter.unusedVariables false
set_option linter.unusedSimpArgs false
set_option maxHeartbeats 4000000 in
set_option maxRecDepth 100000 in
theorem dist_long (A0 : Option Addr) (c0 : Nat) (a : List Int) (A1 : Option Addr) (c1 : Nat) (b : List Int) (w : World) (ha0 : a.length ≤ 35184372088832) (hb0 : b.length ≤ 35184372088832) (h : 64 < a.length ∨ 64 < b.length) (v : Int) (hv : v = ((max a.length b.length : Nat) : Int)) :
    Calls Try.prog 11 #[.slice A0 a.length c0, .slice A1 b.length c1] w fun e w' => e = .returned (.int .i64 v) ∧ Below w.heap.size w w' := by
  by_cases h1 : 64 < a.length
  · rcases Nat.lt_or_ge b.length a.length with h2 | h2
    · obtain rfl : v = (a.length : Int) := by omega
      clear hv h
      go_enter Try.func11, Try.ntmps11
      go_wp2
      go_ret
      exact ⟨rfl, Below.refl _ _⟩
    · obtain rfl : v = (b.length : Int) := by omega
      clear hv h
      go_enter Try.func11, Try.ntmps11
      go_wp2
      go_ret
      exact ⟨rfl, Below.refl _ _⟩
  · have h3 : 64 < b.length := by omega
    obtain rfl : v = (b.length : Int) := by omega
    clear hv h
    go_enter Try.func11, Try.ntmps11
    go_wp2
    go_ret
    exact ⟨rfl, Below.refl _ _⟩
end Go.Proofs.Ytmpgfpndhhegiaa.DR
