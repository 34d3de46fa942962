/- Is the next byte one, walked. Conditions: as each lemma says. -/
import Derived.Test.YtcbibbdkjhkmoaaHFns
set_option linter.unusedVariables false
set_option linter.unusedSimpArgs false
namespace Go.Proofs.Ytcbibbdkjhkmoaa.H
open Go.RowKit Go.Proofs.YtcbibbdkjhkmoaaW.PrintWords Go.Proofs.Ytcbibbdkjhkmoaa.L Go.Proofs.Ytcbibbdkjhkmoaa.S Go.Proofs.Ytcbibbdkjhkmoaa.Htm

def isAt (b : List Int) (p : Nat) (y : Int) : Bool := decide (b[p]? = some y)
theorem isAt_in (b : List Int) (p : Nat) (y : Int) (h : p < b.length) : isAt b p y = (b.getD p 0 == y) := by
  unfold isAt
  rw [List.getD_eq_getElem?_getD, List.getElem?_eq_getElem h]
  simp only [Option.some.injEq, Option.getD_some]
  rfl
theorem isAt_out (b : List Int) (p : Nat) (y : Int) (h : b.length ≤ p) : isAt b p y = false := by
  unfold isAt
  rw [List.getElem?_eq_none h]
  simp
set_option maxHeartbeats 1000000 in
theorem is_any (w0 : World) (s : Nat) (A : Option Addr) (c : Nat) (b : List Int) (p : Nat) (y : Int) (W : World) (h : Sc w0 W s A c b p) :
    Calls Try.prog 38 #[.pointer (some ⟨s, 0, none⟩), .int .u8 y] W fun e w' => e = .returned (.bool (isAt b p y)) ∧ ∃ n, w' = W.drewN n := by
  have HS := Lib.hid h
  have b0 := h.c0
  have b1 := h.c1
  clear h
  by_cases hlt : p < b.length
  · have hd : decide ((p : Int) < (b.length : Int)) = true := by simp; omega
    have hE := isAt_in b p y hlt
    obtain ⟨ad, rfl, hcell⟩ := HS.out.at_ hlt
    generalize b.getD p 0 = x at *
    have HE := Lib.hid hE
    clear hE
    go_enter Try.func38, Try.ntmps38
    go_wp2_with fail
    go_quiet (fail)
    go_wp2_with fail
    go_ret
    exact ⟨congrArg (fun b => Ending.returned (Value.bool b)) HE.out.symm, _, rfl⟩
  · obtain rfl : p = b.length := by have := HS.out.lp; omega
    have HE := Lib.hid (isAt_out b b.length y (Nat.le_refl _))
    have hd : decide ((b.length : Int) < (b.length : Int)) = false := by simp
    go_enter Try.func38, Try.ntmps38
    go_wp2_with fail
    go_quiet (fail)
    go_wp2_with fail
    go_ret
    exact ⟨congrArg (fun b => Ending.returned (Value.bool b)) HE.out.symm, _, rfl⟩
end Go.Proofs.Ytcbibbdkjhkmoaa.H
