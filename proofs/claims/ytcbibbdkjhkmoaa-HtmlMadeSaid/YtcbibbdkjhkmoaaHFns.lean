/- The small functions of HTML, walked; while at each of its functions. Conditions: as each lemma says. -/
import Derived.Test.YtcbibbdkjhkmoaaHWhile
set_option linter.unusedVariables false
set_option linter.unusedSimpArgs false
namespace Go.Proofs.Ytcbibbdkjhkmoaa.H
open Go.RowKit Go.Proofs.YtcbibbdkjhkmoaaW.PrintWords Go.Proofs.Ytcbibbdkjhkmoaa.L Go.Proofs.Ytcbibbdkjhkmoaa.S Go.Proofs.Ytcbibbdkjhkmoaa.Htm

theorem blank_any (x : Int) (W : World) : Calls Try.prog 43 #[.int .u8 x] W fun e w' => e = .returned (.bool (blankB x)) ∧ ∃ n, w' = W.drewN n := by
  refine (Pblank.html_blank.calls x (blankB x) W ?_).mono fun e w h => ⟨h.1, h.2.out⟩
  unfold Pblank.html_blank.f blankB
  by_cases h1 : x = 32
  · subst h1; rfl
  by_cases h2 : x = 9
  · subst h2; rfl
  by_cases h3 : x = 10
  · subst h3; rfl
  by_cases h4 : x = 13
  · subst h4; rfl
  have e1 : (x == (32 : Int)) = false := by rw [beq_eq_false_iff_ne]; exact h1
  have e2 : (x == (9 : Int)) = false := by rw [beq_eq_false_iff_ne]; exact h2
  have e3 : (x == (10 : Int)) = false := by rw [beq_eq_false_iff_ne]; exact h3
  have e4 : (x == (13 : Int)) = false := by rw [beq_eq_false_iff_ne]; exact h4
  rw [if_neg h1, if_neg h2, if_neg h3, if_neg h4, e1, e2, e3, e4]
  rfl
theorem letter_f (x : Int) : Pname.html_letter.f x = some (letterB x) := by
  unfold Pname.html_letter.f letterB
  by_cases h1 : x ≥ 97
  · by_cases h2 : x ≤ 122
    · rw [if_pos h1, if_pos h2, decide_eq_true (show 97 ≤ x ∧ x ≤ 122 from ⟨h1, h2⟩)]; rfl
    · rw [if_pos h1, if_neg h2, if_pos (by omega), decide_eq_false (show ¬ (97 ≤ x ∧ x ≤ 122) by omega), decide_eq_false (show ¬ (65 ≤ x ∧ x ≤ 90) by omega), decide_eq_false (show ¬ (x ≤ 90) by omega)]; rfl
  · rw [if_neg h1, decide_eq_false (show ¬ (97 ≤ x ∧ x ≤ 122) by omega), Bool.false_or]
    by_cases h3 : x ≥ 65
    · rw [if_pos h3]
      congr 1
      exact decide_eq_decide.2 ⟨fun h => ⟨h3, h⟩, fun h => h.2⟩
    · rw [if_neg h3, decide_eq_false (show ¬ (65 ≤ x ∧ x ≤ 90) by omega)]
theorem letter_any (x : Int) (W : World) : Calls Try.prog 29 #[.int .u8 x] W fun e w' => e = .returned (.bool (letterB x)) ∧ ∃ n, w' = W.drewN n :=
  (Pname.html_letter.calls x _ W (letter_f x)).mono fun e w h => ⟨h.1, h.2.out⟩
theorem name_any (x : Int) (W : World) : Calls Try.prog 41 #[.int .u8 x] W fun e w' => e = .returned (.bool (nameB x)) ∧ ∃ n, w' = W.drewN n := by
  refine (Pname.html_name.calls x (nameB x) W ?_).mono fun e w h => ⟨h.1, h.2.out⟩
  unfold Pname.html_name.f nameB
  rw [letter_f]
  cases letterB x with
  | true => rfl
  | false =>
    rw [Option.bind_some, if_neg (by simp), Bool.false_or]
    by_cases h1 : x ≥ 48
    · by_cases h2 : x ≤ 57
      · rw [if_pos h1, if_pos h2, decide_eq_true (show 48 ≤ x ∧ x ≤ 57 from ⟨h1, h2⟩)]; rfl
      · rw [if_pos h1, if_neg h2, decide_eq_false (show ¬ (48 ≤ x ∧ x ≤ 57) by omega)]; rfl
    · rw [if_neg h1, decide_eq_false (show ¬ (48 ≤ x ∧ x ≤ 57) by omega)]; rfl
theorem gap_any (x : Int) (W : World) : Calls Try.prog 42 #[.int .u8 x] W fun e w' => e = .returned (.bool (gapB x)) ∧ ∃ n, w' = W.drewN n := by
  have HE := Lib.hid (show gapB x = (blankB x || x == 47) from rfl)
  cases h1 : blankB x <;> cases h2 : (x == 47) <;>
  · rw [h1, h2] at HE
    go_enter Try.func42, Try.ntmps42
    go_wp2_with fail
    refine (blank_any x _).mono ?_
    rintro e w1 ⟨rfl, n, rfl⟩
    go_wp2_with fail
    go_ret
    exact ⟨congrArg (fun b => Ending.returned (Value.bool b)) HE.out.symm, _, rfl⟩
theorem key_any (x : Int) (W : World) : Calls Try.prog 50 #[.int .u8 x] W fun e w' => e = .returned (.bool (keyB x)) ∧ ∃ n, w' = W.drewN n := by
  have HE := Lib.hid (show keyB x = (!blankB x && x != 47 && x != 62 && x != 61) from rfl)
  cases h1 : blankB x <;> cases h2 : (x != 47) <;> cases h3 : (x != 62) <;> cases h4 : (x != 61) <;>
  · rw [h1, h2, h3, h4] at HE
    go_enter Try.func50, Try.ntmps50
    go_wp2_with fail
    refine (blank_any x _).mono ?_
    rintro e w1 ⟨rfl, n, rfl⟩
    go_wp2_with fail
    go_ret
    exact ⟨congrArg (fun b => Ending.returned (Value.bool b)) HE.out.symm, _, rfl⟩
theorem bare_any (x : Int) (W : World) : Calls Try.prog 51 #[.int .u8 x] W fun e w' => e = .returned (.bool (bareB x)) ∧ ∃ n, w' = W.drewN n := by
  have HE := Lib.hid (show bareB x = (!blankB x && x != 62) from rfl)
  cases h1 : blankB x <;> cases h3 : (x != 62) <;>
  · rw [h1, h3] at HE
    go_enter Try.func51, Try.ntmps51
    go_wp2_with fail
    refine (blank_any x _).mono ?_
    rintro e w1 ⟨rfl, n, rfl⟩
    go_wp2_with fail
    go_ret
    exact ⟨congrArg (fun b => Ending.returned (Value.bool b)) HE.out.symm, _, rfl⟩
theorem quote_any (qb : Nat) (y : Int) (x : Int) (W : World) (h : W.cell? ⟨qb, 0, none⟩ = some (.int .u8 y)) : Calls Try.prog 52 #[.int .u8 x, .pointer (some ⟨qb, 0, none⟩)] W fun e w' => e = .returned (.bool (x != y)) ∧ ∃ n, w' = W.drewN n := by
  go_enter Try.func52, Try.ntmps52
  go_wp2_with fail
  go_ret
  exact ⟨rfl, 0, rfl⟩
end Go.Proofs.Ytcbibbdkjhkmoaa.H
