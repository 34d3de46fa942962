/- SpanMeets, in plain numbers: the program's answer is the reference's. Conditions: none. -/
import Derived.Test.YtehabojhdogghaaPSpanMeetsx
import Derived.Test.YtehabojhdogghaaPureSpanA
import Derived.Test.YtehabojhdogghaaOpn
namespace Go.Proofs.Ytehabojhdogghaa.PSpanMeets
open Go.RowKit Go.Proofs.YtehabojhdogghaaW.PrintWords Go.Proofs.YtehabojhdogghaaW.PrintLast Go.Proofs.YtehabojhdogghaaW.PrintMore

theorem sound_eq (a b : Int) : redpenref01_Sound.f a b = some (decide (Snd a b)) := by
  unfold redpenref01_Sound.f
  repeat' split
  all_goals (congr 1; rw [Bool.eq_iff_iff]; simp only [decide_eq_true_eq, Bool.false_eq_true, false_iff]; unfold Snd; omega)

theorem meet_eq (k : Nat) (a b c d : Int) : redpenref01_Meet.f (k + 2) a b c d = some (meetS a b c d) := by
  unfold redpenref01_Meet.f meetS
  rw [sound_eq, sound_eq]
  simp only [Option.bind_some, redpenref01_Meet.j0, redpenref01_Meet.j1]
  by_cases h1 : Snd a b
  · by_cases h2 : Snd c d
    · obtain ⟨x1, x2, x3, x4⟩ := id h1
      obtain ⟨y1, y2, y3, y4⟩ := id h2
      rw [wrap_small (a + b) (by omega) (by omega), wrap_small (c + d) (by omega) (by omega)]
      rw [wrap_small (c + d - c) (by omega) (by omega), wrap_small (a + b - c) (by omega) (by omega), wrap_small (c + d - a) (by omega) (by omega), wrap_small (a + b - a) (by omega) (by omega)]
      simp only [h1, h2, decide_true, if_true, Bool.not_true, Bool.false_eq_true, if_false, and_self]
      repeat' split
      all_goals first | omega | (simp only [Option.some.injEq, Prod.mk.injEq, and_true]; omega) | rfl
    · simp [h1, h2]
  · simp [h1]

theorem join_eq (k : Nat) (a b c d : Int) : redpenref01_Join.f (k + 1) a b c d = some (joinS a b c d) := by
  unfold redpenref01_Join.f joinS
  rw [sound_eq, sound_eq]
  simp only [Option.bind_some, redpenref01_Join.j0]
  by_cases h1 : Snd a b
  · by_cases h2 : Snd c d
    · obtain ⟨x1, x2, x3, x4⟩ := id h1
      obtain ⟨y1, y2, y3, y4⟩ := id h2
      rw [wrap_small (a + b) (by omega) (by omega), wrap_small (c + d) (by omega) (by omega)]
      rw [wrap_small (c + d - c) (by omega) (by omega), wrap_small (a + b - c) (by omega) (by omega), wrap_small (c + d - a) (by omega) (by omega), wrap_small (a + b - a) (by omega) (by omega)]
      simp only [h1, h2, decide_true, if_true, Bool.not_true, Bool.false_eq_true, if_false, and_self]
      repeat' split
      all_goals first | omega | (simp only [Option.some.injEq, Prod.mk.injEq, and_true]; omega) | rfl
    · simp [h1, h2]
  · simp [h1]

theorem holds (a b c d : Int) : redpenlaw01_SpanMeets.f 2 a b c d = some true := by
  unfold redpenlaw01_SpanMeets.f
  rw [awake_eq 1, span_Meet_eq 1, span_Join_eq 1, meet_eq 0, join_eq 1]
  simp only [Option.bind_some, if_true, beq_self_eq_true, Bool.and_self]
  unfold joinS joinE
  by_cases h : Snd a b ∧ Snd c d
  · simp [h]
  · simp [h]

end Go.Proofs.Ytehabojhdogghaa.PSpanMeets
namespace Go.Proofs.Ytehabojhdogghaa.Wk.SpanMeets
open Go.RowKit Go.Proofs.YtehabojhdogghaaW.PrintWords Go.Proofs.YtehabojhdogghaaW.Opn Go.Proofs.Ytehabojhdogghaa.PSpanMeets
theorem walk (cs0 : List Value) (a0 : Int × Int) (cs1 : List Value) (a1 : Int × Int) (w : World) (hk0 : kII.K w a0 (Value.agg ⟨cs0⟩).cells.toList) (_ : (Lit.int .i64 a0.1).wf = true ∧ (Lit.int .i64 a0.2).wf = true) (hk1 : kII.K w a1 (Value.agg ⟨cs1⟩).cells.toList) (_ : (Lit.int .i64 a1.1).wf = true ∧ (Lit.int .i64 a1.2).wf = true) :
    Calls Try.prog 3 #[.agg ⟨cs0⟩, .agg ⟨cs1⟩] w fun e w' => e = .returned (.bool true) ∧ Below w.heap.size w w' := by
  have e0 : cs0 = _ := kII_open hk0
  have e1 : cs1 = _ := kII_open hk1
  subst e0
  subst e1
  exact redpenlaw01_SpanMeets.calls 2 a0.1 a0.2 a1.1 a1.2 true w (holds _ _ _ _)
/-- A span's reading. -/
theorem op23 : Opens Try.prog 23 kII (fun x => (Lit.int .i64 x.1).wf = true ∧ (Lit.int .i64 x.2).wf = true) :=
  kII_opens Try.underlying23 rfl rfl Try.underlying3 rfl rfl (by kernel_rfl) (by kernel_rfl)
end Go.Proofs.Ytehabojhdogghaa.Wk.SpanMeets
