/- SpanAsks, in plain numbers: the program's answers are the document's. Conditions: none. -/
import Derived.Test.YtehabojhdogghaaSpanAsksOwn
import Derived.Test.YtehabojhdogghaaPureSpanB
import Derived.Test.YtehabojhdogghaaOpn
namespace Go.Proofs.Ytehabojhdogghaa.PSpanAsks
open Go.RowKit Go.Proofs.YtehabojhdogghaaW.PrintWords Go.Proofs.YtehabojhdogghaaW.PrintLast Go.Proofs.YtehabojhdogghaaW.PrintMore

theorem sound_eq (a b : Int) : redpenref01_Sound.f a b = some (decide (Snd a b)) := by
  unfold redpenref01_Sound.f
  repeat' split
  all_goals (congr 1; rw [Bool.eq_iff_iff]; simp only [decide_eq_true_eq, Bool.false_eq_true, false_iff]; unfold Snd; omega)

theorem has_eq (a b c : Int) : span_Has.f a b c = some (decide (Snd a b ∧ a ≤ c ∧ c < a + b)) := by
  unfold span_Has.f
  rw [span_sound_eq]
  simp only [Option.bind_some, span_end.f]
  by_cases h : Snd a b
  · obtain ⟨x1, x2, x3, x4⟩ := id h
    rw [wrap_small (a + b) (by omega) (by omega)]
    simp [h]
    by_cases h2 : a ≤ c
    · simp [h2]
    · simp [h2]
  · simp [h]

theorem holds (a b n c : Int) (hn : -9223372036854775808 ≤ n ∧ n < 9223372036854775808) : redpenlaw01_SpanAsks.f 3 a b n c = some true := by
  unfold redpenlaw01_SpanAsks.f
  rw [awake_eq 2]
  simp only [Option.bind_some, if_true, redpenlaw01_SpanAsks.j0, sound_eq, has_eq]
  unfold span_Check.f span_End.f redpenref01_In.f
  rw [span_sound_eq]
  simp only [Option.bind_some, span_end.f]
  have hw : ∀ m, 0 ≤ a → a ≤ n → wrap64 (n - a) = m → m = n - a := fun m h1 h2 h3 => by rw [← h3]; exact wrap_small _ (by omega) (by omega)
  generalize wrap64 (n - a) = m at *
  have hw2 : Snd a b → wrap64 (a + b) = a + b := fun h => by
    obtain ⟨x1, x2, x3, x4⟩ := h
    exact wrap_small _ (by omega) (by omega)
  generalize wrap64 (a + b) = s at *
  by_cases h : Snd a b
  · have hs := hw2 h
    obtain ⟨x1, x2, x3, x4⟩ := id h
    simp only [h, decide_true, if_true, Option.bind_some, true_and]
    by_cases h1 : a < 0
    · omega
    · by_cases h2 : b < 0
      · omega
      · by_cases h3 : a > n
        · simp [h1, h2, h3, show ¬ a ≤ n from by omega, show 0 ≤ a from by omega, show 0 ≤ b from by omega]
          (by_cases h5 : a ≤ c <;> simp [h5, hs])
        · have hm := hw m (by omega) (by omega) rfl
          by_cases h4 : b > m
          · simp [h1, h2, h3, h4, show a ≤ n from by omega, show 0 ≤ a from by omega, show 0 ≤ b from by omega, show ¬ b ≤ m from by omega]
            (by_cases h5 : a ≤ c <;> simp [h5, hs])
          · simp [h1, h2, h3, h4, show a ≤ n from by omega, show 0 ≤ a from by omega, show 0 ≤ b from by omega, show b ≤ m from by omega]
            (by_cases h5 : a ≤ c <;> simp [h5, hs])
  · simp only [h, decide_false, Bool.false_eq_true, if_false, Option.bind_some, false_and]
    by_cases h1 : a < 0
    · simp [h1, show ¬ 0 ≤ a from by omega]
    · by_cases h2 : b < 0
      · simp [h1, h2, show 0 ≤ a from by omega, show ¬ 0 ≤ b from by omega]
      · by_cases h3 : a > n
        · simp [h1, h2, h3, show ¬ a ≤ n from by omega, show 0 ≤ a from by omega, show 0 ≤ b from by omega]
        · have hm := hw m (by omega) (by omega) rfl
          by_cases h4 : b > m
          · simp [h1, h2, h3, h4, show a ≤ n from by omega, show 0 ≤ a from by omega, show 0 ≤ b from by omega, show ¬ b ≤ m from by omega]
          · simp [h1, h2, h3, h4, show a ≤ n from by omega, show 0 ≤ a from by omega, show 0 ≤ b from by omega, show b ≤ m from by omega]

end Go.Proofs.Ytehabojhdogghaa.PSpanAsks
namespace Go.Proofs.Ytehabojhdogghaa.Wk.SpanAsks
open Go.RowKit Go.Proofs.YtehabojhdogghaaW.PrintWords Go.Proofs.YtehabojhdogghaaW.Opn Go.Proofs.Ytehabojhdogghaa.PSpanAsks
theorem walk (cs0 : List Value) (a0 : Int × Int) (a1 a2 : Int) (w : World) (hk0 : kII.K w a0 (Value.agg ⟨cs0⟩).cells.toList) (_ : (Lit.int .i64 a0.1).wf = true ∧ (Lit.int .i64 a0.2).wf = true) (h1 : (Lit.int .i64 a1).wf = true) (_ : (Lit.int .i64 a2).wf = true) :
    Calls Try.prog 6 #[.agg ⟨cs0⟩, .int .i64 a1, .int .i64 a2] w fun e w' => e = .returned (.bool true) ∧ Below w.heap.size w w' := by
  have e0 : cs0 = _ := kII_open hk0
  subst e0
  exact redpenlaw01_SpanAsks.calls 3 a0.1 a0.2 a1 a2 true w (holds _ _ _ _ (by simp only [Lit.wf, Bool.and_eq_true, decide_eq_true_eq] at h1; have : IntKind.i64.max = 9223372036854775807 := rfl; have : IntKind.i64.min = -9223372036854775808 := rfl; omega))
/-- A span's reading. -/
theorem op23 : Opens Try.prog 23 kII (fun x => (Lit.int .i64 x.1).wf = true ∧ (Lit.int .i64 x.2).wf = true) :=
  kII_opens Try.underlying23 rfl rfl Try.underlying3 rfl rfl (by kernel_rfl) (by kernel_rfl)
end Go.Proofs.Ytehabojhdogghaa.Wk.SpanAsks
