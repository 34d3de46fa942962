/- Spans, in plain numbers: what the printed functions of the span package come to. Conditions: as each lemma says. -/
import Derived.Test.YtehabojhdogghaaPSpanAsksx3
namespace Go.Proofs.Ytehabojhdogghaa.PSpanAsks
open Go.RowKit Go.Proofs.YtehabojhdogghaaW.PrintWords Go.Proofs.YtehabojhdogghaaW.PrintLast Go.Proofs.YtehabojhdogghaaW.PrintMore

def Snd (a b : Int) : Prop := 0 ≤ a ∧ a ≤ 65536 ∧ 0 ≤ b ∧ b ≤ 65536
instance (a b : Int) : Decidable (Snd a b) := by unfold Snd; infer_instance

def meetS (a b c d : Int) : Int × Int × Bool :=
  if Snd a b ∧ Snd c d then (if max a c < min (a + b) (c + d) then (max a c, min (a + b) (c + d) - max a c, true) else (0, 0, false)) else (0, 0, false)
def joinS (a b c d : Int) : Int × Int × Bool :=
  if Snd a b ∧ Snd c d then (min a c, max (a + b) (c + d) - min a c, true) else (0, 0, false)
def joinE (a b c d : Int) : Int × Int × Int :=
  if Snd a b ∧ Snd c d then (min a c, max (a + b) (c + d) - min a c, 0) else (0, 0, 2)

theorem mx_eq (a b : Int) : mx a b = max a b := by unfold mx; omega
theorem mn_eq (a b : Int) : mn a b = min a b := by unfold mn; omega

theorem wrap_small (x : Int) (h : -9223372036854775808 ≤ x) (h2 : x < 9223372036854775808) : wrap64 x = x := by unfold wrap64; omega

theorem span_sound_eq (a b : Int) : span_sound.f a b = some (decide (Snd a b)) := by
  unfold span_sound.f
  repeat' split
  all_goals (congr 1; rw [Bool.eq_iff_iff]; simp only [decide_eq_true_eq, Bool.false_eq_true, false_iff]; unfold Snd; omega)

theorem span_Meet_eq (k : Nat) (a b c d : Int) : span_Meet.f (k + 1) a b c d = some (meetS a b c d) := by
  unfold span_Meet.f meetS
  rw [span_sound_eq, span_sound_eq]
  simp only [Option.bind_some, span_Meet.j0, span_end.f]
  by_cases h1 : Snd a b
  · by_cases h2 : Snd c d
    · obtain ⟨x1, x2, x3, x4⟩ := id h1
      obtain ⟨y1, y2, y3, y4⟩ := id h2
      rw [wrap_small (a + b) (by omega) (by omega), wrap_small (c + d) (by omega) (by omega), mx_eq, mn_eq]
      rw [wrap_small _ (by omega) (by omega)]
      simp only [h1, h2, decide_true, if_true, Bool.not_true, Bool.false_eq_true, if_false, and_self]
      by_cases h3 : max a c < min (a + b) (c + d)
      · rw [if_neg (by omega), if_pos h3]
      · rw [if_pos (by omega), if_neg h3]
    · simp [h1, h2]
  · simp [h1]

theorem span_Join_eq (k : Nat) (a b c d : Int) : span_Join.f (k + 1) a b c d = some (joinE a b c d) := by
  unfold span_Join.f joinE
  rw [span_sound_eq, span_sound_eq]
  simp only [Option.bind_some, span_Join.j0, span_end.f]
  by_cases h1 : Snd a b
  · by_cases h2 : Snd c d
    · obtain ⟨x1, x2, x3, x4⟩ := id h1
      obtain ⟨y1, y2, y3, y4⟩ := id h2
      rw [wrap_small (a + b) (by omega) (by omega), wrap_small (c + d) (by omega) (by omega), mx_eq, mn_eq]
      rw [wrap_small _ (by omega) (by omega)]
      simp [h1, h2]
    · simp [h1, h2]
  · simp [h1]

theorem awake_eq (k : Nat) : redpenlaw01_Awake.f (k + 1) = some true := by
  unfold redpenlaw01_Awake.f
  rw [span_Meet_eq, span_Join_eq]
  decide

end Go.Proofs.Ytehabojhdogghaa.PSpanAsks
