/- The span functions' contracts for walks by hand, and the law SpanSelf walked. Conditions: as each says. -/
import Derived.Test.YtehabojhdogghaaPureSpanB
import Derived.Test.YtehabojhdogghaaWEqStruct
import Derived.Outline
import Derived.Lib.Hide
namespace Go.Proofs.Ytehabojhdogghaa.Hand
open Go.RowKit Go.Proofs.YtehabojhdogghaaW.PrintWords Go.Proofs.YtehabojhdogghaaW.PrintLast Go.Proofs.YtehabojhdogghaaW.PrintMore Go.Proofs.Ytehabojhdogghaa.PSpanAsks

theorem meet_at {a b c d x y : Int} {t : Bool} (w : World) (h : meetS a b c d = (x, y, t)) :
    Calls Try.prog 9 #[.agg #[.int .i64 a, .int .i64 b], .agg #[.int .i64 c, .int .i64 d]] w fun e w' => e = .returned (.tuple #[.agg #[.int .i64 x, .int .i64 y], .bool t]) ∧ Below w.heap.size w w' :=
  span_Meet.calls 1 a b c d x y t w (by rw [span_Meet_eq, h])
theorem join_at {a b c d x y t : Int} (w : World) (h : joinE a b c d = (x, y, t)) :
    Calls Try.prog 11 #[.agg #[.int .i64 a, .int .i64 b], .agg #[.int .i64 c, .int .i64 d]] w fun e w' => e = .returned (.tuple #[.agg #[.int .i64 x, .int .i64 y], .int .i64 t]) ∧ Below w.heap.size w w' :=
  span_Join.calls 1 a b c d x y t w (by rw [span_Join_eq, h])
theorem awake_at (w : World) : Calls Try.prog 8 #[] w fun e w' => e = .returned (.bool true) ∧ Below w.heap.size w w' := redpenlaw01_Awake.calls 1 true w (awake_eq 0)
theorem ref_sound_eq (a b : Int) : redpenref01_Sound.f a b = some (decide (Snd a b)) := by
  unfold redpenref01_Sound.f
  repeat' split
  all_goals (congr 1; rw [Bool.eq_iff_iff]; simp only [decide_eq_true_eq, Bool.false_eq_true, false_iff]; unfold Snd; omega)
theorem sound_at {a b : Int} {t : Bool} (w : World) (h : decide (Snd a b) = t) :
    Calls Try.prog 13 #[.agg #[.int .i64 a, .int .i64 b]] w fun e w' => e = .returned (.bool t) ∧ Below w.heap.size w w' :=
  redpenref01_Sound.calls a b t w (by rw [ref_sound_eq, h])

theorem meetS_comm (a b c d : Int) : meetS a b c d = meetS c d a b := by
  unfold meetS
  by_cases h : Snd a b ∧ Snd c d
  · rw [if_pos h, if_pos (show Snd c d ∧ Snd a b from ⟨h.2, h.1⟩), Int.max_comm, Int.min_comm]
  · rw [if_neg h, if_neg (fun h2 => h ⟨h2.2, h2.1⟩)]
theorem joinE_comm (a b c d : Int) : joinE a b c d = joinE c d a b := by
  unfold joinE
  by_cases h : Snd a b ∧ Snd c d
  · rw [if_pos h, if_pos (show Snd c d ∧ Snd a b from ⟨h.2, h.1⟩), Int.max_comm, Int.min_comm]
  · rw [if_neg h, if_neg (fun h2 => h ⟨h2.2, h2.1⟩)]
theorem meetS_self (a b : Int) : meetS a b a b = if Snd a b ∧ 0 < b then (a, b, true) else (0, 0, false) := by
  unfold meetS
  by_cases h : Snd a b
  · rw [if_pos ⟨h, h⟩, Int.max_self, Int.min_self]
    by_cases h2 : 0 < b
    · rw [if_pos (by omega), if_pos ⟨h, h2⟩]
      simp
      omega
    · rw [if_neg (by omega), if_neg (fun h3 => h2 h3.2)]
  · rw [if_neg (fun h2 => h h2.1), if_neg (fun h2 => h h2.1)]

theorem eqSpan (d : Nat) (w : World) (x0 y0 : Int) (x1 y1 : Int) :
    (Op.equalIn (d + 2) 23 (.agg #[.int .i64 x0, .int .i64 x1]) (.agg #[.int .i64 y0, .int .i64 y1])).run Try.prog w = .ok (x0 == y0 && (x1 == y1)) w := by
  refine eqA_of Try.underlying23 (by kernel_rfl) ?_
  refine eqf_cons (by rfl) (by go_simp; rfl) (by go_simp; rfl) (by go_simp) ?_
  exact eqf_last (by rfl) (by go_simp; rfl) (by go_simp; rfl) (by go_simp)
attribute [local go_sem high] eqSpan

theorem blk_new2 (w : World) (o o' : Obj) : ((w.alloc o).alloc o').heap[w.heap.size + 1]? = some o' := by
  have := blk_new (w.alloc o) o'
  simpa using this
end Go.Proofs.Ytehabojhdogghaa.Hand
