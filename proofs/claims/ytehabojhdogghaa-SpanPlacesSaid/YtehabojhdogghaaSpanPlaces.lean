/- The law SpanPlaces, walked by hand over the printed callees: it answers true. Conditions: none. -/
import Derived.Test.YtehabojhdogghaaSpanHand
import Derived.Test.YtehabojhdogghaaFr
import Derived.Deep.RegionHeld3
import Derived.Test.YtehabojhdogghaaOpn
namespace Go.Proofs.Ytehabojhdogghaa.Hand
open Go.RowKit Go.Proofs.YtehabojhdogghaaW.PrintWords Go.Proofs.YtehabojhdogghaaW.PrintLast Go.Proofs.YtehabojhdogghaaW.PrintMore Go.Proofs.Ytehabojhdogghaa.PSpanAsks
attribute [local go_sem high] eqSpan
/-- Does a place lie in a span? -/
def hasB (a b c : Int) : Bool := decide (Snd a b ∧ a ≤ c ∧ c < a + b)
theorem has_eq (a b c : Int) : span_Has.f a b c = some (hasB a b c) := by
  unfold span_Has.f hasB
  rw [span_sound_eq]
  simp only [Option.bind_some, span_end.f]
  by_cases h : Snd a b
  · obtain ⟨x1, x2, x3, x4⟩ := id h
    rw [show wrap64 (a + b) = a + b from by unfold wrap64; omega]
    simp [h]
    by_cases h2 : a ≤ c
    · simp [h2]
    · simp [h2]
  · simp [h]
theorem has_at {a b c : Int} {t : Bool} (w : World) (h : hasB a b c = t) :
    Calls Try.prog 14 #[.agg #[.int .i64 a, .int .i64 b], .int .i64 c] w fun e w' => e = .returned (.bool t) ∧ Below w.heap.size w w' :=
  span_Has.calls a b c t w (by rw [has_eq, h])
theorem hasB_true {a b c : Int} (h : Snd a b ∧ a ≤ c ∧ c < a + b) : hasB a b c = true := by simp [hasB, h]
theorem hasB_iff {a b c : Int} : hasB a b c = true ↔ Snd a b ∧ a ≤ c ∧ c < a + b := by simp [hasB]
theorem meet_has (a b c d p m0 m1 : Int) (m2 : Bool) (h : meetS a b c d = (m0, m1, m2)) : hasB m0 m1 p = (hasB a b p && hasB c d p) := by
  rw [Bool.eq_iff_iff, Bool.and_eq_true, hasB_iff, hasB_iff, hasB_iff]
  unfold meetS at h
  by_cases hs : Snd a b ∧ Snd c d
  · rw [if_pos hs] at h
    obtain ⟨⟨x1, x2, x3, x4⟩, ⟨y1, y2, y3, y4⟩⟩ := id hs
    split at h
    · simp only [Prod.mk.injEq] at h
      obtain ⟨rfl, rfl, rfl⟩ := h
      unfold Snd
      omega
    · simp only [Prod.mk.injEq] at h
      obtain ⟨rfl, rfl, rfl⟩ := h
      unfold Snd
      omega
  · rw [if_neg hs] at h
    simp only [Prod.mk.injEq] at h
    obtain ⟨rfl, rfl, rfl⟩ := h
    constructor
    · intro h
      omega
    · rintro ⟨h1, h2⟩
      exact absurd ⟨h1.1, h2.1⟩ hs
theorem join_has (a b c d p j0 j1 : Int) (h : joinE a b c d = (j0, j1, 0)) (hj : j1 ≤ 65536) (hp : (hasB a b p || hasB c d p) = true) : hasB j0 j1 p = true := by
  rw [hasB_iff]
  rw [Bool.or_eq_true, hasB_iff, hasB_iff] at hp
  unfold joinE at h
  by_cases hs : Snd a b ∧ Snd c d
  · rw [if_pos hs] at h
    obtain ⟨⟨x1, x2, x3, x4⟩, ⟨y1, y2, y3, y4⟩⟩ := id hs
    simp only [Prod.mk.injEq, and_true] at h
    obtain ⟨rfl, rfl⟩ := h
    unfold Snd at *
    omega
  · rw [if_neg hs] at h
    simp at h
theorem joinE_e (a b c d j0 j1 e : Int) (h : joinE a b c d = (j0, j1, e)) : e = 0 ∨ e = 2 ∧ ¬ (Snd a b ∧ Snd c d) := by
  unfold joinE at h
  split at h
  · simp only [Prod.mk.injEq] at h
    exact .inl h.2.2.symm
  · rename_i hs
    simp only [Prod.mk.injEq] at h
    exact .inr ⟨h.2.2.symm, hs⟩
set_option maxHeartbeats 4000000 in
set_option maxRecDepth 10000 in
theorem places_tt0t (a b c d p m0 m1 j0 j1 : Int) (m2 : Bool) (w : World) (hm : meetS a b c d = (m0, m1, m2)) (hj : joinE a b c d = (j0, j1, 0)) (hx : hasB a b p = true) (hy : hasB c d p = true) (hd : decide (65536 < j1) = true) :
    Calls Try.prog 5 #[.agg #[.int .i64 a, .int .i64 b], .agg #[.int .i64 c, .int .i64 d], .int .i64 p] w fun e w' => e = .returned (.bool true) ∧ Below w.heap.size w w' := by
  have hu23 := Try.underlying23
  have HN := Lib.hid (show hasB m0 m1 p = true by rw [meet_has a b c d p m0 m1 m2 hm, hx, hy]; rfl)
  have HM := Lib.hid hm
  have HX := Lib.hid hx
  have HY := Lib.hid hy
  have HJ := Lib.hid hj
  clear hm hx hy hj
  go_enter Try.func5, Try.ntmps5
  go_wp2_with fail
  refine (awake_at _).mono ?_
  rintro e w1 ⟨rfl, hb⟩
  have F1 : Hid (Fr w [(w.heap.size + 1, Obj.cells #[.int .i64 c, .int .i64 d] 23 (0, 0)), (w.heap.size, Obj.cells #[.int .i64 a, .int .i64 b] 23 (0, 0))] w1) := Lib.hid (by simpa using (((Fr.start w).alloc (.cells #[.int .i64 a, .int .i64 b] 23 (0, 0))).alloc (.cells #[.int .i64 c, .int .i64 d] 23 (0, 0))).below hb)
  clear hb
  have c1_0_0 : w1.cell? ⟨w.heap.size + 1, 0, none⟩ = some (.int .i64 c) := (F1.out.cell (t := 23) (cs := #[.int .i64 c, .int .i64 d]) (by simp) 0).trans rfl
  have c1_0_1 : w1.cell? ⟨w.heap.size + 1, 1, none⟩ = some (.int .i64 d) := (F1.out.cell (t := 23) (cs := #[.int .i64 c, .int .i64 d]) (by simp) 1).trans rfl
  have c1_1_0 : w1.cell? ⟨w.heap.size, 0, none⟩ = some (.int .i64 a) := (F1.out.cell (t := 23) (cs := #[.int .i64 a, .int .i64 b]) (by simp) 0).trans rfl
  have c1_1_1 : w1.cell? ⟨w.heap.size, 1, none⟩ = some (.int .i64 b) := (F1.out.cell (t := 23) (cs := #[.int .i64 a, .int .i64 b]) (by simp) 1).trans rfl
  go_wp2_with fail
  refine (meet_at _ HM.out).mono ?_
  rintro e w2 ⟨rfl, hb⟩
  have F2 := Lib.hid (F1.out.below hb)
  clear F1 c1_0_0 c1_0_1 c1_1_0 c1_1_1
  clear hb
  have c2_0_0 : (w2.alloc (.cells #[.int .i64 m0, .int .i64 m1] 23 (0, 0))).cell? ⟨w2.heap.size, 0, none⟩ = some (.int .i64 m0) := ((F2.out.alloc (.cells #[.int .i64 m0, .int .i64 m1] 23 (0, 0))).cell (t := 23) (cs := #[.int .i64 m0, .int .i64 m1]) (by simp) 0).trans rfl
  have c2_0_1 : (w2.alloc (.cells #[.int .i64 m0, .int .i64 m1] 23 (0, 0))).cell? ⟨w2.heap.size, 1, none⟩ = some (.int .i64 m1) := ((F2.out.alloc (.cells #[.int .i64 m0, .int .i64 m1] 23 (0, 0))).cell (t := 23) (cs := #[.int .i64 m0, .int .i64 m1]) (by simp) 1).trans rfl
  have c2_1_0 : (w2.alloc (.cells #[.int .i64 m0, .int .i64 m1] 23 (0, 0))).cell? ⟨w.heap.size + 1, 0, none⟩ = some (.int .i64 c) := ((F2.out.alloc (.cells #[.int .i64 m0, .int .i64 m1] 23 (0, 0))).cell (t := 23) (cs := #[.int .i64 c, .int .i64 d]) (by simp) 0).trans rfl
  have c2_1_1 : (w2.alloc (.cells #[.int .i64 m0, .int .i64 m1] 23 (0, 0))).cell? ⟨w.heap.size + 1, 1, none⟩ = some (.int .i64 d) := ((F2.out.alloc (.cells #[.int .i64 m0, .int .i64 m1] 23 (0, 0))).cell (t := 23) (cs := #[.int .i64 c, .int .i64 d]) (by simp) 1).trans rfl
  have c2_2_0 : (w2.alloc (.cells #[.int .i64 m0, .int .i64 m1] 23 (0, 0))).cell? ⟨w.heap.size, 0, none⟩ = some (.int .i64 a) := ((F2.out.alloc (.cells #[.int .i64 m0, .int .i64 m1] 23 (0, 0))).cell (t := 23) (cs := #[.int .i64 a, .int .i64 b]) (by simp) 0).trans rfl
  have c2_2_1 : (w2.alloc (.cells #[.int .i64 m0, .int .i64 m1] 23 (0, 0))).cell? ⟨w.heap.size, 1, none⟩ = some (.int .i64 b) := ((F2.out.alloc (.cells #[.int .i64 m0, .int .i64 m1] 23 (0, 0))).cell (t := 23) (cs := #[.int .i64 a, .int .i64 b]) (by simp) 1).trans rfl
  go_wp2_with fail
  refine (join_at _ HJ.out).mono ?_
  rintro e w3 ⟨rfl, hb⟩
  have F3 := Lib.hid ((F2.out.alloc (.cells #[.int .i64 m0, .int .i64 m1] 23 (0, 0))).below hb)
  clear F2 c2_0_0 c2_0_1 c2_1_0 c2_1_1 c2_2_0 c2_2_1
  clear hb
  have c3_0_0 : (w3.alloc (.cells #[.int .i64 j0, .int .i64 j1] 23 (0, 0))).cell? ⟨w3.heap.size, 0, none⟩ = some (.int .i64 j0) := ((F3.out.alloc (.cells #[.int .i64 j0, .int .i64 j1] 23 (0, 0))).cell (t := 23) (cs := #[.int .i64 j0, .int .i64 j1]) (by simp) 0).trans rfl
  have c3_0_1 : (w3.alloc (.cells #[.int .i64 j0, .int .i64 j1] 23 (0, 0))).cell? ⟨w3.heap.size, 1, none⟩ = some (.int .i64 j1) := ((F3.out.alloc (.cells #[.int .i64 j0, .int .i64 j1] 23 (0, 0))).cell (t := 23) (cs := #[.int .i64 j0, .int .i64 j1]) (by simp) 1).trans rfl
  have c3_1_0 : (w3.alloc (.cells #[.int .i64 j0, .int .i64 j1] 23 (0, 0))).cell? ⟨w2.heap.size, 0, none⟩ = some (.int .i64 m0) := ((F3.out.alloc (.cells #[.int .i64 j0, .int .i64 j1] 23 (0, 0))).cell (t := 23) (cs := #[.int .i64 m0, .int .i64 m1]) (by simp) 0).trans rfl
  have c3_1_1 : (w3.alloc (.cells #[.int .i64 j0, .int .i64 j1] 23 (0, 0))).cell? ⟨w2.heap.size, 1, none⟩ = some (.int .i64 m1) := ((F3.out.alloc (.cells #[.int .i64 j0, .int .i64 j1] 23 (0, 0))).cell (t := 23) (cs := #[.int .i64 m0, .int .i64 m1]) (by simp) 1).trans rfl
  have c3_2_0 : (w3.alloc (.cells #[.int .i64 j0, .int .i64 j1] 23 (0, 0))).cell? ⟨w.heap.size + 1, 0, none⟩ = some (.int .i64 c) := ((F3.out.alloc (.cells #[.int .i64 j0, .int .i64 j1] 23 (0, 0))).cell (t := 23) (cs := #[.int .i64 c, .int .i64 d]) (by simp) 0).trans rfl
  have c3_2_1 : (w3.alloc (.cells #[.int .i64 j0, .int .i64 j1] 23 (0, 0))).cell? ⟨w.heap.size + 1, 1, none⟩ = some (.int .i64 d) := ((F3.out.alloc (.cells #[.int .i64 j0, .int .i64 j1] 23 (0, 0))).cell (t := 23) (cs := #[.int .i64 c, .int .i64 d]) (by simp) 1).trans rfl
  have c3_3_0 : (w3.alloc (.cells #[.int .i64 j0, .int .i64 j1] 23 (0, 0))).cell? ⟨w.heap.size, 0, none⟩ = some (.int .i64 a) := ((F3.out.alloc (.cells #[.int .i64 j0, .int .i64 j1] 23 (0, 0))).cell (t := 23) (cs := #[.int .i64 a, .int .i64 b]) (by simp) 0).trans rfl
  have c3_3_1 : (w3.alloc (.cells #[.int .i64 j0, .int .i64 j1] 23 (0, 0))).cell? ⟨w.heap.size, 1, none⟩ = some (.int .i64 b) := ((F3.out.alloc (.cells #[.int .i64 j0, .int .i64 j1] 23 (0, 0))).cell (t := 23) (cs := #[.int .i64 a, .int .i64 b]) (by simp) 1).trans rfl
  have G3 := Lib.hid (F3.out.alloc (.cells #[.int .i64 j0, .int .i64 j1] 23 (0, 0)))
  clear F3
  have hS4 : ∀ W : World, Fr w [(w3.heap.size, Obj.cells #[.int .i64 j0, .int .i64 j1] 23 (0, 0)), (w2.heap.size, Obj.cells #[.int .i64 m0, .int .i64 m1] 23 (0, 0)), (w.heap.size + 1, Obj.cells #[.int .i64 c, .int .i64 d] 23 (0, 0)), (w.heap.size, Obj.cells #[.int .i64 a, .int .i64 b] 23 (0, 0))] W → (fun W : World => W.cell? ⟨w3.heap.size, 0, none⟩ = some (.int .i64 j0) ∧ W.cell? ⟨w3.heap.size, 1, none⟩ = some (.int .i64 j1) ∧ W.cell? ⟨w2.heap.size, 0, none⟩ = some (.int .i64 m0) ∧ W.cell? ⟨w2.heap.size, 1, none⟩ = some (.int .i64 m1) ∧ W.cell? ⟨w.heap.size + 1, 0, none⟩ = some (.int .i64 c) ∧ W.cell? ⟨w.heap.size + 1, 1, none⟩ = some (.int .i64 d) ∧ W.cell? ⟨w.heap.size, 0, none⟩ = some (.int .i64 a) ∧ W.cell? ⟨w.heap.size, 1, none⟩ = some (.int .i64 b) ∧ Hid (Fr w [(w3.heap.size, Obj.cells #[.int .i64 j0, .int .i64 j1] 23 (0, 0)), (w2.heap.size, Obj.cells #[.int .i64 m0, .int .i64 m1] 23 (0, 0)), (w.heap.size + 1, Obj.cells #[.int .i64 c, .int .i64 d] 23 (0, 0)), (w.heap.size, Obj.cells #[.int .i64 a, .int .i64 b] 23 (0, 0))] W)) W := fun W h => ⟨(h.cell (t := 23) (cs := #[.int .i64 j0, .int .i64 j1]) (by simp) 0).trans rfl, (h.cell (t := 23) (cs := #[.int .i64 j0, .int .i64 j1]) (by simp) 1).trans rfl, (h.cell (t := 23) (cs := #[.int .i64 m0, .int .i64 m1]) (by simp) 0).trans rfl, (h.cell (t := 23) (cs := #[.int .i64 m0, .int .i64 m1]) (by simp) 1).trans rfl, (h.cell (t := 23) (cs := #[.int .i64 c, .int .i64 d]) (by simp) 0).trans rfl, (h.cell (t := 23) (cs := #[.int .i64 c, .int .i64 d]) (by simp) 1).trans rfl, (h.cell (t := 23) (cs := #[.int .i64 a, .int .i64 b]) (by simp) 0).trans rfl, (h.cell (t := 23) (cs := #[.int .i64 a, .int .i64 b]) (by simp) 1).trans rfl, Lib.hid h⟩
  have HSb4 := Lib.hid (show ∀ W W' : World, (fun W : World => W.cell? ⟨w3.heap.size, 0, none⟩ = some (.int .i64 j0) ∧ W.cell? ⟨w3.heap.size, 1, none⟩ = some (.int .i64 j1) ∧ W.cell? ⟨w2.heap.size, 0, none⟩ = some (.int .i64 m0) ∧ W.cell? ⟨w2.heap.size, 1, none⟩ = some (.int .i64 m1) ∧ W.cell? ⟨w.heap.size + 1, 0, none⟩ = some (.int .i64 c) ∧ W.cell? ⟨w.heap.size + 1, 1, none⟩ = some (.int .i64 d) ∧ W.cell? ⟨w.heap.size, 0, none⟩ = some (.int .i64 a) ∧ W.cell? ⟨w.heap.size, 1, none⟩ = some (.int .i64 b) ∧ Hid (Fr w [(w3.heap.size, Obj.cells #[.int .i64 j0, .int .i64 j1] 23 (0, 0)), (w2.heap.size, Obj.cells #[.int .i64 m0, .int .i64 m1] 23 (0, 0)), (w.heap.size + 1, Obj.cells #[.int .i64 c, .int .i64 d] 23 (0, 0)), (w.heap.size, Obj.cells #[.int .i64 a, .int .i64 b] 23 (0, 0))] W)) W → Below W.heap.size W W' → (fun W : World => W.cell? ⟨w3.heap.size, 0, none⟩ = some (.int .i64 j0) ∧ W.cell? ⟨w3.heap.size, 1, none⟩ = some (.int .i64 j1) ∧ W.cell? ⟨w2.heap.size, 0, none⟩ = some (.int .i64 m0) ∧ W.cell? ⟨w2.heap.size, 1, none⟩ = some (.int .i64 m1) ∧ W.cell? ⟨w.heap.size + 1, 0, none⟩ = some (.int .i64 c) ∧ W.cell? ⟨w.heap.size + 1, 1, none⟩ = some (.int .i64 d) ∧ W.cell? ⟨w.heap.size, 0, none⟩ = some (.int .i64 a) ∧ W.cell? ⟨w.heap.size, 1, none⟩ = some (.int .i64 b) ∧ Hid (Fr w [(w3.heap.size, Obj.cells #[.int .i64 j0, .int .i64 j1] 23 (0, 0)), (w2.heap.size, Obj.cells #[.int .i64 m0, .int .i64 m1] 23 (0, 0)), (w.heap.size + 1, Obj.cells #[.int .i64 c, .int .i64 d] 23 (0, 0)), (w.heap.size, Obj.cells #[.int .i64 a, .int .i64 b] 23 (0, 0))] W)) W' from fun W W' h hb => hS4 _ (h.2.2.2.2.2.2.2.2.out.below hb))
  have HSd4 := Lib.hid (show ∀ W : World, (fun W : World => W.cell? ⟨w3.heap.size, 0, none⟩ = some (.int .i64 j0) ∧ W.cell? ⟨w3.heap.size, 1, none⟩ = some (.int .i64 j1) ∧ W.cell? ⟨w2.heap.size, 0, none⟩ = some (.int .i64 m0) ∧ W.cell? ⟨w2.heap.size, 1, none⟩ = some (.int .i64 m1) ∧ W.cell? ⟨w.heap.size + 1, 0, none⟩ = some (.int .i64 c) ∧ W.cell? ⟨w.heap.size + 1, 1, none⟩ = some (.int .i64 d) ∧ W.cell? ⟨w.heap.size, 0, none⟩ = some (.int .i64 a) ∧ W.cell? ⟨w.heap.size, 1, none⟩ = some (.int .i64 b) ∧ Hid (Fr w [(w3.heap.size, Obj.cells #[.int .i64 j0, .int .i64 j1] 23 (0, 0)), (w2.heap.size, Obj.cells #[.int .i64 m0, .int .i64 m1] 23 (0, 0)), (w.heap.size + 1, Obj.cells #[.int .i64 c, .int .i64 d] 23 (0, 0)), (w.heap.size, Obj.cells #[.int .i64 a, .int .i64 b] 23 (0, 0))] W)) W → (fun W : World => W.cell? ⟨w3.heap.size, 0, none⟩ = some (.int .i64 j0) ∧ W.cell? ⟨w3.heap.size, 1, none⟩ = some (.int .i64 j1) ∧ W.cell? ⟨w2.heap.size, 0, none⟩ = some (.int .i64 m0) ∧ W.cell? ⟨w2.heap.size, 1, none⟩ = some (.int .i64 m1) ∧ W.cell? ⟨w.heap.size + 1, 0, none⟩ = some (.int .i64 c) ∧ W.cell? ⟨w.heap.size + 1, 1, none⟩ = some (.int .i64 d) ∧ W.cell? ⟨w.heap.size, 0, none⟩ = some (.int .i64 a) ∧ W.cell? ⟨w.heap.size, 1, none⟩ = some (.int .i64 b) ∧ Hid (Fr w [(w3.heap.size, Obj.cells #[.int .i64 j0, .int .i64 j1] 23 (0, 0)), (w2.heap.size, Obj.cells #[.int .i64 m0, .int .i64 m1] 23 (0, 0)), (w.heap.size + 1, Obj.cells #[.int .i64 c, .int .i64 d] 23 (0, 0)), (w.heap.size, Obj.cells #[.int .i64 a, .int .i64 b] 23 (0, 0))] W)) W.drew from fun W h => hS4 _ (h.2.2.2.2.2.2.2.2.out.drew))
  have HSf4 := Lib.hid (show ∀ W W' : World, (fun W : World => W.cell? ⟨w3.heap.size, 0, none⟩ = some (.int .i64 j0) ∧ W.cell? ⟨w3.heap.size, 1, none⟩ = some (.int .i64 j1) ∧ W.cell? ⟨w2.heap.size, 0, none⟩ = some (.int .i64 m0) ∧ W.cell? ⟨w2.heap.size, 1, none⟩ = some (.int .i64 m1) ∧ W.cell? ⟨w.heap.size + 1, 0, none⟩ = some (.int .i64 c) ∧ W.cell? ⟨w.heap.size + 1, 1, none⟩ = some (.int .i64 d) ∧ W.cell? ⟨w.heap.size, 0, none⟩ = some (.int .i64 a) ∧ W.cell? ⟨w.heap.size, 1, none⟩ = some (.int .i64 b) ∧ Hid (Fr w [(w3.heap.size, Obj.cells #[.int .i64 j0, .int .i64 j1] 23 (0, 0)), (w2.heap.size, Obj.cells #[.int .i64 m0, .int .i64 m1] 23 (0, 0)), (w.heap.size + 1, Obj.cells #[.int .i64 c, .int .i64 d] 23 (0, 0)), (w.heap.size, Obj.cells #[.int .i64 a, .int .i64 b] 23 (0, 0))] W)) W → Below W.heap.size W W' → Fr w [(w3.heap.size, Obj.cells #[.int .i64 j0, .int .i64 j1] 23 (0, 0)), (w2.heap.size, Obj.cells #[.int .i64 m0, .int .i64 m1] 23 (0, 0)), (w.heap.size + 1, Obj.cells #[.int .i64 c, .int .i64 d] 23 (0, 0)), (w.heap.size, Obj.cells #[.int .i64 a, .int .i64 b] 23 (0, 0))] W' from fun W W' h hb => h.2.2.2.2.2.2.2.2.out.below hb)
  have HT4 := Lib.hid (hS4 _ (G3.out.drew))
  clear hS4
  go_wp2_with fail
  go_region_held3 (fun W : World => W.cell? ⟨w3.heap.size, 0, none⟩ = some (.int .i64 j0) ∧ W.cell? ⟨w3.heap.size, 1, none⟩ = some (.int .i64 j1) ∧ W.cell? ⟨w2.heap.size, 0, none⟩ = some (.int .i64 m0) ∧ W.cell? ⟨w2.heap.size, 1, none⟩ = some (.int .i64 m1) ∧ W.cell? ⟨w.heap.size + 1, 0, none⟩ = some (.int .i64 c) ∧ W.cell? ⟨w.heap.size + 1, 1, none⟩ = some (.int .i64 d) ∧ W.cell? ⟨w.heap.size, 0, none⟩ = some (.int .i64 a) ∧ W.cell? ⟨w.heap.size, 1, none⟩ = some (.int .i64 b) ∧ Hid (Fr w [(w3.heap.size, Obj.cells #[.int .i64 j0, .int .i64 j1] 23 (0, 0)), (w2.heap.size, Obj.cells #[.int .i64 m0, .int .i64 m1] 23 (0, 0)), (w.heap.size + 1, Obj.cells #[.int .i64 c, .int .i64 d] 23 (0, 0)), (w.heap.size, Obj.cells #[.int .i64 a, .int .i64 b] 23 (0, 0))] W)) (first | exact HSb4.out _ _ (by assumption) hb | exact HSd4.out _ (by assumption) | exact HT4.out | go_keep) (first | (go_at_call 14; ((with_reducible refine (has_at _ HX.out).mono ?_)); rintro e w' ⟨rfl, hb⟩) | (go_at_call 14; ((with_reducible refine (has_at _ HY.out).mono ?_)); rintro e w' ⟨rfl, hb⟩))
  go_wp2_with fail
  refine (has_at _ HN.out).mono ?_
  rintro e w5 ⟨rfl, hb⟩
  have F5 := Lib.hid (HSf4.out _ _ (by assumption) hb)
  clear hb
  have c5_0_0 : w5.cell? ⟨w3.heap.size, 0, none⟩ = some (.int .i64 j0) := (F5.out.cell (t := 23) (cs := #[.int .i64 j0, .int .i64 j1]) (by simp) 0).trans rfl
  have c5_0_1 : w5.cell? ⟨w3.heap.size, 1, none⟩ = some (.int .i64 j1) := (F5.out.cell (t := 23) (cs := #[.int .i64 j0, .int .i64 j1]) (by simp) 1).trans rfl
  have c5_1_0 : w5.cell? ⟨w2.heap.size, 0, none⟩ = some (.int .i64 m0) := (F5.out.cell (t := 23) (cs := #[.int .i64 m0, .int .i64 m1]) (by simp) 0).trans rfl
  have c5_1_1 : w5.cell? ⟨w2.heap.size, 1, none⟩ = some (.int .i64 m1) := (F5.out.cell (t := 23) (cs := #[.int .i64 m0, .int .i64 m1]) (by simp) 1).trans rfl
  have c5_2_0 : w5.cell? ⟨w.heap.size + 1, 0, none⟩ = some (.int .i64 c) := (F5.out.cell (t := 23) (cs := #[.int .i64 c, .int .i64 d]) (by simp) 0).trans rfl
  have c5_2_1 : w5.cell? ⟨w.heap.size + 1, 1, none⟩ = some (.int .i64 d) := (F5.out.cell (t := 23) (cs := #[.int .i64 c, .int .i64 d]) (by simp) 1).trans rfl
  have c5_3_0 : w5.cell? ⟨w.heap.size, 0, none⟩ = some (.int .i64 a) := (F5.out.cell (t := 23) (cs := #[.int .i64 a, .int .i64 b]) (by simp) 0).trans rfl
  have c5_3_1 : w5.cell? ⟨w.heap.size, 1, none⟩ = some (.int .i64 b) := (F5.out.cell (t := 23) (cs := #[.int .i64 a, .int .i64 b]) (by simp) 1).trans rfl
  go_wp2_with fail
  go_ret
  exact ⟨rfl, F5.out.bel⟩
set_option maxHeartbeats 4000000 in
set_option maxRecDepth 10000 in
theorem places_tt0f (a b c d p m0 m1 j0 j1 : Int) (m2 : Bool) (w : World) (hm : meetS a b c d = (m0, m1, m2)) (hj : joinE a b c d = (j0, j1, 0)) (hx : hasB a b p = true) (hy : hasB c d p = true) (hd : decide (65536 < j1) = false) :
    Calls Try.prog 5 #[.agg #[.int .i64 a, .int .i64 b], .agg #[.int .i64 c, .int .i64 d], .int .i64 p] w fun e w' => e = .returned (.bool true) ∧ Below w.heap.size w w' := by
  have hu23 := Try.underlying23
  have HN := Lib.hid (show hasB m0 m1 p = true by rw [meet_has a b c d p m0 m1 m2 hm, hx, hy]; rfl)
  have HM := Lib.hid hm
  have HX := Lib.hid hx
  have HY := Lib.hid hy
  have HH := Lib.hid (join_has a b c d p j0 j1 hj (by simpa using hd) (by rw [hx, hy]; rfl))
  have HJ := Lib.hid hj
  clear hm hx hy hj
  go_enter Try.func5, Try.ntmps5
  go_wp2_with fail
  refine (awake_at _).mono ?_
  rintro e w1 ⟨rfl, hb⟩
  have F1 : Hid (Fr w [(w.heap.size + 1, Obj.cells #[.int .i64 c, .int .i64 d] 23 (0, 0)), (w.heap.size, Obj.cells #[.int .i64 a, .int .i64 b] 23 (0, 0))] w1) := Lib.hid (by simpa using (((Fr.start w).alloc (.cells #[.int .i64 a, .int .i64 b] 23 (0, 0))).alloc (.cells #[.int .i64 c, .int .i64 d] 23 (0, 0))).below hb)
  clear hb
  have c1_0_0 : w1.cell? ⟨w.heap.size + 1, 0, none⟩ = some (.int .i64 c) := (F1.out.cell (t := 23) (cs := #[.int .i64 c, .int .i64 d]) (by simp) 0).trans rfl
  have c1_0_1 : w1.cell? ⟨w.heap.size + 1, 1, none⟩ = some (.int .i64 d) := (F1.out.cell (t := 23) (cs := #[.int .i64 c, .int .i64 d]) (by simp) 1).trans rfl
  have c1_1_0 : w1.cell? ⟨w.heap.size, 0, none⟩ = some (.int .i64 a) := (F1.out.cell (t := 23) (cs := #[.int .i64 a, .int .i64 b]) (by simp) 0).trans rfl
  have c1_1_1 : w1.cell? ⟨w.heap.size, 1, none⟩ = some (.int .i64 b) := (F1.out.cell (t := 23) (cs := #[.int .i64 a, .int .i64 b]) (by simp) 1).trans rfl
  go_wp2_with fail
  refine (meet_at _ HM.out).mono ?_
  rintro e w2 ⟨rfl, hb⟩
  have F2 := Lib.hid (F1.out.below hb)
  clear F1 c1_0_0 c1_0_1 c1_1_0 c1_1_1
  clear hb
  have c2_0_0 : (w2.alloc (.cells #[.int .i64 m0, .int .i64 m1] 23 (0, 0))).cell? ⟨w2.heap.size, 0, none⟩ = some (.int .i64 m0) := ((F2.out.alloc (.cells #[.int .i64 m0, .int .i64 m1] 23 (0, 0))).cell (t := 23) (cs := #[.int .i64 m0, .int .i64 m1]) (by simp) 0).trans rfl
  have c2_0_1 : (w2.alloc (.cells #[.int .i64 m0, .int .i64 m1] 23 (0, 0))).cell? ⟨w2.heap.size, 1, none⟩ = some (.int .i64 m1) := ((F2.out.alloc (.cells #[.int .i64 m0, .int .i64 m1] 23 (0, 0))).cell (t := 23) (cs := #[.int .i64 m0, .int .i64 m1]) (by simp) 1).trans rfl
  have c2_1_0 : (w2.alloc (.cells #[.int .i64 m0, .int .i64 m1] 23 (0, 0))).cell? ⟨w.heap.size + 1, 0, none⟩ = some (.int .i64 c) := ((F2.out.alloc (.cells #[.int .i64 m0, .int .i64 m1] 23 (0, 0))).cell (t := 23) (cs := #[.int .i64 c, .int .i64 d]) (by simp) 0).trans rfl
  have c2_1_1 : (w2.alloc (.cells #[.int .i64 m0, .int .i64 m1] 23 (0, 0))).cell? ⟨w.heap.size + 1, 1, none⟩ = some (.int .i64 d) := ((F2.out.alloc (.cells #[.int .i64 m0, .int .i64 m1] 23 (0, 0))).cell (t := 23) (cs := #[.int .i64 c, .int .i64 d]) (by simp) 1).trans rfl
  have c2_2_0 : (w2.alloc (.cells #[.int .i64 m0, .int .i64 m1] 23 (0, 0))).cell? ⟨w.heap.size, 0, none⟩ = some (.int .i64 a) := ((F2.out.alloc (.cells #[.int .i64 m0, .int .i64 m1] 23 (0, 0))).cell (t := 23) (cs := #[.int .i64 a, .int .i64 b]) (by simp) 0).trans rfl
  have c2_2_1 : (w2.alloc (.cells #[.int .i64 m0, .int .i64 m1] 23 (0, 0))).cell? ⟨w.heap.size, 1, none⟩ = some (.int .i64 b) := ((F2.out.alloc (.cells #[.int .i64 m0, .int .i64 m1] 23 (0, 0))).cell (t := 23) (cs := #[.int .i64 a, .int .i64 b]) (by simp) 1).trans rfl
  go_wp2_with fail
  refine (join_at _ HJ.out).mono ?_
  rintro e w3 ⟨rfl, hb⟩
  have F3 := Lib.hid ((F2.out.alloc (.cells #[.int .i64 m0, .int .i64 m1] 23 (0, 0))).below hb)
  clear F2 c2_0_0 c2_0_1 c2_1_0 c2_1_1 c2_2_0 c2_2_1
  clear hb
  have c3_0_0 : (w3.alloc (.cells #[.int .i64 j0, .int .i64 j1] 23 (0, 0))).cell? ⟨w3.heap.size, 0, none⟩ = some (.int .i64 j0) := ((F3.out.alloc (.cells #[.int .i64 j0, .int .i64 j1] 23 (0, 0))).cell (t := 23) (cs := #[.int .i64 j0, .int .i64 j1]) (by simp) 0).trans rfl
  have c3_0_1 : (w3.alloc (.cells #[.int .i64 j0, .int .i64 j1] 23 (0, 0))).cell? ⟨w3.heap.size, 1, none⟩ = some (.int .i64 j1) := ((F3.out.alloc (.cells #[.int .i64 j0, .int .i64 j1] 23 (0, 0))).cell (t := 23) (cs := #[.int .i64 j0, .int .i64 j1]) (by simp) 1).trans rfl
  have c3_1_0 : (w3.alloc (.cells #[.int .i64 j0, .int .i64 j1] 23 (0, 0))).cell? ⟨w2.heap.size, 0, none⟩ = some (.int .i64 m0) := ((F3.out.alloc (.cells #[.int .i64 j0, .int .i64 j1] 23 (0, 0))).cell (t := 23) (cs := #[.int .i64 m0, .int .i64 m1]) (by simp) 0).trans rfl
  have c3_1_1 : (w3.alloc (.cells #[.int .i64 j0, .int .i64 j1] 23 (0, 0))).cell? ⟨w2.heap.size, 1, none⟩ = some (.int .i64 m1) := ((F3.out.alloc (.cells #[.int .i64 j0, .int .i64 j1] 23 (0, 0))).cell (t := 23) (cs := #[.int .i64 m0, .int .i64 m1]) (by simp) 1).trans rfl
  have c3_2_0 : (w3.alloc (.cells #[.int .i64 j0, .int .i64 j1] 23 (0, 0))).cell? ⟨w.heap.size + 1, 0, none⟩ = some (.int .i64 c) := ((F3.out.alloc (.cells #[.int .i64 j0, .int .i64 j1] 23 (0, 0))).cell (t := 23) (cs := #[.int .i64 c, .int .i64 d]) (by simp) 0).trans rfl
  have c3_2_1 : (w3.alloc (.cells #[.int .i64 j0, .int .i64 j1] 23 (0, 0))).cell? ⟨w.heap.size + 1, 1, none⟩ = some (.int .i64 d) := ((F3.out.alloc (.cells #[.int .i64 j0, .int .i64 j1] 23 (0, 0))).cell (t := 23) (cs := #[.int .i64 c, .int .i64 d]) (by simp) 1).trans rfl
  have c3_3_0 : (w3.alloc (.cells #[.int .i64 j0, .int .i64 j1] 23 (0, 0))).cell? ⟨w.heap.size, 0, none⟩ = some (.int .i64 a) := ((F3.out.alloc (.cells #[.int .i64 j0, .int .i64 j1] 23 (0, 0))).cell (t := 23) (cs := #[.int .i64 a, .int .i64 b]) (by simp) 0).trans rfl
  have c3_3_1 : (w3.alloc (.cells #[.int .i64 j0, .int .i64 j1] 23 (0, 0))).cell? ⟨w.heap.size, 1, none⟩ = some (.int .i64 b) := ((F3.out.alloc (.cells #[.int .i64 j0, .int .i64 j1] 23 (0, 0))).cell (t := 23) (cs := #[.int .i64 a, .int .i64 b]) (by simp) 1).trans rfl
  have G3 := Lib.hid (F3.out.alloc (.cells #[.int .i64 j0, .int .i64 j1] 23 (0, 0)))
  clear F3
  have hS4 : ∀ W : World, Fr w [(w3.heap.size, Obj.cells #[.int .i64 j0, .int .i64 j1] 23 (0, 0)), (w2.heap.size, Obj.cells #[.int .i64 m0, .int .i64 m1] 23 (0, 0)), (w.heap.size + 1, Obj.cells #[.int .i64 c, .int .i64 d] 23 (0, 0)), (w.heap.size, Obj.cells #[.int .i64 a, .int .i64 b] 23 (0, 0))] W → (fun W : World => W.cell? ⟨w3.heap.size, 0, none⟩ = some (.int .i64 j0) ∧ W.cell? ⟨w3.heap.size, 1, none⟩ = some (.int .i64 j1) ∧ W.cell? ⟨w2.heap.size, 0, none⟩ = some (.int .i64 m0) ∧ W.cell? ⟨w2.heap.size, 1, none⟩ = some (.int .i64 m1) ∧ W.cell? ⟨w.heap.size + 1, 0, none⟩ = some (.int .i64 c) ∧ W.cell? ⟨w.heap.size + 1, 1, none⟩ = some (.int .i64 d) ∧ W.cell? ⟨w.heap.size, 0, none⟩ = some (.int .i64 a) ∧ W.cell? ⟨w.heap.size, 1, none⟩ = some (.int .i64 b) ∧ Hid (Fr w [(w3.heap.size, Obj.cells #[.int .i64 j0, .int .i64 j1] 23 (0, 0)), (w2.heap.size, Obj.cells #[.int .i64 m0, .int .i64 m1] 23 (0, 0)), (w.heap.size + 1, Obj.cells #[.int .i64 c, .int .i64 d] 23 (0, 0)), (w.heap.size, Obj.cells #[.int .i64 a, .int .i64 b] 23 (0, 0))] W)) W := fun W h => ⟨(h.cell (t := 23) (cs := #[.int .i64 j0, .int .i64 j1]) (by simp) 0).trans rfl, (h.cell (t := 23) (cs := #[.int .i64 j0, .int .i64 j1]) (by simp) 1).trans rfl, (h.cell (t := 23) (cs := #[.int .i64 m0, .int .i64 m1]) (by simp) 0).trans rfl, (h.cell (t := 23) (cs := #[.int .i64 m0, .int .i64 m1]) (by simp) 1).trans rfl, (h.cell (t := 23) (cs := #[.int .i64 c, .int .i64 d]) (by simp) 0).trans rfl, (h.cell (t := 23) (cs := #[.int .i64 c, .int .i64 d]) (by simp) 1).trans rfl, (h.cell (t := 23) (cs := #[.int .i64 a, .int .i64 b]) (by simp) 0).trans rfl, (h.cell (t := 23) (cs := #[.int .i64 a, .int .i64 b]) (by simp) 1).trans rfl, Lib.hid h⟩
  have HSb4 := Lib.hid (show ∀ W W' : World, (fun W : World => W.cell? ⟨w3.heap.size, 0, none⟩ = some (.int .i64 j0) ∧ W.cell? ⟨w3.heap.size, 1, none⟩ = some (.int .i64 j1) ∧ W.cell? ⟨w2.heap.size, 0, none⟩ = some (.int .i64 m0) ∧ W.cell? ⟨w2.heap.size, 1, none⟩ = some (.int .i64 m1) ∧ W.cell? ⟨w.heap.size + 1, 0, none⟩ = some (.int .i64 c) ∧ W.cell? ⟨w.heap.size + 1, 1, none⟩ = some (.int .i64 d) ∧ W.cell? ⟨w.heap.size, 0, none⟩ = some (.int .i64 a) ∧ W.cell? ⟨w.heap.size, 1, none⟩ = some (.int .i64 b) ∧ Hid (Fr w [(w3.heap.size, Obj.cells #[.int .i64 j0, .int .i64 j1] 23 (0, 0)), (w2.heap.size, Obj.cells #[.int .i64 m0, .int .i64 m1] 23 (0, 0)), (w.heap.size + 1, Obj.cells #[.int .i64 c, .int .i64 d] 23 (0, 0)), (w.heap.size, Obj.cells #[.int .i64 a, .int .i64 b] 23 (0, 0))] W)) W → Below W.heap.size W W' → (fun W : World => W.cell? ⟨w3.heap.size, 0, none⟩ = some (.int .i64 j0) ∧ W.cell? ⟨w3.heap.size, 1, none⟩ = some (.int .i64 j1) ∧ W.cell? ⟨w2.heap.size, 0, none⟩ = some (.int .i64 m0) ∧ W.cell? ⟨w2.heap.size, 1, none⟩ = some (.int .i64 m1) ∧ W.cell? ⟨w.heap.size + 1, 0, none⟩ = some (.int .i64 c) ∧ W.cell? ⟨w.heap.size + 1, 1, none⟩ = some (.int .i64 d) ∧ W.cell? ⟨w.heap.size, 0, none⟩ = some (.int .i64 a) ∧ W.cell? ⟨w.heap.size, 1, none⟩ = some (.int .i64 b) ∧ Hid (Fr w [(w3.heap.size, Obj.cells #[.int .i64 j0, .int .i64 j1] 23 (0, 0)), (w2.heap.size, Obj.cells #[.int .i64 m0, .int .i64 m1] 23 (0, 0)), (w.heap.size + 1, Obj.cells #[.int .i64 c, .int .i64 d] 23 (0, 0)), (w.heap.size, Obj.cells #[.int .i64 a, .int .i64 b] 23 (0, 0))] W)) W' from fun W W' h hb => hS4 _ (h.2.2.2.2.2.2.2.2.out.below hb))
  have HSd4 := Lib.hid (show ∀ W : World, (fun W : World => W.cell? ⟨w3.heap.size, 0, none⟩ = some (.int .i64 j0) ∧ W.cell? ⟨w3.heap.size, 1, none⟩ = some (.int .i64 j1) ∧ W.cell? ⟨w2.heap.size, 0, none⟩ = some (.int .i64 m0) ∧ W.cell? ⟨w2.heap.size, 1, none⟩ = some (.int .i64 m1) ∧ W.cell? ⟨w.heap.size + 1, 0, none⟩ = some (.int .i64 c) ∧ W.cell? ⟨w.heap.size + 1, 1, none⟩ = some (.int .i64 d) ∧ W.cell? ⟨w.heap.size, 0, none⟩ = some (.int .i64 a) ∧ W.cell? ⟨w.heap.size, 1, none⟩ = some (.int .i64 b) ∧ Hid (Fr w [(w3.heap.size, Obj.cells #[.int .i64 j0, .int .i64 j1] 23 (0, 0)), (w2.heap.size, Obj.cells #[.int .i64 m0, .int .i64 m1] 23 (0, 0)), (w.heap.size + 1, Obj.cells #[.int .i64 c, .int .i64 d] 23 (0, 0)), (w.heap.size, Obj.cells #[.int .i64 a, .int .i64 b] 23 (0, 0))] W)) W → (fun W : World => W.cell? ⟨w3.heap.size, 0, none⟩ = some (.int .i64 j0) ∧ W.cell? ⟨w3.heap.size, 1, none⟩ = some (.int .i64 j1) ∧ W.cell? ⟨w2.heap.size, 0, none⟩ = some (.int .i64 m0) ∧ W.cell? ⟨w2.heap.size, 1, none⟩ = some (.int .i64 m1) ∧ W.cell? ⟨w.heap.size + 1, 0, none⟩ = some (.int .i64 c) ∧ W.cell? ⟨w.heap.size + 1, 1, none⟩ = some (.int .i64 d) ∧ W.cell? ⟨w.heap.size, 0, none⟩ = some (.int .i64 a) ∧ W.cell? ⟨w.heap.size, 1, none⟩ = some (.int .i64 b) ∧ Hid (Fr w [(w3.heap.size, Obj.cells #[.int .i64 j0, .int .i64 j1] 23 (0, 0)), (w2.heap.size, Obj.cells #[.int .i64 m0, .int .i64 m1] 23 (0, 0)), (w.heap.size + 1, Obj.cells #[.int .i64 c, .int .i64 d] 23 (0, 0)), (w.heap.size, Obj.cells #[.int .i64 a, .int .i64 b] 23 (0, 0))] W)) W.drew from fun W h => hS4 _ (h.2.2.2.2.2.2.2.2.out.drew))
  have HSf4 := Lib.hid (show ∀ W W' : World, (fun W : World => W.cell? ⟨w3.heap.size, 0, none⟩ = some (.int .i64 j0) ∧ W.cell? ⟨w3.heap.size, 1, none⟩ = some (.int .i64 j1) ∧ W.cell? ⟨w2.heap.size, 0, none⟩ = some (.int .i64 m0) ∧ W.cell? ⟨w2.heap.size, 1, none⟩ = some (.int .i64 m1) ∧ W.cell? ⟨w.heap.size + 1, 0, none⟩ = some (.int .i64 c) ∧ W.cell? ⟨w.heap.size + 1, 1, none⟩ = some (.int .i64 d) ∧ W.cell? ⟨w.heap.size, 0, none⟩ = some (.int .i64 a) ∧ W.cell? ⟨w.heap.size, 1, none⟩ = some (.int .i64 b) ∧ Hid (Fr w [(w3.heap.size, Obj.cells #[.int .i64 j0, .int .i64 j1] 23 (0, 0)), (w2.heap.size, Obj.cells #[.int .i64 m0, .int .i64 m1] 23 (0, 0)), (w.heap.size + 1, Obj.cells #[.int .i64 c, .int .i64 d] 23 (0, 0)), (w.heap.size, Obj.cells #[.int .i64 a, .int .i64 b] 23 (0, 0))] W)) W → Below W.heap.size W W' → Fr w [(w3.heap.size, Obj.cells #[.int .i64 j0, .int .i64 j1] 23 (0, 0)), (w2.heap.size, Obj.cells #[.int .i64 m0, .int .i64 m1] 23 (0, 0)), (w.heap.size + 1, Obj.cells #[.int .i64 c, .int .i64 d] 23 (0, 0)), (w.heap.size, Obj.cells #[.int .i64 a, .int .i64 b] 23 (0, 0))] W' from fun W W' h hb => h.2.2.2.2.2.2.2.2.out.below hb)
  have HT4 := Lib.hid (hS4 _ (G3.out.drew))
  clear hS4
  go_wp2_with fail
  go_region_held3 (fun W : World => W.cell? ⟨w3.heap.size, 0, none⟩ = some (.int .i64 j0) ∧ W.cell? ⟨w3.heap.size, 1, none⟩ = some (.int .i64 j1) ∧ W.cell? ⟨w2.heap.size, 0, none⟩ = some (.int .i64 m0) ∧ W.cell? ⟨w2.heap.size, 1, none⟩ = some (.int .i64 m1) ∧ W.cell? ⟨w.heap.size + 1, 0, none⟩ = some (.int .i64 c) ∧ W.cell? ⟨w.heap.size + 1, 1, none⟩ = some (.int .i64 d) ∧ W.cell? ⟨w.heap.size, 0, none⟩ = some (.int .i64 a) ∧ W.cell? ⟨w.heap.size, 1, none⟩ = some (.int .i64 b) ∧ Hid (Fr w [(w3.heap.size, Obj.cells #[.int .i64 j0, .int .i64 j1] 23 (0, 0)), (w2.heap.size, Obj.cells #[.int .i64 m0, .int .i64 m1] 23 (0, 0)), (w.heap.size + 1, Obj.cells #[.int .i64 c, .int .i64 d] 23 (0, 0)), (w.heap.size, Obj.cells #[.int .i64 a, .int .i64 b] 23 (0, 0))] W)) (first | exact HSb4.out _ _ (by assumption) hb | exact HSd4.out _ (by assumption) | exact HT4.out | go_keep) (first | (go_at_call 14; ((with_reducible refine (has_at _ HX.out).mono ?_)); rintro e w' ⟨rfl, hb⟩) | (go_at_call 14; ((with_reducible refine (has_at _ HY.out).mono ?_)); rintro e w' ⟨rfl, hb⟩))
  go_wp2_with fail
  refine (has_at _ HN.out).mono ?_
  rintro e w5 ⟨rfl, hb⟩
  have F5 := Lib.hid (HSf4.out _ _ (by assumption) hb)
  clear hb
  have c5_0_0 : w5.cell? ⟨w3.heap.size, 0, none⟩ = some (.int .i64 j0) := (F5.out.cell (t := 23) (cs := #[.int .i64 j0, .int .i64 j1]) (by simp) 0).trans rfl
  have c5_0_1 : w5.cell? ⟨w3.heap.size, 1, none⟩ = some (.int .i64 j1) := (F5.out.cell (t := 23) (cs := #[.int .i64 j0, .int .i64 j1]) (by simp) 1).trans rfl
  have c5_1_0 : w5.cell? ⟨w2.heap.size, 0, none⟩ = some (.int .i64 m0) := (F5.out.cell (t := 23) (cs := #[.int .i64 m0, .int .i64 m1]) (by simp) 0).trans rfl
  have c5_1_1 : w5.cell? ⟨w2.heap.size, 1, none⟩ = some (.int .i64 m1) := (F5.out.cell (t := 23) (cs := #[.int .i64 m0, .int .i64 m1]) (by simp) 1).trans rfl
  have c5_2_0 : w5.cell? ⟨w.heap.size + 1, 0, none⟩ = some (.int .i64 c) := (F5.out.cell (t := 23) (cs := #[.int .i64 c, .int .i64 d]) (by simp) 0).trans rfl
  have c5_2_1 : w5.cell? ⟨w.heap.size + 1, 1, none⟩ = some (.int .i64 d) := (F5.out.cell (t := 23) (cs := #[.int .i64 c, .int .i64 d]) (by simp) 1).trans rfl
  have c5_3_0 : w5.cell? ⟨w.heap.size, 0, none⟩ = some (.int .i64 a) := (F5.out.cell (t := 23) (cs := #[.int .i64 a, .int .i64 b]) (by simp) 0).trans rfl
  have c5_3_1 : w5.cell? ⟨w.heap.size, 1, none⟩ = some (.int .i64 b) := (F5.out.cell (t := 23) (cs := #[.int .i64 a, .int .i64 b]) (by simp) 1).trans rfl
  go_wp2_with fail
  refine (has_at _ HH.out).mono ?_
  rintro e w6 ⟨rfl, hb⟩
  have F6 := Lib.hid (F5.out.below hb)
  clear F5 c5_0_0 c5_0_1 c5_1_0 c5_1_1 c5_2_0 c5_2_1 c5_3_0 c5_3_1
  clear hb
  have c6_0_0 : w6.cell? ⟨w3.heap.size, 0, none⟩ = some (.int .i64 j0) := (F6.out.cell (t := 23) (cs := #[.int .i64 j0, .int .i64 j1]) (by simp) 0).trans rfl
  have c6_0_1 : w6.cell? ⟨w3.heap.size, 1, none⟩ = some (.int .i64 j1) := (F6.out.cell (t := 23) (cs := #[.int .i64 j0, .int .i64 j1]) (by simp) 1).trans rfl
  have c6_1_0 : w6.cell? ⟨w2.heap.size, 0, none⟩ = some (.int .i64 m0) := (F6.out.cell (t := 23) (cs := #[.int .i64 m0, .int .i64 m1]) (by simp) 0).trans rfl
  have c6_1_1 : w6.cell? ⟨w2.heap.size, 1, none⟩ = some (.int .i64 m1) := (F6.out.cell (t := 23) (cs := #[.int .i64 m0, .int .i64 m1]) (by simp) 1).trans rfl
  have c6_2_0 : w6.cell? ⟨w.heap.size + 1, 0, none⟩ = some (.int .i64 c) := (F6.out.cell (t := 23) (cs := #[.int .i64 c, .int .i64 d]) (by simp) 0).trans rfl
  have c6_2_1 : w6.cell? ⟨w.heap.size + 1, 1, none⟩ = some (.int .i64 d) := (F6.out.cell (t := 23) (cs := #[.int .i64 c, .int .i64 d]) (by simp) 1).trans rfl
  have c6_3_0 : w6.cell? ⟨w.heap.size, 0, none⟩ = some (.int .i64 a) := (F6.out.cell (t := 23) (cs := #[.int .i64 a, .int .i64 b]) (by simp) 0).trans rfl
  have c6_3_1 : w6.cell? ⟨w.heap.size, 1, none⟩ = some (.int .i64 b) := (F6.out.cell (t := 23) (cs := #[.int .i64 a, .int .i64 b]) (by simp) 1).trans rfl
  go_wp2_with fail
  go_ret
  exact ⟨rfl, F6.out.bel⟩
set_option maxHeartbeats 4000000 in
set_option maxRecDepth 10000 in
theorem places_tf2 (a b c d p m0 m1 j0 j1 : Int) (m2 : Bool) (w : World) (hm : meetS a b c d = (m0, m1, m2)) (hj : joinE a b c d = (j0, j1, 2)) (hx : hasB a b p = true) (hy : hasB c d p = false) :
    Calls Try.prog 5 #[.agg #[.int .i64 a, .int .i64 b], .agg #[.int .i64 c, .int .i64 d], .int .i64 p] w fun e w' => e = .returned (.bool true) ∧ Below w.heap.size w w' := by
  have hu23 := Try.underlying23
  have HN := Lib.hid (show hasB m0 m1 p = false by rw [meet_has a b c d p m0 m1 m2 hm, hx, hy]; rfl)
  have HM := Lib.hid hm
  have HX := Lib.hid hx
  have HY := Lib.hid hy
  have HJ := Lib.hid hj
  clear hm hx hy hj
  go_enter Try.func5, Try.ntmps5
  go_wp2_with fail
  refine (awake_at _).mono ?_
  rintro e w1 ⟨rfl, hb⟩
  have F1 : Hid (Fr w [(w.heap.size + 1, Obj.cells #[.int .i64 c, .int .i64 d] 23 (0, 0)), (w.heap.size, Obj.cells #[.int .i64 a, .int .i64 b] 23 (0, 0))] w1) := Lib.hid (by simpa using (((Fr.start w).alloc (.cells #[.int .i64 a, .int .i64 b] 23 (0, 0))).alloc (.cells #[.int .i64 c, .int .i64 d] 23 (0, 0))).below hb)
  clear hb
  have c1_0_0 : w1.cell? ⟨w.heap.size + 1, 0, none⟩ = some (.int .i64 c) := (F1.out.cell (t := 23) (cs := #[.int .i64 c, .int .i64 d]) (by simp) 0).trans rfl
  have c1_0_1 : w1.cell? ⟨w.heap.size + 1, 1, none⟩ = some (.int .i64 d) := (F1.out.cell (t := 23) (cs := #[.int .i64 c, .int .i64 d]) (by simp) 1).trans rfl
  have c1_1_0 : w1.cell? ⟨w.heap.size, 0, none⟩ = some (.int .i64 a) := (F1.out.cell (t := 23) (cs := #[.int .i64 a, .int .i64 b]) (by simp) 0).trans rfl
  have c1_1_1 : w1.cell? ⟨w.heap.size, 1, none⟩ = some (.int .i64 b) := (F1.out.cell (t := 23) (cs := #[.int .i64 a, .int .i64 b]) (by simp) 1).trans rfl
  go_wp2_with fail
  refine (meet_at _ HM.out).mono ?_
  rintro e w2 ⟨rfl, hb⟩
  have F2 := Lib.hid (F1.out.below hb)
  clear F1 c1_0_0 c1_0_1 c1_1_0 c1_1_1
  clear hb
  have c2_0_0 : (w2.alloc (.cells #[.int .i64 m0, .int .i64 m1] 23 (0, 0))).cell? ⟨w2.heap.size, 0, none⟩ = some (.int .i64 m0) := ((F2.out.alloc (.cells #[.int .i64 m0, .int .i64 m1] 23 (0, 0))).cell (t := 23) (cs := #[.int .i64 m0, .int .i64 m1]) (by simp) 0).trans rfl
  have c2_0_1 : (w2.alloc (.cells #[.int .i64 m0, .int .i64 m1] 23 (0, 0))).cell? ⟨w2.heap.size, 1, none⟩ = some (.int .i64 m1) := ((F2.out.alloc (.cells #[.int .i64 m0, .int .i64 m1] 23 (0, 0))).cell (t := 23) (cs := #[.int .i64 m0, .int .i64 m1]) (by simp) 1).trans rfl
  have c2_1_0 : (w2.alloc (.cells #[.int .i64 m0, .int .i64 m1] 23 (0, 0))).cell? ⟨w.heap.size + 1, 0, none⟩ = some (.int .i64 c) := ((F2.out.alloc (.cells #[.int .i64 m0, .int .i64 m1] 23 (0, 0))).cell (t := 23) (cs := #[.int .i64 c, .int .i64 d]) (by simp) 0).trans rfl
  have c2_1_1 : (w2.alloc (.cells #[.int .i64 m0, .int .i64 m1] 23 (0, 0))).cell? ⟨w.heap.size + 1, 1, none⟩ = some (.int .i64 d) := ((F2.out.alloc (.cells #[.int .i64 m0, .int .i64 m1] 23 (0, 0))).cell (t := 23) (cs := #[.int .i64 c, .int .i64 d]) (by simp) 1).trans rfl
  have c2_2_0 : (w2.alloc (.cells #[.int .i64 m0, .int .i64 m1] 23 (0, 0))).cell? ⟨w.heap.size, 0, none⟩ = some (.int .i64 a) := ((F2.out.alloc (.cells #[.int .i64 m0, .int .i64 m1] 23 (0, 0))).cell (t := 23) (cs := #[.int .i64 a, .int .i64 b]) (by simp) 0).trans rfl
  have c2_2_1 : (w2.alloc (.cells #[.int .i64 m0, .int .i64 m1] 23 (0, 0))).cell? ⟨w.heap.size, 1, none⟩ = some (.int .i64 b) := ((F2.out.alloc (.cells #[.int .i64 m0, .int .i64 m1] 23 (0, 0))).cell (t := 23) (cs := #[.int .i64 a, .int .i64 b]) (by simp) 1).trans rfl
  go_wp2_with fail
  refine (join_at _ HJ.out).mono ?_
  rintro e w3 ⟨rfl, hb⟩
  have F3 := Lib.hid ((F2.out.alloc (.cells #[.int .i64 m0, .int .i64 m1] 23 (0, 0))).below hb)
  clear F2 c2_0_0 c2_0_1 c2_1_0 c2_1_1 c2_2_0 c2_2_1
  clear hb
  have c3_0_0 : (w3.alloc (.cells #[.int .i64 j0, .int .i64 j1] 23 (0, 0))).cell? ⟨w3.heap.size, 0, none⟩ = some (.int .i64 j0) := ((F3.out.alloc (.cells #[.int .i64 j0, .int .i64 j1] 23 (0, 0))).cell (t := 23) (cs := #[.int .i64 j0, .int .i64 j1]) (by simp) 0).trans rfl
  have c3_0_1 : (w3.alloc (.cells #[.int .i64 j0, .int .i64 j1] 23 (0, 0))).cell? ⟨w3.heap.size, 1, none⟩ = some (.int .i64 j1) := ((F3.out.alloc (.cells #[.int .i64 j0, .int .i64 j1] 23 (0, 0))).cell (t := 23) (cs := #[.int .i64 j0, .int .i64 j1]) (by simp) 1).trans rfl
  have c3_1_0 : (w3.alloc (.cells #[.int .i64 j0, .int .i64 j1] 23 (0, 0))).cell? ⟨w2.heap.size, 0, none⟩ = some (.int .i64 m0) := ((F3.out.alloc (.cells #[.int .i64 j0, .int .i64 j1] 23 (0, 0))).cell (t := 23) (cs := #[.int .i64 m0, .int .i64 m1]) (by simp) 0).trans rfl
  have c3_1_1 : (w3.alloc (.cells #[.int .i64 j0, .int .i64 j1] 23 (0, 0))).cell? ⟨w2.heap.size, 1, none⟩ = some (.int .i64 m1) := ((F3.out.alloc (.cells #[.int .i64 j0, .int .i64 j1] 23 (0, 0))).cell (t := 23) (cs := #[.int .i64 m0, .int .i64 m1]) (by simp) 1).trans rfl
  have c3_2_0 : (w3.alloc (.cells #[.int .i64 j0, .int .i64 j1] 23 (0, 0))).cell? ⟨w.heap.size + 1, 0, none⟩ = some (.int .i64 c) := ((F3.out.alloc (.cells #[.int .i64 j0, .int .i64 j1] 23 (0, 0))).cell (t := 23) (cs := #[.int .i64 c, .int .i64 d]) (by simp) 0).trans rfl
  have c3_2_1 : (w3.alloc (.cells #[.int .i64 j0, .int .i64 j1] 23 (0, 0))).cell? ⟨w.heap.size + 1, 1, none⟩ = some (.int .i64 d) := ((F3.out.alloc (.cells #[.int .i64 j0, .int .i64 j1] 23 (0, 0))).cell (t := 23) (cs := #[.int .i64 c, .int .i64 d]) (by simp) 1).trans rfl
  have c3_3_0 : (w3.alloc (.cells #[.int .i64 j0, .int .i64 j1] 23 (0, 0))).cell? ⟨w.heap.size, 0, none⟩ = some (.int .i64 a) := ((F3.out.alloc (.cells #[.int .i64 j0, .int .i64 j1] 23 (0, 0))).cell (t := 23) (cs := #[.int .i64 a, .int .i64 b]) (by simp) 0).trans rfl
  have c3_3_1 : (w3.alloc (.cells #[.int .i64 j0, .int .i64 j1] 23 (0, 0))).cell? ⟨w.heap.size, 1, none⟩ = some (.int .i64 b) := ((F3.out.alloc (.cells #[.int .i64 j0, .int .i64 j1] 23 (0, 0))).cell (t := 23) (cs := #[.int .i64 a, .int .i64 b]) (by simp) 1).trans rfl
  have G3 := Lib.hid (F3.out.alloc (.cells #[.int .i64 j0, .int .i64 j1] 23 (0, 0)))
  clear F3
  have hS4 : ∀ W : World, Fr w [(w3.heap.size, Obj.cells #[.int .i64 j0, .int .i64 j1] 23 (0, 0)), (w2.heap.size, Obj.cells #[.int .i64 m0, .int .i64 m1] 23 (0, 0)), (w.heap.size + 1, Obj.cells #[.int .i64 c, .int .i64 d] 23 (0, 0)), (w.heap.size, Obj.cells #[.int .i64 a, .int .i64 b] 23 (0, 0))] W → (fun W : World => W.cell? ⟨w3.heap.size, 0, none⟩ = some (.int .i64 j0) ∧ W.cell? ⟨w3.heap.size, 1, none⟩ = some (.int .i64 j1) ∧ W.cell? ⟨w2.heap.size, 0, none⟩ = some (.int .i64 m0) ∧ W.cell? ⟨w2.heap.size, 1, none⟩ = some (.int .i64 m1) ∧ W.cell? ⟨w.heap.size + 1, 0, none⟩ = some (.int .i64 c) ∧ W.cell? ⟨w.heap.size + 1, 1, none⟩ = some (.int .i64 d) ∧ W.cell? ⟨w.heap.size, 0, none⟩ = some (.int .i64 a) ∧ W.cell? ⟨w.heap.size, 1, none⟩ = some (.int .i64 b) ∧ Hid (Fr w [(w3.heap.size, Obj.cells #[.int .i64 j0, .int .i64 j1] 23 (0, 0)), (w2.heap.size, Obj.cells #[.int .i64 m0, .int .i64 m1] 23 (0, 0)), (w.heap.size + 1, Obj.cells #[.int .i64 c, .int .i64 d] 23 (0, 0)), (w.heap.size, Obj.cells #[.int .i64 a, .int .i64 b] 23 (0, 0))] W)) W := fun W h => ⟨(h.cell (t := 23) (cs := #[.int .i64 j0, .int .i64 j1]) (by simp) 0).trans rfl, (h.cell (t := 23) (cs := #[.int .i64 j0, .int .i64 j1]) (by simp) 1).trans rfl, (h.cell (t := 23) (cs := #[.int .i64 m0, .int .i64 m1]) (by simp) 0).trans rfl, (h.cell (t := 23) (cs := #[.int .i64 m0, .int .i64 m1]) (by simp) 1).trans rfl, (h.cell (t := 23) (cs := #[.int .i64 c, .int .i64 d]) (by simp) 0).trans rfl, (h.cell (t := 23) (cs := #[.int .i64 c, .int .i64 d]) (by simp) 1).trans rfl, (h.cell (t := 23) (cs := #[.int .i64 a, .int .i64 b]) (by simp) 0).trans rfl, (h.cell (t := 23) (cs := #[.int .i64 a, .int .i64 b]) (by simp) 1).trans rfl, Lib.hid h⟩
  have HSb4 := Lib.hid (show ∀ W W' : World, (fun W : World => W.cell? ⟨w3.heap.size, 0, none⟩ = some (.int .i64 j0) ∧ W.cell? ⟨w3.heap.size, 1, none⟩ = some (.int .i64 j1) ∧ W.cell? ⟨w2.heap.size, 0, none⟩ = some (.int .i64 m0) ∧ W.cell? ⟨w2.heap.size, 1, none⟩ = some (.int .i64 m1) ∧ W.cell? ⟨w.heap.size + 1, 0, none⟩ = some (.int .i64 c) ∧ W.cell? ⟨w.heap.size + 1, 1, none⟩ = some (.int .i64 d) ∧ W.cell? ⟨w.heap.size, 0, none⟩ = some (.int .i64 a) ∧ W.cell? ⟨w.heap.size, 1, none⟩ = some (.int .i64 b) ∧ Hid (Fr w [(w3.heap.size, Obj.cells #[.int .i64 j0, .int .i64 j1] 23 (0, 0)), (w2.heap.size, Obj.cells #[.int .i64 m0, .int .i64 m1] 23 (0, 0)), (w.heap.size + 1, Obj.cells #[.int .i64 c, .int .i64 d] 23 (0, 0)), (w.heap.size, Obj.cells #[.int .i64 a, .int .i64 b] 23 (0, 0))] W)) W → Below W.heap.size W W' → (fun W : World => W.cell? ⟨w3.heap.size, 0, none⟩ = some (.int .i64 j0) ∧ W.cell? ⟨w3.heap.size, 1, none⟩ = some (.int .i64 j1) ∧ W.cell? ⟨w2.heap.size, 0, none⟩ = some (.int .i64 m0) ∧ W.cell? ⟨w2.heap.size, 1, none⟩ = some (.int .i64 m1) ∧ W.cell? ⟨w.heap.size + 1, 0, none⟩ = some (.int .i64 c) ∧ W.cell? ⟨w.heap.size + 1, 1, none⟩ = some (.int .i64 d) ∧ W.cell? ⟨w.heap.size, 0, none⟩ = some (.int .i64 a) ∧ W.cell? ⟨w.heap.size, 1, none⟩ = some (.int .i64 b) ∧ Hid (Fr w [(w3.heap.size, Obj.cells #[.int .i64 j0, .int .i64 j1] 23 (0, 0)), (w2.heap.size, Obj.cells #[.int .i64 m0, .int .i64 m1] 23 (0, 0)), (w.heap.size + 1, Obj.cells #[.int .i64 c, .int .i64 d] 23 (0, 0)), (w.heap.size, Obj.cells #[.int .i64 a, .int .i64 b] 23 (0, 0))] W)) W' from fun W W' h hb => hS4 _ (h.2.2.2.2.2.2.2.2.out.below hb))
  have HSd4 := Lib.hid (show ∀ W : World, (fun W : World => W.cell? ⟨w3.heap.size, 0, none⟩ = some (.int .i64 j0) ∧ W.cell? ⟨w3.heap.size, 1, none⟩ = some (.int .i64 j1) ∧ W.cell? ⟨w2.heap.size, 0, none⟩ = some (.int .i64 m0) ∧ W.cell? ⟨w2.heap.size, 1, none⟩ = some (.int .i64 m1) ∧ W.cell? ⟨w.heap.size + 1, 0, none⟩ = some (.int .i64 c) ∧ W.cell? ⟨w.heap.size + 1, 1, none⟩ = some (.int .i64 d) ∧ W.cell? ⟨w.heap.size, 0, none⟩ = some (.int .i64 a) ∧ W.cell? ⟨w.heap.size, 1, none⟩ = some (.int .i64 b) ∧ Hid (Fr w [(w3.heap.size, Obj.cells #[.int .i64 j0, .int .i64 j1] 23 (0, 0)), (w2.heap.size, Obj.cells #[.int .i64 m0, .int .i64 m1] 23 (0, 0)), (w.heap.size + 1, Obj.cells #[.int .i64 c, .int .i64 d] 23 (0, 0)), (w.heap.size, Obj.cells #[.int .i64 a, .int .i64 b] 23 (0, 0))] W)) W → (fun W : World => W.cell? ⟨w3.heap.size, 0, none⟩ = some (.int .i64 j0) ∧ W.cell? ⟨w3.heap.size, 1, none⟩ = some (.int .i64 j1) ∧ W.cell? ⟨w2.heap.size, 0, none⟩ = some (.int .i64 m0) ∧ W.cell? ⟨w2.heap.size, 1, none⟩ = some (.int .i64 m1) ∧ W.cell? ⟨w.heap.size + 1, 0, none⟩ = some (.int .i64 c) ∧ W.cell? ⟨w.heap.size + 1, 1, none⟩ = some (.int .i64 d) ∧ W.cell? ⟨w.heap.size, 0, none⟩ = some (.int .i64 a) ∧ W.cell? ⟨w.heap.size, 1, none⟩ = some (.int .i64 b) ∧ Hid (Fr w [(w3.heap.size, Obj.cells #[.int .i64 j0, .int .i64 j1] 23 (0, 0)), (w2.heap.size, Obj.cells #[.int .i64 m0, .int .i64 m1] 23 (0, 0)), (w.heap.size + 1, Obj.cells #[.int .i64 c, .int .i64 d] 23 (0, 0)), (w.heap.size, Obj.cells #[.int .i64 a, .int .i64 b] 23 (0, 0))] W)) W.drew from fun W h => hS4 _ (h.2.2.2.2.2.2.2.2.out.drew))
  have HSf4 := Lib.hid (show ∀ W W' : World, (fun W : World => W.cell? ⟨w3.heap.size, 0, none⟩ = some (.int .i64 j0) ∧ W.cell? ⟨w3.heap.size, 1, none⟩ = some (.int .i64 j1) ∧ W.cell? ⟨w2.heap.size, 0, none⟩ = some (.int .i64 m0) ∧ W.cell? ⟨w2.heap.size, 1, none⟩ = some (.int .i64 m1) ∧ W.cell? ⟨w.heap.size + 1, 0, none⟩ = some (.int .i64 c) ∧ W.cell? ⟨w.heap.size + 1, 1, none⟩ = some (.int .i64 d) ∧ W.cell? ⟨w.heap.size, 0, none⟩ = some (.int .i64 a) ∧ W.cell? ⟨w.heap.size, 1, none⟩ = some (.int .i64 b) ∧ Hid (Fr w [(w3.heap.size, Obj.cells #[.int .i64 j0, .int .i64 j1] 23 (0, 0)), (w2.heap.size, Obj.cells #[.int .i64 m0, .int .i64 m1] 23 (0, 0)), (w.heap.size + 1, Obj.cells #[.int .i64 c, .int .i64 d] 23 (0, 0)), (w.heap.size, Obj.cells #[.int .i64 a, .int .i64 b] 23 (0, 0))] W)) W → Below W.heap.size W W' → Fr w [(w3.heap.size, Obj.cells #[.int .i64 j0, .int .i64 j1] 23 (0, 0)), (w2.heap.size, Obj.cells #[.int .i64 m0, .int .i64 m1] 23 (0, 0)), (w.heap.size + 1, Obj.cells #[.int .i64 c, .int .i64 d] 23 (0, 0)), (w.heap.size, Obj.cells #[.int .i64 a, .int .i64 b] 23 (0, 0))] W' from fun W W' h hb => h.2.2.2.2.2.2.2.2.out.below hb)
  have HT4 := Lib.hid (hS4 _ (G3.out.drew))
  clear hS4
  go_wp2_with fail
  go_region_held3 (fun W : World => W.cell? ⟨w3.heap.size, 0, none⟩ = some (.int .i64 j0) ∧ W.cell? ⟨w3.heap.size, 1, none⟩ = some (.int .i64 j1) ∧ W.cell? ⟨w2.heap.size, 0, none⟩ = some (.int .i64 m0) ∧ W.cell? ⟨w2.heap.size, 1, none⟩ = some (.int .i64 m1) ∧ W.cell? ⟨w.heap.size + 1, 0, none⟩ = some (.int .i64 c) ∧ W.cell? ⟨w.heap.size + 1, 1, none⟩ = some (.int .i64 d) ∧ W.cell? ⟨w.heap.size, 0, none⟩ = some (.int .i64 a) ∧ W.cell? ⟨w.heap.size, 1, none⟩ = some (.int .i64 b) ∧ Hid (Fr w [(w3.heap.size, Obj.cells #[.int .i64 j0, .int .i64 j1] 23 (0, 0)), (w2.heap.size, Obj.cells #[.int .i64 m0, .int .i64 m1] 23 (0, 0)), (w.heap.size + 1, Obj.cells #[.int .i64 c, .int .i64 d] 23 (0, 0)), (w.heap.size, Obj.cells #[.int .i64 a, .int .i64 b] 23 (0, 0))] W)) (first | exact HSb4.out _ _ (by assumption) hb | exact HSd4.out _ (by assumption) | exact HT4.out | go_keep) (first | (go_at_call 14; ((with_reducible refine (has_at _ HX.out).mono ?_)); rintro e w' ⟨rfl, hb⟩) | (go_at_call 14; ((with_reducible refine (has_at _ HY.out).mono ?_)); rintro e w' ⟨rfl, hb⟩))
  go_wp2_with fail
  refine (has_at _ HN.out).mono ?_
  rintro e w5 ⟨rfl, hb⟩
  have F5 := Lib.hid (HSf4.out _ _ (by assumption) hb)
  clear hb
  have c5_0_0 : w5.cell? ⟨w3.heap.size, 0, none⟩ = some (.int .i64 j0) := (F5.out.cell (t := 23) (cs := #[.int .i64 j0, .int .i64 j1]) (by simp) 0).trans rfl
  have c5_0_1 : w5.cell? ⟨w3.heap.size, 1, none⟩ = some (.int .i64 j1) := (F5.out.cell (t := 23) (cs := #[.int .i64 j0, .int .i64 j1]) (by simp) 1).trans rfl
  have c5_1_0 : w5.cell? ⟨w2.heap.size, 0, none⟩ = some (.int .i64 m0) := (F5.out.cell (t := 23) (cs := #[.int .i64 m0, .int .i64 m1]) (by simp) 0).trans rfl
  have c5_1_1 : w5.cell? ⟨w2.heap.size, 1, none⟩ = some (.int .i64 m1) := (F5.out.cell (t := 23) (cs := #[.int .i64 m0, .int .i64 m1]) (by simp) 1).trans rfl
  have c5_2_0 : w5.cell? ⟨w.heap.size + 1, 0, none⟩ = some (.int .i64 c) := (F5.out.cell (t := 23) (cs := #[.int .i64 c, .int .i64 d]) (by simp) 0).trans rfl
  have c5_2_1 : w5.cell? ⟨w.heap.size + 1, 1, none⟩ = some (.int .i64 d) := (F5.out.cell (t := 23) (cs := #[.int .i64 c, .int .i64 d]) (by simp) 1).trans rfl
  have c5_3_0 : w5.cell? ⟨w.heap.size, 0, none⟩ = some (.int .i64 a) := (F5.out.cell (t := 23) (cs := #[.int .i64 a, .int .i64 b]) (by simp) 0).trans rfl
  have c5_3_1 : w5.cell? ⟨w.heap.size, 1, none⟩ = some (.int .i64 b) := (F5.out.cell (t := 23) (cs := #[.int .i64 a, .int .i64 b]) (by simp) 1).trans rfl
  go_wp2_with fail
  go_ret
  exact ⟨rfl, F5.out.bel⟩
set_option maxHeartbeats 4000000 in
set_option maxRecDepth 10000 in
theorem places_tf0t (a b c d p m0 m1 j0 j1 : Int) (m2 : Bool) (w : World) (hm : meetS a b c d = (m0, m1, m2)) (hj : joinE a b c d = (j0, j1, 0)) (hx : hasB a b p = true) (hy : hasB c d p = false) (hd : decide (65536 < j1) = true) :
    Calls Try.prog 5 #[.agg #[.int .i64 a, .int .i64 b], .agg #[.int .i64 c, .int .i64 d], .int .i64 p] w fun e w' => e = .returned (.bool true) ∧ Below w.heap.size w w' := by
  have hu23 := Try.underlying23
  have HN := Lib.hid (show hasB m0 m1 p = false by rw [meet_has a b c d p m0 m1 m2 hm, hx, hy]; rfl)
  have HM := Lib.hid hm
  have HX := Lib.hid hx
  have HY := Lib.hid hy
  have HJ := Lib.hid hj
  clear hm hx hy hj
  go_enter Try.func5, Try.ntmps5
  go_wp2_with fail
  refine (awake_at _).mono ?_
  rintro e w1 ⟨rfl, hb⟩
  have F1 : Hid (Fr w [(w.heap.size + 1, Obj.cells #[.int .i64 c, .int .i64 d] 23 (0, 0)), (w.heap.size, Obj.cells #[.int .i64 a, .int .i64 b] 23 (0, 0))] w1) := Lib.hid (by simpa using (((Fr.start w).alloc (.cells #[.int .i64 a, .int .i64 b] 23 (0, 0))).alloc (.cells #[.int .i64 c, .int .i64 d] 23 (0, 0))).below hb)
  clear hb
  have c1_0_0 : w1.cell? ⟨w.heap.size + 1, 0, none⟩ = some (.int .i64 c) := (F1.out.cell (t := 23) (cs := #[.int .i64 c, .int .i64 d]) (by simp) 0).trans rfl
  have c1_0_1 : w1.cell? ⟨w.heap.size + 1, 1, none⟩ = some (.int .i64 d) := (F1.out.cell (t := 23) (cs := #[.int .i64 c, .int .i64 d]) (by simp) 1).trans rfl
  have c1_1_0 : w1.cell? ⟨w.heap.size, 0, none⟩ = some (.int .i64 a) := (F1.out.cell (t := 23) (cs := #[.int .i64 a, .int .i64 b]) (by simp) 0).trans rfl
  have c1_1_1 : w1.cell? ⟨w.heap.size, 1, none⟩ = some (.int .i64 b) := (F1.out.cell (t := 23) (cs := #[.int .i64 a, .int .i64 b]) (by simp) 1).trans rfl
  go_wp2_with fail
  refine (meet_at _ HM.out).mono ?_
  rintro e w2 ⟨rfl, hb⟩
  have F2 := Lib.hid (F1.out.below hb)
  clear F1 c1_0_0 c1_0_1 c1_1_0 c1_1_1
  clear hb
  have c2_0_0 : (w2.alloc (.cells #[.int .i64 m0, .int .i64 m1] 23 (0, 0))).cell? ⟨w2.heap.size, 0, none⟩ = some (.int .i64 m0) := ((F2.out.alloc (.cells #[.int .i64 m0, .int .i64 m1] 23 (0, 0))).cell (t := 23) (cs := #[.int .i64 m0, .int .i64 m1]) (by simp) 0).trans rfl
  have c2_0_1 : (w2.alloc (.cells #[.int .i64 m0, .int .i64 m1] 23 (0, 0))).cell? ⟨w2.heap.size, 1, none⟩ = some (.int .i64 m1) := ((F2.out.alloc (.cells #[.int .i64 m0, .int .i64 m1] 23 (0, 0))).cell (t := 23) (cs := #[.int .i64 m0, .int .i64 m1]) (by simp) 1).trans rfl
  have c2_1_0 : (w2.alloc (.cells #[.int .i64 m0, .int .i64 m1] 23 (0, 0))).cell? ⟨w.heap.size + 1, 0, none⟩ = some (.int .i64 c) := ((F2.out.alloc (.cells #[.int .i64 m0, .int .i64 m1] 23 (0, 0))).cell (t := 23) (cs := #[.int .i64 c, .int .i64 d]) (by simp) 0).trans rfl
  have c2_1_1 : (w2.alloc (.cells #[.int .i64 m0, .int .i64 m1] 23 (0, 0))).cell? ⟨w.heap.size + 1, 1, none⟩ = some (.int .i64 d) := ((F2.out.alloc (.cells #[.int .i64 m0, .int .i64 m1] 23 (0, 0))).cell (t := 23) (cs := #[.int .i64 c, .int .i64 d]) (by simp) 1).trans rfl
  have c2_2_0 : (w2.alloc (.cells #[.int .i64 m0, .int .i64 m1] 23 (0, 0))).cell? ⟨w.heap.size, 0, none⟩ = some (.int .i64 a) := ((F2.out.alloc (.cells #[.int .i64 m0, .int .i64 m1] 23 (0, 0))).cell (t := 23) (cs := #[.int .i64 a, .int .i64 b]) (by simp) 0).trans rfl
  have c2_2_1 : (w2.alloc (.cells #[.int .i64 m0, .int .i64 m1] 23 (0, 0))).cell? ⟨w.heap.size, 1, none⟩ = some (.int .i64 b) := ((F2.out.alloc (.cells #[.int .i64 m0, .int .i64 m1] 23 (0, 0))).cell (t := 23) (cs := #[.int .i64 a, .int .i64 b]) (by simp) 1).trans rfl
  go_wp2_with fail
  refine (join_at _ HJ.out).mono ?_
  rintro e w3 ⟨rfl, hb⟩
  have F3 := Lib.hid ((F2.out.alloc (.cells #[.int .i64 m0, .int .i64 m1] 23 (0, 0))).below hb)
  clear F2 c2_0_0 c2_0_1 c2_1_0 c2_1_1 c2_2_0 c2_2_1
  clear hb
  have c3_0_0 : (w3.alloc (.cells #[.int .i64 j0, .int .i64 j1] 23 (0, 0))).cell? ⟨w3.heap.size, 0, none⟩ = some (.int .i64 j0) := ((F3.out.alloc (.cells #[.int .i64 j0, .int .i64 j1] 23 (0, 0))).cell (t := 23) (cs := #[.int .i64 j0, .int .i64 j1]) (by simp) 0).trans rfl
  have c3_0_1 : (w3.alloc (.cells #[.int .i64 j0, .int .i64 j1] 23 (0, 0))).cell? ⟨w3.heap.size, 1, none⟩ = some (.int .i64 j1) := ((F3.out.alloc (.cells #[.int .i64 j0, .int .i64 j1] 23 (0, 0))).cell (t := 23) (cs := #[.int .i64 j0, .int .i64 j1]) (by simp) 1).trans rfl
  have c3_1_0 : (w3.alloc (.cells #[.int .i64 j0, .int .i64 j1] 23 (0, 0))).cell? ⟨w2.heap.size, 0, none⟩ = some (.int .i64 m0) := ((F3.out.alloc (.cells #[.int .i64 j0, .int .i64 j1] 23 (0, 0))).cell (t := 23) (cs := #[.int .i64 m0, .int .i64 m1]) (by simp) 0).trans rfl
  have c3_1_1 : (w3.alloc (.cells #[.int .i64 j0, .int .i64 j1] 23 (0, 0))).cell? ⟨w2.heap.size, 1, none⟩ = some (.int .i64 m1) := ((F3.out.alloc (.cells #[.int .i64 j0, .int .i64 j1] 23 (0, 0))).cell (t := 23) (cs := #[.int .i64 m0, .int .i64 m1]) (by simp) 1).trans rfl
  have c3_2_0 : (w3.alloc (.cells #[.int .i64 j0, .int .i64 j1] 23 (0, 0))).cell? ⟨w.heap.size + 1, 0, none⟩ = some (.int .i64 c) := ((F3.out.alloc (.cells #[.int .i64 j0, .int .i64 j1] 23 (0, 0))).cell (t := 23) (cs := #[.int .i64 c, .int .i64 d]) (by simp) 0).trans rfl
  have c3_2_1 : (w3.alloc (.cells #[.int .i64 j0, .int .i64 j1] 23 (0, 0))).cell? ⟨w.heap.size + 1, 1, none⟩ = some (.int .i64 d) := ((F3.out.alloc (.cells #[.int .i64 j0, .int .i64 j1] 23 (0, 0))).cell (t := 23) (cs := #[.int .i64 c, .int .i64 d]) (by simp) 1).trans rfl
  have c3_3_0 : (w3.alloc (.cells #[.int .i64 j0, .int .i64 j1] 23 (0, 0))).cell? ⟨w.heap.size, 0, none⟩ = some (.int .i64 a) := ((F3.out.alloc (.cells #[.int .i64 j0, .int .i64 j1] 23 (0, 0))).cell (t := 23) (cs := #[.int .i64 a, .int .i64 b]) (by simp) 0).trans rfl
  have c3_3_1 : (w3.alloc (.cells #[.int .i64 j0, .int .i64 j1] 23 (0, 0))).cell? ⟨w.heap.size, 1, none⟩ = some (.int .i64 b) := ((F3.out.alloc (.cells #[.int .i64 j0, .int .i64 j1] 23 (0, 0))).cell (t := 23) (cs := #[.int .i64 a, .int .i64 b]) (by simp) 1).trans rfl
  have G3 := Lib.hid (F3.out.alloc (.cells #[.int .i64 j0, .int .i64 j1] 23 (0, 0)))
  clear F3
  have hS4 : ∀ W : World, Fr w [(w3.heap.size, Obj.cells #[.int .i64 j0, .int .i64 j1] 23 (0, 0)), (w2.heap.size, Obj.cells #[.int .i64 m0, .int .i64 m1] 23 (0, 0)), (w.heap.size + 1, Obj.cells #[.int .i64 c, .int .i64 d] 23 (0, 0)), (w.heap.size, Obj.cells #[.int .i64 a, .int .i64 b] 23 (0, 0))] W → (fun W : World => W.cell? ⟨w3.heap.size, 0, none⟩ = some (.int .i64 j0) ∧ W.cell? ⟨w3.heap.size, 1, none⟩ = some (.int .i64 j1) ∧ W.cell? ⟨w2.heap.size, 0, none⟩ = some (.int .i64 m0) ∧ W.cell? ⟨w2.heap.size, 1, none⟩ = some (.int .i64 m1) ∧ W.cell? ⟨w.heap.size + 1, 0, none⟩ = some (.int .i64 c) ∧ W.cell? ⟨w.heap.size + 1, 1, none⟩ = some (.int .i64 d) ∧ W.cell? ⟨w.heap.size, 0, none⟩ = some (.int .i64 a) ∧ W.cell? ⟨w.heap.size, 1, none⟩ = some (.int .i64 b) ∧ Hid (Fr w [(w3.heap.size, Obj.cells #[.int .i64 j0, .int .i64 j1] 23 (0, 0)), (w2.heap.size, Obj.cells #[.int .i64 m0, .int .i64 m1] 23 (0, 0)), (w.heap.size + 1, Obj.cells #[.int .i64 c, .int .i64 d] 23 (0, 0)), (w.heap.size, Obj.cells #[.int .i64 a, .int .i64 b] 23 (0, 0))] W)) W := fun W h => ⟨(h.cell (t := 23) (cs := #[.int .i64 j0, .int .i64 j1]) (by simp) 0).trans rfl, (h.cell (t := 23) (cs := #[.int .i64 j0, .int .i64 j1]) (by simp) 1).trans rfl, (h.cell (t := 23) (cs := #[.int .i64 m0, .int .i64 m1]) (by simp) 0).trans rfl, (h.cell (t := 23) (cs := #[.int .i64 m0, .int .i64 m1]) (by simp) 1).trans rfl, (h.cell (t := 23) (cs := #[.int .i64 c, .int .i64 d]) (by simp) 0).trans rfl, (h.cell (t := 23) (cs := #[.int .i64 c, .int .i64 d]) (by simp) 1).trans rfl, (h.cell (t := 23) (cs := #[.int .i64 a, .int .i64 b]) (by simp) 0).trans rfl, (h.cell (t := 23) (cs := #[.int .i64 a, .int .i64 b]) (by simp) 1).trans rfl, Lib.hid h⟩
  have HSb4 := Lib.hid (show ∀ W W' : World, (fun W : World => W.cell? ⟨w3.heap.size, 0, none⟩ = some (.int .i64 j0) ∧ W.cell? ⟨w3.heap.size, 1, none⟩ = some (.int .i64 j1) ∧ W.cell? ⟨w2.heap.size, 0, none⟩ = some (.int .i64 m0) ∧ W.cell? ⟨w2.heap.size, 1, none⟩ = some (.int .i64 m1) ∧ W.cell? ⟨w.heap.size + 1, 0, none⟩ = some (.int .i64 c) ∧ W.cell? ⟨w.heap.size + 1, 1, none⟩ = some (.int .i64 d) ∧ W.cell? ⟨w.heap.size, 0, none⟩ = some (.int .i64 a) ∧ W.cell? ⟨w.heap.size, 1, none⟩ = some (.int .i64 b) ∧ Hid (Fr w [(w3.heap.size, Obj.cells #[.int .i64 j0, .int .i64 j1] 23 (0, 0)), (w2.heap.size, Obj.cells #[.int .i64 m0, .int .i64 m1] 23 (0, 0)), (w.heap.size + 1, Obj.cells #[.int .i64 c, .int .i64 d] 23 (0, 0)), (w.heap.size, Obj.cells #[.int .i64 a, .int .i64 b] 23 (0, 0))] W)) W → Below W.heap.size W W' → (fun W : World => W.cell? ⟨w3.heap.size, 0, none⟩ = some (.int .i64 j0) ∧ W.cell? ⟨w3.heap.size, 1, none⟩ = some (.int .i64 j1) ∧ W.cell? ⟨w2.heap.size, 0, none⟩ = some (.int .i64 m0) ∧ W.cell? ⟨w2.heap.size, 1, none⟩ = some (.int .i64 m1) ∧ W.cell? ⟨w.heap.size + 1, 0, none⟩ = some (.int .i64 c) ∧ W.cell? ⟨w.heap.size + 1, 1, none⟩ = some (.int .i64 d) ∧ W.cell? ⟨w.heap.size, 0, none⟩ = some (.int .i64 a) ∧ W.cell? ⟨w.heap.size, 1, none⟩ = some (.int .i64 b) ∧ Hid (Fr w [(w3.heap.size, Obj.cells #[.int .i64 j0, .int .i64 j1] 23 (0, 0)), (w2.heap.size, Obj.cells #[.int .i64 m0, .int .i64 m1] 23 (0, 0)), (w.heap.size + 1, Obj.cells #[.int .i64 c, .int .i64 d] 23 (0, 0)), (w.heap.size, Obj.cells #[.int .i64 a, .int .i64 b] 23 (0, 0))] W)) W' from fun W W' h hb => hS4 _ (h.2.2.2.2.2.2.2.2.out.below hb))
  have HSd4 := Lib.hid (show ∀ W : World, (fun W : World => W.cell? ⟨w3.heap.size, 0, none⟩ = some (.int .i64 j0) ∧ W.cell? ⟨w3.heap.size, 1, none⟩ = some (.int .i64 j1) ∧ W.cell? ⟨w2.heap.size, 0, none⟩ = some (.int .i64 m0) ∧ W.cell? ⟨w2.heap.size, 1, none⟩ = some (.int .i64 m1) ∧ W.cell? ⟨w.heap.size + 1, 0, none⟩ = some (.int .i64 c) ∧ W.cell? ⟨w.heap.size + 1, 1, none⟩ = some (.int .i64 d) ∧ W.cell? ⟨w.heap.size, 0, none⟩ = some (.int .i64 a) ∧ W.cell? ⟨w.heap.size, 1, none⟩ = some (.int .i64 b) ∧ Hid (Fr w [(w3.heap.size, Obj.cells #[.int .i64 j0, .int .i64 j1] 23 (0, 0)), (w2.heap.size, Obj.cells #[.int .i64 m0, .int .i64 m1] 23 (0, 0)), (w.heap.size + 1, Obj.cells #[.int .i64 c, .int .i64 d] 23 (0, 0)), (w.heap.size, Obj.cells #[.int .i64 a, .int .i64 b] 23 (0, 0))] W)) W → (fun W : World => W.cell? ⟨w3.heap.size, 0, none⟩ = some (.int .i64 j0) ∧ W.cell? ⟨w3.heap.size, 1, none⟩ = some (.int .i64 j1) ∧ W.cell? ⟨w2.heap.size, 0, none⟩ = some (.int .i64 m0) ∧ W.cell? ⟨w2.heap.size, 1, none⟩ = some (.int .i64 m1) ∧ W.cell? ⟨w.heap.size + 1, 0, none⟩ = some (.int .i64 c) ∧ W.cell? ⟨w.heap.size + 1, 1, none⟩ = some (.int .i64 d) ∧ W.cell? ⟨w.heap.size, 0, none⟩ = some (.int .i64 a) ∧ W.cell? ⟨w.heap.size, 1, none⟩ = some (.int .i64 b) ∧ Hid (Fr w [(w3.heap.size, Obj.cells #[.int .i64 j0, .int .i64 j1] 23 (0, 0)), (w2.heap.size, Obj.cells #[.int .i64 m0, .int .i64 m1] 23 (0, 0)), (w.heap.size + 1, Obj.cells #[.int .i64 c, .int .i64 d] 23 (0, 0)), (w.heap.size, Obj.cells #[.int .i64 a, .int .i64 b] 23 (0, 0))] W)) W.drew from fun W h => hS4 _ (h.2.2.2.2.2.2.2.2.out.drew))
  have HSf4 := Lib.hid (show ∀ W W' : World, (fun W : World => W.cell? ⟨w3.heap.size, 0, none⟩ = some (.int .i64 j0) ∧ W.cell? ⟨w3.heap.size, 1, none⟩ = some (.int .i64 j1) ∧ W.cell? ⟨w2.heap.size, 0, none⟩ = some (.int .i64 m0) ∧ W.cell? ⟨w2.heap.size, 1, none⟩ = some (.int .i64 m1) ∧ W.cell? ⟨w.heap.size + 1, 0, none⟩ = some (.int .i64 c) ∧ W.cell? ⟨w.heap.size + 1, 1, none⟩ = some (.int .i64 d) ∧ W.cell? ⟨w.heap.size, 0, none⟩ = some (.int .i64 a) ∧ W.cell? ⟨w.heap.size, 1, none⟩ = some (.int .i64 b) ∧ Hid (Fr w [(w3.heap.size, Obj.cells #[.int .i64 j0, .int .i64 j1] 23 (0, 0)), (w2.heap.size, Obj.cells #[.int .i64 m0, .int .i64 m1] 23 (0, 0)), (w.heap.size + 1, Obj.cells #[.int .i64 c, .int .i64 d] 23 (0, 0)), (w.heap.size, Obj.cells #[.int .i64 a, .int .i64 b] 23 (0, 0))] W)) W → Below W.heap.size W W' → Fr w [(w3.heap.size, Obj.cells #[.int .i64 j0, .int .i64 j1] 23 (0, 0)), (w2.heap.size, Obj.cells #[.int .i64 m0, .int .i64 m1] 23 (0, 0)), (w.heap.size + 1, Obj.cells #[.int .i64 c, .int .i64 d] 23 (0, 0)), (w.heap.size, Obj.cells #[.int .i64 a, .int .i64 b] 23 (0, 0))] W' from fun W W' h hb => h.2.2.2.2.2.2.2.2.out.below hb)
  have HT4 := Lib.hid (hS4 _ (G3.out.drew))
  clear hS4
  go_wp2_with fail
  go_region_held3 (fun W : World => W.cell? ⟨w3.heap.size, 0, none⟩ = some (.int .i64 j0) ∧ W.cell? ⟨w3.heap.size, 1, none⟩ = some (.int .i64 j1) ∧ W.cell? ⟨w2.heap.size, 0, none⟩ = some (.int .i64 m0) ∧ W.cell? ⟨w2.heap.size, 1, none⟩ = some (.int .i64 m1) ∧ W.cell? ⟨w.heap.size + 1, 0, none⟩ = some (.int .i64 c) ∧ W.cell? ⟨w.heap.size + 1, 1, none⟩ = some (.int .i64 d) ∧ W.cell? ⟨w.heap.size, 0, none⟩ = some (.int .i64 a) ∧ W.cell? ⟨w.heap.size, 1, none⟩ = some (.int .i64 b) ∧ Hid (Fr w [(w3.heap.size, Obj.cells #[.int .i64 j0, .int .i64 j1] 23 (0, 0)), (w2.heap.size, Obj.cells #[.int .i64 m0, .int .i64 m1] 23 (0, 0)), (w.heap.size + 1, Obj.cells #[.int .i64 c, .int .i64 d] 23 (0, 0)), (w.heap.size, Obj.cells #[.int .i64 a, .int .i64 b] 23 (0, 0))] W)) (first | exact HSb4.out _ _ (by assumption) hb | exact HSd4.out _ (by assumption) | exact HT4.out | go_keep) (first | (go_at_call 14; ((with_reducible refine (has_at _ HX.out).mono ?_)); rintro e w' ⟨rfl, hb⟩) | (go_at_call 14; ((with_reducible refine (has_at _ HY.out).mono ?_)); rintro e w' ⟨rfl, hb⟩))
  go_wp2_with fail
  refine (has_at _ HN.out).mono ?_
  rintro e w5 ⟨rfl, hb⟩
  have F5 := Lib.hid (HSf4.out _ _ (by assumption) hb)
  clear hb
  have c5_0_0 : w5.cell? ⟨w3.heap.size, 0, none⟩ = some (.int .i64 j0) := (F5.out.cell (t := 23) (cs := #[.int .i64 j0, .int .i64 j1]) (by simp) 0).trans rfl
  have c5_0_1 : w5.cell? ⟨w3.heap.size, 1, none⟩ = some (.int .i64 j1) := (F5.out.cell (t := 23) (cs := #[.int .i64 j0, .int .i64 j1]) (by simp) 1).trans rfl
  have c5_1_0 : w5.cell? ⟨w2.heap.size, 0, none⟩ = some (.int .i64 m0) := (F5.out.cell (t := 23) (cs := #[.int .i64 m0, .int .i64 m1]) (by simp) 0).trans rfl
  have c5_1_1 : w5.cell? ⟨w2.heap.size, 1, none⟩ = some (.int .i64 m1) := (F5.out.cell (t := 23) (cs := #[.int .i64 m0, .int .i64 m1]) (by simp) 1).trans rfl
  have c5_2_0 : w5.cell? ⟨w.heap.size + 1, 0, none⟩ = some (.int .i64 c) := (F5.out.cell (t := 23) (cs := #[.int .i64 c, .int .i64 d]) (by simp) 0).trans rfl
  have c5_2_1 : w5.cell? ⟨w.heap.size + 1, 1, none⟩ = some (.int .i64 d) := (F5.out.cell (t := 23) (cs := #[.int .i64 c, .int .i64 d]) (by simp) 1).trans rfl
  have c5_3_0 : w5.cell? ⟨w.heap.size, 0, none⟩ = some (.int .i64 a) := (F5.out.cell (t := 23) (cs := #[.int .i64 a, .int .i64 b]) (by simp) 0).trans rfl
  have c5_3_1 : w5.cell? ⟨w.heap.size, 1, none⟩ = some (.int .i64 b) := (F5.out.cell (t := 23) (cs := #[.int .i64 a, .int .i64 b]) (by simp) 1).trans rfl
  go_wp2_with fail
  go_ret
  exact ⟨rfl, F5.out.bel⟩
set_option maxHeartbeats 4000000 in
set_option maxRecDepth 10000 in
theorem places_tf0f (a b c d p m0 m1 j0 j1 : Int) (m2 : Bool) (w : World) (hm : meetS a b c d = (m0, m1, m2)) (hj : joinE a b c d = (j0, j1, 0)) (hx : hasB a b p = true) (hy : hasB c d p = false) (hd : decide (65536 < j1) = false) :
    Calls Try.prog 5 #[.agg #[.int .i64 a, .int .i64 b], .agg #[.int .i64 c, .int .i64 d], .int .i64 p] w fun e w' => e = .returned (.bool true) ∧ Below w.heap.size w w' := by
  have hu23 := Try.underlying23
  have HN := Lib.hid (show hasB m0 m1 p = false by rw [meet_has a b c d p m0 m1 m2 hm, hx, hy]; rfl)
  have HM := Lib.hid hm
  have HX := Lib.hid hx
  have HY := Lib.hid hy
  have HH := Lib.hid (join_has a b c d p j0 j1 hj (by simpa using hd) (by rw [hx, hy]; rfl))
  have HJ := Lib.hid hj
  clear hm hx hy hj
  go_enter Try.func5, Try.ntmps5
  go_wp2_with fail
  refine (awake_at _).mono ?_
  rintro e w1 ⟨rfl, hb⟩
  have F1 : Hid (Fr w [(w.heap.size + 1, Obj.cells #[.int .i64 c, .int .i64 d] 23 (0, 0)), (w.heap.size, Obj.cells #[.int .i64 a, .int .i64 b] 23 (0, 0))] w1) := Lib.hid (by simpa using (((Fr.start w).alloc (.cells #[.int .i64 a, .int .i64 b] 23 (0, 0))).alloc (.cells #[.int .i64 c, .int .i64 d] 23 (0, 0))).below hb)
  clear hb
  have c1_0_0 : w1.cell? ⟨w.heap.size + 1, 0, none⟩ = some (.int .i64 c) := (F1.out.cell (t := 23) (cs := #[.int .i64 c, .int .i64 d]) (by simp) 0).trans rfl
  have c1_0_1 : w1.cell? ⟨w.heap.size + 1, 1, none⟩ = some (.int .i64 d) := (F1.out.cell (t := 23) (cs := #[.int .i64 c, .int .i64 d]) (by simp) 1).trans rfl
  have c1_1_0 : w1.cell? ⟨w.heap.size, 0, none⟩ = some (.int .i64 a) := (F1.out.cell (t := 23) (cs := #[.int .i64 a, .int .i64 b]) (by simp) 0).trans rfl
  have c1_1_1 : w1.cell? ⟨w.heap.size, 1, none⟩ = some (.int .i64 b) := (F1.out.cell (t := 23) (cs := #[.int .i64 a, .int .i64 b]) (by simp) 1).trans rfl
  go_wp2_with fail
  refine (meet_at _ HM.out).mono ?_
  rintro e w2 ⟨rfl, hb⟩
  have F2 := Lib.hid (F1.out.below hb)
  clear F1 c1_0_0 c1_0_1 c1_1_0 c1_1_1
  clear hb
  have c2_0_0 : (w2.alloc (.cells #[.int .i64 m0, .int .i64 m1] 23 (0, 0))).cell? ⟨w2.heap.size, 0, none⟩ = some (.int .i64 m0) := ((F2.out.alloc (.cells #[.int .i64 m0, .int .i64 m1] 23 (0, 0))).cell (t := 23) (cs := #[.int .i64 m0, .int .i64 m1]) (by simp) 0).trans rfl
  have c2_0_1 : (w2.alloc (.cells #[.int .i64 m0, .int .i64 m1] 23 (0, 0))).cell? ⟨w2.heap.size, 1, none⟩ = some (.int .i64 m1) := ((F2.out.alloc (.cells #[.int .i64 m0, .int .i64 m1] 23 (0, 0))).cell (t := 23) (cs := #[.int .i64 m0, .int .i64 m1]) (by simp) 1).trans rfl
  have c2_1_0 : (w2.alloc (.cells #[.int .i64 m0, .int .i64 m1] 23 (0, 0))).cell? ⟨w.heap.size + 1, 0, none⟩ = some (.int .i64 c) := ((F2.out.alloc (.cells #[.int .i64 m0, .int .i64 m1] 23 (0, 0))).cell (t := 23) (cs := #[.int .i64 c, .int .i64 d]) (by simp) 0).trans rfl
  have c2_1_1 : (w2.alloc (.cells #[.int .i64 m0, .int .i64 m1] 23 (0, 0))).cell? ⟨w.heap.size + 1, 1, none⟩ = some (.int .i64 d) := ((F2.out.alloc (.cells #[.int .i64 m0, .int .i64 m1] 23 (0, 0))).cell (t := 23) (cs := #[.int .i64 c, .int .i64 d]) (by simp) 1).trans rfl
  have c2_2_0 : (w2.alloc (.cells #[.int .i64 m0, .int .i64 m1] 23 (0, 0))).cell? ⟨w.heap.size, 0, none⟩ = some (.int .i64 a) := ((F2.out.alloc (.cells #[.int .i64 m0, .int .i64 m1] 23 (0, 0))).cell (t := 23) (cs := #[.int .i64 a, .int .i64 b]) (by simp) 0).trans rfl
  have c2_2_1 : (w2.alloc (.cells #[.int .i64 m0, .int .i64 m1] 23 (0, 0))).cell? ⟨w.heap.size, 1, none⟩ = some (.int .i64 b) := ((F2.out.alloc (.cells #[.int .i64 m0, .int .i64 m1] 23 (0, 0))).cell (t := 23) (cs := #[.int .i64 a, .int .i64 b]) (by simp) 1).trans rfl
  go_wp2_with fail
  refine (join_at _ HJ.out).mono ?_
  rintro e w3 ⟨rfl, hb⟩
  have F3 := Lib.hid ((F2.out.alloc (.cells #[.int .i64 m0, .int .i64 m1] 23 (0, 0))).below hb)
  clear F2 c2_0_0 c2_0_1 c2_1_0 c2_1_1 c2_2_0 c2_2_1
  clear hb
  have c3_0_0 : (w3.alloc (.cells #[.int .i64 j0, .int .i64 j1] 23 (0, 0))).cell? ⟨w3.heap.size, 0, none⟩ = some (.int .i64 j0) := ((F3.out.alloc (.cells #[.int .i64 j0, .int .i64 j1] 23 (0, 0))).cell (t := 23) (cs := #[.int .i64 j0, .int .i64 j1]) (by simp) 0).trans rfl
  have c3_0_1 : (w3.alloc (.cells #[.int .i64 j0, .int .i64 j1] 23 (0, 0))).cell? ⟨w3.heap.size, 1, none⟩ = some (.int .i64 j1) := ((F3.out.alloc (.cells #[.int .i64 j0, .int .i64 j1] 23 (0, 0))).cell (t := 23) (cs := #[.int .i64 j0, .int .i64 j1]) (by simp) 1).trans rfl
  have c3_1_0 : (w3.alloc (.cells #[.int .i64 j0, .int .i64 j1] 23 (0, 0))).cell? ⟨w2.heap.size, 0, none⟩ = some (.int .i64 m0) := ((F3.out.alloc (.cells #[.int .i64 j0, .int .i64 j1] 23 (0, 0))).cell (t := 23) (cs := #[.int .i64 m0, .int .i64 m1]) (by simp) 0).trans rfl
  have c3_1_1 : (w3.alloc (.cells #[.int .i64 j0, .int .i64 j1] 23 (0, 0))).cell? ⟨w2.heap.size, 1, none⟩ = some (.int .i64 m1) := ((F3.out.alloc (.cells #[.int .i64 j0, .int .i64 j1] 23 (0, 0))).cell (t := 23) (cs := #[.int .i64 m0, .int .i64 m1]) (by simp) 1).trans rfl
  have c3_2_0 : (w3.alloc (.cells #[.int .i64 j0, .int .i64 j1] 23 (0, 0))).cell? ⟨w.heap.size + 1, 0, none⟩ = some (.int .i64 c) := ((F3.out.alloc (.cells #[.int .i64 j0, .int .i64 j1] 23 (0, 0))).cell (t := 23) (cs := #[.int .i64 c, .int .i64 d]) (by simp) 0).trans rfl
  have c3_2_1 : (w3.alloc (.cells #[.int .i64 j0, .int .i64 j1] 23 (0, 0))).cell? ⟨w.heap.size + 1, 1, none⟩ = some (.int .i64 d) := ((F3.out.alloc (.cells #[.int .i64 j0, .int .i64 j1] 23 (0, 0))).cell (t := 23) (cs := #[.int .i64 c, .int .i64 d]) (by simp) 1).trans rfl
  have c3_3_0 : (w3.alloc (.cells #[.int .i64 j0, .int .i64 j1] 23 (0, 0))).cell? ⟨w.heap.size, 0, none⟩ = some (.int .i64 a) := ((F3.out.alloc (.cells #[.int .i64 j0, .int .i64 j1] 23 (0, 0))).cell (t := 23) (cs := #[.int .i64 a, .int .i64 b]) (by simp) 0).trans rfl
  have c3_3_1 : (w3.alloc (.cells #[.int .i64 j0, .int .i64 j1] 23 (0, 0))).cell? ⟨w.heap.size, 1, none⟩ = some (.int .i64 b) := ((F3.out.alloc (.cells #[.int .i64 j0, .int .i64 j1] 23 (0, 0))).cell (t := 23) (cs := #[.int .i64 a, .int .i64 b]) (by simp) 1).trans rfl
  have G3 := Lib.hid (F3.out.alloc (.cells #[.int .i64 j0, .int .i64 j1] 23 (0, 0)))
  clear F3
  have hS4 : ∀ W : World, Fr w [(w3.heap.size, Obj.cells #[.int .i64 j0, .int .i64 j1] 23 (0, 0)), (w2.heap.size, Obj.cells #[.int .i64 m0, .int .i64 m1] 23 (0, 0)), (w.heap.size + 1, Obj.cells #[.int .i64 c, .int .i64 d] 23 (0, 0)), (w.heap.size, Obj.cells #[.int .i64 a, .int .i64 b] 23 (0, 0))] W → (fun W : World => W.cell? ⟨w3.heap.size, 0, none⟩ = some (.int .i64 j0) ∧ W.cell? ⟨w3.heap.size, 1, none⟩ = some (.int .i64 j1) ∧ W.cell? ⟨w2.heap.size, 0, none⟩ = some (.int .i64 m0) ∧ W.cell? ⟨w2.heap.size, 1, none⟩ = some (.int .i64 m1) ∧ W.cell? ⟨w.heap.size + 1, 0, none⟩ = some (.int .i64 c) ∧ W.cell? ⟨w.heap.size + 1, 1, none⟩ = some (.int .i64 d) ∧ W.cell? ⟨w.heap.size, 0, none⟩ = some (.int .i64 a) ∧ W.cell? ⟨w.heap.size, 1, none⟩ = some (.int .i64 b) ∧ Hid (Fr w [(w3.heap.size, Obj.cells #[.int .i64 j0, .int .i64 j1] 23 (0, 0)), (w2.heap.size, Obj.cells #[.int .i64 m0, .int .i64 m1] 23 (0, 0)), (w.heap.size + 1, Obj.cells #[.int .i64 c, .int .i64 d] 23 (0, 0)), (w.heap.size, Obj.cells #[.int .i64 a, .int .i64 b] 23 (0, 0))] W)) W := fun W h => ⟨(h.cell (t := 23) (cs := #[.int .i64 j0, .int .i64 j1]) (by simp) 0).trans rfl, (h.cell (t := 23) (cs := #[.int .i64 j0, .int .i64 j1]) (by simp) 1).trans rfl, (h.cell (t := 23) (cs := #[.int .i64 m0, .int .i64 m1]) (by simp) 0).trans rfl, (h.cell (t := 23) (cs := #[.int .i64 m0, .int .i64 m1]) (by simp) 1).trans rfl, (h.cell (t := 23) (cs := #[.int .i64 c, .int .i64 d]) (by simp) 0).trans rfl, (h.cell (t := 23) (cs := #[.int .i64 c, .int .i64 d]) (by simp) 1).trans rfl, (h.cell (t := 23) (cs := #[.int .i64 a, .int .i64 b]) (by simp) 0).trans rfl, (h.cell (t := 23) (cs := #[.int .i64 a, .int .i64 b]) (by simp) 1).trans rfl, Lib.hid h⟩
  have HSb4 := Lib.hid (show ∀ W W' : World, (fun W : World => W.cell? ⟨w3.heap.size, 0, none⟩ = some (.int .i64 j0) ∧ W.cell? ⟨w3.heap.size, 1, none⟩ = some (.int .i64 j1) ∧ W.cell? ⟨w2.heap.size, 0, none⟩ = some (.int .i64 m0) ∧ W.cell? ⟨w2.heap.size, 1, none⟩ = some (.int .i64 m1) ∧ W.cell? ⟨w.heap.size + 1, 0, none⟩ = some (.int .i64 c) ∧ W.cell? ⟨w.heap.size + 1, 1, none⟩ = some (.int .i64 d) ∧ W.cell? ⟨w.heap.size, 0, none⟩ = some (.int .i64 a) ∧ W.cell? ⟨w.heap.size, 1, none⟩ = some (.int .i64 b) ∧ Hid (Fr w [(w3.heap.size, Obj.cells #[.int .i64 j0, .int .i64 j1] 23 (0, 0)), (w2.heap.size, Obj.cells #[.int .i64 m0, .int .i64 m1] 23 (0, 0)), (w.heap.size + 1, Obj.cells #[.int .i64 c, .int .i64 d] 23 (0, 0)), (w.heap.size, Obj.cells #[.int .i64 a, .int .i64 b] 23 (0, 0))] W)) W → Below W.heap.size W W' → (fun W : World => W.cell? ⟨w3.heap.size, 0, none⟩ = some (.int .i64 j0) ∧ W.cell? ⟨w3.heap.size, 1, none⟩ = some (.int .i64 j1) ∧ W.cell? ⟨w2.heap.size, 0, none⟩ = some (.int .i64 m0) ∧ W.cell? ⟨w2.heap.size, 1, none⟩ = some (.int .i64 m1) ∧ W.cell? ⟨w.heap.size + 1, 0, none⟩ = some (.int .i64 c) ∧ W.cell? ⟨w.heap.size + 1, 1, none⟩ = some (.int .i64 d) ∧ W.cell? ⟨w.heap.size, 0, none⟩ = some (.int .i64 a) ∧ W.cell? ⟨w.heap.size, 1, none⟩ = some (.int .i64 b) ∧ Hid (Fr w [(w3.heap.size, Obj.cells #[.int .i64 j0, .int .i64 j1] 23 (0, 0)), (w2.heap.size, Obj.cells #[.int .i64 m0, .int .i64 m1] 23 (0, 0)), (w.heap.size + 1, Obj.cells #[.int .i64 c, .int .i64 d] 23 (0, 0)), (w.heap.size, Obj.cells #[.int .i64 a, .int .i64 b] 23 (0, 0))] W)) W' from fun W W' h hb => hS4 _ (h.2.2.2.2.2.2.2.2.out.below hb))
  have HSd4 := Lib.hid (show ∀ W : World, (fun W : World => W.cell? ⟨w3.heap.size, 0, none⟩ = some (.int .i64 j0) ∧ W.cell? ⟨w3.heap.size, 1, none⟩ = some (.int .i64 j1) ∧ W.cell? ⟨w2.heap.size, 0, none⟩ = some (.int .i64 m0) ∧ W.cell? ⟨w2.heap.size, 1, none⟩ = some (.int .i64 m1) ∧ W.cell? ⟨w.heap.size + 1, 0, none⟩ = some (.int .i64 c) ∧ W.cell? ⟨w.heap.size + 1, 1, none⟩ = some (.int .i64 d) ∧ W.cell? ⟨w.heap.size, 0, none⟩ = some (.int .i64 a) ∧ W.cell? ⟨w.heap.size, 1, none⟩ = some (.int .i64 b) ∧ Hid (Fr w [(w3.heap.size, Obj.cells #[.int .i64 j0, .int .i64 j1] 23 (0, 0)), (w2.heap.size, Obj.cells #[.int .i64 m0, .int .i64 m1] 23 (0, 0)), (w.heap.size + 1, Obj.cells #[.int .i64 c, .int .i64 d] 23 (0, 0)), (w.heap.size, Obj.cells #[.int .i64 a, .int .i64 b] 23 (0, 0))] W)) W → (fun W : World => W.cell? ⟨w3.heap.size, 0, none⟩ = some (.int .i64 j0) ∧ W.cell? ⟨w3.heap.size, 1, none⟩ = some (.int .i64 j1) ∧ W.cell? ⟨w2.heap.size, 0, none⟩ = some (.int .i64 m0) ∧ W.cell? ⟨w2.heap.size, 1, none⟩ = some (.int .i64 m1) ∧ W.cell? ⟨w.heap.size + 1, 0, none⟩ = some (.int .i64 c) ∧ W.cell? ⟨w.heap.size + 1, 1, none⟩ = some (.int .i64 d) ∧ W.cell? ⟨w.heap.size, 0, none⟩ = some (.int .i64 a) ∧ W.cell? ⟨w.heap.size, 1, none⟩ = some (.int .i64 b) ∧ Hid (Fr w [(w3.heap.size, Obj.cells #[.int .i64 j0, .int .i64 j1] 23 (0, 0)), (w2.heap.size, Obj.cells #[.int .i64 m0, .int .i64 m1] 23 (0, 0)), (w.heap.size + 1, Obj.cells #[.int .i64 c, .int .i64 d] 23 (0, 0)), (w.heap.size, Obj.cells #[.int .i64 a, .int .i64 b] 23 (0, 0))] W)) W.drew from fun W h => hS4 _ (h.2.2.2.2.2.2.2.2.out.drew))
  have HSf4 := Lib.hid (show ∀ W W' : World, (fun W : World => W.cell? ⟨w3.heap.size, 0, none⟩ = some (.int .i64 j0) ∧ W.cell? ⟨w3.heap.size, 1, none⟩ = some (.int .i64 j1) ∧ W.cell? ⟨w2.heap.size, 0, none⟩ = some (.int .i64 m0) ∧ W.cell? ⟨w2.heap.size, 1, none⟩ = some (.int .i64 m1) ∧ W.cell? ⟨w.heap.size + 1, 0, none⟩ = some (.int .i64 c) ∧ W.cell? ⟨w.heap.size + 1, 1, none⟩ = some (.int .i64 d) ∧ W.cell? ⟨w.heap.size, 0, none⟩ = some (.int .i64 a) ∧ W.cell? ⟨w.heap.size, 1, none⟩ = some (.int .i64 b) ∧ Hid (Fr w [(w3.heap.size, Obj.cells #[.int .i64 j0, .int .i64 j1] 23 (0, 0)), (w2.heap.size, Obj.cells #[.int .i64 m0, .int .i64 m1] 23 (0, 0)), (w.heap.size + 1, Obj.cells #[.int .i64 c, .int .i64 d] 23 (0, 0)), (w.heap.size, Obj.cells #[.int .i64 a, .int .i64 b] 23 (0, 0))] W)) W → Below W.heap.size W W' → Fr w [(w3.heap.size, Obj.cells #[.int .i64 j0, .int .i64 j1] 23 (0, 0)), (w2.heap.size, Obj.cells #[.int .i64 m0, .int .i64 m1] 23 (0, 0)), (w.heap.size + 1, Obj.cells #[.int .i64 c, .int .i64 d] 23 (0, 0)), (w.heap.size, Obj.cells #[.int .i64 a, .int .i64 b] 23 (0, 0))] W' from fun W W' h hb => h.2.2.2.2.2.2.2.2.out.below hb)
  have HT4 := Lib.hid (hS4 _ (G3.out.drew))
  clear hS4
  go_wp2_with fail
  go_region_held3 (fun W : World => W.cell? ⟨w3.heap.size, 0, none⟩ = some (.int .i64 j0) ∧ W.cell? ⟨w3.heap.size, 1, none⟩ = some (.int .i64 j1) ∧ W.cell? ⟨w2.heap.size, 0, none⟩ = some (.int .i64 m0) ∧ W.cell? ⟨w2.heap.size, 1, none⟩ = some (.int .i64 m1) ∧ W.cell? ⟨w.heap.size + 1, 0, none⟩ = some (.int .i64 c) ∧ W.cell? ⟨w.heap.size + 1, 1, none⟩ = some (.int .i64 d) ∧ W.cell? ⟨w.heap.size, 0, none⟩ = some (.int .i64 a) ∧ W.cell? ⟨w.heap.size, 1, none⟩ = some (.int .i64 b) ∧ Hid (Fr w [(w3.heap.size, Obj.cells #[.int .i64 j0, .int .i64 j1] 23 (0, 0)), (w2.heap.size, Obj.cells #[.int .i64 m0, .int .i64 m1] 23 (0, 0)), (w.heap.size + 1, Obj.cells #[.int .i64 c, .int .i64 d] 23 (0, 0)), (w.heap.size, Obj.cells #[.int .i64 a, .int .i64 b] 23 (0, 0))] W)) (first | exact HSb4.out _ _ (by assumption) hb | exact HSd4.out _ (by assumption) | exact HT4.out | go_keep) (first | (go_at_call 14; ((with_reducible refine (has_at _ HX.out).mono ?_)); rintro e w' ⟨rfl, hb⟩) | (go_at_call 14; ((with_reducible refine (has_at _ HY.out).mono ?_)); rintro e w' ⟨rfl, hb⟩))
  go_wp2_with fail
  refine (has_at _ HN.out).mono ?_
  rintro e w5 ⟨rfl, hb⟩
  have F5 := Lib.hid (HSf4.out _ _ (by assumption) hb)
  clear hb
  have c5_0_0 : w5.cell? ⟨w3.heap.size, 0, none⟩ = some (.int .i64 j0) := (F5.out.cell (t := 23) (cs := #[.int .i64 j0, .int .i64 j1]) (by simp) 0).trans rfl
  have c5_0_1 : w5.cell? ⟨w3.heap.size, 1, none⟩ = some (.int .i64 j1) := (F5.out.cell (t := 23) (cs := #[.int .i64 j0, .int .i64 j1]) (by simp) 1).trans rfl
  have c5_1_0 : w5.cell? ⟨w2.heap.size, 0, none⟩ = some (.int .i64 m0) := (F5.out.cell (t := 23) (cs := #[.int .i64 m0, .int .i64 m1]) (by simp) 0).trans rfl
  have c5_1_1 : w5.cell? ⟨w2.heap.size, 1, none⟩ = some (.int .i64 m1) := (F5.out.cell (t := 23) (cs := #[.int .i64 m0, .int .i64 m1]) (by simp) 1).trans rfl
  have c5_2_0 : w5.cell? ⟨w.heap.size + 1, 0, none⟩ = some (.int .i64 c) := (F5.out.cell (t := 23) (cs := #[.int .i64 c, .int .i64 d]) (by simp) 0).trans rfl
  have c5_2_1 : w5.cell? ⟨w.heap.size + 1, 1, none⟩ = some (.int .i64 d) := (F5.out.cell (t := 23) (cs := #[.int .i64 c, .int .i64 d]) (by simp) 1).trans rfl
  have c5_3_0 : w5.cell? ⟨w.heap.size, 0, none⟩ = some (.int .i64 a) := (F5.out.cell (t := 23) (cs := #[.int .i64 a, .int .i64 b]) (by simp) 0).trans rfl
  have c5_3_1 : w5.cell? ⟨w.heap.size, 1, none⟩ = some (.int .i64 b) := (F5.out.cell (t := 23) (cs := #[.int .i64 a, .int .i64 b]) (by simp) 1).trans rfl
  go_wp2_with fail
  refine (has_at _ HH.out).mono ?_
  rintro e w6 ⟨rfl, hb⟩
  have F6 := Lib.hid (F5.out.below hb)
  clear F5 c5_0_0 c5_0_1 c5_1_0 c5_1_1 c5_2_0 c5_2_1 c5_3_0 c5_3_1
  clear hb
  have c6_0_0 : w6.cell? ⟨w3.heap.size, 0, none⟩ = some (.int .i64 j0) := (F6.out.cell (t := 23) (cs := #[.int .i64 j0, .int .i64 j1]) (by simp) 0).trans rfl
  have c6_0_1 : w6.cell? ⟨w3.heap.size, 1, none⟩ = some (.int .i64 j1) := (F6.out.cell (t := 23) (cs := #[.int .i64 j0, .int .i64 j1]) (by simp) 1).trans rfl
  have c6_1_0 : w6.cell? ⟨w2.heap.size, 0, none⟩ = some (.int .i64 m0) := (F6.out.cell (t := 23) (cs := #[.int .i64 m0, .int .i64 m1]) (by simp) 0).trans rfl
  have c6_1_1 : w6.cell? ⟨w2.heap.size, 1, none⟩ = some (.int .i64 m1) := (F6.out.cell (t := 23) (cs := #[.int .i64 m0, .int .i64 m1]) (by simp) 1).trans rfl
  have c6_2_0 : w6.cell? ⟨w.heap.size + 1, 0, none⟩ = some (.int .i64 c) := (F6.out.cell (t := 23) (cs := #[.int .i64 c, .int .i64 d]) (by simp) 0).trans rfl
  have c6_2_1 : w6.cell? ⟨w.heap.size + 1, 1, none⟩ = some (.int .i64 d) := (F6.out.cell (t := 23) (cs := #[.int .i64 c, .int .i64 d]) (by simp) 1).trans rfl
  have c6_3_0 : w6.cell? ⟨w.heap.size, 0, none⟩ = some (.int .i64 a) := (F6.out.cell (t := 23) (cs := #[.int .i64 a, .int .i64 b]) (by simp) 0).trans rfl
  have c6_3_1 : w6.cell? ⟨w.heap.size, 1, none⟩ = some (.int .i64 b) := (F6.out.cell (t := 23) (cs := #[.int .i64 a, .int .i64 b]) (by simp) 1).trans rfl
  go_wp2_with fail
  go_ret
  exact ⟨rfl, F6.out.bel⟩
set_option maxHeartbeats 4000000 in
set_option maxRecDepth 10000 in
theorem places_ft2 (a b c d p m0 m1 j0 j1 : Int) (m2 : Bool) (w : World) (hm : meetS a b c d = (m0, m1, m2)) (hj : joinE a b c d = (j0, j1, 2)) (hx : hasB a b p = false) (hy : hasB c d p = true) :
    Calls Try.prog 5 #[.agg #[.int .i64 a, .int .i64 b], .agg #[.int .i64 c, .int .i64 d], .int .i64 p] w fun e w' => e = .returned (.bool true) ∧ Below w.heap.size w w' := by
  have hu23 := Try.underlying23
  have HN := Lib.hid (show hasB m0 m1 p = false by rw [meet_has a b c d p m0 m1 m2 hm, hx, hy]; rfl)
  have HM := Lib.hid hm
  have HX := Lib.hid hx
  have HY := Lib.hid hy
  have HJ := Lib.hid hj
  clear hm hx hy hj
  go_enter Try.func5, Try.ntmps5
  go_wp2_with fail
  refine (awake_at _).mono ?_
  rintro e w1 ⟨rfl, hb⟩
  have F1 : Hid (Fr w [(w.heap.size + 1, Obj.cells #[.int .i64 c, .int .i64 d] 23 (0, 0)), (w.heap.size, Obj.cells #[.int .i64 a, .int .i64 b] 23 (0, 0))] w1) := Lib.hid (by simpa using (((Fr.start w).alloc (.cells #[.int .i64 a, .int .i64 b] 23 (0, 0))).alloc (.cells #[.int .i64 c, .int .i64 d] 23 (0, 0))).below hb)
  clear hb
  have c1_0_0 : w1.cell? ⟨w.heap.size + 1, 0, none⟩ = some (.int .i64 c) := (F1.out.cell (t := 23) (cs := #[.int .i64 c, .int .i64 d]) (by simp) 0).trans rfl
  have c1_0_1 : w1.cell? ⟨w.heap.size + 1, 1, none⟩ = some (.int .i64 d) := (F1.out.cell (t := 23) (cs := #[.int .i64 c, .int .i64 d]) (by simp) 1).trans rfl
  have c1_1_0 : w1.cell? ⟨w.heap.size, 0, none⟩ = some (.int .i64 a) := (F1.out.cell (t := 23) (cs := #[.int .i64 a, .int .i64 b]) (by simp) 0).trans rfl
  have c1_1_1 : w1.cell? ⟨w.heap.size, 1, none⟩ = some (.int .i64 b) := (F1.out.cell (t := 23) (cs := #[.int .i64 a, .int .i64 b]) (by simp) 1).trans rfl
  go_wp2_with fail
  refine (meet_at _ HM.out).mono ?_
  rintro e w2 ⟨rfl, hb⟩
  have F2 := Lib.hid (F1.out.below hb)
  clear F1 c1_0_0 c1_0_1 c1_1_0 c1_1_1
  clear hb
  have c2_0_0 : (w2.alloc (.cells #[.int .i64 m0, .int .i64 m1] 23 (0, 0))).cell? ⟨w2.heap.size, 0, none⟩ = some (.int .i64 m0) := ((F2.out.alloc (.cells #[.int .i64 m0, .int .i64 m1] 23 (0, 0))).cell (t := 23) (cs := #[.int .i64 m0, .int .i64 m1]) (by simp) 0).trans rfl
  have c2_0_1 : (w2.alloc (.cells #[.int .i64 m0, .int .i64 m1] 23 (0, 0))).cell? ⟨w2.heap.size, 1, none⟩ = some (.int .i64 m1) := ((F2.out.alloc (.cells #[.int .i64 m0, .int .i64 m1] 23 (0, 0))).cell (t := 23) (cs := #[.int .i64 m0, .int .i64 m1]) (by simp) 1).trans rfl
  have c2_1_0 : (w2.alloc (.cells #[.int .i64 m0, .int .i64 m1] 23 (0, 0))).cell? ⟨w.heap.size + 1, 0, none⟩ = some (.int .i64 c) := ((F2.out.alloc (.cells #[.int .i64 m0, .int .i64 m1] 23 (0, 0))).cell (t := 23) (cs := #[.int .i64 c, .int .i64 d]) (by simp) 0).trans rfl
  have c2_1_1 : (w2.alloc (.cells #[.int .i64 m0, .int .i64 m1] 23 (0, 0))).cell? ⟨w.heap.size + 1, 1, none⟩ = some (.int .i64 d) := ((F2.out.alloc (.cells #[.int .i64 m0, .int .i64 m1] 23 (0, 0))).cell (t := 23) (cs := #[.int .i64 c, .int .i64 d]) (by simp) 1).trans rfl
  have c2_2_0 : (w2.alloc (.cells #[.int .i64 m0, .int .i64 m1] 23 (0, 0))).cell? ⟨w.heap.size, 0, none⟩ = some (.int .i64 a) := ((F2.out.alloc (.cells #[.int .i64 m0, .int .i64 m1] 23 (0, 0))).cell (t := 23) (cs := #[.int .i64 a, .int .i64 b]) (by simp) 0).trans rfl
  have c2_2_1 : (w2.alloc (.cells #[.int .i64 m0, .int .i64 m1] 23 (0, 0))).cell? ⟨w.heap.size, 1, none⟩ = some (.int .i64 b) := ((F2.out.alloc (.cells #[.int .i64 m0, .int .i64 m1] 23 (0, 0))).cell (t := 23) (cs := #[.int .i64 a, .int .i64 b]) (by simp) 1).trans rfl
  go_wp2_with fail
  refine (join_at _ HJ.out).mono ?_
  rintro e w3 ⟨rfl, hb⟩
  have F3 := Lib.hid ((F2.out.alloc (.cells #[.int .i64 m0, .int .i64 m1] 23 (0, 0))).below hb)
  clear F2 c2_0_0 c2_0_1 c2_1_0 c2_1_1 c2_2_0 c2_2_1
  clear hb
  have c3_0_0 : (w3.alloc (.cells #[.int .i64 j0, .int .i64 j1] 23 (0, 0))).cell? ⟨w3.heap.size, 0, none⟩ = some (.int .i64 j0) := ((F3.out.alloc (.cells #[.int .i64 j0, .int .i64 j1] 23 (0, 0))).cell (t := 23) (cs := #[.int .i64 j0, .int .i64 j1]) (by simp) 0).trans rfl
  have c3_0_1 : (w3.alloc (.cells #[.int .i64 j0, .int .i64 j1] 23 (0, 0))).cell? ⟨w3.heap.size, 1, none⟩ = some (.int .i64 j1) := ((F3.out.alloc (.cells #[.int .i64 j0, .int .i64 j1] 23 (0, 0))).cell (t := 23) (cs := #[.int .i64 j0, .int .i64 j1]) (by simp) 1).trans rfl
  have c3_1_0 : (w3.alloc (.cells #[.int .i64 j0, .int .i64 j1] 23 (0, 0))).cell? ⟨w2.heap.size, 0, none⟩ = some (.int .i64 m0) := ((F3.out.alloc (.cells #[.int .i64 j0, .int .i64 j1] 23 (0, 0))).cell (t := 23) (cs := #[.int .i64 m0, .int .i64 m1]) (by simp) 0).trans rfl
  have c3_1_1 : (w3.alloc (.cells #[.int .i64 j0, .int .i64 j1] 23 (0, 0))).cell? ⟨w2.heap.size, 1, none⟩ = some (.int .i64 m1) := ((F3.out.alloc (.cells #[.int .i64 j0, .int .i64 j1] 23 (0, 0))).cell (t := 23) (cs := #[.int .i64 m0, .int .i64 m1]) (by simp) 1).trans rfl
  have c3_2_0 : (w3.alloc (.cells #[.int .i64 j0, .int .i64 j1] 23 (0, 0))).cell? ⟨w.heap.size + 1, 0, none⟩ = some (.int .i64 c) := ((F3.out.alloc (.cells #[.int .i64 j0, .int .i64 j1] 23 (0, 0))).cell (t := 23) (cs := #[.int .i64 c, .int .i64 d]) (by simp) 0).trans rfl
  have c3_2_1 : (w3.alloc (.cells #[.int .i64 j0, .int .i64 j1] 23 (0, 0))).cell? ⟨w.heap.size + 1, 1, none⟩ = some (.int .i64 d) := ((F3.out.alloc (.cells #[.int .i64 j0, .int .i64 j1] 23 (0, 0))).cell (t := 23) (cs := #[.int .i64 c, .int .i64 d]) (by simp) 1).trans rfl
  have c3_3_0 : (w3.alloc (.cells #[.int .i64 j0, .int .i64 j1] 23 (0, 0))).cell? ⟨w.heap.size, 0, none⟩ = some (.int .i64 a) := ((F3.out.alloc (.cells #[.int .i64 j0, .int .i64 j1] 23 (0, 0))).cell (t := 23) (cs := #[.int .i64 a, .int .i64 b]) (by simp) 0).trans rfl
  have c3_3_1 : (w3.alloc (.cells #[.int .i64 j0, .int .i64 j1] 23 (0, 0))).cell? ⟨w.heap.size, 1, none⟩ = some (.int .i64 b) := ((F3.out.alloc (.cells #[.int .i64 j0, .int .i64 j1] 23 (0, 0))).cell (t := 23) (cs := #[.int .i64 a, .int .i64 b]) (by simp) 1).trans rfl
  have G3 := Lib.hid (F3.out.alloc (.cells #[.int .i64 j0, .int .i64 j1] 23 (0, 0)))
  clear F3
  have hS4 : ∀ W : World, Fr w [(w3.heap.size, Obj.cells #[.int .i64 j0, .int .i64 j1] 23 (0, 0)), (w2.heap.size, Obj.cells #[.int .i64 m0, .int .i64 m1] 23 (0, 0)), (w.heap.size + 1, Obj.cells #[.int .i64 c, .int .i64 d] 23 (0, 0)), (w.heap.size, Obj.cells #[.int .i64 a, .int .i64 b] 23 (0, 0))] W → (fun W : World => W.cell? ⟨w3.heap.size, 0, none⟩ = some (.int .i64 j0) ∧ W.cell? ⟨w3.heap.size, 1, none⟩ = some (.int .i64 j1) ∧ W.cell? ⟨w2.heap.size, 0, none⟩ = some (.int .i64 m0) ∧ W.cell? ⟨w2.heap.size, 1, none⟩ = some (.int .i64 m1) ∧ W.cell? ⟨w.heap.size + 1, 0, none⟩ = some (.int .i64 c) ∧ W.cell? ⟨w.heap.size + 1, 1, none⟩ = some (.int .i64 d) ∧ W.cell? ⟨w.heap.size, 0, none⟩ = some (.int .i64 a) ∧ W.cell? ⟨w.heap.size, 1, none⟩ = some (.int .i64 b) ∧ Hid (Fr w [(w3.heap.size, Obj.cells #[.int .i64 j0, .int .i64 j1] 23 (0, 0)), (w2.heap.size, Obj.cells #[.int .i64 m0, .int .i64 m1] 23 (0, 0)), (w.heap.size + 1, Obj.cells #[.int .i64 c, .int .i64 d] 23 (0, 0)), (w.heap.size, Obj.cells #[.int .i64 a, .int .i64 b] 23 (0, 0))] W)) W := fun W h => ⟨(h.cell (t := 23) (cs := #[.int .i64 j0, .int .i64 j1]) (by simp) 0).trans rfl, (h.cell (t := 23) (cs := #[.int .i64 j0, .int .i64 j1]) (by simp) 1).trans rfl, (h.cell (t := 23) (cs := #[.int .i64 m0, .int .i64 m1]) (by simp) 0).trans rfl, (h.cell (t := 23) (cs := #[.int .i64 m0, .int .i64 m1]) (by simp) 1).trans rfl, (h.cell (t := 23) (cs := #[.int .i64 c, .int .i64 d]) (by simp) 0).trans rfl, (h.cell (t := 23) (cs := #[.int .i64 c, .int .i64 d]) (by simp) 1).trans rfl, (h.cell (t := 23) (cs := #[.int .i64 a, .int .i64 b]) (by simp) 0).trans rfl, (h.cell (t := 23) (cs := #[.int .i64 a, .int .i64 b]) (by simp) 1).trans rfl, Lib.hid h⟩
  have HSb4 := Lib.hid (show ∀ W W' : World, (fun W : World => W.cell? ⟨w3.heap.size, 0, none⟩ = some (.int .i64 j0) ∧ W.cell? ⟨w3.heap.size, 1, none⟩ = some (.int .i64 j1) ∧ W.cell? ⟨w2.heap.size, 0, none⟩ = some (.int .i64 m0) ∧ W.cell? ⟨w2.heap.size, 1, none⟩ = some (.int .i64 m1) ∧ W.cell? ⟨w.heap.size + 1, 0, none⟩ = some (.int .i64 c) ∧ W.cell? ⟨w.heap.size + 1, 1, none⟩ = some (.int .i64 d) ∧ W.cell? ⟨w.heap.size, 0, none⟩ = some (.int .i64 a) ∧ W.cell? ⟨w.heap.size, 1, none⟩ = some (.int .i64 b) ∧ Hid (Fr w [(w3.heap.size, Obj.cells #[.int .i64 j0, .int .i64 j1] 23 (0, 0)), (w2.heap.size, Obj.cells #[.int .i64 m0, .int .i64 m1] 23 (0, 0)), (w.heap.size + 1, Obj.cells #[.int .i64 c, .int .i64 d] 23 (0, 0)), (w.heap.size, Obj.cells #[.int .i64 a, .int .i64 b] 23 (0, 0))] W)) W → Below W.heap.size W W' → (fun W : World => W.cell? ⟨w3.heap.size, 0, none⟩ = some (.int .i64 j0) ∧ W.cell? ⟨w3.heap.size, 1, none⟩ = some (.int .i64 j1) ∧ W.cell? ⟨w2.heap.size, 0, none⟩ = some (.int .i64 m0) ∧ W.cell? ⟨w2.heap.size, 1, none⟩ = some (.int .i64 m1) ∧ W.cell? ⟨w.heap.size + 1, 0, none⟩ = some (.int .i64 c) ∧ W.cell? ⟨w.heap.size + 1, 1, none⟩ = some (.int .i64 d) ∧ W.cell? ⟨w.heap.size, 0, none⟩ = some (.int .i64 a) ∧ W.cell? ⟨w.heap.size, 1, none⟩ = some (.int .i64 b) ∧ Hid (Fr w [(w3.heap.size, Obj.cells #[.int .i64 j0, .int .i64 j1] 23 (0, 0)), (w2.heap.size, Obj.cells #[.int .i64 m0, .int .i64 m1] 23 (0, 0)), (w.heap.size + 1, Obj.cells #[.int .i64 c, .int .i64 d] 23 (0, 0)), (w.heap.size, Obj.cells #[.int .i64 a, .int .i64 b] 23 (0, 0))] W)) W' from fun W W' h hb => hS4 _ (h.2.2.2.2.2.2.2.2.out.below hb))
  have HSd4 := Lib.hid (show ∀ W : World, (fun W : World => W.cell? ⟨w3.heap.size, 0, none⟩ = some (.int .i64 j0) ∧ W.cell? ⟨w3.heap.size, 1, none⟩ = some (.int .i64 j1) ∧ W.cell? ⟨w2.heap.size, 0, none⟩ = some (.int .i64 m0) ∧ W.cell? ⟨w2.heap.size, 1, none⟩ = some (.int .i64 m1) ∧ W.cell? ⟨w.heap.size + 1, 0, none⟩ = some (.int .i64 c) ∧ W.cell? ⟨w.heap.size + 1, 1, none⟩ = some (.int .i64 d) ∧ W.cell? ⟨w.heap.size, 0, none⟩ = some (.int .i64 a) ∧ W.cell? ⟨w.heap.size, 1, none⟩ = some (.int .i64 b) ∧ Hid (Fr w [(w3.heap.size, Obj.cells #[.int .i64 j0, .int .i64 j1] 23 (0, 0)), (w2.heap.size, Obj.cells #[.int .i64 m0, .int .i64 m1] 23 (0, 0)), (w.heap.size + 1, Obj.cells #[.int .i64 c, .int .i64 d] 23 (0, 0)), (w.heap.size, Obj.cells #[.int .i64 a, .int .i64 b] 23 (0, 0))] W)) W → (fun W : World => W.cell? ⟨w3.heap.size, 0, none⟩ = some (.int .i64 j0) ∧ W.cell? ⟨w3.heap.size, 1, none⟩ = some (.int .i64 j1) ∧ W.cell? ⟨w2.heap.size, 0, none⟩ = some (.int .i64 m0) ∧ W.cell? ⟨w2.heap.size, 1, none⟩ = some (.int .i64 m1) ∧ W.cell? ⟨w.heap.size + 1, 0, none⟩ = some (.int .i64 c) ∧ W.cell? ⟨w.heap.size + 1, 1, none⟩ = some (.int .i64 d) ∧ W.cell? ⟨w.heap.size, 0, none⟩ = some (.int .i64 a) ∧ W.cell? ⟨w.heap.size, 1, none⟩ = some (.int .i64 b) ∧ Hid (Fr w [(w3.heap.size, Obj.cells #[.int .i64 j0, .int .i64 j1] 23 (0, 0)), (w2.heap.size, Obj.cells #[.int .i64 m0, .int .i64 m1] 23 (0, 0)), (w.heap.size + 1, Obj.cells #[.int .i64 c, .int .i64 d] 23 (0, 0)), (w.heap.size, Obj.cells #[.int .i64 a, .int .i64 b] 23 (0, 0))] W)) W.drew from fun W h => hS4 _ (h.2.2.2.2.2.2.2.2.out.drew))
  have HSf4 := Lib.hid (show ∀ W W' : World, (fun W : World => W.cell? ⟨w3.heap.size, 0, none⟩ = some (.int .i64 j0) ∧ W.cell? ⟨w3.heap.size, 1, none⟩ = some (.int .i64 j1) ∧ W.cell? ⟨w2.heap.size, 0, none⟩ = some (.int .i64 m0) ∧ W.cell? ⟨w2.heap.size, 1, none⟩ = some (.int .i64 m1) ∧ W.cell? ⟨w.heap.size + 1, 0, none⟩ = some (.int .i64 c) ∧ W.cell? ⟨w.heap.size + 1, 1, none⟩ = some (.int .i64 d) ∧ W.cell? ⟨w.heap.size, 0, none⟩ = some (.int .i64 a) ∧ W.cell? ⟨w.heap.size, 1, none⟩ = some (.int .i64 b) ∧ Hid (Fr w [(w3.heap.size, Obj.cells #[.int .i64 j0, .int .i64 j1] 23 (0, 0)), (w2.heap.size, Obj.cells #[.int .i64 m0, .int .i64 m1] 23 (0, 0)), (w.heap.size + 1, Obj.cells #[.int .i64 c, .int .i64 d] 23 (0, 0)), (w.heap.size, Obj.cells #[.int .i64 a, .int .i64 b] 23 (0, 0))] W)) W → Below W.heap.size W W' → Fr w [(w3.heap.size, Obj.cells #[.int .i64 j0, .int .i64 j1] 23 (0, 0)), (w2.heap.size, Obj.cells #[.int .i64 m0, .int .i64 m1] 23 (0, 0)), (w.heap.size + 1, Obj.cells #[.int .i64 c, .int .i64 d] 23 (0, 0)), (w.heap.size, Obj.cells #[.int .i64 a, .int .i64 b] 23 (0, 0))] W' from fun W W' h hb => h.2.2.2.2.2.2.2.2.out.below hb)
  have HT4 := Lib.hid (hS4 _ (G3.out.drew))
  clear hS4
  go_wp2_with fail
  go_region_held3 (fun W : World => W.cell? ⟨w3.heap.size, 0, none⟩ = some (.int .i64 j0) ∧ W.cell? ⟨w3.heap.size, 1, none⟩ = some (.int .i64 j1) ∧ W.cell? ⟨w2.heap.size, 0, none⟩ = some (.int .i64 m0) ∧ W.cell? ⟨w2.heap.size, 1, none⟩ = some (.int .i64 m1) ∧ W.cell? ⟨w.heap.size + 1, 0, none⟩ = some (.int .i64 c) ∧ W.cell? ⟨w.heap.size + 1, 1, none⟩ = some (.int .i64 d) ∧ W.cell? ⟨w.heap.size, 0, none⟩ = some (.int .i64 a) ∧ W.cell? ⟨w.heap.size, 1, none⟩ = some (.int .i64 b) ∧ Hid (Fr w [(w3.heap.size, Obj.cells #[.int .i64 j0, .int .i64 j1] 23 (0, 0)), (w2.heap.size, Obj.cells #[.int .i64 m0, .int .i64 m1] 23 (0, 0)), (w.heap.size + 1, Obj.cells #[.int .i64 c, .int .i64 d] 23 (0, 0)), (w.heap.size, Obj.cells #[.int .i64 a, .int .i64 b] 23 (0, 0))] W)) (first | exact HSb4.out _ _ (by assumption) hb | exact HSd4.out _ (by assumption) | exact HT4.out | go_keep) (first | (go_at_call 14; ((with_reducible refine (has_at _ HX.out).mono ?_)); rintro e w' ⟨rfl, hb⟩) | (go_at_call 14; ((with_reducible refine (has_at _ HY.out).mono ?_)); rintro e w' ⟨rfl, hb⟩))
  go_wp2_with fail
  refine (has_at _ HN.out).mono ?_
  rintro e w5 ⟨rfl, hb⟩
  have F5 := Lib.hid (HSf4.out _ _ (by assumption) hb)
  clear hb
  have c5_0_0 : w5.cell? ⟨w3.heap.size, 0, none⟩ = some (.int .i64 j0) := (F5.out.cell (t := 23) (cs := #[.int .i64 j0, .int .i64 j1]) (by simp) 0).trans rfl
  have c5_0_1 : w5.cell? ⟨w3.heap.size, 1, none⟩ = some (.int .i64 j1) := (F5.out.cell (t := 23) (cs := #[.int .i64 j0, .int .i64 j1]) (by simp) 1).trans rfl
  have c5_1_0 : w5.cell? ⟨w2.heap.size, 0, none⟩ = some (.int .i64 m0) := (F5.out.cell (t := 23) (cs := #[.int .i64 m0, .int .i64 m1]) (by simp) 0).trans rfl
  have c5_1_1 : w5.cell? ⟨w2.heap.size, 1, none⟩ = some (.int .i64 m1) := (F5.out.cell (t := 23) (cs := #[.int .i64 m0, .int .i64 m1]) (by simp) 1).trans rfl
  have c5_2_0 : w5.cell? ⟨w.heap.size + 1, 0, none⟩ = some (.int .i64 c) := (F5.out.cell (t := 23) (cs := #[.int .i64 c, .int .i64 d]) (by simp) 0).trans rfl
  have c5_2_1 : w5.cell? ⟨w.heap.size + 1, 1, none⟩ = some (.int .i64 d) := (F5.out.cell (t := 23) (cs := #[.int .i64 c, .int .i64 d]) (by simp) 1).trans rfl
  have c5_3_0 : w5.cell? ⟨w.heap.size, 0, none⟩ = some (.int .i64 a) := (F5.out.cell (t := 23) (cs := #[.int .i64 a, .int .i64 b]) (by simp) 0).trans rfl
  have c5_3_1 : w5.cell? ⟨w.heap.size, 1, none⟩ = some (.int .i64 b) := (F5.out.cell (t := 23) (cs := #[.int .i64 a, .int .i64 b]) (by simp) 1).trans rfl
  go_wp2_with fail
  go_ret
  exact ⟨rfl, F5.out.bel⟩
set_option maxHeartbeats 4000000 in
set_option maxRecDepth 10000 in
theorem places_ft0t (a b c d p m0 m1 j0 j1 : Int) (m2 : Bool) (w : World) (hm : meetS a b c d = (m0, m1, m2)) (hj : joinE a b c d = (j0, j1, 0)) (hx : hasB a b p = false) (hy : hasB c d p = true) (hd : decide (65536 < j1) = true) :
    Calls Try.prog 5 #[.agg #[.int .i64 a, .int .i64 b], .agg #[.int .i64 c, .int .i64 d], .int .i64 p] w fun e w' => e = .returned (.bool true) ∧ Below w.heap.size w w' := by
  have hu23 := Try.underlying23
  have HN := Lib.hid (show hasB m0 m1 p = false by rw [meet_has a b c d p m0 m1 m2 hm, hx, hy]; rfl)
  have HM := Lib.hid hm
  have HX := Lib.hid hx
  have HY := Lib.hid hy
  have HJ := Lib.hid hj
  clear hm hx hy hj
  go_enter Try.func5, Try.ntmps5
  go_wp2_with fail
  refine (awake_at _).mono ?_
  rintro e w1 ⟨rfl, hb⟩
  have F1 : Hid (Fr w [(w.heap.size + 1, Obj.cells #[.int .i64 c, .int .i64 d] 23 (0, 0)), (w.heap.size, Obj.cells #[.int .i64 a, .int .i64 b] 23 (0, 0))] w1) := Lib.hid (by simpa using (((Fr.start w).alloc (.cells #[.int .i64 a, .int .i64 b] 23 (0, 0))).alloc (.cells #[.int .i64 c, .int .i64 d] 23 (0, 0))).below hb)
  clear hb
  have c1_0_0 : w1.cell? ⟨w.heap.size + 1, 0, none⟩ = some (.int .i64 c) := (F1.out.cell (t := 23) (cs := #[.int .i64 c, .int .i64 d]) (by simp) 0).trans rfl
  have c1_0_1 : w1.cell? ⟨w.heap.size + 1, 1, none⟩ = some (.int .i64 d) := (F1.out.cell (t := 23) (cs := #[.int .i64 c, .int .i64 d]) (by simp) 1).trans rfl
  have c1_1_0 : w1.cell? ⟨w.heap.size, 0, none⟩ = some (.int .i64 a) := (F1.out.cell (t := 23) (cs := #[.int .i64 a, .int .i64 b]) (by simp) 0).trans rfl
  have c1_1_1 : w1.cell? ⟨w.heap.size, 1, none⟩ = some (.int .i64 b) := (F1.out.cell (t := 23) (cs := #[.int .i64 a, .int .i64 b]) (by simp) 1).trans rfl
  go_wp2_with fail
  refine (meet_at _ HM.out).mono ?_
  rintro e w2 ⟨rfl, hb⟩
  have F2 := Lib.hid (F1.out.below hb)
  clear F1 c1_0_0 c1_0_1 c1_1_0 c1_1_1
  clear hb
  have c2_0_0 : (w2.alloc (.cells #[.int .i64 m0, .int .i64 m1] 23 (0, 0))).cell? ⟨w2.heap.size, 0, none⟩ = some (.int .i64 m0) := ((F2.out.alloc (.cells #[.int .i64 m0, .int .i64 m1] 23 (0, 0))).cell (t := 23) (cs := #[.int .i64 m0, .int .i64 m1]) (by simp) 0).trans rfl
  have c2_0_1 : (w2.alloc (.cells #[.int .i64 m0, .int .i64 m1] 23 (0, 0))).cell? ⟨w2.heap.size, 1, none⟩ = some (.int .i64 m1) := ((F2.out.alloc (.cells #[.int .i64 m0, .int .i64 m1] 23 (0, 0))).cell (t := 23) (cs := #[.int .i64 m0, .int .i64 m1]) (by simp) 1).trans rfl
  have c2_1_0 : (w2.alloc (.cells #[.int .i64 m0, .int .i64 m1] 23 (0, 0))).cell? ⟨w.heap.size + 1, 0, none⟩ = some (.int .i64 c) := ((F2.out.alloc (.cells #[.int .i64 m0, .int .i64 m1] 23 (0, 0))).cell (t := 23) (cs := #[.int .i64 c, .int .i64 d]) (by simp) 0).trans rfl
  have c2_1_1 : (w2.alloc (.cells #[.int .i64 m0, .int .i64 m1] 23 (0, 0))).cell? ⟨w.heap.size + 1, 1, none⟩ = some (.int .i64 d) := ((F2.out.alloc (.cells #[.int .i64 m0, .int .i64 m1] 23 (0, 0))).cell (t := 23) (cs := #[.int .i64 c, .int .i64 d]) (by simp) 1).trans rfl
  have c2_2_0 : (w2.alloc (.cells #[.int .i64 m0, .int .i64 m1] 23 (0, 0))).cell? ⟨w.heap.size, 0, none⟩ = some (.int .i64 a) := ((F2.out.alloc (.cells #[.int .i64 m0, .int .i64 m1] 23 (0, 0))).cell (t := 23) (cs := #[.int .i64 a, .int .i64 b]) (by simp) 0).trans rfl
  have c2_2_1 : (w2.alloc (.cells #[.int .i64 m0, .int .i64 m1] 23 (0, 0))).cell? ⟨w.heap.size, 1, none⟩ = some (.int .i64 b) := ((F2.out.alloc (.cells #[.int .i64 m0, .int .i64 m1] 23 (0, 0))).cell (t := 23) (cs := #[.int .i64 a, .int .i64 b]) (by simp) 1).trans rfl
  go_wp2_with fail
  refine (join_at _ HJ.out).mono ?_
  rintro e w3 ⟨rfl, hb⟩
  have F3 := Lib.hid ((F2.out.alloc (.cells #[.int .i64 m0, .int .i64 m1] 23 (0, 0))).below hb)
  clear F2 c2_0_0 c2_0_1 c2_1_0 c2_1_1 c2_2_0 c2_2_1
  clear hb
  have c3_0_0 : (w3.alloc (.cells #[.int .i64 j0, .int .i64 j1] 23 (0, 0))).cell? ⟨w3.heap.size, 0, none⟩ = some (.int .i64 j0) := ((F3.out.alloc (.cells #[.int .i64 j0, .int .i64 j1] 23 (0, 0))).cell (t := 23) (cs := #[.int .i64 j0, .int .i64 j1]) (by simp) 0).trans rfl
  have c3_0_1 : (w3.alloc (.cells #[.int .i64 j0, .int .i64 j1] 23 (0, 0))).cell? ⟨w3.heap.size, 1, none⟩ = some (.int .i64 j1) := ((F3.out.alloc (.cells #[.int .i64 j0, .int .i64 j1] 23 (0, 0))).cell (t := 23) (cs := #[.int .i64 j0, .int .i64 j1]) (by simp) 1).trans rfl
  have c3_1_0 : (w3.alloc (.cells #[.int .i64 j0, .int .i64 j1] 23 (0, 0))).cell? ⟨w2.heap.size, 0, none⟩ = some (.int .i64 m0) := ((F3.out.alloc (.cells #[.int .i64 j0, .int .i64 j1] 23 (0, 0))).cell (t := 23) (cs := #[.int .i64 m0, .int .i64 m1]) (by simp) 0).trans rfl
  have c3_1_1 : (w3.alloc (.cells #[.int .i64 j0, .int .i64 j1] 23 (0, 0))).cell? ⟨w2.heap.size, 1, none⟩ = some (.int .i64 m1) := ((F3.out.alloc (.cells #[.int .i64 j0, .int .i64 j1] 23 (0, 0))).cell (t := 23) (cs := #[.int .i64 m0, .int .i64 m1]) (by simp) 1).trans rfl
  have c3_2_0 : (w3.alloc (.cells #[.int .i64 j0, .int .i64 j1] 23 (0, 0))).cell? ⟨w.heap.size + 1, 0, none⟩ = some (.int .i64 c) := ((F3.out.alloc (.cells #[.int .i64 j0, .int .i64 j1] 23 (0, 0))).cell (t := 23) (cs := #[.int .i64 c, .int .i64 d]) (by simp) 0).trans rfl
  have c3_2_1 : (w3.alloc (.cells #[.int .i64 j0, .int .i64 j1] 23 (0, 0))).cell? ⟨w.heap.size + 1, 1, none⟩ = some (.int .i64 d) := ((F3.out.alloc (.cells #[.int .i64 j0, .int .i64 j1] 23 (0, 0))).cell (t := 23) (cs := #[.int .i64 c, .int .i64 d]) (by simp) 1).trans rfl
  have c3_3_0 : (w3.alloc (.cells #[.int .i64 j0, .int .i64 j1] 23 (0, 0))).cell? ⟨w.heap.size, 0, none⟩ = some (.int .i64 a) := ((F3.out.alloc (.cells #[.int .i64 j0, .int .i64 j1] 23 (0, 0))).cell (t := 23) (cs := #[.int .i64 a, .int .i64 b]) (by simp) 0).trans rfl
  have c3_3_1 : (w3.alloc (.cells #[.int .i64 j0, .int .i64 j1] 23 (0, 0))).cell? ⟨w.heap.size, 1, none⟩ = some (.int .i64 b) := ((F3.out.alloc (.cells #[.int .i64 j0, .int .i64 j1] 23 (0, 0))).cell (t := 23) (cs := #[.int .i64 a, .int .i64 b]) (by simp) 1).trans rfl
  have G3 := Lib.hid (F3.out.alloc (.cells #[.int .i64 j0, .int .i64 j1] 23 (0, 0)))
  clear F3
  have hS4 : ∀ W : World, Fr w [(w3.heap.size, Obj.cells #[.int .i64 j0, .int .i64 j1] 23 (0, 0)), (w2.heap.size, Obj.cells #[.int .i64 m0, .int .i64 m1] 23 (0, 0)), (w.heap.size + 1, Obj.cells #[.int .i64 c, .int .i64 d] 23 (0, 0)), (w.heap.size, Obj.cells #[.int .i64 a, .int .i64 b] 23 (0, 0))] W → (fun W : World => W.cell? ⟨w3.heap.size, 0, none⟩ = some (.int .i64 j0) ∧ W.cell? ⟨w3.heap.size, 1, none⟩ = some (.int .i64 j1) ∧ W.cell? ⟨w2.heap.size, 0, none⟩ = some (.int .i64 m0) ∧ W.cell? ⟨w2.heap.size, 1, none⟩ = some (.int .i64 m1) ∧ W.cell? ⟨w.heap.size + 1, 0, none⟩ = some (.int .i64 c) ∧ W.cell? ⟨w.heap.size + 1, 1, none⟩ = some (.int .i64 d) ∧ W.cell? ⟨w.heap.size, 0, none⟩ = some (.int .i64 a) ∧ W.cell? ⟨w.heap.size, 1, none⟩ = some (.int .i64 b) ∧ Hid (Fr w [(w3.heap.size, Obj.cells #[.int .i64 j0, .int .i64 j1] 23 (0, 0)), (w2.heap.size, Obj.cells #[.int .i64 m0, .int .i64 m1] 23 (0, 0)), (w.heap.size + 1, Obj.cells #[.int .i64 c, .int .i64 d] 23 (0, 0)), (w.heap.size, Obj.cells #[.int .i64 a, .int .i64 b] 23 (0, 0))] W)) W := fun W h => ⟨(h.cell (t := 23) (cs := #[.int .i64 j0, .int .i64 j1]) (by simp) 0).trans rfl, (h.cell (t := 23) (cs := #[.int .i64 j0, .int .i64 j1]) (by simp) 1).trans rfl, (h.cell (t := 23) (cs := #[.int .i64 m0, .int .i64 m1]) (by simp) 0).trans rfl, (h.cell (t := 23) (cs := #[.int .i64 m0, .int .i64 m1]) (by simp) 1).trans rfl, (h.cell (t := 23) (cs := #[.int .i64 c, .int .i64 d]) (by simp) 0).trans rfl, (h.cell (t := 23) (cs := #[.int .i64 c, .int .i64 d]) (by simp) 1).trans rfl, (h.cell (t := 23) (cs := #[.int .i64 a, .int .i64 b]) (by simp) 0).trans rfl, (h.cell (t := 23) (cs := #[.int .i64 a, .int .i64 b]) (by simp) 1).trans rfl, Lib.hid h⟩
  have HSb4 := Lib.hid (show ∀ W W' : World, (fun W : World => W.cell? ⟨w3.heap.size, 0, none⟩ = some (.int .i64 j0) ∧ W.cell? ⟨w3.heap.size, 1, none⟩ = some (.int .i64 j1) ∧ W.cell? ⟨w2.heap.size, 0, none⟩ = some (.int .i64 m0) ∧ W.cell? ⟨w2.heap.size, 1, none⟩ = some (.int .i64 m1) ∧ W.cell? ⟨w.heap.size + 1, 0, none⟩ = some (.int .i64 c) ∧ W.cell? ⟨w.heap.size + 1, 1, none⟩ = some (.int .i64 d) ∧ W.cell? ⟨w.heap.size, 0, none⟩ = some (.int .i64 a) ∧ W.cell? ⟨w.heap.size, 1, none⟩ = some (.int .i64 b) ∧ Hid (Fr w [(w3.heap.size, Obj.cells #[.int .i64 j0, .int .i64 j1] 23 (0, 0)), (w2.heap.size, Obj.cells #[.int .i64 m0, .int .i64 m1] 23 (0, 0)), (w.heap.size + 1, Obj.cells #[.int .i64 c, .int .i64 d] 23 (0, 0)), (w.heap.size, Obj.cells #[.int .i64 a, .int .i64 b] 23 (0, 0))] W)) W → Below W.heap.size W W' → (fun W : World => W.cell? ⟨w3.heap.size, 0, none⟩ = some (.int .i64 j0) ∧ W.cell? ⟨w3.heap.size, 1, none⟩ = some (.int .i64 j1) ∧ W.cell? ⟨w2.heap.size, 0, none⟩ = some (.int .i64 m0) ∧ W.cell? ⟨w2.heap.size, 1, none⟩ = some (.int .i64 m1) ∧ W.cell? ⟨w.heap.size + 1, 0, none⟩ = some (.int .i64 c) ∧ W.cell? ⟨w.heap.size + 1, 1, none⟩ = some (.int .i64 d) ∧ W.cell? ⟨w.heap.size, 0, none⟩ = some (.int .i64 a) ∧ W.cell? ⟨w.heap.size, 1, none⟩ = some (.int .i64 b) ∧ Hid (Fr w [(w3.heap.size, Obj.cells #[.int .i64 j0, .int .i64 j1] 23 (0, 0)), (w2.heap.size, Obj.cells #[.int .i64 m0, .int .i64 m1] 23 (0, 0)), (w.heap.size + 1, Obj.cells #[.int .i64 c, .int .i64 d] 23 (0, 0)), (w.heap.size, Obj.cells #[.int .i64 a, .int .i64 b] 23 (0, 0))] W)) W' from fun W W' h hb => hS4 _ (h.2.2.2.2.2.2.2.2.out.below hb))
  have HSd4 := Lib.hid (show ∀ W : World, (fun W : World => W.cell? ⟨w3.heap.size, 0, none⟩ = some (.int .i64 j0) ∧ W.cell? ⟨w3.heap.size, 1, none⟩ = some (.int .i64 j1) ∧ W.cell? ⟨w2.heap.size, 0, none⟩ = some (.int .i64 m0) ∧ W.cell? ⟨w2.heap.size, 1, none⟩ = some (.int .i64 m1) ∧ W.cell? ⟨w.heap.size + 1, 0, none⟩ = some (.int .i64 c) ∧ W.cell? ⟨w.heap.size + 1, 1, none⟩ = some (.int .i64 d) ∧ W.cell? ⟨w.heap.size, 0, none⟩ = some (.int .i64 a) ∧ W.cell? ⟨w.heap.size, 1, none⟩ = some (.int .i64 b) ∧ Hid (Fr w [(w3.heap.size, Obj.cells #[.int .i64 j0, .int .i64 j1] 23 (0, 0)), (w2.heap.size, Obj.cells #[.int .i64 m0, .int .i64 m1] 23 (0, 0)), (w.heap.size + 1, Obj.cells #[.int .i64 c, .int .i64 d] 23 (0, 0)), (w.heap.size, Obj.cells #[.int .i64 a, .int .i64 b] 23 (0, 0))] W)) W → (fun W : World => W.cell? ⟨w3.heap.size, 0, none⟩ = some (.int .i64 j0) ∧ W.cell? ⟨w3.heap.size, 1, none⟩ = some (.int .i64 j1) ∧ W.cell? ⟨w2.heap.size, 0, none⟩ = some (.int .i64 m0) ∧ W.cell? ⟨w2.heap.size, 1, none⟩ = some (.int .i64 m1) ∧ W.cell? ⟨w.heap.size + 1, 0, none⟩ = some (.int .i64 c) ∧ W.cell? ⟨w.heap.size + 1, 1, none⟩ = some (.int .i64 d) ∧ W.cell? ⟨w.heap.size, 0, none⟩ = some (.int .i64 a) ∧ W.cell? ⟨w.heap.size, 1, none⟩ = some (.int .i64 b) ∧ Hid (Fr w [(w3.heap.size, Obj.cells #[.int .i64 j0, .int .i64 j1] 23 (0, 0)), (w2.heap.size, Obj.cells #[.int .i64 m0, .int .i64 m1] 23 (0, 0)), (w.heap.size + 1, Obj.cells #[.int .i64 c, .int .i64 d] 23 (0, 0)), (w.heap.size, Obj.cells #[.int .i64 a, .int .i64 b] 23 (0, 0))] W)) W.drew from fun W h => hS4 _ (h.2.2.2.2.2.2.2.2.out.drew))
  have HSf4 := Lib.hid (show ∀ W W' : World, (fun W : World => W.cell? ⟨w3.heap.size, 0, none⟩ = some (.int .i64 j0) ∧ W.cell? ⟨w3.heap.size, 1, none⟩ = some (.int .i64 j1) ∧ W.cell? ⟨w2.heap.size, 0, none⟩ = some (.int .i64 m0) ∧ W.cell? ⟨w2.heap.size, 1, none⟩ = some (.int .i64 m1) ∧ W.cell? ⟨w.heap.size + 1, 0, none⟩ = some (.int .i64 c) ∧ W.cell? ⟨w.heap.size + 1, 1, none⟩ = some (.int .i64 d) ∧ W.cell? ⟨w.heap.size, 0, none⟩ = some (.int .i64 a) ∧ W.cell? ⟨w.heap.size, 1, none⟩ = some (.int .i64 b) ∧ Hid (Fr w [(w3.heap.size, Obj.cells #[.int .i64 j0, .int .i64 j1] 23 (0, 0)), (w2.heap.size, Obj.cells #[.int .i64 m0, .int .i64 m1] 23 (0, 0)), (w.heap.size + 1, Obj.cells #[.int .i64 c, .int .i64 d] 23 (0, 0)), (w.heap.size, Obj.cells #[.int .i64 a, .int .i64 b] 23 (0, 0))] W)) W → Below W.heap.size W W' → Fr w [(w3.heap.size, Obj.cells #[.int .i64 j0, .int .i64 j1] 23 (0, 0)), (w2.heap.size, Obj.cells #[.int .i64 m0, .int .i64 m1] 23 (0, 0)), (w.heap.size + 1, Obj.cells #[.int .i64 c, .int .i64 d] 23 (0, 0)), (w.heap.size, Obj.cells #[.int .i64 a, .int .i64 b] 23 (0, 0))] W' from fun W W' h hb => h.2.2.2.2.2.2.2.2.out.below hb)
  have HT4 := Lib.hid (hS4 _ (G3.out.drew))
  clear hS4
  go_wp2_with fail
  go_region_held3 (fun W : World => W.cell? ⟨w3.heap.size, 0, none⟩ = some (.int .i64 j0) ∧ W.cell? ⟨w3.heap.size, 1, none⟩ = some (.int .i64 j1) ∧ W.cell? ⟨w2.heap.size, 0, none⟩ = some (.int .i64 m0) ∧ W.cell? ⟨w2.heap.size, 1, none⟩ = some (.int .i64 m1) ∧ W.cell? ⟨w.heap.size + 1, 0, none⟩ = some (.int .i64 c) ∧ W.cell? ⟨w.heap.size + 1, 1, none⟩ = some (.int .i64 d) ∧ W.cell? ⟨w.heap.size, 0, none⟩ = some (.int .i64 a) ∧ W.cell? ⟨w.heap.size, 1, none⟩ = some (.int .i64 b) ∧ Hid (Fr w [(w3.heap.size, Obj.cells #[.int .i64 j0, .int .i64 j1] 23 (0, 0)), (w2.heap.size, Obj.cells #[.int .i64 m0, .int .i64 m1] 23 (0, 0)), (w.heap.size + 1, Obj.cells #[.int .i64 c, .int .i64 d] 23 (0, 0)), (w.heap.size, Obj.cells #[.int .i64 a, .int .i64 b] 23 (0, 0))] W)) (first | exact HSb4.out _ _ (by assumption) hb | exact HSd4.out _ (by assumption) | exact HT4.out | go_keep) (first | (go_at_call 14; ((with_reducible refine (has_at _ HX.out).mono ?_)); rintro e w' ⟨rfl, hb⟩) | (go_at_call 14; ((with_reducible refine (has_at _ HY.out).mono ?_)); rintro e w' ⟨rfl, hb⟩))
  go_wp2_with fail
  refine (has_at _ HN.out).mono ?_
  rintro e w5 ⟨rfl, hb⟩
  have F5 := Lib.hid (HSf4.out _ _ (by assumption) hb)
  clear hb
  have c5_0_0 : w5.cell? ⟨w3.heap.size, 0, none⟩ = some (.int .i64 j0) := (F5.out.cell (t := 23) (cs := #[.int .i64 j0, .int .i64 j1]) (by simp) 0).trans rfl
  have c5_0_1 : w5.cell? ⟨w3.heap.size, 1, none⟩ = some (.int .i64 j1) := (F5.out.cell (t := 23) (cs := #[.int .i64 j0, .int .i64 j1]) (by simp) 1).trans rfl
  have c5_1_0 : w5.cell? ⟨w2.heap.size, 0, none⟩ = some (.int .i64 m0) := (F5.out.cell (t := 23) (cs := #[.int .i64 m0, .int .i64 m1]) (by simp) 0).trans rfl
  have c5_1_1 : w5.cell? ⟨w2.heap.size, 1, none⟩ = some (.int .i64 m1) := (F5.out.cell (t := 23) (cs := #[.int .i64 m0, .int .i64 m1]) (by simp) 1).trans rfl
  have c5_2_0 : w5.cell? ⟨w.heap.size + 1, 0, none⟩ = some (.int .i64 c) := (F5.out.cell (t := 23) (cs := #[.int .i64 c, .int .i64 d]) (by simp) 0).trans rfl
  have c5_2_1 : w5.cell? ⟨w.heap.size + 1, 1, none⟩ = some (.int .i64 d) := (F5.out.cell (t := 23) (cs := #[.int .i64 c, .int .i64 d]) (by simp) 1).trans rfl
  have c5_3_0 : w5.cell? ⟨w.heap.size, 0, none⟩ = some (.int .i64 a) := (F5.out.cell (t := 23) (cs := #[.int .i64 a, .int .i64 b]) (by simp) 0).trans rfl
  have c5_3_1 : w5.cell? ⟨w.heap.size, 1, none⟩ = some (.int .i64 b) := (F5.out.cell (t := 23) (cs := #[.int .i64 a, .int .i64 b]) (by simp) 1).trans rfl
  go_wp2_with fail
  go_ret
  exact ⟨rfl, F5.out.bel⟩
set_option maxHeartbeats 4000000 in
set_option maxRecDepth 10000 in
theorem places_ft0f (a b c d p m0 m1 j0 j1 : Int) (m2 : Bool) (w : World) (hm : meetS a b c d = (m0, m1, m2)) (hj : joinE a b c d = (j0, j1, 0)) (hx : hasB a b p = false) (hy : hasB c d p = true) (hd : decide (65536 < j1) = false) :
    Calls Try.prog 5 #[.agg #[.int .i64 a, .int .i64 b], .agg #[.int .i64 c, .int .i64 d], .int .i64 p] w fun e w' => e = .returned (.bool true) ∧ Below w.heap.size w w' := by
  have hu23 := Try.underlying23
  have HN := Lib.hid (show hasB m0 m1 p = false by rw [meet_has a b c d p m0 m1 m2 hm, hx, hy]; rfl)
  have HM := Lib.hid hm
  have HX := Lib.hid hx
  have HY := Lib.hid hy
  have HH := Lib.hid (join_has a b c d p j0 j1 hj (by simpa using hd) (by rw [hx, hy]; rfl))
  have HJ := Lib.hid hj
  clear hm hx hy hj
  go_enter Try.func5, Try.ntmps5
  go_wp2_with fail
  refine (awake_at _).mono ?_
  rintro e w1 ⟨rfl, hb⟩
  have F1 : Hid (Fr w [(w.heap.size + 1, Obj.cells #[.int .i64 c, .int .i64 d] 23 (0, 0)), (w.heap.size, Obj.cells #[.int .i64 a, .int .i64 b] 23 (0, 0))] w1) := Lib.hid (by simpa using (((Fr.start w).alloc (.cells #[.int .i64 a, .int .i64 b] 23 (0, 0))).alloc (.cells #[.int .i64 c, .int .i64 d] 23 (0, 0))).below hb)
  clear hb
  have c1_0_0 : w1.cell? ⟨w.heap.size + 1, 0, none⟩ = some (.int .i64 c) := (F1.out.cell (t := 23) (cs := #[.int .i64 c, .int .i64 d]) (by simp) 0).trans rfl
  have c1_0_1 : w1.cell? ⟨w.heap.size + 1, 1, none⟩ = some (.int .i64 d) := (F1.out.cell (t := 23) (cs := #[.int .i64 c, .int .i64 d]) (by simp) 1).trans rfl
  have c1_1_0 : w1.cell? ⟨w.heap.size, 0, none⟩ = some (.int .i64 a) := (F1.out.cell (t := 23) (cs := #[.int .i64 a, .int .i64 b]) (by simp) 0).trans rfl
  have c1_1_1 : w1.cell? ⟨w.heap.size, 1, none⟩ = some (.int .i64 b) := (F1.out.cell (t := 23) (cs := #[.int .i64 a, .int .i64 b]) (by simp) 1).trans rfl
  go_wp2_with fail
  refine (meet_at _ HM.out).mono ?_
  rintro e w2 ⟨rfl, hb⟩
  have F2 := Lib.hid (F1.out.below hb)
  clear F1 c1_0_0 c1_0_1 c1_1_0 c1_1_1
  clear hb
  have c2_0_0 : (w2.alloc (.cells #[.int .i64 m0, .int .i64 m1] 23 (0, 0))).cell? ⟨w2.heap.size, 0, none⟩ = some (.int .i64 m0) := ((F2.out.alloc (.cells #[.int .i64 m0, .int .i64 m1] 23 (0, 0))).cell (t := 23) (cs := #[.int .i64 m0, .int .i64 m1]) (by simp) 0).trans rfl
  have c2_0_1 : (w2.alloc (.cells #[.int .i64 m0, .int .i64 m1] 23 (0, 0))).cell? ⟨w2.heap.size, 1, none⟩ = some (.int .i64 m1) := ((F2.out.alloc (.cells #[.int .i64 m0, .int .i64 m1] 23 (0, 0))).cell (t := 23) (cs := #[.int .i64 m0, .int .i64 m1]) (by simp) 1).trans rfl
  have c2_1_0 : (w2.alloc (.cells #[.int .i64 m0, .int .i64 m1] 23 (0, 0))).cell? ⟨w.heap.size + 1, 0, none⟩ = some (.int .i64 c) := ((F2.out.alloc (.cells #[.int .i64 m0, .int .i64 m1] 23 (0, 0))).cell (t := 23) (cs := #[.int .i64 c, .int .i64 d]) (by simp) 0).trans rfl
  have c2_1_1 : (w2.alloc (.cells #[.int .i64 m0, .int .i64 m1] 23 (0, 0))).cell? ⟨w.heap.size + 1, 1, none⟩ = some (.int .i64 d) := ((F2.out.alloc (.cells #[.int .i64 m0, .int .i64 m1] 23 (0, 0))).cell (t := 23) (cs := #[.int .i64 c, .int .i64 d]) (by simp) 1).trans rfl
  have c2_2_0 : (w2.alloc (.cells #[.int .i64 m0, .int .i64 m1] 23 (0, 0))).cell? ⟨w.heap.size, 0, none⟩ = some (.int .i64 a) := ((F2.out.alloc (.cells #[.int .i64 m0, .int .i64 m1] 23 (0, 0))).cell (t := 23) (cs := #[.int .i64 a, .int .i64 b]) (by simp) 0).trans rfl
  have c2_2_1 : (w2.alloc (.cells #[.int .i64 m0, .int .i64 m1] 23 (0, 0))).cell? ⟨w.heap.size, 1, none⟩ = some (.int .i64 b) := ((F2.out.alloc (.cells #[.int .i64 m0, .int .i64 m1] 23 (0, 0))).cell (t := 23) (cs := #[.int .i64 a, .int .i64 b]) (by simp) 1).trans rfl
  go_wp2_with fail
  refine (join_at _ HJ.out).mono ?_
  rintro e w3 ⟨rfl, hb⟩
  have F3 := Lib.hid ((F2.out.alloc (.cells #[.int .i64 m0, .int .i64 m1] 23 (0, 0))).below hb)
  clear F2 c2_0_0 c2_0_1 c2_1_0 c2_1_1 c2_2_0 c2_2_1
  clear hb
  have c3_0_0 : (w3.alloc (.cells #[.int .i64 j0, .int .i64 j1] 23 (0, 0))).cell? ⟨w3.heap.size, 0, none⟩ = some (.int .i64 j0) := ((F3.out.alloc (.cells #[.int .i64 j0, .int .i64 j1] 23 (0, 0))).cell (t := 23) (cs := #[.int .i64 j0, .int .i64 j1]) (by simp) 0).trans rfl
  have c3_0_1 : (w3.alloc (.cells #[.int .i64 j0, .int .i64 j1] 23 (0, 0))).cell? ⟨w3.heap.size, 1, none⟩ = some (.int .i64 j1) := ((F3.out.alloc (.cells #[.int .i64 j0, .int .i64 j1] 23 (0, 0))).cell (t := 23) (cs := #[.int .i64 j0, .int .i64 j1]) (by simp) 1).trans rfl
  have c3_1_0 : (w3.alloc (.cells #[.int .i64 j0, .int .i64 j1] 23 (0, 0))).cell? ⟨w2.heap.size, 0, none⟩ = some (.int .i64 m0) := ((F3.out.alloc (.cells #[.int .i64 j0, .int .i64 j1] 23 (0, 0))).cell (t := 23) (cs := #[.int .i64 m0, .int .i64 m1]) (by simp) 0).trans rfl
  have c3_1_1 : (w3.alloc (.cells #[.int .i64 j0, .int .i64 j1] 23 (0, 0))).cell? ⟨w2.heap.size, 1, none⟩ = some (.int .i64 m1) := ((F3.out.alloc (.cells #[.int .i64 j0, .int .i64 j1] 23 (0, 0))).cell (t := 23) (cs := #[.int .i64 m0, .int .i64 m1]) (by simp) 1).trans rfl
  have c3_2_0 : (w3.alloc (.cells #[.int .i64 j0, .int .i64 j1] 23 (0, 0))).cell? ⟨w.heap.size + 1, 0, none⟩ = some (.int .i64 c) := ((F3.out.alloc (.cells #[.int .i64 j0, .int .i64 j1] 23 (0, 0))).cell (t := 23) (cs := #[.int .i64 c, .int .i64 d]) (by simp) 0).trans rfl
  have c3_2_1 : (w3.alloc (.cells #[.int .i64 j0, .int .i64 j1] 23 (0, 0))).cell? ⟨w.heap.size + 1, 1, none⟩ = some (.int .i64 d) := ((F3.out.alloc (.cells #[.int .i64 j0, .int .i64 j1] 23 (0, 0))).cell (t := 23) (cs := #[.int .i64 c, .int .i64 d]) (by simp) 1).trans rfl
  have c3_3_0 : (w3.alloc (.cells #[.int .i64 j0, .int .i64 j1] 23 (0, 0))).cell? ⟨w.heap.size, 0, none⟩ = some (.int .i64 a) := ((F3.out.alloc (.cells #[.int .i64 j0, .int .i64 j1] 23 (0, 0))).cell (t := 23) (cs := #[.int .i64 a, .int .i64 b]) (by simp) 0).trans rfl
  have c3_3_1 : (w3.alloc (.cells #[.int .i64 j0, .int .i64 j1] 23 (0, 0))).cell? ⟨w.heap.size, 1, none⟩ = some (.int .i64 b) := ((F3.out.alloc (.cells #[.int .i64 j0, .int .i64 j1] 23 (0, 0))).cell (t := 23) (cs := #[.int .i64 a, .int .i64 b]) (by simp) 1).trans rfl
  have G3 := Lib.hid (F3.out.alloc (.cells #[.int .i64 j0, .int .i64 j1] 23 (0, 0)))
  clear F3
  have hS4 : ∀ W : World, Fr w [(w3.heap.size, Obj.cells #[.int .i64 j0, .int .i64 j1] 23 (0, 0)), (w2.heap.size, Obj.cells #[.int .i64 m0, .int .i64 m1] 23 (0, 0)), (w.heap.size + 1, Obj.cells #[.int .i64 c, .int .i64 d] 23 (0, 0)), (w.heap.size, Obj.cells #[.int .i64 a, .int .i64 b] 23 (0, 0))] W → (fun W : World => W.cell? ⟨w3.heap.size, 0, none⟩ = some (.int .i64 j0) ∧ W.cell? ⟨w3.heap.size, 1, none⟩ = some (.int .i64 j1) ∧ W.cell? ⟨w2.heap.size, 0, none⟩ = some (.int .i64 m0) ∧ W.cell? ⟨w2.heap.size, 1, none⟩ = some (.int .i64 m1) ∧ W.cell? ⟨w.heap.size + 1, 0, none⟩ = some (.int .i64 c) ∧ W.cell? ⟨w.heap.size + 1, 1, none⟩ = some (.int .i64 d) ∧ W.cell? ⟨w.heap.size, 0, none⟩ = some (.int .i64 a) ∧ W.cell? ⟨w.heap.size, 1, none⟩ = some (.int .i64 b) ∧ Hid (Fr w [(w3.heap.size, Obj.cells #[.int .i64 j0, .int .i64 j1] 23 (0, 0)), (w2.heap.size, Obj.cells #[.int .i64 m0, .int .i64 m1] 23 (0, 0)), (w.heap.size + 1, Obj.cells #[.int .i64 c, .int .i64 d] 23 (0, 0)), (w.heap.size, Obj.cells #[.int .i64 a, .int .i64 b] 23 (0, 0))] W)) W := fun W h => ⟨(h.cell (t := 23) (cs := #[.int .i64 j0, .int .i64 j1]) (by simp) 0).trans rfl, (h.cell (t := 23) (cs := #[.int .i64 j0, .int .i64 j1]) (by simp) 1).trans rfl, (h.cell (t := 23) (cs := #[.int .i64 m0, .int .i64 m1]) (by simp) 0).trans rfl, (h.cell (t := 23) (cs := #[.int .i64 m0, .int .i64 m1]) (by simp) 1).trans rfl, (h.cell (t := 23) (cs := #[.int .i64 c, .int .i64 d]) (by simp) 0).trans rfl, (h.cell (t := 23) (cs := #[.int .i64 c, .int .i64 d]) (by simp) 1).trans rfl, (h.cell (t := 23) (cs := #[.int .i64 a, .int .i64 b]) (by simp) 0).trans rfl, (h.cell (t := 23) (cs := #[.int .i64 a, .int .i64 b]) (by simp) 1).trans rfl, Lib.hid h⟩
  have HSb4 := Lib.hid (show ∀ W W' : World, (fun W : World => W.cell? ⟨w3.heap.size, 0, none⟩ = some (.int .i64 j0) ∧ W.cell? ⟨w3.heap.size, 1, none⟩ = some (.int .i64 j1) ∧ W.cell? ⟨w2.heap.size, 0, none⟩ = some (.int .i64 m0) ∧ W.cell? ⟨w2.heap.size, 1, none⟩ = some (.int .i64 m1) ∧ W.cell? ⟨w.heap.size + 1, 0, none⟩ = some (.int .i64 c) ∧ W.cell? ⟨w.heap.size + 1, 1, none⟩ = some (.int .i64 d) ∧ W.cell? ⟨w.heap.size, 0, none⟩ = some (.int .i64 a) ∧ W.cell? ⟨w.heap.size, 1, none⟩ = some (.int .i64 b) ∧ Hid (Fr w [(w3.heap.size, Obj.cells #[.int .i64 j0, .int .i64 j1] 23 (0, 0)), (w2.heap.size, Obj.cells #[.int .i64 m0, .int .i64 m1] 23 (0, 0)), (w.heap.size + 1, Obj.cells #[.int .i64 c, .int .i64 d] 23 (0, 0)), (w.heap.size, Obj.cells #[.int .i64 a, .int .i64 b] 23 (0, 0))] W)) W → Below W.heap.size W W' → (fun W : World => W.cell? ⟨w3.heap.size, 0, none⟩ = some (.int .i64 j0) ∧ W.cell? ⟨w3.heap.size, 1, none⟩ = some (.int .i64 j1) ∧ W.cell? ⟨w2.heap.size, 0, none⟩ = some (.int .i64 m0) ∧ W.cell? ⟨w2.heap.size, 1, none⟩ = some (.int .i64 m1) ∧ W.cell? ⟨w.heap.size + 1, 0, none⟩ = some (.int .i64 c) ∧ W.cell? ⟨w.heap.size + 1, 1, none⟩ = some (.int .i64 d) ∧ W.cell? ⟨w.heap.size, 0, none⟩ = some (.int .i64 a) ∧ W.cell? ⟨w.heap.size, 1, none⟩ = some (.int .i64 b) ∧ Hid (Fr w [(w3.heap.size, Obj.cells #[.int .i64 j0, .int .i64 j1] 23 (0, 0)), (w2.heap.size, Obj.cells #[.int .i64 m0, .int .i64 m1] 23 (0, 0)), (w.heap.size + 1, Obj.cells #[.int .i64 c, .int .i64 d] 23 (0, 0)), (w.heap.size, Obj.cells #[.int .i64 a, .int .i64 b] 23 (0, 0))] W)) W' from fun W W' h hb => hS4 _ (h.2.2.2.2.2.2.2.2.out.below hb))
  have HSd4 := Lib.hid (show ∀ W : World, (fun W : World => W.cell? ⟨w3.heap.size, 0, none⟩ = some (.int .i64 j0) ∧ W.cell? ⟨w3.heap.size, 1, none⟩ = some (.int .i64 j1) ∧ W.cell? ⟨w2.heap.size, 0, none⟩ = some (.int .i64 m0) ∧ W.cell? ⟨w2.heap.size, 1, none⟩ = some (.int .i64 m1) ∧ W.cell? ⟨w.heap.size + 1, 0, none⟩ = some (.int .i64 c) ∧ W.cell? ⟨w.heap.size + 1, 1, none⟩ = some (.int .i64 d) ∧ W.cell? ⟨w.heap.size, 0, none⟩ = some (.int .i64 a) ∧ W.cell? ⟨w.heap.size, 1, none⟩ = some (.int .i64 b) ∧ Hid (Fr w [(w3.heap.size, Obj.cells #[.int .i64 j0, .int .i64 j1] 23 (0, 0)), (w2.heap.size, Obj.cells #[.int .i64 m0, .int .i64 m1] 23 (0, 0)), (w.heap.size + 1, Obj.cells #[.int .i64 c, .int .i64 d] 23 (0, 0)), (w.heap.size, Obj.cells #[.int .i64 a, .int .i64 b] 23 (0, 0))] W)) W → (fun W : World => W.cell? ⟨w3.heap.size, 0, none⟩ = some (.int .i64 j0) ∧ W.cell? ⟨w3.heap.size, 1, none⟩ = some (.int .i64 j1) ∧ W.cell? ⟨w2.heap.size, 0, none⟩ = some (.int .i64 m0) ∧ W.cell? ⟨w2.heap.size, 1, none⟩ = some (.int .i64 m1) ∧ W.cell? ⟨w.heap.size + 1, 0, none⟩ = some (.int .i64 c) ∧ W.cell? ⟨w.heap.size + 1, 1, none⟩ = some (.int .i64 d) ∧ W.cell? ⟨w.heap.size, 0, none⟩ = some (.int .i64 a) ∧ W.cell? ⟨w.heap.size, 1, none⟩ = some (.int .i64 b) ∧ Hid (Fr w [(w3.heap.size, Obj.cells #[.int .i64 j0, .int .i64 j1] 23 (0, 0)), (w2.heap.size, Obj.cells #[.int .i64 m0, .int .i64 m1] 23 (0, 0)), (w.heap.size + 1, Obj.cells #[.int .i64 c, .int .i64 d] 23 (0, 0)), (w.heap.size, Obj.cells #[.int .i64 a, .int .i64 b] 23 (0, 0))] W)) W.drew from fun W h => hS4 _ (h.2.2.2.2.2.2.2.2.out.drew))
  have HSf4 := Lib.hid (show ∀ W W' : World, (fun W : World => W.cell? ⟨w3.heap.size, 0, none⟩ = some (.int .i64 j0) ∧ W.cell? ⟨w3.heap.size, 1, none⟩ = some (.int .i64 j1) ∧ W.cell? ⟨w2.heap.size, 0, none⟩ = some (.int .i64 m0) ∧ W.cell? ⟨w2.heap.size, 1, none⟩ = some (.int .i64 m1) ∧ W.cell? ⟨w.heap.size + 1, 0, none⟩ = some (.int .i64 c) ∧ W.cell? ⟨w.heap.size + 1, 1, none⟩ = some (.int .i64 d) ∧ W.cell? ⟨w.heap.size, 0, none⟩ = some (.int .i64 a) ∧ W.cell? ⟨w.heap.size, 1, none⟩ = some (.int .i64 b) ∧ Hid (Fr w [(w3.heap.size, Obj.cells #[.int .i64 j0, .int .i64 j1] 23 (0, 0)), (w2.heap.size, Obj.cells #[.int .i64 m0, .int .i64 m1] 23 (0, 0)), (w.heap.size + 1, Obj.cells #[.int .i64 c, .int .i64 d] 23 (0, 0)), (w.heap.size, Obj.cells #[.int .i64 a, .int .i64 b] 23 (0, 0))] W)) W → Below W.heap.size W W' → Fr w [(w3.heap.size, Obj.cells #[.int .i64 j0, .int .i64 j1] 23 (0, 0)), (w2.heap.size, Obj.cells #[.int .i64 m0, .int .i64 m1] 23 (0, 0)), (w.heap.size + 1, Obj.cells #[.int .i64 c, .int .i64 d] 23 (0, 0)), (w.heap.size, Obj.cells #[.int .i64 a, .int .i64 b] 23 (0, 0))] W' from fun W W' h hb => h.2.2.2.2.2.2.2.2.out.below hb)
  have HT4 := Lib.hid (hS4 _ (G3.out.drew))
  clear hS4
  go_wp2_with fail
  go_region_held3 (fun W : World => W.cell? ⟨w3.heap.size, 0, none⟩ = some (.int .i64 j0) ∧ W.cell? ⟨w3.heap.size, 1, none⟩ = some (.int .i64 j1) ∧ W.cell? ⟨w2.heap.size, 0, none⟩ = some (.int .i64 m0) ∧ W.cell? ⟨w2.heap.size, 1, none⟩ = some (.int .i64 m1) ∧ W.cell? ⟨w.heap.size + 1, 0, none⟩ = some (.int .i64 c) ∧ W.cell? ⟨w.heap.size + 1, 1, none⟩ = some (.int .i64 d) ∧ W.cell? ⟨w.heap.size, 0, none⟩ = some (.int .i64 a) ∧ W.cell? ⟨w.heap.size, 1, none⟩ = some (.int .i64 b) ∧ Hid (Fr w [(w3.heap.size, Obj.cells #[.int .i64 j0, .int .i64 j1] 23 (0, 0)), (w2.heap.size, Obj.cells #[.int .i64 m0, .int .i64 m1] 23 (0, 0)), (w.heap.size + 1, Obj.cells #[.int .i64 c, .int .i64 d] 23 (0, 0)), (w.heap.size, Obj.cells #[.int .i64 a, .int .i64 b] 23 (0, 0))] W)) (first | exact HSb4.out _ _ (by assumption) hb | exact HSd4.out _ (by assumption) | exact HT4.out | go_keep) (first | (go_at_call 14; ((with_reducible refine (has_at _ HX.out).mono ?_)); rintro e w' ⟨rfl, hb⟩) | (go_at_call 14; ((with_reducible refine (has_at _ HY.out).mono ?_)); rintro e w' ⟨rfl, hb⟩))
  go_wp2_with fail
  refine (has_at _ HN.out).mono ?_
  rintro e w5 ⟨rfl, hb⟩
  have F5 := Lib.hid (HSf4.out _ _ (by assumption) hb)
  clear hb
  have c5_0_0 : w5.cell? ⟨w3.heap.size, 0, none⟩ = some (.int .i64 j0) := (F5.out.cell (t := 23) (cs := #[.int .i64 j0, .int .i64 j1]) (by simp) 0).trans rfl
  have c5_0_1 : w5.cell? ⟨w3.heap.size, 1, none⟩ = some (.int .i64 j1) := (F5.out.cell (t := 23) (cs := #[.int .i64 j0, .int .i64 j1]) (by simp) 1).trans rfl
  have c5_1_0 : w5.cell? ⟨w2.heap.size, 0, none⟩ = some (.int .i64 m0) := (F5.out.cell (t := 23) (cs := #[.int .i64 m0, .int .i64 m1]) (by simp) 0).trans rfl
  have c5_1_1 : w5.cell? ⟨w2.heap.size, 1, none⟩ = some (.int .i64 m1) := (F5.out.cell (t := 23) (cs := #[.int .i64 m0, .int .i64 m1]) (by simp) 1).trans rfl
  have c5_2_0 : w5.cell? ⟨w.heap.size + 1, 0, none⟩ = some (.int .i64 c) := (F5.out.cell (t := 23) (cs := #[.int .i64 c, .int .i64 d]) (by simp) 0).trans rfl
  have c5_2_1 : w5.cell? ⟨w.heap.size + 1, 1, none⟩ = some (.int .i64 d) := (F5.out.cell (t := 23) (cs := #[.int .i64 c, .int .i64 d]) (by simp) 1).trans rfl
  have c5_3_0 : w5.cell? ⟨w.heap.size, 0, none⟩ = some (.int .i64 a) := (F5.out.cell (t := 23) (cs := #[.int .i64 a, .int .i64 b]) (by simp) 0).trans rfl
  have c5_3_1 : w5.cell? ⟨w.heap.size, 1, none⟩ = some (.int .i64 b) := (F5.out.cell (t := 23) (cs := #[.int .i64 a, .int .i64 b]) (by simp) 1).trans rfl
  go_wp2_with fail
  refine (has_at _ HH.out).mono ?_
  rintro e w6 ⟨rfl, hb⟩
  have F6 := Lib.hid (F5.out.below hb)
  clear F5 c5_0_0 c5_0_1 c5_1_0 c5_1_1 c5_2_0 c5_2_1 c5_3_0 c5_3_1
  clear hb
  have c6_0_0 : w6.cell? ⟨w3.heap.size, 0, none⟩ = some (.int .i64 j0) := (F6.out.cell (t := 23) (cs := #[.int .i64 j0, .int .i64 j1]) (by simp) 0).trans rfl
  have c6_0_1 : w6.cell? ⟨w3.heap.size, 1, none⟩ = some (.int .i64 j1) := (F6.out.cell (t := 23) (cs := #[.int .i64 j0, .int .i64 j1]) (by simp) 1).trans rfl
  have c6_1_0 : w6.cell? ⟨w2.heap.size, 0, none⟩ = some (.int .i64 m0) := (F6.out.cell (t := 23) (cs := #[.int .i64 m0, .int .i64 m1]) (by simp) 0).trans rfl
  have c6_1_1 : w6.cell? ⟨w2.heap.size, 1, none⟩ = some (.int .i64 m1) := (F6.out.cell (t := 23) (cs := #[.int .i64 m0, .int .i64 m1]) (by simp) 1).trans rfl
  have c6_2_0 : w6.cell? ⟨w.heap.size + 1, 0, none⟩ = some (.int .i64 c) := (F6.out.cell (t := 23) (cs := #[.int .i64 c, .int .i64 d]) (by simp) 0).trans rfl
  have c6_2_1 : w6.cell? ⟨w.heap.size + 1, 1, none⟩ = some (.int .i64 d) := (F6.out.cell (t := 23) (cs := #[.int .i64 c, .int .i64 d]) (by simp) 1).trans rfl
  have c6_3_0 : w6.cell? ⟨w.heap.size, 0, none⟩ = some (.int .i64 a) := (F6.out.cell (t := 23) (cs := #[.int .i64 a, .int .i64 b]) (by simp) 0).trans rfl
  have c6_3_1 : w6.cell? ⟨w.heap.size, 1, none⟩ = some (.int .i64 b) := (F6.out.cell (t := 23) (cs := #[.int .i64 a, .int .i64 b]) (by simp) 1).trans rfl
  go_wp2_with fail
  go_ret
  exact ⟨rfl, F6.out.bel⟩
set_option maxHeartbeats 4000000 in
set_option maxRecDepth 10000 in
theorem places_ff2 (a b c d p m0 m1 j0 j1 : Int) (m2 : Bool) (w : World) (hm : meetS a b c d = (m0, m1, m2)) (hj : joinE a b c d = (j0, j1, 2)) (hx : hasB a b p = false) (hy : hasB c d p = false) :
    Calls Try.prog 5 #[.agg #[.int .i64 a, .int .i64 b], .agg #[.int .i64 c, .int .i64 d], .int .i64 p] w fun e w' => e = .returned (.bool true) ∧ Below w.heap.size w w' := by
  have hu23 := Try.underlying23
  have HN := Lib.hid (show hasB m0 m1 p = false by rw [meet_has a b c d p m0 m1 m2 hm, hx, hy]; rfl)
  have HM := Lib.hid hm
  have HX := Lib.hid hx
  have HY := Lib.hid hy
  have HJ := Lib.hid hj
  clear hm hx hy hj
  go_enter Try.func5, Try.ntmps5
  go_wp2_with fail
  refine (awake_at _).mono ?_
  rintro e w1 ⟨rfl, hb⟩
  have F1 : Hid (Fr w [(w.heap.size + 1, Obj.cells #[.int .i64 c, .int .i64 d] 23 (0, 0)), (w.heap.size, Obj.cells #[.int .i64 a, .int .i64 b] 23 (0, 0))] w1) := Lib.hid (by simpa using (((Fr.start w).alloc (.cells #[.int .i64 a, .int .i64 b] 23 (0, 0))).alloc (.cells #[.int .i64 c, .int .i64 d] 23 (0, 0))).below hb)
  clear hb
  have c1_0_0 : w1.cell? ⟨w.heap.size + 1, 0, none⟩ = some (.int .i64 c) := (F1.out.cell (t := 23) (cs := #[.int .i64 c, .int .i64 d]) (by simp) 0).trans rfl
  have c1_0_1 : w1.cell? ⟨w.heap.size + 1, 1, none⟩ = some (.int .i64 d) := (F1.out.cell (t := 23) (cs := #[.int .i64 c, .int .i64 d]) (by simp) 1).trans rfl
  have c1_1_0 : w1.cell? ⟨w.heap.size, 0, none⟩ = some (.int .i64 a) := (F1.out.cell (t := 23) (cs := #[.int .i64 a, .int .i64 b]) (by simp) 0).trans rfl
  have c1_1_1 : w1.cell? ⟨w.heap.size, 1, none⟩ = some (.int .i64 b) := (F1.out.cell (t := 23) (cs := #[.int .i64 a, .int .i64 b]) (by simp) 1).trans rfl
  go_wp2_with fail
  refine (meet_at _ HM.out).mono ?_
  rintro e w2 ⟨rfl, hb⟩
  have F2 := Lib.hid (F1.out.below hb)
  clear F1 c1_0_0 c1_0_1 c1_1_0 c1_1_1
  clear hb
  have c2_0_0 : (w2.alloc (.cells #[.int .i64 m0, .int .i64 m1] 23 (0, 0))).cell? ⟨w2.heap.size, 0, none⟩ = some (.int .i64 m0) := ((F2.out.alloc (.cells #[.int .i64 m0, .int .i64 m1] 23 (0, 0))).cell (t := 23) (cs := #[.int .i64 m0, .int .i64 m1]) (by simp) 0).trans rfl
  have c2_0_1 : (w2.alloc (.cells #[.int .i64 m0, .int .i64 m1] 23 (0, 0))).cell? ⟨w2.heap.size, 1, none⟩ = some (.int .i64 m1) := ((F2.out.alloc (.cells #[.int .i64 m0, .int .i64 m1] 23 (0, 0))).cell (t := 23) (cs := #[.int .i64 m0, .int .i64 m1]) (by simp) 1).trans rfl
  have c2_1_0 : (w2.alloc (.cells #[.int .i64 m0, .int .i64 m1] 23 (0, 0))).cell? ⟨w.heap.size + 1, 0, none⟩ = some (.int .i64 c) := ((F2.out.alloc (.cells #[.int .i64 m0, .int .i64 m1] 23 (0, 0))).cell (t := 23) (cs := #[.int .i64 c, .int .i64 d]) (by simp) 0).trans rfl
  have c2_1_1 : (w2.alloc (.cells #[.int .i64 m0, .int .i64 m1] 23 (0, 0))).cell? ⟨w.heap.size + 1, 1, none⟩ = some (.int .i64 d) := ((F2.out.alloc (.cells #[.int .i64 m0, .int .i64 m1] 23 (0, 0))).cell (t := 23) (cs := #[.int .i64 c, .int .i64 d]) (by simp) 1).trans rfl
  have c2_2_0 : (w2.alloc (.cells #[.int .i64 m0, .int .i64 m1] 23 (0, 0))).cell? ⟨w.heap.size, 0, none⟩ = some (.int .i64 a) := ((F2.out.alloc (.cells #[.int .i64 m0, .int .i64 m1] 23 (0, 0))).cell (t := 23) (cs := #[.int .i64 a, .int .i64 b]) (by simp) 0).trans rfl
  have c2_2_1 : (w2.alloc (.cells #[.int .i64 m0, .int .i64 m1] 23 (0, 0))).cell? ⟨w.heap.size, 1, none⟩ = some (.int .i64 b) := ((F2.out.alloc (.cells #[.int .i64 m0, .int .i64 m1] 23 (0, 0))).cell (t := 23) (cs := #[.int .i64 a, .int .i64 b]) (by simp) 1).trans rfl
  go_wp2_with fail
  refine (join_at _ HJ.out).mono ?_
  rintro e w3 ⟨rfl, hb⟩
  have F3 := Lib.hid ((F2.out.alloc (.cells #[.int .i64 m0, .int .i64 m1] 23 (0, 0))).below hb)
  clear F2 c2_0_0 c2_0_1 c2_1_0 c2_1_1 c2_2_0 c2_2_1
  clear hb
  have c3_0_0 : (w3.alloc (.cells #[.int .i64 j0, .int .i64 j1] 23 (0, 0))).cell? ⟨w3.heap.size, 0, none⟩ = some (.int .i64 j0) := ((F3.out.alloc (.cells #[.int .i64 j0, .int .i64 j1] 23 (0, 0))).cell (t := 23) (cs := #[.int .i64 j0, .int .i64 j1]) (by simp) 0).trans rfl
  have c3_0_1 : (w3.alloc (.cells #[.int .i64 j0, .int .i64 j1] 23 (0, 0))).cell? ⟨w3.heap.size, 1, none⟩ = some (.int .i64 j1) := ((F3.out.alloc (.cells #[.int .i64 j0, .int .i64 j1] 23 (0, 0))).cell (t := 23) (cs := #[.int .i64 j0, .int .i64 j1]) (by simp) 1).trans rfl
  have c3_1_0 : (w3.alloc (.cells #[.int .i64 j0, .int .i64 j1] 23 (0, 0))).cell? ⟨w2.heap.size, 0, none⟩ = some (.int .i64 m0) := ((F3.out.alloc (.cells #[.int .i64 j0, .int .i64 j1] 23 (0, 0))).cell (t := 23) (cs := #[.int .i64 m0, .int .i64 m1]) (by simp) 0).trans rfl
  have c3_1_1 : (w3.alloc (.cells #[.int .i64 j0, .int .i64 j1] 23 (0, 0))).cell? ⟨w2.heap.size, 1, none⟩ = some (.int .i64 m1) := ((F3.out.alloc (.cells #[.int .i64 j0, .int .i64 j1] 23 (0, 0))).cell (t := 23) (cs := #[.int .i64 m0, .int .i64 m1]) (by simp) 1).trans rfl
  have c3_2_0 : (w3.alloc (.cells #[.int .i64 j0, .int .i64 j1] 23 (0, 0))).cell? ⟨w.heap.size + 1, 0, none⟩ = some (.int .i64 c) := ((F3.out.alloc (.cells #[.int .i64 j0, .int .i64 j1] 23 (0, 0))).cell (t := 23) (cs := #[.int .i64 c, .int .i64 d]) (by simp) 0).trans rfl
  have c3_2_1 : (w3.alloc (.cells #[.int .i64 j0, .int .i64 j1] 23 (0, 0))).cell? ⟨w.heap.size + 1, 1, none⟩ = some (.int .i64 d) := ((F3.out.alloc (.cells #[.int .i64 j0, .int .i64 j1] 23 (0, 0))).cell (t := 23) (cs := #[.int .i64 c, .int .i64 d]) (by simp) 1).trans rfl
  have c3_3_0 : (w3.alloc (.cells #[.int .i64 j0, .int .i64 j1] 23 (0, 0))).cell? ⟨w.heap.size, 0, none⟩ = some (.int .i64 a) := ((F3.out.alloc (.cells #[.int .i64 j0, .int .i64 j1] 23 (0, 0))).cell (t := 23) (cs := #[.int .i64 a, .int .i64 b]) (by simp) 0).trans rfl
  have c3_3_1 : (w3.alloc (.cells #[.int .i64 j0, .int .i64 j1] 23 (0, 0))).cell? ⟨w.heap.size, 1, none⟩ = some (.int .i64 b) := ((F3.out.alloc (.cells #[.int .i64 j0, .int .i64 j1] 23 (0, 0))).cell (t := 23) (cs := #[.int .i64 a, .int .i64 b]) (by simp) 1).trans rfl
  have G3 := Lib.hid (F3.out.alloc (.cells #[.int .i64 j0, .int .i64 j1] 23 (0, 0)))
  clear F3
  have hS4 : ∀ W : World, Fr w [(w3.heap.size, Obj.cells #[.int .i64 j0, .int .i64 j1] 23 (0, 0)), (w2.heap.size, Obj.cells #[.int .i64 m0, .int .i64 m1] 23 (0, 0)), (w.heap.size + 1, Obj.cells #[.int .i64 c, .int .i64 d] 23 (0, 0)), (w.heap.size, Obj.cells #[.int .i64 a, .int .i64 b] 23 (0, 0))] W → (fun W : World => W.cell? ⟨w3.heap.size, 0, none⟩ = some (.int .i64 j0) ∧ W.cell? ⟨w3.heap.size, 1, none⟩ = some (.int .i64 j1) ∧ W.cell? ⟨w2.heap.size, 0, none⟩ = some (.int .i64 m0) ∧ W.cell? ⟨w2.heap.size, 1, none⟩ = some (.int .i64 m1) ∧ W.cell? ⟨w.heap.size + 1, 0, none⟩ = some (.int .i64 c) ∧ W.cell? ⟨w.heap.size + 1, 1, none⟩ = some (.int .i64 d) ∧ W.cell? ⟨w.heap.size, 0, none⟩ = some (.int .i64 a) ∧ W.cell? ⟨w.heap.size, 1, none⟩ = some (.int .i64 b) ∧ Hid (Fr w [(w3.heap.size, Obj.cells #[.int .i64 j0, .int .i64 j1] 23 (0, 0)), (w2.heap.size, Obj.cells #[.int .i64 m0, .int .i64 m1] 23 (0, 0)), (w.heap.size + 1, Obj.cells #[.int .i64 c, .int .i64 d] 23 (0, 0)), (w.heap.size, Obj.cells #[.int .i64 a, .int .i64 b] 23 (0, 0))] W)) W := fun W h => ⟨(h.cell (t := 23) (cs := #[.int .i64 j0, .int .i64 j1]) (by simp) 0).trans rfl, (h.cell (t := 23) (cs := #[.int .i64 j0, .int .i64 j1]) (by simp) 1).trans rfl, (h.cell (t := 23) (cs := #[.int .i64 m0, .int .i64 m1]) (by simp) 0).trans rfl, (h.cell (t := 23) (cs := #[.int .i64 m0, .int .i64 m1]) (by simp) 1).trans rfl, (h.cell (t := 23) (cs := #[.int .i64 c, .int .i64 d]) (by simp) 0).trans rfl, (h.cell (t := 23) (cs := #[.int .i64 c, .int .i64 d]) (by simp) 1).trans rfl, (h.cell (t := 23) (cs := #[.int .i64 a, .int .i64 b]) (by simp) 0).trans rfl, (h.cell (t := 23) (cs := #[.int .i64 a, .int .i64 b]) (by simp) 1).trans rfl, Lib.hid h⟩
  have HSb4 := Lib.hid (show ∀ W W' : World, (fun W : World => W.cell? ⟨w3.heap.size, 0, none⟩ = some (.int .i64 j0) ∧ W.cell? ⟨w3.heap.size, 1, none⟩ = some (.int .i64 j1) ∧ W.cell? ⟨w2.heap.size, 0, none⟩ = some (.int .i64 m0) ∧ W.cell? ⟨w2.heap.size, 1, none⟩ = some (.int .i64 m1) ∧ W.cell? ⟨w.heap.size + 1, 0, none⟩ = some (.int .i64 c) ∧ W.cell? ⟨w.heap.size + 1, 1, none⟩ = some (.int .i64 d) ∧ W.cell? ⟨w.heap.size, 0, none⟩ = some (.int .i64 a) ∧ W.cell? ⟨w.heap.size, 1, none⟩ = some (.int .i64 b) ∧ Hid (Fr w [(w3.heap.size, Obj.cells #[.int .i64 j0, .int .i64 j1] 23 (0, 0)), (w2.heap.size, Obj.cells #[.int .i64 m0, .int .i64 m1] 23 (0, 0)), (w.heap.size + 1, Obj.cells #[.int .i64 c, .int .i64 d] 23 (0, 0)), (w.heap.size, Obj.cells #[.int .i64 a, .int .i64 b] 23 (0, 0))] W)) W → Below W.heap.size W W' → (fun W : World => W.cell? ⟨w3.heap.size, 0, none⟩ = some (.int .i64 j0) ∧ W.cell? ⟨w3.heap.size, 1, none⟩ = some (.int .i64 j1) ∧ W.cell? ⟨w2.heap.size, 0, none⟩ = some (.int .i64 m0) ∧ W.cell? ⟨w2.heap.size, 1, none⟩ = some (.int .i64 m1) ∧ W.cell? ⟨w.heap.size + 1, 0, none⟩ = some (.int .i64 c) ∧ W.cell? ⟨w.heap.size + 1, 1, none⟩ = some (.int .i64 d) ∧ W.cell? ⟨w.heap.size, 0, none⟩ = some (.int .i64 a) ∧ W.cell? ⟨w.heap.size, 1, none⟩ = some (.int .i64 b) ∧ Hid (Fr w [(w3.heap.size, Obj.cells #[.int .i64 j0, .int .i64 j1] 23 (0, 0)), (w2.heap.size, Obj.cells #[.int .i64 m0, .int .i64 m1] 23 (0, 0)), (w.heap.size + 1, Obj.cells #[.int .i64 c, .int .i64 d] 23 (0, 0)), (w.heap.size, Obj.cells #[.int .i64 a, .int .i64 b] 23 (0, 0))] W)) W' from fun W W' h hb => hS4 _ (h.2.2.2.2.2.2.2.2.out.below hb))
  have HSd4 := Lib.hid (show ∀ W : World, (fun W : World => W.cell? ⟨w3.heap.size, 0, none⟩ = some (.int .i64 j0) ∧ W.cell? ⟨w3.heap.size, 1, none⟩ = some (.int .i64 j1) ∧ W.cell? ⟨w2.heap.size, 0, none⟩ = some (.int .i64 m0) ∧ W.cell? ⟨w2.heap.size, 1, none⟩ = some (.int .i64 m1) ∧ W.cell? ⟨w.heap.size + 1, 0, none⟩ = some (.int .i64 c) ∧ W.cell? ⟨w.heap.size + 1, 1, none⟩ = some (.int .i64 d) ∧ W.cell? ⟨w.heap.size, 0, none⟩ = some (.int .i64 a) ∧ W.cell? ⟨w.heap.size, 1, none⟩ = some (.int .i64 b) ∧ Hid (Fr w [(w3.heap.size, Obj.cells #[.int .i64 j0, .int .i64 j1] 23 (0, 0)), (w2.heap.size, Obj.cells #[.int .i64 m0, .int .i64 m1] 23 (0, 0)), (w.heap.size + 1, Obj.cells #[.int .i64 c, .int .i64 d] 23 (0, 0)), (w.heap.size, Obj.cells #[.int .i64 a, .int .i64 b] 23 (0, 0))] W)) W → (fun W : World => W.cell? ⟨w3.heap.size, 0, none⟩ = some (.int .i64 j0) ∧ W.cell? ⟨w3.heap.size, 1, none⟩ = some (.int .i64 j1) ∧ W.cell? ⟨w2.heap.size, 0, none⟩ = some (.int .i64 m0) ∧ W.cell? ⟨w2.heap.size, 1, none⟩ = some (.int .i64 m1) ∧ W.cell? ⟨w.heap.size + 1, 0, none⟩ = some (.int .i64 c) ∧ W.cell? ⟨w.heap.size + 1, 1, none⟩ = some (.int .i64 d) ∧ W.cell? ⟨w.heap.size, 0, none⟩ = some (.int .i64 a) ∧ W.cell? ⟨w.heap.size, 1, none⟩ = some (.int .i64 b) ∧ Hid (Fr w [(w3.heap.size, Obj.cells #[.int .i64 j0, .int .i64 j1] 23 (0, 0)), (w2.heap.size, Obj.cells #[.int .i64 m0, .int .i64 m1] 23 (0, 0)), (w.heap.size + 1, Obj.cells #[.int .i64 c, .int .i64 d] 23 (0, 0)), (w.heap.size, Obj.cells #[.int .i64 a, .int .i64 b] 23 (0, 0))] W)) W.drew from fun W h => hS4 _ (h.2.2.2.2.2.2.2.2.out.drew))
  have HSf4 := Lib.hid (show ∀ W W' : World, (fun W : World => W.cell? ⟨w3.heap.size, 0, none⟩ = some (.int .i64 j0) ∧ W.cell? ⟨w3.heap.size, 1, none⟩ = some (.int .i64 j1) ∧ W.cell? ⟨w2.heap.size, 0, none⟩ = some (.int .i64 m0) ∧ W.cell? ⟨w2.heap.size, 1, none⟩ = some (.int .i64 m1) ∧ W.cell? ⟨w.heap.size + 1, 0, none⟩ = some (.int .i64 c) ∧ W.cell? ⟨w.heap.size + 1, 1, none⟩ = some (.int .i64 d) ∧ W.cell? ⟨w.heap.size, 0, none⟩ = some (.int .i64 a) ∧ W.cell? ⟨w.heap.size, 1, none⟩ = some (.int .i64 b) ∧ Hid (Fr w [(w3.heap.size, Obj.cells #[.int .i64 j0, .int .i64 j1] 23 (0, 0)), (w2.heap.size, Obj.cells #[.int .i64 m0, .int .i64 m1] 23 (0, 0)), (w.heap.size + 1, Obj.cells #[.int .i64 c, .int .i64 d] 23 (0, 0)), (w.heap.size, Obj.cells #[.int .i64 a, .int .i64 b] 23 (0, 0))] W)) W → Below W.heap.size W W' → Fr w [(w3.heap.size, Obj.cells #[.int .i64 j0, .int .i64 j1] 23 (0, 0)), (w2.heap.size, Obj.cells #[.int .i64 m0, .int .i64 m1] 23 (0, 0)), (w.heap.size + 1, Obj.cells #[.int .i64 c, .int .i64 d] 23 (0, 0)), (w.heap.size, Obj.cells #[.int .i64 a, .int .i64 b] 23 (0, 0))] W' from fun W W' h hb => h.2.2.2.2.2.2.2.2.out.below hb)
  have HT4 := Lib.hid (hS4 _ (G3.out.drew))
  clear hS4
  go_wp2_with fail
  go_region_held3 (fun W : World => W.cell? ⟨w3.heap.size, 0, none⟩ = some (.int .i64 j0) ∧ W.cell? ⟨w3.heap.size, 1, none⟩ = some (.int .i64 j1) ∧ W.cell? ⟨w2.heap.size, 0, none⟩ = some (.int .i64 m0) ∧ W.cell? ⟨w2.heap.size, 1, none⟩ = some (.int .i64 m1) ∧ W.cell? ⟨w.heap.size + 1, 0, none⟩ = some (.int .i64 c) ∧ W.cell? ⟨w.heap.size + 1, 1, none⟩ = some (.int .i64 d) ∧ W.cell? ⟨w.heap.size, 0, none⟩ = some (.int .i64 a) ∧ W.cell? ⟨w.heap.size, 1, none⟩ = some (.int .i64 b) ∧ Hid (Fr w [(w3.heap.size, Obj.cells #[.int .i64 j0, .int .i64 j1] 23 (0, 0)), (w2.heap.size, Obj.cells #[.int .i64 m0, .int .i64 m1] 23 (0, 0)), (w.heap.size + 1, Obj.cells #[.int .i64 c, .int .i64 d] 23 (0, 0)), (w.heap.size, Obj.cells #[.int .i64 a, .int .i64 b] 23 (0, 0))] W)) (first | exact HSb4.out _ _ (by assumption) hb | exact HSd4.out _ (by assumption) | exact HT4.out | go_keep) (first | (go_at_call 14; ((with_reducible refine (has_at _ HX.out).mono ?_)); rintro e w' ⟨rfl, hb⟩) | (go_at_call 14; ((with_reducible refine (has_at _ HY.out).mono ?_)); rintro e w' ⟨rfl, hb⟩))
  go_wp2_with fail
  refine (has_at _ HN.out).mono ?_
  rintro e w5 ⟨rfl, hb⟩
  have F5 := Lib.hid (HSf4.out _ _ (by assumption) hb)
  clear hb
  have c5_0_0 : w5.cell? ⟨w3.heap.size, 0, none⟩ = some (.int .i64 j0) := (F5.out.cell (t := 23) (cs := #[.int .i64 j0, .int .i64 j1]) (by simp) 0).trans rfl
  have c5_0_1 : w5.cell? ⟨w3.heap.size, 1, none⟩ = some (.int .i64 j1) := (F5.out.cell (t := 23) (cs := #[.int .i64 j0, .int .i64 j1]) (by simp) 1).trans rfl
  have c5_1_0 : w5.cell? ⟨w2.heap.size, 0, none⟩ = some (.int .i64 m0) := (F5.out.cell (t := 23) (cs := #[.int .i64 m0, .int .i64 m1]) (by simp) 0).trans rfl
  have c5_1_1 : w5.cell? ⟨w2.heap.size, 1, none⟩ = some (.int .i64 m1) := (F5.out.cell (t := 23) (cs := #[.int .i64 m0, .int .i64 m1]) (by simp) 1).trans rfl
  have c5_2_0 : w5.cell? ⟨w.heap.size + 1, 0, none⟩ = some (.int .i64 c) := (F5.out.cell (t := 23) (cs := #[.int .i64 c, .int .i64 d]) (by simp) 0).trans rfl
  have c5_2_1 : w5.cell? ⟨w.heap.size + 1, 1, none⟩ = some (.int .i64 d) := (F5.out.cell (t := 23) (cs := #[.int .i64 c, .int .i64 d]) (by simp) 1).trans rfl
  have c5_3_0 : w5.cell? ⟨w.heap.size, 0, none⟩ = some (.int .i64 a) := (F5.out.cell (t := 23) (cs := #[.int .i64 a, .int .i64 b]) (by simp) 0).trans rfl
  have c5_3_1 : w5.cell? ⟨w.heap.size, 1, none⟩ = some (.int .i64 b) := (F5.out.cell (t := 23) (cs := #[.int .i64 a, .int .i64 b]) (by simp) 1).trans rfl
  go_wp2_with fail
  go_ret
  exact ⟨rfl, F5.out.bel⟩
set_option maxHeartbeats 4000000 in
set_option maxRecDepth 10000 in
theorem places_ff0t (a b c d p m0 m1 j0 j1 : Int) (m2 : Bool) (w : World) (hm : meetS a b c d = (m0, m1, m2)) (hj : joinE a b c d = (j0, j1, 0)) (hx : hasB a b p = false) (hy : hasB c d p = false) (hd : decide (65536 < j1) = true) :
    Calls Try.prog 5 #[.agg #[.int .i64 a, .int .i64 b], .agg #[.int .i64 c, .int .i64 d], .int .i64 p] w fun e w' => e = .returned (.bool true) ∧ Below w.heap.size w w' := by
  have hu23 := Try.underlying23
  have HN := Lib.hid (show hasB m0 m1 p = false by rw [meet_has a b c d p m0 m1 m2 hm, hx, hy]; rfl)
  have HM := Lib.hid hm
  have HX := Lib.hid hx
  have HY := Lib.hid hy
  have HJ := Lib.hid hj
  clear hm hx hy hj
  go_enter Try.func5, Try.ntmps5
  go_wp2_with fail
  refine (awake_at _).mono ?_
  rintro e w1 ⟨rfl, hb⟩
  have F1 : Hid (Fr w [(w.heap.size + 1, Obj.cells #[.int .i64 c, .int .i64 d] 23 (0, 0)), (w.heap.size, Obj.cells #[.int .i64 a, .int .i64 b] 23 (0, 0))] w1) := Lib.hid (by simpa using (((Fr.start w).alloc (.cells #[.int .i64 a, .int .i64 b] 23 (0, 0))).alloc (.cells #[.int .i64 c, .int .i64 d] 23 (0, 0))).below hb)
  clear hb
  have c1_0_0 : w1.cell? ⟨w.heap.size + 1, 0, none⟩ = some (.int .i64 c) := (F1.out.cell (t := 23) (cs := #[.int .i64 c, .int .i64 d]) (by simp) 0).trans rfl
  have c1_0_1 : w1.cell? ⟨w.heap.size + 1, 1, none⟩ = some (.int .i64 d) := (F1.out.cell (t := 23) (cs := #[.int .i64 c, .int .i64 d]) (by simp) 1).trans rfl
  have c1_1_0 : w1.cell? ⟨w.heap.size, 0, none⟩ = some (.int .i64 a) := (F1.out.cell (t := 23) (cs := #[.int .i64 a, .int .i64 b]) (by simp) 0).trans rfl
  have c1_1_1 : w1.cell? ⟨w.heap.size, 1, none⟩ = some (.int .i64 b) := (F1.out.cell (t := 23) (cs := #[.int .i64 a, .int .i64 b]) (by simp) 1).trans rfl
  go_wp2_with fail
  refine (meet_at _ HM.out).mono ?_
  rintro e w2 ⟨rfl, hb⟩
  have F2 := Lib.hid (F1.out.below hb)
  clear F1 c1_0_0 c1_0_1 c1_1_0 c1_1_1
  clear hb
  have c2_0_0 : (w2.alloc (.cells #[.int .i64 m0, .int .i64 m1] 23 (0, 0))).cell? ⟨w2.heap.size, 0, none⟩ = some (.int .i64 m0) := ((F2.out.alloc (.cells #[.int .i64 m0, .int .i64 m1] 23 (0, 0))).cell (t := 23) (cs := #[.int .i64 m0, .int .i64 m1]) (by simp) 0).trans rfl
  have c2_0_1 : (w2.alloc (.cells #[.int .i64 m0, .int .i64 m1] 23 (0, 0))).cell? ⟨w2.heap.size, 1, none⟩ = some (.int .i64 m1) := ((F2.out.alloc (.cells #[.int .i64 m0, .int .i64 m1] 23 (0, 0))).cell (t := 23) (cs := #[.int .i64 m0, .int .i64 m1]) (by simp) 1).trans rfl
  have c2_1_0 : (w2.alloc (.cells #[.int .i64 m0, .int .i64 m1] 23 (0, 0))).cell? ⟨w.heap.size + 1, 0, none⟩ = some (.int .i64 c) := ((F2.out.alloc (.cells #[.int .i64 m0, .int .i64 m1] 23 (0, 0))).cell (t := 23) (cs := #[.int .i64 c, .int .i64 d]) (by simp) 0).trans rfl
  have c2_1_1 : (w2.alloc (.cells #[.int .i64 m0, .int .i64 m1] 23 (0, 0))).cell? ⟨w.heap.size + 1, 1, none⟩ = some (.int .i64 d) := ((F2.out.alloc (.cells #[.int .i64 m0, .int .i64 m1] 23 (0, 0))).cell (t := 23) (cs := #[.int .i64 c, .int .i64 d]) (by simp) 1).trans rfl
  have c2_2_0 : (w2.alloc (.cells #[.int .i64 m0, .int .i64 m1] 23 (0, 0))).cell? ⟨w.heap.size, 0, none⟩ = some (.int .i64 a) := ((F2.out.alloc (.cells #[.int .i64 m0, .int .i64 m1] 23 (0, 0))).cell (t := 23) (cs := #[.int .i64 a, .int .i64 b]) (by simp) 0).trans rfl
  have c2_2_1 : (w2.alloc (.cells #[.int .i64 m0, .int .i64 m1] 23 (0, 0))).cell? ⟨w.heap.size, 1, none⟩ = some (.int .i64 b) := ((F2.out.alloc (.cells #[.int .i64 m0, .int .i64 m1] 23 (0, 0))).cell (t := 23) (cs := #[.int .i64 a, .int .i64 b]) (by simp) 1).trans rfl
  go_wp2_with fail
  refine (join_at _ HJ.out).mono ?_
  rintro e w3 ⟨rfl, hb⟩
  have F3 := Lib.hid ((F2.out.alloc (.cells #[.int .i64 m0, .int .i64 m1] 23 (0, 0))).below hb)
  clear F2 c2_0_0 c2_0_1 c2_1_0 c2_1_1 c2_2_0 c2_2_1
  clear hb
  have c3_0_0 : (w3.alloc (.cells #[.int .i64 j0, .int .i64 j1] 23 (0, 0))).cell? ⟨w3.heap.size, 0, none⟩ = some (.int .i64 j0) := ((F3.out.alloc (.cells #[.int .i64 j0, .int .i64 j1] 23 (0, 0))).cell (t := 23) (cs := #[.int .i64 j0, .int .i64 j1]) (by simp) 0).trans rfl
  have c3_0_1 : (w3.alloc (.cells #[.int .i64 j0, .int .i64 j1] 23 (0, 0))).cell? ⟨w3.heap.size, 1, none⟩ = some (.int .i64 j1) := ((F3.out.alloc (.cells #[.int .i64 j0, .int .i64 j1] 23 (0, 0))).cell (t := 23) (cs := #[.int .i64 j0, .int .i64 j1]) (by simp) 1).trans rfl
  have c3_1_0 : (w3.alloc (.cells #[.int .i64 j0, .int .i64 j1] 23 (0, 0))).cell? ⟨w2.heap.size, 0, none⟩ = some (.int .i64 m0) := ((F3.out.alloc (.cells #[.int .i64 j0, .int .i64 j1] 23 (0, 0))).cell (t := 23) (cs := #[.int .i64 m0, .int .i64 m1]) (by simp) 0).trans rfl
  have c3_1_1 : (w3.alloc (.cells #[.int .i64 j0, .int .i64 j1] 23 (0, 0))).cell? ⟨w2.heap.size, 1, none⟩ = some (.int .i64 m1) := ((F3.out.alloc (.cells #[.int .i64 j0, .int .i64 j1] 23 (0, 0))).cell (t := 23) (cs := #[.int .i64 m0, .int .i64 m1]) (by simp) 1).trans rfl
  have c3_2_0 : (w3.alloc (.cells #[.int .i64 j0, .int .i64 j1] 23 (0, 0))).cell? ⟨w.heap.size + 1, 0, none⟩ = some (.int .i64 c) := ((F3.out.alloc (.cells #[.int .i64 j0, .int .i64 j1] 23 (0, 0))).cell (t := 23) (cs := #[.int .i64 c, .int .i64 d]) (by simp) 0).trans rfl
  have c3_2_1 : (w3.alloc (.cells #[.int .i64 j0, .int .i64 j1] 23 (0, 0))).cell? ⟨w.heap.size + 1, 1, none⟩ = some (.int .i64 d) := ((F3.out.alloc (.cells #[.int .i64 j0, .int .i64 j1] 23 (0, 0))).cell (t := 23) (cs := #[.int .i64 c, .int .i64 d]) (by simp) 1).trans rfl
  have c3_3_0 : (w3.alloc (.cells #[.int .i64 j0, .int .i64 j1] 23 (0, 0))).cell? ⟨w.heap.size, 0, none⟩ = some (.int .i64 a) := ((F3.out.alloc (.cells #[.int .i64 j0, .int .i64 j1] 23 (0, 0))).cell (t := 23) (cs := #[.int .i64 a, .int .i64 b]) (by simp) 0).trans rfl
  have c3_3_1 : (w3.alloc (.cells #[.int .i64 j0, .int .i64 j1] 23 (0, 0))).cell? ⟨w.heap.size, 1, none⟩ = some (.int .i64 b) := ((F3.out.alloc (.cells #[.int .i64 j0, .int .i64 j1] 23 (0, 0))).cell (t := 23) (cs := #[.int .i64 a, .int .i64 b]) (by simp) 1).trans rfl
  have G3 := Lib.hid (F3.out.alloc (.cells #[.int .i64 j0, .int .i64 j1] 23 (0, 0)))
  clear F3
  have hS4 : ∀ W : World, Fr w [(w3.heap.size, Obj.cells #[.int .i64 j0, .int .i64 j1] 23 (0, 0)), (w2.heap.size, Obj.cells #[.int .i64 m0, .int .i64 m1] 23 (0, 0)), (w.heap.size + 1, Obj.cells #[.int .i64 c, .int .i64 d] 23 (0, 0)), (w.heap.size, Obj.cells #[.int .i64 a, .int .i64 b] 23 (0, 0))] W → (fun W : World => W.cell? ⟨w3.heap.size, 0, none⟩ = some (.int .i64 j0) ∧ W.cell? ⟨w3.heap.size, 1, none⟩ = some (.int .i64 j1) ∧ W.cell? ⟨w2.heap.size, 0, none⟩ = some (.int .i64 m0) ∧ W.cell? ⟨w2.heap.size, 1, none⟩ = some (.int .i64 m1) ∧ W.cell? ⟨w.heap.size + 1, 0, none⟩ = some (.int .i64 c) ∧ W.cell? ⟨w.heap.size + 1, 1, none⟩ = some (.int .i64 d) ∧ W.cell? ⟨w.heap.size, 0, none⟩ = some (.int .i64 a) ∧ W.cell? ⟨w.heap.size, 1, none⟩ = some (.int .i64 b) ∧ Hid (Fr w [(w3.heap.size, Obj.cells #[.int .i64 j0, .int .i64 j1] 23 (0, 0)), (w2.heap.size, Obj.cells #[.int .i64 m0, .int .i64 m1] 23 (0, 0)), (w.heap.size + 1, Obj.cells #[.int .i64 c, .int .i64 d] 23 (0, 0)), (w.heap.size, Obj.cells #[.int .i64 a, .int .i64 b] 23 (0, 0))] W)) W := fun W h => ⟨(h.cell (t := 23) (cs := #[.int .i64 j0, .int .i64 j1]) (by simp) 0).trans rfl, (h.cell (t := 23) (cs := #[.int .i64 j0, .int .i64 j1]) (by simp) 1).trans rfl, (h.cell (t := 23) (cs := #[.int .i64 m0, .int .i64 m1]) (by simp) 0).trans rfl, (h.cell (t := 23) (cs := #[.int .i64 m0, .int .i64 m1]) (by simp) 1).trans rfl, (h.cell (t := 23) (cs := #[.int .i64 c, .int .i64 d]) (by simp) 0).trans rfl, (h.cell (t := 23) (cs := #[.int .i64 c, .int .i64 d]) (by simp) 1).trans rfl, (h.cell (t := 23) (cs := #[.int .i64 a, .int .i64 b]) (by simp) 0).trans rfl, (h.cell (t := 23) (cs := #[.int .i64 a, .int .i64 b]) (by simp) 1).trans rfl, Lib.hid h⟩
  have HSb4 := Lib.hid (show ∀ W W' : World, (fun W : World => W.cell? ⟨w3.heap.size, 0, none⟩ = some (.int .i64 j0) ∧ W.cell? ⟨w3.heap.size, 1, none⟩ = some (.int .i64 j1) ∧ W.cell? ⟨w2.heap.size, 0, none⟩ = some (.int .i64 m0) ∧ W.cell? ⟨w2.heap.size, 1, none⟩ = some (.int .i64 m1) ∧ W.cell? ⟨w.heap.size + 1, 0, none⟩ = some (.int .i64 c) ∧ W.cell? ⟨w.heap.size + 1, 1, none⟩ = some (.int .i64 d) ∧ W.cell? ⟨w.heap.size, 0, none⟩ = some (.int .i64 a) ∧ W.cell? ⟨w.heap.size, 1, none⟩ = some (.int .i64 b) ∧ Hid (Fr w [(w3.heap.size, Obj.cells #[.int .i64 j0, .int .i64 j1] 23 (0, 0)), (w2.heap.size, Obj.cells #[.int .i64 m0, .int .i64 m1] 23 (0, 0)), (w.heap.size + 1, Obj.cells #[.int .i64 c, .int .i64 d] 23 (0, 0)), (w.heap.size, Obj.cells #[.int .i64 a, .int .i64 b] 23 (0, 0))] W)) W → Below W.heap.size W W' → (fun W : World => W.cell? ⟨w3.heap.size, 0, none⟩ = some (.int .i64 j0) ∧ W.cell? ⟨w3.heap.size, 1, none⟩ = some (.int .i64 j1) ∧ W.cell? ⟨w2.heap.size, 0, none⟩ = some (.int .i64 m0) ∧ W.cell? ⟨w2.heap.size, 1, none⟩ = some (.int .i64 m1) ∧ W.cell? ⟨w.heap.size + 1, 0, none⟩ = some (.int .i64 c) ∧ W.cell? ⟨w.heap.size + 1, 1, none⟩ = some (.int .i64 d) ∧ W.cell? ⟨w.heap.size, 0, none⟩ = some (.int .i64 a) ∧ W.cell? ⟨w.heap.size, 1, none⟩ = some (.int .i64 b) ∧ Hid (Fr w [(w3.heap.size, Obj.cells #[.int .i64 j0, .int .i64 j1] 23 (0, 0)), (w2.heap.size, Obj.cells #[.int .i64 m0, .int .i64 m1] 23 (0, 0)), (w.heap.size + 1, Obj.cells #[.int .i64 c, .int .i64 d] 23 (0, 0)), (w.heap.size, Obj.cells #[.int .i64 a, .int .i64 b] 23 (0, 0))] W)) W' from fun W W' h hb => hS4 _ (h.2.2.2.2.2.2.2.2.out.below hb))
  have HSd4 := Lib.hid (show ∀ W : World, (fun W : World => W.cell? ⟨w3.heap.size, 0, none⟩ = some (.int .i64 j0) ∧ W.cell? ⟨w3.heap.size, 1, none⟩ = some (.int .i64 j1) ∧ W.cell? ⟨w2.heap.size, 0, none⟩ = some (.int .i64 m0) ∧ W.cell? ⟨w2.heap.size, 1, none⟩ = some (.int .i64 m1) ∧ W.cell? ⟨w.heap.size + 1, 0, none⟩ = some (.int .i64 c) ∧ W.cell? ⟨w.heap.size + 1, 1, none⟩ = some (.int .i64 d) ∧ W.cell? ⟨w.heap.size, 0, none⟩ = some (.int .i64 a) ∧ W.cell? ⟨w.heap.size, 1, none⟩ = some (.int .i64 b) ∧ Hid (Fr w [(w3.heap.size, Obj.cells #[.int .i64 j0, .int .i64 j1] 23 (0, 0)), (w2.heap.size, Obj.cells #[.int .i64 m0, .int .i64 m1] 23 (0, 0)), (w.heap.size + 1, Obj.cells #[.int .i64 c, .int .i64 d] 23 (0, 0)), (w.heap.size, Obj.cells #[.int .i64 a, .int .i64 b] 23 (0, 0))] W)) W → (fun W : World => W.cell? ⟨w3.heap.size, 0, none⟩ = some (.int .i64 j0) ∧ W.cell? ⟨w3.heap.size, 1, none⟩ = some (.int .i64 j1) ∧ W.cell? ⟨w2.heap.size, 0, none⟩ = some (.int .i64 m0) ∧ W.cell? ⟨w2.heap.size, 1, none⟩ = some (.int .i64 m1) ∧ W.cell? ⟨w.heap.size + 1, 0, none⟩ = some (.int .i64 c) ∧ W.cell? ⟨w.heap.size + 1, 1, none⟩ = some (.int .i64 d) ∧ W.cell? ⟨w.heap.size, 0, none⟩ = some (.int .i64 a) ∧ W.cell? ⟨w.heap.size, 1, none⟩ = some (.int .i64 b) ∧ Hid (Fr w [(w3.heap.size, Obj.cells #[.int .i64 j0, .int .i64 j1] 23 (0, 0)), (w2.heap.size, Obj.cells #[.int .i64 m0, .int .i64 m1] 23 (0, 0)), (w.heap.size + 1, Obj.cells #[.int .i64 c, .int .i64 d] 23 (0, 0)), (w.heap.size, Obj.cells #[.int .i64 a, .int .i64 b] 23 (0, 0))] W)) W.drew from fun W h => hS4 _ (h.2.2.2.2.2.2.2.2.out.drew))
  have HSf4 := Lib.hid (show ∀ W W' : World, (fun W : World => W.cell? ⟨w3.heap.size, 0, none⟩ = some (.int .i64 j0) ∧ W.cell? ⟨w3.heap.size, 1, none⟩ = some (.int .i64 j1) ∧ W.cell? ⟨w2.heap.size, 0, none⟩ = some (.int .i64 m0) ∧ W.cell? ⟨w2.heap.size, 1, none⟩ = some (.int .i64 m1) ∧ W.cell? ⟨w.heap.size + 1, 0, none⟩ = some (.int .i64 c) ∧ W.cell? ⟨w.heap.size + 1, 1, none⟩ = some (.int .i64 d) ∧ W.cell? ⟨w.heap.size, 0, none⟩ = some (.int .i64 a) ∧ W.cell? ⟨w.heap.size, 1, none⟩ = some (.int .i64 b) ∧ Hid (Fr w [(w3.heap.size, Obj.cells #[.int .i64 j0, .int .i64 j1] 23 (0, 0)), (w2.heap.size, Obj.cells #[.int .i64 m0, .int .i64 m1] 23 (0, 0)), (w.heap.size + 1, Obj.cells #[.int .i64 c, .int .i64 d] 23 (0, 0)), (w.heap.size, Obj.cells #[.int .i64 a, .int .i64 b] 23 (0, 0))] W)) W → Below W.heap.size W W' → Fr w [(w3.heap.size, Obj.cells #[.int .i64 j0, .int .i64 j1] 23 (0, 0)), (w2.heap.size, Obj.cells #[.int .i64 m0, .int .i64 m1] 23 (0, 0)), (w.heap.size + 1, Obj.cells #[.int .i64 c, .int .i64 d] 23 (0, 0)), (w.heap.size, Obj.cells #[.int .i64 a, .int .i64 b] 23 (0, 0))] W' from fun W W' h hb => h.2.2.2.2.2.2.2.2.out.below hb)
  have HT4 := Lib.hid (hS4 _ (G3.out.drew))
  clear hS4
  go_wp2_with fail
  go_region_held3 (fun W : World => W.cell? ⟨w3.heap.size, 0, none⟩ = some (.int .i64 j0) ∧ W.cell? ⟨w3.heap.size, 1, none⟩ = some (.int .i64 j1) ∧ W.cell? ⟨w2.heap.size, 0, none⟩ = some (.int .i64 m0) ∧ W.cell? ⟨w2.heap.size, 1, none⟩ = some (.int .i64 m1) ∧ W.cell? ⟨w.heap.size + 1, 0, none⟩ = some (.int .i64 c) ∧ W.cell? ⟨w.heap.size + 1, 1, none⟩ = some (.int .i64 d) ∧ W.cell? ⟨w.heap.size, 0, none⟩ = some (.int .i64 a) ∧ W.cell? ⟨w.heap.size, 1, none⟩ = some (.int .i64 b) ∧ Hid (Fr w [(w3.heap.size, Obj.cells #[.int .i64 j0, .int .i64 j1] 23 (0, 0)), (w2.heap.size, Obj.cells #[.int .i64 m0, .int .i64 m1] 23 (0, 0)), (w.heap.size + 1, Obj.cells #[.int .i64 c, .int .i64 d] 23 (0, 0)), (w.heap.size, Obj.cells #[.int .i64 a, .int .i64 b] 23 (0, 0))] W)) (first | exact HSb4.out _ _ (by assumption) hb | exact HSd4.out _ (by assumption) | exact HT4.out | go_keep) (first | (go_at_call 14; ((with_reducible refine (has_at _ HX.out).mono ?_)); rintro e w' ⟨rfl, hb⟩) | (go_at_call 14; ((with_reducible refine (has_at _ HY.out).mono ?_)); rintro e w' ⟨rfl, hb⟩))
  go_wp2_with fail
  refine (has_at _ HN.out).mono ?_
  rintro e w5 ⟨rfl, hb⟩
  have F5 := Lib.hid (HSf4.out _ _ (by assumption) hb)
  clear hb
  have c5_0_0 : w5.cell? ⟨w3.heap.size, 0, none⟩ = some (.int .i64 j0) := (F5.out.cell (t := 23) (cs := #[.int .i64 j0, .int .i64 j1]) (by simp) 0).trans rfl
  have c5_0_1 : w5.cell? ⟨w3.heap.size, 1, none⟩ = some (.int .i64 j1) := (F5.out.cell (t := 23) (cs := #[.int .i64 j0, .int .i64 j1]) (by simp) 1).trans rfl
  have c5_1_0 : w5.cell? ⟨w2.heap.size, 0, none⟩ = some (.int .i64 m0) := (F5.out.cell (t := 23) (cs := #[.int .i64 m0, .int .i64 m1]) (by simp) 0).trans rfl
  have c5_1_1 : w5.cell? ⟨w2.heap.size, 1, none⟩ = some (.int .i64 m1) := (F5.out.cell (t := 23) (cs := #[.int .i64 m0, .int .i64 m1]) (by simp) 1).trans rfl
  have c5_2_0 : w5.cell? ⟨w.heap.size + 1, 0, none⟩ = some (.int .i64 c) := (F5.out.cell (t := 23) (cs := #[.int .i64 c, .int .i64 d]) (by simp) 0).trans rfl
  have c5_2_1 : w5.cell? ⟨w.heap.size + 1, 1, none⟩ = some (.int .i64 d) := (F5.out.cell (t := 23) (cs := #[.int .i64 c, .int .i64 d]) (by simp) 1).trans rfl
  have c5_3_0 : w5.cell? ⟨w.heap.size, 0, none⟩ = some (.int .i64 a) := (F5.out.cell (t := 23) (cs := #[.int .i64 a, .int .i64 b]) (by simp) 0).trans rfl
  have c5_3_1 : w5.cell? ⟨w.heap.size, 1, none⟩ = some (.int .i64 b) := (F5.out.cell (t := 23) (cs := #[.int .i64 a, .int .i64 b]) (by simp) 1).trans rfl
  go_wp2_with fail
  go_ret
  exact ⟨rfl, F5.out.bel⟩
set_option maxHeartbeats 4000000 in
set_option maxRecDepth 10000 in
theorem places_ff0f (a b c d p m0 m1 j0 j1 : Int) (m2 : Bool) (w : World) (hm : meetS a b c d = (m0, m1, m2)) (hj : joinE a b c d = (j0, j1, 0)) (hx : hasB a b p = false) (hy : hasB c d p = false) (hd : decide (65536 < j1) = false) :
    Calls Try.prog 5 #[.agg #[.int .i64 a, .int .i64 b], .agg #[.int .i64 c, .int .i64 d], .int .i64 p] w fun e w' => e = .returned (.bool true) ∧ Below w.heap.size w w' := by
  have hu23 := Try.underlying23
  have HN := Lib.hid (show hasB m0 m1 p = false by rw [meet_has a b c d p m0 m1 m2 hm, hx, hy]; rfl)
  have HM := Lib.hid hm
  have HX := Lib.hid hx
  have HY := Lib.hid hy
  have HJ := Lib.hid hj
  clear hm hx hy hj
  go_enter Try.func5, Try.ntmps5
  go_wp2_with fail
  refine (awake_at _).mono ?_
  rintro e w1 ⟨rfl, hb⟩
  have F1 : Hid (Fr w [(w.heap.size + 1, Obj.cells #[.int .i64 c, .int .i64 d] 23 (0, 0)), (w.heap.size, Obj.cells #[.int .i64 a, .int .i64 b] 23 (0, 0))] w1) := Lib.hid (by simpa using (((Fr.start w).alloc (.cells #[.int .i64 a, .int .i64 b] 23 (0, 0))).alloc (.cells #[.int .i64 c, .int .i64 d] 23 (0, 0))).below hb)
  clear hb
  have c1_0_0 : w1.cell? ⟨w.heap.size + 1, 0, none⟩ = some (.int .i64 c) := (F1.out.cell (t := 23) (cs := #[.int .i64 c, .int .i64 d]) (by simp) 0).trans rfl
  have c1_0_1 : w1.cell? ⟨w.heap.size + 1, 1, none⟩ = some (.int .i64 d) := (F1.out.cell (t := 23) (cs := #[.int .i64 c, .int .i64 d]) (by simp) 1).trans rfl
  have c1_1_0 : w1.cell? ⟨w.heap.size, 0, none⟩ = some (.int .i64 a) := (F1.out.cell (t := 23) (cs := #[.int .i64 a, .int .i64 b]) (by simp) 0).trans rfl
  have c1_1_1 : w1.cell? ⟨w.heap.size, 1, none⟩ = some (.int .i64 b) := (F1.out.cell (t := 23) (cs := #[.int .i64 a, .int .i64 b]) (by simp) 1).trans rfl
  go_wp2_with fail
  refine (meet_at _ HM.out).mono ?_
  rintro e w2 ⟨rfl, hb⟩
  have F2 := Lib.hid (F1.out.below hb)
  clear F1 c1_0_0 c1_0_1 c1_1_0 c1_1_1
  clear hb
  have c2_0_0 : (w2.alloc (.cells #[.int .i64 m0, .int .i64 m1] 23 (0, 0))).cell? ⟨w2.heap.size, 0, none⟩ = some (.int .i64 m0) := ((F2.out.alloc (.cells #[.int .i64 m0, .int .i64 m1] 23 (0, 0))).cell (t := 23) (cs := #[.int .i64 m0, .int .i64 m1]) (by simp) 0).trans rfl
  have c2_0_1 : (w2.alloc (.cells #[.int .i64 m0, .int .i64 m1] 23 (0, 0))).cell? ⟨w2.heap.size, 1, none⟩ = some (.int .i64 m1) := ((F2.out.alloc (.cells #[.int .i64 m0, .int .i64 m1] 23 (0, 0))).cell (t := 23) (cs := #[.int .i64 m0, .int .i64 m1]) (by simp) 1).trans rfl
  have c2_1_0 : (w2.alloc (.cells #[.int .i64 m0, .int .i64 m1] 23 (0, 0))).cell? ⟨w.heap.size + 1, 0, none⟩ = some (.int .i64 c) := ((F2.out.alloc (.cells #[.int .i64 m0, .int .i64 m1] 23 (0, 0))).cell (t := 23) (cs := #[.int .i64 c, .int .i64 d]) (by simp) 0).trans rfl
  have c2_1_1 : (w2.alloc (.cells #[.int .i64 m0, .int .i64 m1] 23 (0, 0))).cell? ⟨w.heap.size + 1, 1, none⟩ = some (.int .i64 d) := ((F2.out.alloc (.cells #[.int .i64 m0, .int .i64 m1] 23 (0, 0))).cell (t := 23) (cs := #[.int .i64 c, .int .i64 d]) (by simp) 1).trans rfl
  have c2_2_0 : (w2.alloc (.cells #[.int .i64 m0, .int .i64 m1] 23 (0, 0))).cell? ⟨w.heap.size, 0, none⟩ = some (.int .i64 a) := ((F2.out.alloc (.cells #[.int .i64 m0, .int .i64 m1] 23 (0, 0))).cell (t := 23) (cs := #[.int .i64 a, .int .i64 b]) (by simp) 0).trans rfl
  have c2_2_1 : (w2.alloc (.cells #[.int .i64 m0, .int .i64 m1] 23 (0, 0))).cell? ⟨w.heap.size, 1, none⟩ = some (.int .i64 b) := ((F2.out.alloc (.cells #[.int .i64 m0, .int .i64 m1] 23 (0, 0))).cell (t := 23) (cs := #[.int .i64 a, .int .i64 b]) (by simp) 1).trans rfl
  go_wp2_with fail
  refine (join_at _ HJ.out).mono ?_
  rintro e w3 ⟨rfl, hb⟩
  have F3 := Lib.hid ((F2.out.alloc (.cells #[.int .i64 m0, .int .i64 m1] 23 (0, 0))).below hb)
  clear F2 c2_0_0 c2_0_1 c2_1_0 c2_1_1 c2_2_0 c2_2_1
  clear hb
  have c3_0_0 : (w3.alloc (.cells #[.int .i64 j0, .int .i64 j1] 23 (0, 0))).cell? ⟨w3.heap.size, 0, none⟩ = some (.int .i64 j0) := ((F3.out.alloc (.cells #[.int .i64 j0, .int .i64 j1] 23 (0, 0))).cell (t := 23) (cs := #[.int .i64 j0, .int .i64 j1]) (by simp) 0).trans rfl
  have c3_0_1 : (w3.alloc (.cells #[.int .i64 j0, .int .i64 j1] 23 (0, 0))).cell? ⟨w3.heap.size, 1, none⟩ = some (.int .i64 j1) := ((F3.out.alloc (.cells #[.int .i64 j0, .int .i64 j1] 23 (0, 0))).cell (t := 23) (cs := #[.int .i64 j0, .int .i64 j1]) (by simp) 1).trans rfl
  have c3_1_0 : (w3.alloc (.cells #[.int .i64 j0, .int .i64 j1] 23 (0, 0))).cell? ⟨w2.heap.size, 0, none⟩ = some (.int .i64 m0) := ((F3.out.alloc (.cells #[.int .i64 j0, .int .i64 j1] 23 (0, 0))).cell (t := 23) (cs := #[.int .i64 m0, .int .i64 m1]) (by simp) 0).trans rfl
  have c3_1_1 : (w3.alloc (.cells #[.int .i64 j0, .int .i64 j1] 23 (0, 0))).cell? ⟨w2.heap.size, 1, none⟩ = some (.int .i64 m1) := ((F3.out.alloc (.cells #[.int .i64 j0, .int .i64 j1] 23 (0, 0))).cell (t := 23) (cs := #[.int .i64 m0, .int .i64 m1]) (by simp) 1).trans rfl
  have c3_2_0 : (w3.alloc (.cells #[.int .i64 j0, .int .i64 j1] 23 (0, 0))).cell? ⟨w.heap.size + 1, 0, none⟩ = some (.int .i64 c) := ((F3.out.alloc (.cells #[.int .i64 j0, .int .i64 j1] 23 (0, 0))).cell (t := 23) (cs := #[.int .i64 c, .int .i64 d]) (by simp) 0).trans rfl
  have c3_2_1 : (w3.alloc (.cells #[.int .i64 j0, .int .i64 j1] 23 (0, 0))).cell? ⟨w.heap.size + 1, 1, none⟩ = some (.int .i64 d) := ((F3.out.alloc (.cells #[.int .i64 j0, .int .i64 j1] 23 (0, 0))).cell (t := 23) (cs := #[.int .i64 c, .int .i64 d]) (by simp) 1).trans rfl
  have c3_3_0 : (w3.alloc (.cells #[.int .i64 j0, .int .i64 j1] 23 (0, 0))).cell? ⟨w.heap.size, 0, none⟩ = some (.int .i64 a) := ((F3.out.alloc (.cells #[.int .i64 j0, .int .i64 j1] 23 (0, 0))).cell (t := 23) (cs := #[.int .i64 a, .int .i64 b]) (by simp) 0).trans rfl
  have c3_3_1 : (w3.alloc (.cells #[.int .i64 j0, .int .i64 j1] 23 (0, 0))).cell? ⟨w.heap.size, 1, none⟩ = some (.int .i64 b) := ((F3.out.alloc (.cells #[.int .i64 j0, .int .i64 j1] 23 (0, 0))).cell (t := 23) (cs := #[.int .i64 a, .int .i64 b]) (by simp) 1).trans rfl
  have G3 := Lib.hid (F3.out.alloc (.cells #[.int .i64 j0, .int .i64 j1] 23 (0, 0)))
  clear F3
  have hS4 : ∀ W : World, Fr w [(w3.heap.size, Obj.cells #[.int .i64 j0, .int .i64 j1] 23 (0, 0)), (w2.heap.size, Obj.cells #[.int .i64 m0, .int .i64 m1] 23 (0, 0)), (w.heap.size + 1, Obj.cells #[.int .i64 c, .int .i64 d] 23 (0, 0)), (w.heap.size, Obj.cells #[.int .i64 a, .int .i64 b] 23 (0, 0))] W → (fun W : World => W.cell? ⟨w3.heap.size, 0, none⟩ = some (.int .i64 j0) ∧ W.cell? ⟨w3.heap.size, 1, none⟩ = some (.int .i64 j1) ∧ W.cell? ⟨w2.heap.size, 0, none⟩ = some (.int .i64 m0) ∧ W.cell? ⟨w2.heap.size, 1, none⟩ = some (.int .i64 m1) ∧ W.cell? ⟨w.heap.size + 1, 0, none⟩ = some (.int .i64 c) ∧ W.cell? ⟨w.heap.size + 1, 1, none⟩ = some (.int .i64 d) ∧ W.cell? ⟨w.heap.size, 0, none⟩ = some (.int .i64 a) ∧ W.cell? ⟨w.heap.size, 1, none⟩ = some (.int .i64 b) ∧ Hid (Fr w [(w3.heap.size, Obj.cells #[.int .i64 j0, .int .i64 j1] 23 (0, 0)), (w2.heap.size, Obj.cells #[.int .i64 m0, .int .i64 m1] 23 (0, 0)), (w.heap.size + 1, Obj.cells #[.int .i64 c, .int .i64 d] 23 (0, 0)), (w.heap.size, Obj.cells #[.int .i64 a, .int .i64 b] 23 (0, 0))] W)) W := fun W h => ⟨(h.cell (t := 23) (cs := #[.int .i64 j0, .int .i64 j1]) (by simp) 0).trans rfl, (h.cell (t := 23) (cs := #[.int .i64 j0, .int .i64 j1]) (by simp) 1).trans rfl, (h.cell (t := 23) (cs := #[.int .i64 m0, .int .i64 m1]) (by simp) 0).trans rfl, (h.cell (t := 23) (cs := #[.int .i64 m0, .int .i64 m1]) (by simp) 1).trans rfl, (h.cell (t := 23) (cs := #[.int .i64 c, .int .i64 d]) (by simp) 0).trans rfl, (h.cell (t := 23) (cs := #[.int .i64 c, .int .i64 d]) (by simp) 1).trans rfl, (h.cell (t := 23) (cs := #[.int .i64 a, .int .i64 b]) (by simp) 0).trans rfl, (h.cell (t := 23) (cs := #[.int .i64 a, .int .i64 b]) (by simp) 1).trans rfl, Lib.hid h⟩
  have HSb4 := Lib.hid (show ∀ W W' : World, (fun W : World => W.cell? ⟨w3.heap.size, 0, none⟩ = some (.int .i64 j0) ∧ W.cell? ⟨w3.heap.size, 1, none⟩ = some (.int .i64 j1) ∧ W.cell? ⟨w2.heap.size, 0, none⟩ = some (.int .i64 m0) ∧ W.cell? ⟨w2.heap.size, 1, none⟩ = some (.int .i64 m1) ∧ W.cell? ⟨w.heap.size + 1, 0, none⟩ = some (.int .i64 c) ∧ W.cell? ⟨w.heap.size + 1, 1, none⟩ = some (.int .i64 d) ∧ W.cell? ⟨w.heap.size, 0, none⟩ = some (.int .i64 a) ∧ W.cell? ⟨w.heap.size, 1, none⟩ = some (.int .i64 b) ∧ Hid (Fr w [(w3.heap.size, Obj.cells #[.int .i64 j0, .int .i64 j1] 23 (0, 0)), (w2.heap.size, Obj.cells #[.int .i64 m0, .int .i64 m1] 23 (0, 0)), (w.heap.size + 1, Obj.cells #[.int .i64 c, .int .i64 d] 23 (0, 0)), (w.heap.size, Obj.cells #[.int .i64 a, .int .i64 b] 23 (0, 0))] W)) W → Below W.heap.size W W' → (fun W : World => W.cell? ⟨w3.heap.size, 0, none⟩ = some (.int .i64 j0) ∧ W.cell? ⟨w3.heap.size, 1, none⟩ = some (.int .i64 j1) ∧ W.cell? ⟨w2.heap.size, 0, none⟩ = some (.int .i64 m0) ∧ W.cell? ⟨w2.heap.size, 1, none⟩ = some (.int .i64 m1) ∧ W.cell? ⟨w.heap.size + 1, 0, none⟩ = some (.int .i64 c) ∧ W.cell? ⟨w.heap.size + 1, 1, none⟩ = some (.int .i64 d) ∧ W.cell? ⟨w.heap.size, 0, none⟩ = some (.int .i64 a) ∧ W.cell? ⟨w.heap.size, 1, none⟩ = some (.int .i64 b) ∧ Hid (Fr w [(w3.heap.size, Obj.cells #[.int .i64 j0, .int .i64 j1] 23 (0, 0)), (w2.heap.size, Obj.cells #[.int .i64 m0, .int .i64 m1] 23 (0, 0)), (w.heap.size + 1, Obj.cells #[.int .i64 c, .int .i64 d] 23 (0, 0)), (w.heap.size, Obj.cells #[.int .i64 a, .int .i64 b] 23 (0, 0))] W)) W' from fun W W' h hb => hS4 _ (h.2.2.2.2.2.2.2.2.out.below hb))
  have HSd4 := Lib.hid (show ∀ W : World, (fun W : World => W.cell? ⟨w3.heap.size, 0, none⟩ = some (.int .i64 j0) ∧ W.cell? ⟨w3.heap.size, 1, none⟩ = some (.int .i64 j1) ∧ W.cell? ⟨w2.heap.size, 0, none⟩ = some (.int .i64 m0) ∧ W.cell? ⟨w2.heap.size, 1, none⟩ = some (.int .i64 m1) ∧ W.cell? ⟨w.heap.size + 1, 0, none⟩ = some (.int .i64 c) ∧ W.cell? ⟨w.heap.size + 1, 1, none⟩ = some (.int .i64 d) ∧ W.cell? ⟨w.heap.size, 0, none⟩ = some (.int .i64 a) ∧ W.cell? ⟨w.heap.size, 1, none⟩ = some (.int .i64 b) ∧ Hid (Fr w [(w3.heap.size, Obj.cells #[.int .i64 j0, .int .i64 j1] 23 (0, 0)), (w2.heap.size, Obj.cells #[.int .i64 m0, .int .i64 m1] 23 (0, 0)), (w.heap.size + 1, Obj.cells #[.int .i64 c, .int .i64 d] 23 (0, 0)), (w.heap.size, Obj.cells #[.int .i64 a, .int .i64 b] 23 (0, 0))] W)) W → (fun W : World => W.cell? ⟨w3.heap.size, 0, none⟩ = some (.int .i64 j0) ∧ W.cell? ⟨w3.heap.size, 1, none⟩ = some (.int .i64 j1) ∧ W.cell? ⟨w2.heap.size, 0, none⟩ = some (.int .i64 m0) ∧ W.cell? ⟨w2.heap.size, 1, none⟩ = some (.int .i64 m1) ∧ W.cell? ⟨w.heap.size + 1, 0, none⟩ = some (.int .i64 c) ∧ W.cell? ⟨w.heap.size + 1, 1, none⟩ = some (.int .i64 d) ∧ W.cell? ⟨w.heap.size, 0, none⟩ = some (.int .i64 a) ∧ W.cell? ⟨w.heap.size, 1, none⟩ = some (.int .i64 b) ∧ Hid (Fr w [(w3.heap.size, Obj.cells #[.int .i64 j0, .int .i64 j1] 23 (0, 0)), (w2.heap.size, Obj.cells #[.int .i64 m0, .int .i64 m1] 23 (0, 0)), (w.heap.size + 1, Obj.cells #[.int .i64 c, .int .i64 d] 23 (0, 0)), (w.heap.size, Obj.cells #[.int .i64 a, .int .i64 b] 23 (0, 0))] W)) W.drew from fun W h => hS4 _ (h.2.2.2.2.2.2.2.2.out.drew))
  have HSf4 := Lib.hid (show ∀ W W' : World, (fun W : World => W.cell? ⟨w3.heap.size, 0, none⟩ = some (.int .i64 j0) ∧ W.cell? ⟨w3.heap.size, 1, none⟩ = some (.int .i64 j1) ∧ W.cell? ⟨w2.heap.size, 0, none⟩ = some (.int .i64 m0) ∧ W.cell? ⟨w2.heap.size, 1, none⟩ = some (.int .i64 m1) ∧ W.cell? ⟨w.heap.size + 1, 0, none⟩ = some (.int .i64 c) ∧ W.cell? ⟨w.heap.size + 1, 1, none⟩ = some (.int .i64 d) ∧ W.cell? ⟨w.heap.size, 0, none⟩ = some (.int .i64 a) ∧ W.cell? ⟨w.heap.size, 1, none⟩ = some (.int .i64 b) ∧ Hid (Fr w [(w3.heap.size, Obj.cells #[.int .i64 j0, .int .i64 j1] 23 (0, 0)), (w2.heap.size, Obj.cells #[.int .i64 m0, .int .i64 m1] 23 (0, 0)), (w.heap.size + 1, Obj.cells #[.int .i64 c, .int .i64 d] 23 (0, 0)), (w.heap.size, Obj.cells #[.int .i64 a, .int .i64 b] 23 (0, 0))] W)) W → Below W.heap.size W W' → Fr w [(w3.heap.size, Obj.cells #[.int .i64 j0, .int .i64 j1] 23 (0, 0)), (w2.heap.size, Obj.cells #[.int .i64 m0, .int .i64 m1] 23 (0, 0)), (w.heap.size + 1, Obj.cells #[.int .i64 c, .int .i64 d] 23 (0, 0)), (w.heap.size, Obj.cells #[.int .i64 a, .int .i64 b] 23 (0, 0))] W' from fun W W' h hb => h.2.2.2.2.2.2.2.2.out.below hb)
  have HT4 := Lib.hid (hS4 _ (G3.out.drew))
  clear hS4
  go_wp2_with fail
  go_region_held3 (fun W : World => W.cell? ⟨w3.heap.size, 0, none⟩ = some (.int .i64 j0) ∧ W.cell? ⟨w3.heap.size, 1, none⟩ = some (.int .i64 j1) ∧ W.cell? ⟨w2.heap.size, 0, none⟩ = some (.int .i64 m0) ∧ W.cell? ⟨w2.heap.size, 1, none⟩ = some (.int .i64 m1) ∧ W.cell? ⟨w.heap.size + 1, 0, none⟩ = some (.int .i64 c) ∧ W.cell? ⟨w.heap.size + 1, 1, none⟩ = some (.int .i64 d) ∧ W.cell? ⟨w.heap.size, 0, none⟩ = some (.int .i64 a) ∧ W.cell? ⟨w.heap.size, 1, none⟩ = some (.int .i64 b) ∧ Hid (Fr w [(w3.heap.size, Obj.cells #[.int .i64 j0, .int .i64 j1] 23 (0, 0)), (w2.heap.size, Obj.cells #[.int .i64 m0, .int .i64 m1] 23 (0, 0)), (w.heap.size + 1, Obj.cells #[.int .i64 c, .int .i64 d] 23 (0, 0)), (w.heap.size, Obj.cells #[.int .i64 a, .int .i64 b] 23 (0, 0))] W)) (first | exact HSb4.out _ _ (by assumption) hb | exact HSd4.out _ (by assumption) | exact HT4.out | go_keep) (first | (go_at_call 14; ((with_reducible refine (has_at _ HX.out).mono ?_)); rintro e w' ⟨rfl, hb⟩) | (go_at_call 14; ((with_reducible refine (has_at _ HY.out).mono ?_)); rintro e w' ⟨rfl, hb⟩))
  go_wp2_with fail
  refine (has_at _ HN.out).mono ?_
  rintro e w5 ⟨rfl, hb⟩
  have F5 := Lib.hid (HSf4.out _ _ (by assumption) hb)
  clear hb
  have c5_0_0 : w5.cell? ⟨w3.heap.size, 0, none⟩ = some (.int .i64 j0) := (F5.out.cell (t := 23) (cs := #[.int .i64 j0, .int .i64 j1]) (by simp) 0).trans rfl
  have c5_0_1 : w5.cell? ⟨w3.heap.size, 1, none⟩ = some (.int .i64 j1) := (F5.out.cell (t := 23) (cs := #[.int .i64 j0, .int .i64 j1]) (by simp) 1).trans rfl
  have c5_1_0 : w5.cell? ⟨w2.heap.size, 0, none⟩ = some (.int .i64 m0) := (F5.out.cell (t := 23) (cs := #[.int .i64 m0, .int .i64 m1]) (by simp) 0).trans rfl
  have c5_1_1 : w5.cell? ⟨w2.heap.size, 1, none⟩ = some (.int .i64 m1) := (F5.out.cell (t := 23) (cs := #[.int .i64 m0, .int .i64 m1]) (by simp) 1).trans rfl
  have c5_2_0 : w5.cell? ⟨w.heap.size + 1, 0, none⟩ = some (.int .i64 c) := (F5.out.cell (t := 23) (cs := #[.int .i64 c, .int .i64 d]) (by simp) 0).trans rfl
  have c5_2_1 : w5.cell? ⟨w.heap.size + 1, 1, none⟩ = some (.int .i64 d) := (F5.out.cell (t := 23) (cs := #[.int .i64 c, .int .i64 d]) (by simp) 1).trans rfl
  have c5_3_0 : w5.cell? ⟨w.heap.size, 0, none⟩ = some (.int .i64 a) := (F5.out.cell (t := 23) (cs := #[.int .i64 a, .int .i64 b]) (by simp) 0).trans rfl
  have c5_3_1 : w5.cell? ⟨w.heap.size, 1, none⟩ = some (.int .i64 b) := (F5.out.cell (t := 23) (cs := #[.int .i64 a, .int .i64 b]) (by simp) 1).trans rfl
  go_wp2_with fail
  go_ret
  exact ⟨rfl, F5.out.bel⟩
theorem places_any (a b c d p : Int) (w : World) :
    Calls Try.prog 5 #[.agg #[.int .i64 a, .int .i64 b], .agg #[.int .i64 c, .int .i64 d], .int .i64 p] w fun e w' => e = .returned (.bool true) ∧ Below w.heap.size w w' := by
  obtain ⟨⟨m0, m1, m2⟩, hm⟩ : ∃ t, meetS a b c d = t := ⟨_, rfl⟩
  obtain ⟨⟨j0, j1, e⟩, hj⟩ : ∃ t, joinE a b c d = t := ⟨_, rfl⟩
  have he := joinE_e _ _ _ _ _ _ _ hj
  cases hx : hasB a b p <;> cases hy : hasB c d p
  · rcases he with rfl | ⟨rfl, hs⟩
    · cases hd : decide (65536 < j1)
      · exact places_ff0f a b c d p m0 m1 j0 j1 m2 w hm hj hx hy hd
      · exact places_ff0t a b c d p m0 m1 j0 j1 m2 w hm hj hx hy hd
    · exact places_ff2 a b c d p m0 m1 j0 j1 m2 w hm hj hx hy
  · rcases he with rfl | ⟨rfl, hs⟩
    · cases hd : decide (65536 < j1)
      · exact places_ft0f a b c d p m0 m1 j0 j1 m2 w hm hj hx hy hd
      · exact places_ft0t a b c d p m0 m1 j0 j1 m2 w hm hj hx hy hd
    · exact places_ft2 a b c d p m0 m1 j0 j1 m2 w hm hj hx hy
  · rcases he with rfl | ⟨rfl, hs⟩
    · cases hd : decide (65536 < j1)
      · exact places_tf0f a b c d p m0 m1 j0 j1 m2 w hm hj hx hy hd
      · exact places_tf0t a b c d p m0 m1 j0 j1 m2 w hm hj hx hy hd
    · exact places_tf2 a b c d p m0 m1 j0 j1 m2 w hm hj hx hy
  · rcases he with rfl | ⟨rfl, hs⟩
    · cases hd : decide (65536 < j1)
      · exact places_tt0f a b c d p m0 m1 j0 j1 m2 w hm hj hx hy hd
      · exact places_tt0t a b c d p m0 m1 j0 j1 m2 w hm hj hx hy hd
    · exact absurd ⟨(hasB_iff.1 hx).1, (hasB_iff.1 hy).1⟩ hs
end Go.Proofs.Ytehabojhdogghaa.Hand
namespace Go.Proofs.Ytehabojhdogghaa.Wk.SpanPlaces
open Go.RowKit Go.Proofs.YtehabojhdogghaaW.PrintWords Go.Proofs.YtehabojhdogghaaW.Opn
theorem walk (cs0 : List Value) (a0 : Int × Int) (cs1 : List Value) (a1 : Int × Int) (a2 : Int) (w : World) (hk0 : kII.K w a0 (Value.agg ⟨cs0⟩).cells.toList) (_ : (Lit.int .i64 a0.1).wf = true ∧ (Lit.int .i64 a0.2).wf = true) (hk1 : kII.K w a1 (Value.agg ⟨cs1⟩).cells.toList) (_ : (Lit.int .i64 a1.1).wf = true ∧ (Lit.int .i64 a1.2).wf = true) (_ : (Lit.int .i64 a2).wf = true) :
    Calls Try.prog 5 #[.agg ⟨cs0⟩, .agg ⟨cs1⟩, .int .i64 a2] w fun e w' => e = .returned (.bool true) ∧ Below w.heap.size w w' := by
  have e0 : cs0 = _ := kII_open hk0
  have e1 : cs1 = _ := kII_open hk1
  subst e0
  subst e1
  exact Hand.places_any a0.1 a0.2 a1.1 a1.2 a2 w
/-- A span's reading. -/
theorem op23 : Opens Try.prog 23 kII (fun x => (Lit.int .i64 x.1).wf = true ∧ (Lit.int .i64 x.2).wf = true) :=
  kII_opens Try.underlying23 rfl rfl Try.underlying3 rfl rfl (by kernel_rfl) (by kernel_rfl)
end Go.Proofs.Ytehabojhdogghaa.Wk.SpanPlaces
