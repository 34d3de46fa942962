/- The laws' fixed fact of layer 10, walked. Conditions: none. -/
import Derived.Test.YtecpmgbahknneaaLSeg
import Derived.Test.YtecpmgbahknneaaLLay
import Derived.Test.YtecpmgbahknneaaWMore
import Derived.Test.YtecpmgbahknneaaWEqStruct
import Derived.Outline
namespace Go.Proofs.Ytecpmgbahknneaa.L
open Go.RowKit Go.Proofs.YtecpmgbahknneaaW.PrintWords Go.Proofs.YtecpmgbahknneaaW.PrintMore

theorem eqSpan (d : Nat) (w : World) (x0 y0 : Int) (x1 y1 : Int) :
    (Op.equalIn (d + 2) 33 (.agg #[.int .i64 x0, .int .i64 x1]) (.agg #[.int .i64 y0, .int .i64 y1])).run Try.prog w = .ok (x0 == y0 && (x1 == y1)) w := by
  refine eqA_of Try.underlying33 (by kernel_rfl) ?_
  refine eqf_cons (by rfl) (by go_simp; rfl) (by go_simp; rfl) (by go_simp) ?_
  exact eqf_last (by rfl) (by go_simp; rfl) (by go_simp; rfl) (by go_simp)
theorem eqSeg (d : Nat) (w : World) (x0 y0 : Int) (x1 y1 : Int) (x2 y2 : Int) :
    (Op.equalIn (d + 3) 35 (.agg #[.int .u8 x0, .int .i64 x1, .int .i64 x2]) (.agg #[.int .u8 y0, .int .i64 y1, .int .i64 y2])).run Try.prog w = .ok (x0 == y0 && ((x1 == y1 && (x2 == y2)))) w := by
  refine eqA_of Try.underlying35 (by kernel_rfl) ?_
  refine eqf_cons (by rfl) (by go_simp; rfl) (by go_simp; rfl) (by go_simp) ?_
  exact eqf_last (by rfl) (by go_simp) (by go_simp) (eqSpan (d + 0) w _ _ _ _)
attribute [local go_sem high] eqSpan eqSeg

/-- A part's cells, of an own row of parts. -/
theorem seg_cells {w : World} {base n g cap : Nat} {S : List Sg} (h : w.ownsRow base 35 3 (.slice (some ⟨g, 0, none⟩) n cap) n (rowC S)) (i : Nat) (s : Sg) (hi : S[i]? = some s) :
    w.cell? ⟨g, i * 3, none⟩ = some (.int .u8 s.1) ∧ w.cell? ⟨g, i * 3 + 1, none⟩ = some (.int .i64 s.2.1) ∧ w.cell? ⟨g, i * 3 + 2, none⟩ = some (.int .i64 s.2.2) := by
  have hl := (List.getElem?_eq_some_iff.1 hi).1
  have hn : (rowC S).length = n * 3 := h.1
  rw [rowC_length] at hn
  have e : ∀ j, j < 3 → (rowC S)[i * 3 + j]? = (segC s)[j]? := by
    intro j hj
    obtain ⟨T, U, rfl, hT⟩ : ∃ T U, S = T ++ s :: U ∧ T.length = i := by
      refine ⟨S.take i, S.drop (i + 1), ?_, by simp; omega⟩
      have hs : s = S[i] := by
        have := (List.getElem?_eq_some_iff.1 hi).2
        exact this.symm
      subst hs
      rw [← List.drop_eq_getElem_cons hl, List.take_append_drop]
    have : rowC (T ++ s :: U) = rowC T ++ (segC s ++ rowC U) := by simp [rowC]
    rw [this, List.getElem?_append_right (by rw [rowC_length]; omega), rowC_length, ← hT, Nat.add_sub_cancel_left, List.getElem?_append_left (by simp [segC]; omega)]
  refine ⟨?_, ?_, ?_⟩
  · have := e 0 (by omega)
    rw [h.cellAt _ (by omega)]
    simpa [segC] using this
  · have := e 1 (by omega)
    rw [h.cellAt _ (by omega)]
    simpa [segC] using this
  · have := e 2 (by omega)
    rw [h.cellAt _ (by omega)]
    simpa [segC] using this

set_option maxHeartbeats 1000000 in
theorem awake_any (w : World) :
    Calls Try.prog 8 #[] w fun e w' => e = .returned (.bool true) ∧ Below w.heap.size w w' := by
  have hu33 := Try.underlying33
  have hu35 := Try.underlying35
  go_enter Try.func8, Try.ntmps8
  go_wp2_with fail
  refine (new_yes 4 _ (by omega)).mono ?_
  rintro e w1 ⟨g, k, rfl, hs, hb, hg, hk⟩
  have HS := Lib.hid hs
  have HB := Lib.hid hb
  clear hs hb
  go_wp2_with fail
  refine (set_any g k _ 4 1 3 _ HS.out).mono ?_
  rintro e w2 ⟨rfl, hs, hg2⟩
  have HS2 := Lib.hid hs
  have HB2 := Lib.hid (below_grown HB.out hk hg2)
  clear hs hg2
  go_wp2_with fail
  refine (segs_any g k _ _ HS2.out).mono ?_
  rintro e w3 ⟨v, rfl, ho, hb⟩
  have hS : segsOf (setL (List.replicate 4 1) 4 1 3) = [(1, 0, 1), (4, 1, 2), (1, 3, 1)] := by decide
  rw [hS] at ho
  clear hS
  obtain ⟨gg, cap, rfl, _, _⟩ := ho.form (by simp)
  have c1 := seg_cells ho 1 (4, 1, 2) rfl
  obtain ⟨c1, c2, c3⟩ := c1
  have HB3 := Lib.hid (below_step HB2.out hb)
  clear ho hb
  go_wp2
  go_ret
  exact ⟨rfl, HB3.out⟩
end Go.Proofs.Ytecpmgbahknneaa.L
