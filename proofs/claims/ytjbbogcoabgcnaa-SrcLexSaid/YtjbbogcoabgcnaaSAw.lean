/- The laws' fixed fact of layer 14, walked. Conditions: none. -/
import Derived.Test.YtjbbogcoabgcnaaSLex
import Derived.Test.YtjbbogcoabgcnaaLSeg
import Derived.Test.YtjbbogcoabgcnaaWEqStruct
set_option linter.unusedVariables false
set_option linter.unusedSimpArgs false
namespace Go.Proofs.Ytjbbogcoabgcnaa.S
open Go.RowKit Go.Proofs.YtjbbogcoabgcnaaW.PrintWords Go.Proofs.YtjbbogcoabgcnaaW.PrintMore Go.Proofs.Ytjbbogcoabgcnaa.L Go.Proofs.Ytjbbogcoabgcnaa.Src

theorem eqSpan (d : Nat) (w : World) (x0 y0 : Int) (x1 y1 : Int) :
    (Op.equalIn (d + 2) 48 (.agg #[.int .i64 x0, .int .i64 x1]) (.agg #[.int .i64 y0, .int .i64 y1])).run Try.prog w = .ok (x0 == y0 && (x1 == y1)) w := by
  refine eqA_of Try.underlying48 (by kernel_rfl) ?_
  refine eqf_cons (by rfl) (by go_simp; rfl) (by go_simp; rfl) (by go_simp) ?_
  exact eqf_last (by rfl) (by go_simp; rfl) (by go_simp; rfl) (by go_simp)
theorem eqSeg (d : Nat) (w : World) (x0 y0 : Int) (x1 y1 : Int) (x2 y2 : Int) :
    (Op.equalIn (d + 3) 50 (.agg #[.int .u8 x0, .int .i64 x1, .int .i64 x2]) (.agg #[.int .u8 y0, .int .i64 y1, .int .i64 y2])).run Try.prog w = .ok (x0 == y0 && ((x1 == y1 && (x2 == y2)))) w := by
  refine eqA_of Try.underlying50 (by kernel_rfl) ?_
  refine eqf_cons (by rfl) (by go_simp; rfl) (by go_simp; rfl) (by go_simp) ?_
  exact eqf_last (by rfl) (by go_simp) (by go_simp) (eqSpan (d + 0) w _ _ _ _)
attribute [local go_sem high] eqSpan eqSeg

/-- A part's cells, of an own row of parts. -/
theorem seg_cells {w : World} {base n g cap : Nat} {S : List Sg} (h : w.ownsRow base 50 3 (.slice (some ⟨g, 0, none⟩) n cap) n (rowC S)) (i : Nat) (s : Sg) (hi : S[i]? = some s) :
    w.cell? ⟨g, i * 3, none⟩ = some (.int .u8 s.1) ∧ w.cell? ⟨g, i * 3 + 1, none⟩ = some (.int .i64 s.2.1) ∧ w.cell? ⟨g, i * 3 + 2, none⟩ = some (.int .i64 s.2.2) := by
  have hl := (List.getElem?_eq_some_iff.1 hi).1
  have hn : (rowC S).length = n * 3 := h.1
  rw [rowC_length] at hn
  have e : ∀ j, j < 3 → (rowC S)[i * 3 + j]? = (segC s)[j]? := by
    intro j hj
    obtain ⟨T, U, rfl, hT⟩ : ∃ T U, S = T ++ s :: U ∧ T.length = i := by
      refine ⟨S.take i, S.drop (i + 1), ?_, by simp; omega⟩
      have hs : s = S[i] := by
        have := (List.getElem?_eq_some_iff.1 hi).2
        exact this.symm
      subst hs
      rw [← List.drop_eq_getElem_cons hl, List.take_append_drop]
    have : rowC (T ++ s :: U) = rowC T ++ (segC s ++ rowC U) := by simp [rowC]
    rw [this, List.getElem?_append_right (by rw [rowC_length]; omega), rowC_length, ← hT, Nat.add_sub_cancel_left, List.getElem?_append_left (by simp [segC]; omega)]
  refine ⟨?_, ?_, ?_⟩
  · have := e 0 (by omega)
    rw [h.cellAt _ (by omega)]
    simpa [segC] using this
  · have := e 1 (by omega)
    rw [h.cellAt _ (by omega)]
    simpa [segC] using this
  · have := e 2 (by omega)
    rw [h.cellAt _ (by omega)]
    simpa [segC] using this


theorem lex_awake : lexF famG (-1) [120, 32, 47, 47, 32, 121] = [4, 4, 3, 3, 1, 1] := by
  have e : ([120, 32, 47, 47, 32, 121] : List Int) = [120, 32] ++ ([47, 47] ++ [32, 121]) := rfl
  rw [e, lexF_plain famG [120, 32] (plain_of _ _ (by decide)), lexF_line_end (F := famG) (m := [47, 47]) (a := [32, 121]) rfl (by decide) (.inl rfl) (by decide)]
  rfl
set_option maxHeartbeats 1000000 in
theorem awake_any (w : World) :
    Calls Try.prog 9 #[] w fun e w' => e = .returned (.bool true) ∧ Below w.heap.size w w' := by
  have hu33 := Try.underlying48
  have hu35 := Try.underlying50
  have kcv := Lib.run_convert_bytes_const (P := Try.prog) w 22 5 #[.int .u8 120, .int .u8 32, .int .u8 47, .int .u8 47, .int .u8 32, .int .u8 121] 6 6 Try.underlying22 Try.underlying5
  have HL := Lib.hid (lit_C w 5 (6, 7) [120, 32, 47, 47, 32, 121] (by simp))
  go_enter Try.func9, Try.ntmps9
  go_wp2_with fail
  refine (lex_any 5 famG _ _ 6 [120, 32, 47, 47, 32, 121] _ rfl HL.out (by simp) (by intro x hx; simp at hx; omega) (by omega)).mono ?_
  rintro e w1 ⟨g, k, rfl, hs, hb, _, _⟩
  rw [lex_awake] at hs
  have HS := Lib.hid hs
  have HB := Lib.hid (below_step (below_alloc (Below.refl _ _) _) hb)
  clear hs hb kcv
  go_wp2_with fail
  refine (segs_any g k _ _ HS.out).mono ?_
  rintro e w3 ⟨v, rfl, ho, hb⟩
  have hS : segsOf [4, 4, 3, 3, 1, 1] = [(4, 0, 2), (3, 2, 2), (1, 4, 2)] := by decide
  rw [hS] at ho
  clear hS
  obtain ⟨gg, cap, rfl, _, _⟩ := ho.form (by simp)
  obtain ⟨a1, _, _⟩ := seg_cells ho 0 (4, 0, 2) rfl
  obtain ⟨b1, _, _⟩ := seg_cells ho 1 (3, 2, 2) rfl
  obtain ⟨c1, c2, c3⟩ := seg_cells ho 2 (1, 4, 2) rfl
  have HB3 := Lib.hid (below_step HB.out hb)
  clear ho hb
  go_wp2
  go_ret
  exact ⟨rfl, HB3.out⟩
end Go.Proofs.Ytjbbogcoabgcnaa.S
