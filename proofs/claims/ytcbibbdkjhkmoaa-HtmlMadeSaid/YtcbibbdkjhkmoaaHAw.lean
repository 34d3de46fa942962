/- The laws' fixed fact of layer 11, walked; rows of bytes that a law makes; openers of its arguments. Conditions: none. -/
import Derived.Test.YtcbibbdkjhkmoaaHLex
import Derived.Test.YtcbibbdkjhkmoaaLSeg
import Derived.Test.YtcbibbdkjhkmoaaWEqStruct
import Derived.Test.YtcbibbdkjhkmoaaOpn
import Derived.Lib.SlBytesConst
set_option linter.unusedVariables false
set_option linter.unusedSimpArgs false
namespace Go.Proofs.Ytcbibbdkjhkmoaa.H
open Go.RowKit Go.Proofs.YtcbibbdkjhkmoaaW.PrintWords Go.Proofs.YtcbibbdkjhkmoaaW.PrintMore Go.Proofs.YtcbibbdkjhkmoaaW.Opn Go.Proofs.Ytcbibbdkjhkmoaa.L Go.Proofs.Ytcbibbdkjhkmoaa.S Go.Proofs.Ytcbibbdkjhkmoaa.Htm

theorem eqSpan (d : Nat) (w : World) (x0 y0 : Int) (x1 y1 : Int) :
    (Op.equalIn (d + 2) 54 (.agg #[.int .i64 x0, .int .i64 x1]) (.agg #[.int .i64 y0, .int .i64 y1])).run Try.prog w = .ok (x0 == y0 && (x1 == y1)) w := by
  refine eqA_of Try.underlying54 (by kernel_rfl) ?_
  refine eqf_cons (by rfl) (by go_simp; rfl) (by go_simp; rfl) (by go_simp) ?_
  exact eqf_last (by rfl) (by go_simp; rfl) (by go_simp; rfl) (by go_simp)
theorem eqSeg (d : Nat) (w : World) (x0 y0 : Int) (x1 y1 : Int) (x2 y2 : Int) :
    (Op.equalIn (d + 3) 66 (.agg #[.int .u8 x0, .int .i64 x1, .int .i64 x2]) (.agg #[.int .u8 y0, .int .i64 y1, .int .i64 y2])).run Try.prog w = .ok (x0 == y0 && ((x1 == y1 && (x2 == y2)))) w := by
  refine eqA_of Try.underlying66 (by kernel_rfl) ?_
  refine eqf_cons (by rfl) (by go_simp; rfl) (by go_simp; rfl) (by go_simp) ?_
  exact eqf_last (by rfl) (by go_simp) (by go_simp) (eqSpan (d + 0) w _ _ _ _)
attribute [local go_sem high] eqSpan eqSeg

/-- A part's cells, of an own row of parts. -/
theorem seg_cells {w : World} {base n g cap : Nat} {S : List Sg} (h : w.ownsRow base 66 3 (.slice (some ⟨g, 0, none⟩) n cap) n (rowC S)) (i : Nat) (s : Sg) (hi : S[i]? = some s) :
    w.cell? ⟨g, i * 3, none⟩ = some (.int .u8 s.1) ∧ w.cell? ⟨g, i * 3 + 1, none⟩ = some (.int .i64 s.2.1) ∧ w.cell? ⟨g, i * 3 + 2, none⟩ = some (.int .i64 s.2.2) := by
  have hl := (List.getElem?_eq_some_iff.1 hi).1
  have hn : (rowC S).length = n * 3 := h.1
  rw [rowC_length] at hn
  have e : ∀ j, j < 3 → (rowC S)[i * 3 + j]? = (segC s)[j]? := by
    intro j hj
    obtain ⟨T, U, rfl, hT⟩ : ∃ T U, S = T ++ s :: U ∧ T.length = i := by
      refine ⟨S.take i, S.drop (i + 1), ?_, by simp; omega⟩
      have hs : s = S[i] := by
        have := (List.getElem?_eq_some_iff.1 hi).2
        exact this.symm
      subst hs
      rw [← List.drop_eq_getElem_cons hl, List.take_append_drop]
    have : rowC (T ++ s :: U) = rowC T ++ (segC s ++ rowC U) := by simp [rowC]
    rw [this, List.getElem?_append_right (by rw [rowC_length]; omega), rowC_length, ← hT, Nat.add_sub_cancel_left, List.getElem?_append_left (by simp [segC]; omega)]
  refine ⟨?_, ?_, ?_⟩
  · have := e 0 (by omega)
    rw [h.cellAt _ (by omega)]
    simpa [segC] using this
  · have := e 1 (by omega)
    rw [h.cellAt _ (by omega)]
    simpa [segC] using this
  · have := e 2 (by omega)
    rw [h.cellAt _ (by omega)]
    simpa [segC] using this


theorem opBytes : Opens Try.prog 22 (Kd.slice 5 (Kd.int .u8)) (fun xs => Bys xs ∧ xs.length ≤ 140737488351232) :=
  Opens.imp (Opens.slice (B := 1) (Opens.int Try.underlying5) Try.underlying22 (by kernel_rfl) (by kernel_rfl)) (fun xs h => ⟨fun x hx => by
    have := h.2.2 x hx
    simp only [Lit.wf, Bool.and_eq_true, decide_eq_true_eq] at this
    have e1 : IntKind.u8.min = 0 := rfl
    have e2 : IntKind.u8.max = 255 := rfl
    omega, by have := h.2.1; omega⟩)
theorem u8_of {x : Int} (h : (Lit.int .u8 x).wf = true) : ∃ n : Nat, x = n ∧ n < 256 := by
  simp only [Lit.wf, Bool.and_eq_true, decide_eq_true_eq] at h
  have e1 : IntKind.u8.min = 0 := rfl
  have e2 : IntKind.u8.max = 255 := rfl
  exact ⟨x.toNat, by omega, by omega⟩
/-- A row of bytes of one's own. -/
structure Ob (w0 W : World) (v : Value) (xs : List Int) : Prop where
  own : W.ownsRow w0.heap.size 5 1 v xs.length (nums .u8 xs)
  bel : Below w0.heap.size w0 W
section
variable {w0 W W' : World} {v : Value} {xs : List Int}
theorem Ob.below (h : Ob w0 W v xs) (hb : Below W.heap.size W W') : Ob w0 W' v xs := ⟨pw_own_below h.own hb, below_step h.bel hb⟩
theorem Ob.alloc (h : Ob w0 W v xs) (o : Obj) : Ob w0 (W.alloc o) v xs := h.below (below_alloc (Below.refl _ _) o)
theorem Ob.form (h : Ob w0 W v xs) : ∃ A c, v = .slice A xs.length c ∧ xs.length ≤ c ∧ Kd.C (Kd.int .u8) W A xs.length xs := by
  obtain ⟨A, c, rfl, hr⟩ := own_reads h.own
  exact ⟨A, c, rfl, own_le h.own, Kd.C_of_reads (d := 0) (h1 := fun _ => rfl) hr⟩
theorem Ob.lit (w0 W : World) (xs : List Int) (h : Below w0.heap.size w0 W) (hm : xs.length ≤ 9) : Ob w0 (W.alloc (.cells (nums .u8 xs).toArray 5)) (.slice (some ⟨W.heap.size, 0, none⟩) xs.length xs.length) xs :=
  ⟨own_lit W _ _ _ xs h.size (by omega), below_alloc h _⟩
end
/-- A string's bytes in a row of their own. -/
theorem conv_C (W : World) (s : ByteArray) (hs : s.size ≤ 1000000) : Kd.C (Kd.int .u8) (Lib.bytesWorld W 5 s) (some ⟨W.heap.size, 0, none⟩) s.size (bytesOf s) :=
  Kd.C_of_reads (d := 0) (h1 := fun _ => rfl) (bytes_reads W 5 s (by omega))
theorem conv_run (s : ByteArray) : ∀ W : World, (convert 9 22 (.string s)).run Try.prog W = .ok (.slice (some ⟨W.heap.size, 0, none⟩) s.size (grownCap W s.size 0 5)) (Lib.bytesWorld W 5 s) :=
  fun W => print_bytes (P := Try.prog) 9 22 5 Try.underlying9 Try.underlying22 Try.underlying5 s W
/-- The bytes of the law butM the mark. -/
def butM (m : Int) (l : List Int) : List Int := l.filter (· != m)
theorem butM_snoc (m : Int) (l : List Int) (j : Nat) (h : j < l.length) : butM m (l.take (j + 1)) = if l.getD j 0 = m then butM m (l.take j) else butM m (l.take j) ++ [l.getD j 0] := by
  have e : l.take (j + 1) = l.take j ++ [l.getD j 0] := by
    rw [List.take_add_one, List.getElem?_eq_getElem h, List.getD_eq_getElem?_getD, List.getElem?_eq_getElem h]; rfl
  unfold butM
  rw [e, List.filter_append]
  by_cases hx : l.getD j 0 = m
  · rw [if_pos hx]; simp only [List.filter_cons, hx]; simp
  · rw [if_neg hx]; simp only [List.filter_cons]; simp; exact hx
theorem butM_le (m : Int) (l : List Int) : (butM m l).length ≤ l.length := List.length_filter_le _ _
theorem butM_not (m : Int) (l : List Int) : m ∉ butM m l := by unfold butM; simp
theorem butM_bys (m : Int) (l : List Int) (h : Bys l) : Bys (butM m l) := fun x hx => h x (List.mem_filter.1 hx).1

theorem lit_C (w : World) (t : TypeId) (fr : Nat × Nat) (l : List Int) (hl : l.length ≤ 1000) : Kd.C (Kd.int .u8) (w.alloc (.cells (l.map (Value.int .u8)).toArray t fr)) (some ⟨w.heap.size, 0, none⟩) l.length l := by
  refine ⟨rfl, by omega, fun _ => ⟨_, rfl, fun j p hj => ⟨[.int .u8 p], rfl, rfl, fun i u hu => ?_⟩⟩⟩
  have hi : i = 0 := by
    have := (List.getElem?_eq_some_iff.1 hu).1
    simpa using this
  subst hi
  have hp : Value.int .u8 p = u := by simpa using hu
  subst hp
  have e : (⟨w.heap.size, 0, none⟩ : Addr).add (j * 1 + 0) = ⟨w.heap.size, j, none⟩ := by
    unfold Addr.add
    by_cases h0 : j = 0
    · subst h0; rfl
    · simp [h0]
  have hz : (Kd.int IntKind.u8).sz = 1 := rfl
  rw [hz, e, cell_of_row _ _ _ _ _ _ (blk_new w _)]
  simp [hj]
theorem Mx.of {W : World} (h : W.ShapedOpen Try.prog) : Mx W := by
  obtain ⟨m, hm⟩ := idxLays.s1_3 W h
  have hm : W.cell? ⟨0, 0, none⟩ = some (.int .i64 m) := hm
  refine ⟨?_, m, hm⟩
  rcases Nat.eq_zero_or_pos W.heap.size with h0 | h0
  · exfalso
    unfold World.cell? at hm
    rw [Array.getElem?_eq_none (by omega)] at hm
    simp at hm
  · exact h0
theorem lex_awake : lexL [60, 98, 32, 116, 105, 116, 108, 101, 61, 34, 120, 34, 62, 121, 60, 47, 98, 62] = [2, 2, 2, 2, 2, 2, 2, 2, 2, 2, 1, 2, 2, 1, 2, 2, 2, 2] := by decide
set_option maxHeartbeats 1000000 in
theorem awake_any (w : World) (hM : Mx w) :
    Calls Try.prog 9 #[] w fun e w' => e = .returned (.bool true) ∧ Below w.heap.size w w' := by
  have hu33 := Try.underlying54
  have hu35 := Try.underlying66
  have kcv := Lib.run_convert_bytes_const (P := Try.prog) w 22 5 #[.int .u8 60, .int .u8 98, .int .u8 32, .int .u8 116, .int .u8 105, .int .u8 116, .int .u8 108, .int .u8 101, .int .u8 61, .int .u8 34, .int .u8 120, .int .u8 34, .int .u8 62, .int .u8 121, .int .u8 60, .int .u8 47, .int .u8 98, .int .u8 62] 18 18 Try.underlying22 Try.underlying5
  have HL := Lib.hid (lit_C w 5 (18, 19) [60, 98, 32, 116, 105, 116, 108, 101, 61, 34, 120, 34, 62, 121, 60, 47, 98, 62] (by simp))
  go_enter Try.func9, Try.ntmps9
  go_wp2_with fail
  refine (lex_any _ 18 _ [60, 98, 32, 116, 105, 116, 108, 101, 61, 34, 120, 34, 62, 121, 60, 47, 98, 62] _ HL.out (by simp) (by intro x hx; simp at hx; omega) (by omega) (hM.below (below_alloc (Below.refl _ _) _))).mono ?_
  rintro e w1 ⟨g, k, rfl, hs, hb, _, _⟩
  rw [lex_awake] at hs
  have HS := Lib.hid hs
  have HB := Lib.hid (below_step (below_alloc (Below.refl _ _) _) hb)
  clear hs hb kcv
  go_wp2_with fail
  refine (segs_any g k _ _ HS.out).mono ?_
  rintro e w3 ⟨v, rfl, ho, hb⟩
  have hS : segsOf [2, 2, 2, 2, 2, 2, 2, 2, 2, 2, 1, 2, 2, 1, 2, 2, 2, 2] = [(2, 0, 10), (1, 10, 1), (2, 11, 2), (1, 13, 1), (2, 14, 4)] := by decide
  rw [hS] at ho
  clear hS
  obtain ⟨gg, cap, rfl, _, _⟩ := ho.form (by simp)
  obtain ⟨a1, _, _⟩ := seg_cells ho 0 (2, 0, 10) rfl
  obtain ⟨b1, b2, b3⟩ := seg_cells ho 1 (1, 10, 1) rfl
  have HB3 := Lib.hid (below_step HB.out hb)
  clear ho hb
  go_wp2
  go_ret
  exact ⟨rfl, HB3.out⟩
end Go.Proofs.Ytcbibbdkjhkmoaa.H
