/- Out of what the kit's print writes for a function whose text is too long for one file, or falls: the same walk, smaller. Conditions: as the theorems say. -/
import Derived.Test.YtehabojhdogghaaPSpanRowsx0
import Derived.Test.YtehabojhdogghaaPSpanRowsx1
import Derived.Test.YtehabojhdogghaaPSpanRowsx2
import Derived.Test.YtehabojhdogghaaPSpanRowsx3
namespace Go.Proofs.Ytehabojhdogghaa.PSpanRows
open Go.RowKit Go.Proofs.YtehabojhdogghaaW.PrintWords Go.Proofs.YtehabojhdogghaaW.PrintLast Go.Proofs.YtehabojhdogghaaW.PrintMore
attribute [local go_sem] max2_int min2_int max_two min_two max_three min_three max_four min_four   -- for this text's walks alone
set_option linter.unusedVariables false
set_option linter.unusedSimpArgs false

/-! ### redpenlaw01_SpanRows: function 7 -/
mutual
def redpenlaw01_SpanRows.l0 : Nat → List (S23) → Int → Bool → Int → Int → Option (Bool)
 | 0, _, _, _, _, _ => none
 | k + 1, x0, x1, x2, x22, x23 => if x23 < x22 then (if x2 = true then (if 0 ≤ x23 then (if x23 < (x0.length : Int) then ((redpenref01_Sound.f ((rd_T23 x0 x23).f0) ((rd_T23 x0 x23).f1)).bind fun t142 => (redpenlaw01_SpanRows.j1 k x0 x1 x2 x23 x22 x23 t142)) else (none)) else (none)) else (redpenlaw01_SpanRows.j1 k x0 x1 x2 x23 x22 x23 false)) else (redpenlaw01_SpanRows.l1 k x0 x1 true true 0 x0 (x0.length : Int) 0)
def redpenlaw01_SpanRows.j1 : Nat → List (S23) → Int → Bool → Int → Int → Int → Bool → Option (Bool)
 | 0, _, _, _, _, _, _, _ => none
 | k + 1, x0, x1, x2, x7, x22, x23, x33 => if x33 = true then (if 0 ≤ x7 then (if x7 < (x0.length : Int) then ((some (x0.set (x7 : Int).toNat (⟨(rd_T23 x0 x7).f0, wrap64 (1 + (Int.tmod ((rd_T23 x0 x7).f1) 50))⟩ : S23) : List (S23))).bind fun y144 => ((some (y144.set (x7 : Int).toNat (⟨0, (rd_T23 y144 x7).f1⟩ : S23) : List (S23))).bind fun y145 => (if x7 > 0 then (if 0 ≤ (wrap64 (x7 - 1)) then (if (wrap64 (x7 - 1)) < (x0.length : Int) then (redpenlaw01_SpanRows.l0 k (y145.set (x7 : Int).toNat (⟨Int.tmod (wrap64 (((rd_T23 y145 (wrap64 (x7 - 1))).f0) + ((rd_T23 y145 (wrap64 (x7 - 1))).f1))) 60000, (rd_T23 y145 x7).f1⟩ : S23)) x1 x2 x22 (wrap64 (x23 + 1))) else (none)) else (none)) else (redpenlaw01_SpanRows.l0 k y145 x1 x2 x22 (wrap64 (x23 + 1)))))) else (none)) else (none)) else (redpenlaw01_SpanRows.l0 k x0 x1 x2 x22 (wrap64 (x23 + 1)))
def redpenlaw01_SpanRows.l1 : Nat → List (S23) → Int → Bool → Bool → Int → List (S23) → Int → Int → Option (Bool)
 | 0, _, _, _, _, _, _, _, _ => none
 | k + 1, x0, x1, x8, x9, x10, x70, x71, x72 => if x72 < x71 then (if 0 ≤ x72 then (if x72 < (x70.length : Int) then ((redpenref01_Sound.f ((rd_T23 x70 x72).f0) ((rd_T23 x70 x72).f1)).bind fun t151 => (if t151 = true then (if x8 = true then (if x9 = true then (if ((rd_T23 x70 x72).f0) = x10 then (redpenlaw01_SpanRows.l1 k x0 x1 (decide (((rd_T23 x70 x72).f0) ≥ x10)) (decide (((rd_T23 x70 x72).f1) > 0)) (wrap64 (((rd_T23 x70 x72).f0) + ((rd_T23 x70 x72).f1))) x70 x71 (wrap64 (x72 + 1))) else (redpenlaw01_SpanRows.l1 k x0 x1 (decide (((rd_T23 x70 x72).f0) ≥ x10)) false (wrap64 (((rd_T23 x70 x72).f0) + ((rd_T23 x70 x72).f1))) x70 x71 (wrap64 (x72 + 1)))) else (redpenlaw01_SpanRows.l1 k x0 x1 (decide (((rd_T23 x70 x72).f0) ≥ x10)) false (wrap64 (((rd_T23 x70 x72).f0) + ((rd_T23 x70 x72).f1))) x70 x71 (wrap64 (x72 + 1)))) else (if x9 = true then (if ((rd_T23 x70 x72).f0) = x10 then (redpenlaw01_SpanRows.l1 k x0 x1 false (decide (((rd_T23 x70 x72).f1) > 0)) (wrap64 (((rd_T23 x70 x72).f0) + ((rd_T23 x70 x72).f1))) x70 x71 (wrap64 (x72 + 1))) else (redpenlaw01_SpanRows.l1 k x0 x1 false false (wrap64 (((rd_T23 x70 x72).f0) + ((rd_T23 x70 x72).f1))) x70 x71 (wrap64 (x72 + 1)))) else (redpenlaw01_SpanRows.l1 k x0 x1 false false (wrap64 (((rd_T23 x70 x72).f0) + ((rd_T23 x70 x72).f1))) x70 x71 (wrap64 (x72 + 1))))) else ((span_Apart.f k x0).bind fun t152 => (if (t152 == false) = true then ((span_Cover.f k x0 x1).bind fun t153 => (if (t153 == false) = true then (some true) else (some false))) else (some false))))) else (none)) else (none)) else ((span_Apart.f k x0).bind fun t154 => (if (t154 == x8) = true then ((span_Cover.f k x0 x1).bind fun t155 => (if x9 = true then (if (t155 == (x10 == x1)) = true then ((span_Cover.f k x0 x10).bind fun t156 => (some t156)) else (some false)) else (if (t155 == false) = true then (some true) else (some false)))) else (some false)))
end
def redpenlaw01_SpanRows.f (k : Nat) (l0 : List (S23)) (a1 : Int) (a2 : Bool) : Option (Bool) := (redpenlaw01_Awake.f k).bind fun t134 => (if t134 = true then (if (l0.length : Int) > 100 then (some true) else ((some (([] : List (S23)) : List (S23))).bind fun y135 => (if y135.length + l0.length < 8796093022208 then ((some (y135 ++ l0 : List (S23))).bind fun y138 => (redpenlaw01_SpanRows.l0 k y138 a1 a2 (y138.length : Int) 0)) else (none)))) else (some false))
theorem redpenlaw01_SpanRows.mono_l : ∀ k, (∀ y0 y1 y2 y3 y4, LeO (redpenlaw01_SpanRows.l0 k y0 y1 y2 y3 y4) (redpenlaw01_SpanRows.l0 (k + 1) y0 y1 y2 y3 y4)) ∧ (∀ y0 y1 y2 y3 y4 y5 y6, LeO (redpenlaw01_SpanRows.j1 k y0 y1 y2 y3 y4 y5 y6) (redpenlaw01_SpanRows.j1 (k + 1) y0 y1 y2 y3 y4 y5 y6)) ∧ (∀ y0 y1 y2 y3 y4 y5 y6 y7, LeO (redpenlaw01_SpanRows.l1 k y0 y1 y2 y3 y4 y5 y6 y7) (redpenlaw01_SpanRows.l1 (k + 1) y0 y1 y2 y3 y4 y5 y6 y7))
 | 0 => ⟨fun _ _ _ _ _ r h => by simp [redpenlaw01_SpanRows.l0] at h, fun _ _ _ _ _ _ _ r h => by simp [redpenlaw01_SpanRows.j1] at h, fun _ _ _ _ _ _ _ _ r h => by simp [redpenlaw01_SpanRows.l1] at h⟩
 | k + 1 => by
  obtain ⟨ih0, ih1, ih2⟩ := redpenlaw01_SpanRows.mono_l k
  refine ⟨?_, ?_, ?_⟩
  ·
   intro y0 y1 y2 y3 y4
   unfold redpenlaw01_SpanRows.l0
   repeat' first
   | (with_reducible exact ih0 _ _ _ _ _)
   | (with_reducible exact ih1 _ _ _ _ _ _ _)
   | (with_reducible exact ih2 _ _ _ _ _ _ _ _)
   | (with_reducible exact redpenlaw01_Awake.mono _)
   | (with_reducible exact span_Apart.mono _ _)
   | (with_reducible exact span_Cover.mono _ _ _)
   | (with_reducible exact LeO.refl _)
   | (with_reducible exact LeO.none _)
   | (with_reducible refine LeO.ite ?_ ?_)
   | (with_reducible refine LeO.bind ?_ (fun _ => ?_))
   | exact ih0 _ _ _ _ _
   | exact ih1 _ _ _ _ _ _ _
   | exact ih2 _ _ _ _ _ _ _ _
   | exact redpenlaw01_Awake.mono _
   | exact span_Apart.mono _ _
   | exact span_Cover.mono _ _ _
   | exact LeO.none _
   | refine LeO.ite ?_ ?_
   | refine LeO.bind ?_ (fun _ => ?_)
  ·
   intro y0 y1 y2 y3 y4 y5 y6
   unfold redpenlaw01_SpanRows.j1
   repeat' first
   | (with_reducible exact ih0 _ _ _ _ _)
   | (with_reducible exact ih1 _ _ _ _ _ _ _)
   | (with_reducible exact ih2 _ _ _ _ _ _ _ _)
   | (with_reducible exact redpenlaw01_Awake.mono _)
   | (with_reducible exact span_Apart.mono _ _)
   | (with_reducible exact span_Cover.mono _ _ _)
   | (with_reducible exact LeO.refl _)
   | (with_reducible exact LeO.none _)
   | (with_reducible refine LeO.ite ?_ ?_)
   | (with_reducible refine LeO.bind ?_ (fun _ => ?_))
   | exact ih0 _ _ _ _ _
   | exact ih1 _ _ _ _ _ _ _
   | exact ih2 _ _ _ _ _ _ _ _
   | exact redpenlaw01_Awake.mono _
   | exact span_Apart.mono _ _
   | exact span_Cover.mono _ _ _
   | exact LeO.none _
   | refine LeO.ite ?_ ?_
   | refine LeO.bind ?_ (fun _ => ?_)
  ·
   intro y0 y1 y2 y3 y4 y5 y6 y7
   unfold redpenlaw01_SpanRows.l1
   repeat' first
   | (with_reducible exact ih0 _ _ _ _ _)
   | (with_reducible exact ih1 _ _ _ _ _ _ _)
   | (with_reducible exact ih2 _ _ _ _ _ _ _ _)
   | (with_reducible exact redpenlaw01_Awake.mono _)
   | (with_reducible exact span_Apart.mono _ _)
   | (with_reducible exact span_Cover.mono _ _ _)
   | (with_reducible exact LeO.refl _)
   | (with_reducible exact LeO.none _)
   | (with_reducible refine LeO.ite ?_ ?_)
   | (with_reducible refine LeO.bind ?_ (fun _ => ?_))
   | exact ih0 _ _ _ _ _
   | exact ih1 _ _ _ _ _ _ _
   | exact ih2 _ _ _ _ _ _ _ _
   | exact redpenlaw01_Awake.mono _
   | exact span_Apart.mono _ _
   | exact span_Cover.mono _ _ _
   | exact LeO.none _
   | refine LeO.ite ?_ ?_
   | refine LeO.bind ?_ (fun _ => ?_)
theorem redpenlaw01_SpanRows.mono : ∀ a0 a1 a2 k, LeO (redpenlaw01_SpanRows.f k a0 a1 a2) (redpenlaw01_SpanRows.f (k + 1) a0 a1 a2) := by
 intro a0 a1 a2 k
 obtain ⟨ih0, ih1, ih2⟩ := redpenlaw01_SpanRows.mono_l k
 unfold redpenlaw01_SpanRows.f
 repeat' first
   | (with_reducible exact ih0 _ _ _ _ _)
   | (with_reducible exact ih1 _ _ _ _ _ _ _)
   | (with_reducible exact ih2 _ _ _ _ _ _ _ _)
   | (with_reducible exact redpenlaw01_Awake.mono _)
   | (with_reducible exact span_Apart.mono _ _)
   | (with_reducible exact span_Cover.mono _ _ _)
   | (with_reducible exact LeO.refl _)
   | (with_reducible exact LeO.none _)
   | (with_reducible refine LeO.ite ?_ ?_)
   | (with_reducible refine LeO.bind ?_ (fun _ => ?_))
   | exact ih0 _ _ _ _ _
   | exact ih1 _ _ _ _ _ _ _
   | exact ih2 _ _ _ _ _ _ _ _
   | exact redpenlaw01_Awake.mono _
   | exact span_Apart.mono _ _
   | exact span_Cover.mono _ _ _
   | exact LeO.none _
   | refine LeO.ite ?_ ?_
   | refine LeO.bind ?_ (fun _ => ?_)
def redpenlaw01_SpanRows.T13 : Bool × List (List Nat × List Nat) := (true, [([], []), ([], []), ([], []), ([], []), ([3], [3]), ([2, 4], [2, 4]), ([5], [5]), ([6], [6]), ([], []), ([], []), ([9], [9]), ([8, 10], [8, 10]), ([11], [11]), ([12], [12]), ([7, 13], [7, 13]), ([14], [14]), ([0, 1, 0, 1, 2, 3, 4, 5, 6, 7, 8, 9, 10, 11, 12, 13, 14, 15], [0, 1]), ([16, 0, 1, 2, 3, 4, 5, 6, 7, 8, 9, 10, 11, 12, 13, 14, 15], [16]), ([17, 15, 0, 1, 2, 3, 4, 5, 6, 7, 8, 9, 10, 11, 12, 13, 14, 15], [15, 17])])
def redpenlaw01_SpanRows.B13 : List Nat := [0, 0, 0, 0, 8, 28, 60, 124, 0, 0, 512, 1792, 3840, 7936, 16380, 32764, 65535, 131071, 262143]
theorem redpenlaw01_SpanRows.tab13 : rtab .any (opsOf Try.f7 13) = redpenlaw01_SpanRows.T13 := by kernel_rfl
theorem redpenlaw01_SpanRows.bits13 : waitsOk redpenlaw01_SpanRows.T13.2 redpenlaw01_SpanRows.B13 = true := by kernel_rfl
set_option maxHeartbeats 8000000 in
set_option maxRecDepth 100000 in
theorem redpenlaw01_SpanRows.calls (k : Nat) (A0 : Option Addr) (c0 : Nat) (l0 : List (S23)) (a1 : Int) (a2 : Bool) (r : Bool) (w : World) (hr0 : Kd.C k23 w A0 l0.length l0) (hc0 : l0.length ≤ c0) (h : redpenlaw01_SpanRows.f k l0 a1 a2 = some r) :
  Calls Try.prog 7 #[.slice A0 l0.length c0, .int .i64 a1, .bool a2] w fun e w' => e = .returned (.bool r) ∧ Below w.heap.size w w' := by
 have hu23 := Try.underlying23
 have HR0 := Aside0.mk hr0
 have HC0 := Aside0.mk hc0
 clear hr0 hc0
 have HB := Aside0.mk (Below.refl w.heap.size w)
 have H : ((redpenlaw01_Awake.f k).bind fun t134 => (if t134 = true then (if (l0.length : Int) > 100 then (some true) else ((some (([] : List (S23)) : List (S23))).bind fun y135 => (if y135.length + l0.length < 8796093022208 then ((some (y135 ++ l0 : List (S23))).bind fun y138 => (redpenlaw01_SpanRows.l0 k y138 a1 a2 (y138.length : Int) 0)) else (none)))) else (some false))) = some r := h
 clear h
 replace H := Option.bind_eq_some_iff.mp H
 obtain ⟨t134, A40, H⟩ := H
 (try dsimp only at H)
 have A4 := Aside0.mk A40
 clear A40
 by_cases c5 : t134 = true
 ·
  subst c5
  rw [if_pos rfl] at H
  by_cases c6 : (l0.length : Int) > 100
  ·
   rw [if_pos c6] at H
   have c6b0 : decide (100 < (l0.length : Int)) = true := decide_eq_true c6
   have c6b1 : decide (100 < l0.length) = true := decide_eq_true (by omega)
   clear c6
   obtain rfl := Option.some.inj H
   go_enter Try.func7, Try.ntmps7
   go_wp2_with (first | ((with_reducible refine gate_callee (f := 8) rfl ?_); refine goesL_ (some 13) rfl rfl Try.func8 (by kernel_rfl) rfl #[] rfl (by (try simp only [List.map_toArray, List.map_cons, List.map_nil]); first | done | rfl | (simp only [List.length_drop, List.length_take]; rfl)) ?_; (with_reducible refine (redpenlaw01_Awake.calls k  true _ A4.out).mono ?_); rintro e w7 ⟨rfl, hb⟩; refine ⟨_, rfl, ?_⟩; have n0_ := Aside0.mk (below_step (by repeat (first | (with_reducible first | exact HB.out | apply below_alloc | apply pw_below_drewN | apply below_drew1) | exact HB.out)) hb); clear HB; have HB := n0_; clear n0_; (try clear hb); (try clear hb2); (try clear hk); (try clear hi)))
   go_ret
   exact ⟨by first | rfl | (simp [errW_none, errW_some] <;> rfl) | (simp [*, errW_none, errW_some] <;> rfl), by repeat (first | (with_reducible first | exact HB.out | apply below_alloc | apply pw_below_drewN | apply below_drew1) | exact HB.out)⟩
  ·
   rw [if_neg c6] at H
   have c6b0 : decide (100 < (l0.length : Int)) = false := decide_eq_false c6
   have c6b1 : decide (100 < l0.length) = false := decide_eq_false (by omega)
   clear c6
   obtain ⟨y135, hy135⟩ : ∃ y_ : List (S23), y_ = (([] : List (S23))) := ⟨_, rfl⟩
   replace H : (if y135.length + l0.length < 8796093022208 then ((some (y135 ++ l0 : List (S23))).bind fun y138 => (redpenlaw01_SpanRows.l0 k y138 a1 a2 (y138.length : Int) 0)) else (none)) = some r := by first | (rw [hy135]; with_reducible exact H) | (have H2_ := (Option.bind_some _ _).symm.trans H; rw [hy135]; with_reducible exact H2_) | (have H2_ := (Option.bind_some _ _).symm.trans H; with_reducible exact H2_) | with_reducible exact H | (rw [hy135]; exact H) | exact H
   have Ny135 := Aside0.mk hy135
   clear hy135
   by_cases c8 : y135.length + l0.length < 8796093022208
   ·
    rw [if_pos c8] at H
    have LMc8 := Aside0.mk c8
    clear c8
    obtain ⟨y138, hy138⟩ : ∃ y_ : List (S23), y_ = (y135 ++ l0) := ⟨_, rfl⟩
    replace H : (redpenlaw01_SpanRows.l0 k y138 a1 a2 (y138.length : Int) 0) = some r := by first | (rw [hy138]; with_reducible exact H) | (have H2_ := (Option.bind_some _ _).symm.trans H; rw [hy138]; with_reducible exact H2_) | (have H2_ := (Option.bind_some _ _).symm.trans H; with_reducible exact H2_) | with_reducible exact H | (rw [hy138]; exact H) | exact H
    have Ny138 := Aside0.mk hy138
    clear hy138
    have H' := Aside0.mk H
    clear H
    go_enter Try.func7, Try.ntmps7
    go_wp2_with (first | ((with_reducible refine gate_callee (f := 8) rfl ?_); refine goesL_ (some 13) rfl rfl Try.func8 (by kernel_rfl) rfl #[] rfl (by (try simp only [List.map_toArray, List.map_cons, List.map_nil]); first | done | rfl | (simp only [List.length_drop, List.length_take]; rfl)) ?_; (with_reducible refine (redpenlaw01_Awake.calls k  true _ A4.out).mono ?_); rintro e w9 ⟨rfl, hb⟩; refine ⟨_, rfl, ?_⟩; have n0_ := Aside0.mk (below_step (by repeat (first | (with_reducible first | exact HB.out | apply below_alloc | apply pw_below_drewN | apply below_drew1) | exact HB.out)) hb); clear HB; have HB := n0_; clear n0_; (try clear hb); (try clear hb2); (try clear hk); (try clear hi)) | ((with_reducible refine gate_dst (N := 18) rfl ?_); refine Kd.R_lit k23 _ 23 ?hg (N := 18) ?hd (xs := ([] : List (S23))) (inner := []) (ok := fun _ => True) (okp := fun _ => True) ?hr ?hp (fun _ hk => hk) trivial (Below.refl _ _) (Nat.le_refl _) (by simp) ?_; (case hd => rfl); (case hg => rfl); (case hr => first | (go_simp; done) | (go_simp; rfl)); (case hp => exact (Reps.none _ _)); intro v136 w10 ho11 hb hg_ hnew_; clear hg_ hnew_; (first | rw [← Ny135.out] at ho11 | (simp only [Int.reduceToNat] at ho11; rw [← Ny135.out] at ho11)); have n0_ := Aside0.mk (Kd.R_lower ho11 (below_size (by repeat (first | (with_reducible first | exact HB.out | apply below_alloc | apply pw_below_drewN | apply below_drew1) | exact HB.out)))); have n1_ := Aside0.mk (below_step (by repeat (first | (with_reducible first | exact HB.out | apply below_alloc | apply pw_below_drewN | apply below_drew1) | exact HB.out)) hb); clear HB; have HO137 := n0_; have HB := n1_; clear n0_ n1_; clear hb ho11) | ((with_reducible refine gate_builtin (b := .append) (xs := #[.tmp 18, .tmp 19]) rfl ?_); at_builtin; refine Kd.R_append_rows k23 (w0 := w) w.heap.size rfl (.tmp 18) (.tmp 19) 38 23 (.agg #[(.int .i64 0), (.int .i64 0)]) 16 rfl Try.underlying38 info23 rfl (by decide) (by omega) v136 y135 l0 _ _ _ (fun _ => True) (fun _ => False) rfl rfl ?aO ?aR (fun _ _ h => h) (fun _ h => h.elim) ?aF ?aB ?aS ?aL ?_; (case aR => repeat (first | exact (Kd.C_below HR0.out HB.out) | (with_reducible refine Kd.C_alloc ?_ _) | (with_reducible refine Kd.C_drewN ?_ _) | (with_reducible refine Kd.C_drew ?_))); (case aB => exact (by repeat (first | (with_reducible first | exact HB.out | apply below_alloc | apply pw_below_drewN | apply below_drew1) | exact HB.out))); (case aF => exact (fun _ _ => trivial)); (case aO => exact (by (with_reducible repeat (first | apply Kd.R_alloc | apply Kd.R_drewN | apply Kd.R_drew)); exact HO137.out)); (case aS => exact (below_size (by repeat (first | (with_reducible first | exact HB.out | apply below_alloc | apply pw_below_drewN | apply below_drew1) | exact HB.out)))); (case aL => have := LMc8.out; omega); intro v139 w12 ho hb hg hat; rw [← Ny138.out] at ho; have n0_ := Aside0.mk (hb); have n1_ := Aside0.mk (ho); clear HB; clear HO137; have HB := n0_; have HO140 := n1_; clear n0_ n1_; clear ho hb hg hat; obtain ⟨Ao13, co13, eo13⟩ := Kd.R_slice HO140.out; subst eo13))
    go_loopg [23] k (fun kq v23 w' => ∃ (x0_1 : List (S23)) (x23_1 : Int), v23 = .int .i64 x23_1 ∧ Aside0 (redpenlaw01_SpanRows.l0 kq x0_1 a1 a2 (y138.length : Int) x23_1 = some r) ∧ Aside0 (kq ≤ k) ∧ Aside0 (Kd.R k23 23 w' w.heap.size (fun _ => True) (.slice Ao13 y138.length co13) x0_1) ∧ Aside0 (Below w.heap.size w w'))
    case atStart => exact ⟨(y138), (0), (by first | rfl | (simp; done) | (simp [*]; done)), H', ⟨Nat.le_refl _⟩, ⟨by (with_reducible repeat (first | apply Kd.R_alloc | apply Kd.R_drewN | apply Kd.R_drew)); exact HO140.out⟩, ⟨by repeat (first | (with_reducible first | exact HB.out | apply below_alloc | apply pw_below_drewN | apply below_drew1) | exact HB.out)⟩⟩
    case round =>
     clear H'
     try clear p2
     try clear c5
     try clear c6
     try clear c6b0
     try clear c6b1
     try clear c7
     try clear c8
     obtain ⟨x0_1, x23_1, rfl, HA, HK1, HO_0, HB⟩ := hrel
     have hl0_1 := (Kd.R_reads' HO_0.out).1
     rw [hl0_1] at HO_0
     (try simp only [hl0_1])
     cases gk with
     | zero => exact absurd HA.out (by simp [redpenlaw01_SpanRows.l0])
     | succ k1 =>
      have H := HA.out
      clear HA
      simp only [redpenlaw01_SpanRows.l0] at H
      by_cases c14 : x23_1 < (y138.length : Int)
      ·
       rw [if_pos c14] at H
       have c14b0 : decide (x23_1 < (y138.length : Int)) = true := decide_eq_true c14
       (try simp only [hl0_1] at c14b0)
       clear c14
       have HC15 := Aside0.mk H
       clear H
       go_upto_region 9 with (fail)
       go_cut [33] (fun v33 wc => ∃ (kq : Nat) (x33_14 : Bool), v33 = .bool x33_14 ∧ Aside0 (redpenlaw01_SpanRows.j1 kq x0_1 a1 a2 x23_1 (y138.length : Int) x23_1 x33_14 = some r) ∧ Aside0 (kq ≤ k1) ∧ Aside0 (Kd.R k23 23 wc w.heap.size (fun _ => True) (.slice Ao13 x0_1.length co13) x0_1) ∧ Aside0 (Below w.heap.size w wc))
       case first =>
        have H := HC15.out
        clear HC15
        by_cases c16 : a2 = true
        ·
         subst c16
         rw [if_pos rfl] at H
         by_cases c17 : 0 ≤ x23_1
         ·
          rw [if_pos c17] at H
          have c17b0 : decide (0 ≤ x23_1) = true := decide_eq_true c17
          clear c17
          (first | rw [c17b0] | (simp only [i64_w, i32_w]; rw [c17b0]) | skip)
          by_cases c18 : x23_1 < (x0_1.length : Int)
          ·
           rw [if_pos c18] at H
           have c18b0 : decide (x23_1 < (x0_1.length : Int)) = true := decide_eq_true c18
           (try simp only [hl0_1] at c18b0)
           clear c18
           replace H := Option.bind_eq_some_iff.mp H
           obtain ⟨t142, A190, H⟩ := H
           (try dsimp only at H)
           have A19 := Aside0.mk A190
           clear A190
           have H' := Aside0.mk H
           clear H
           have p141 : 0 ≤ (x23_1 : Int) := of_decide_eq_true (by first | (with_reducible assumption) | assumption)
           have q141 : x23_1 < (x0_1.length : Int) := of_decide_eq_true (by first | (with_reducible assumption) | assumption)
           obtain ⟨ad141, e141, hx141_0, hx141_1⟩ := at_T23 (Kd.R_reads' HO_0.out).2.2 x23_1 p141 q141
           cases e141
           replace p141 := eq_true p141
           replace q141 := eq_true q141
           go_wp2_with (first | (go_at_call 13; (with_reducible refine (redpenref01_Sound.calls ((rd_T23 x0_1 x23_1).f0) ((rd_T23 x0_1 x23_1).f1) t142 _ A19.out).mono ?_); rintro e w20 ⟨rfl, hb⟩; have n0_ := Aside0.mk (Kd.R_below (by (with_reducible repeat (first | apply Kd.R_alloc | apply Kd.R_drewN | apply Kd.R_drew)); exact HO_0.out) hb); have n1_ := Aside0.mk (below_step (by repeat (first | (with_reducible first | exact HB.out | apply below_alloc | apply pw_below_drewN | apply below_drew1) | exact HB.out)) hb); clear HO_0; clear HB; have HO_0 := n0_; have HB := n1_; clear n0_ n1_; (try clear hb); (try clear hb2); (try clear hk); (try clear hi)))
           go_meet
           case rel => exact ⟨_, (t142), (by first | rfl | (simp; done) | (simp [*]; done)), H', ⟨by have := HK1.out; first | omega | exact Nat.le_refl _⟩, ⟨by (try simp only [hl0_1]); (with_reducible repeat (first | apply Kd.R_alloc | apply Kd.R_drewN | apply Kd.R_drew)); exact HO_0.out⟩, ⟨by repeat (first | (with_reducible first | exact HB.out | apply below_alloc | apply pw_below_drewN | apply below_drew1) | exact HB.out)⟩⟩
          ·
           rw [if_neg c18] at H
           exact absurd H (by simp)
         ·
          rw [if_neg c17] at H
          exact absurd H (by simp)
        ·
         replace c16 := Bool.eq_false_iff.mpr c16
         subst c16
         rw [if_neg (show ¬ (false = true) by decide)] at H
         have H' := Aside0.mk H
         clear H
         go_wp2
         go_meet
         case rel => exact ⟨_, (false), (by first | rfl | (simp; done) | (simp [*]; done)), H', ⟨by have := HK1.out; first | omega | exact Nat.le_refl _⟩, ⟨by (try simp only [hl0_1]); (with_reducible repeat (first | apply Kd.R_alloc | apply Kd.R_drewN | apply Kd.R_drew)); exact HO_0.out⟩, ⟨by repeat (first | (with_reducible first | exact HB.out | apply below_alloc | apply pw_below_drewN | apply below_drew1) | exact HB.out)⟩⟩
       case rest =>
        clear HC15
        try clear c1
        try clear p1
        try clear q1
        try clear hx1
        try clear p2
        try clear c5
        try clear c6
        try clear c6b0
        try clear c6b1
        try clear c7
        try clear c8
        try clear c14
        try clear c14b0
        try clear p14
        try clear q14
        try clear hx14
        try clear c16
        try clear c17
        try clear c17b0
        try clear c18
        try clear c18b0
        try clear hx141_0
        try clear hx141_1
        try clear p141
        try clear p2
        try clear q141
        obtain ⟨kq, x33_14, rfl, HA, HJ14, HO_0, HB⟩ := hcut
        cases kq with
        | zero => exact absurd HA.out (by simp [redpenlaw01_SpanRows.j1])
        | succ kj14 =>
         have H := HA.out
         clear HA
         simp only [redpenlaw01_SpanRows.j1] at H
         by_cases c21 : x33_14 = true
         ·
          subst c21
          rw [if_pos rfl] at H
          by_cases c22 : 0 ≤ x23_1
          ·
           rw [if_pos c22] at H
           have c22b0 : decide (0 ≤ x23_1) = true := decide_eq_true c22
           clear c22
           by_cases c23 : x23_1 < (x0_1.length : Int)
           ·
            rw [if_pos c23] at H
            have c23b0 : decide (x23_1 < (x0_1.length : Int)) = true := decide_eq_true c23
            (try simp only [hl0_1] at c23b0)
            clear c23
            obtain ⟨y144, hy144⟩ : ∃ y_ : List (S23), y_ = (x0_1.set (x23_1 : Int).toNat (⟨(rd_T23 x0_1 x23_1).f0, wrap64 (1 + (Int.tmod ((rd_T23 x0_1 x23_1).f1) 50))⟩ : S23)) := ⟨_, rfl⟩
            replace H : ((some (y144.set (x23_1 : Int).toNat (⟨0, (rd_T23 y144 x23_1).f1⟩ : S23) : List (S23))).bind fun y145 => (if x23_1 > 0 then (if 0 ≤ (wrap64 (x23_1 - 1)) then (if (wrap64 (x23_1 - 1)) < (x0_1.length : Int) then (redpenlaw01_SpanRows.l0 kj14 (y145.set (x23_1 : Int).toNat (⟨Int.tmod (wrap64 (((rd_T23 y145 (wrap64 (x23_1 - 1))).f0) + ((rd_T23 y145 (wrap64 (x23_1 - 1))).f1))) 60000, (rd_T23 y145 x23_1).f1⟩ : S23)) a1 a2 (y138.length : Int) (wrap64 (x23_1 + 1))) else (none)) else (none)) else (redpenlaw01_SpanRows.l0 kj14 y145 a1 a2 (y138.length : Int) (wrap64 (x23_1 + 1))))) = some r := by first | (rw [hy144]; with_reducible exact H) | (have H2_ := (Option.bind_some _ _).symm.trans H; rw [hy144]; with_reducible exact H2_) | (have H2_ := (Option.bind_some _ _).symm.trans H; with_reducible exact H2_) | with_reducible exact H | (rw [hy144]; exact H) | exact H
            have Ny144 := Aside0.mk hy144
            clear hy144
            obtain ⟨y145, hy145⟩ : ∃ y_ : List (S23), y_ = (y144.set (x23_1 : Int).toNat (⟨0, (rd_T23 y144 x23_1).f1⟩ : S23)) := ⟨_, rfl⟩
            replace H : (if x23_1 > 0 then (if 0 ≤ (wrap64 (x23_1 - 1)) then (if (wrap64 (x23_1 - 1)) < (x0_1.length : Int) then (redpenlaw01_SpanRows.l0 kj14 (y145.set (x23_1 : Int).toNat (⟨Int.tmod (wrap64 (((rd_T23 y145 (wrap64 (x23_1 - 1))).f0) + ((rd_T23 y145 (wrap64 (x23_1 - 1))).f1))) 60000, (rd_T23 y145 x23_1).f1⟩ : S23)) a1 a2 (y138.length : Int) (wrap64 (x23_1 + 1))) else (none)) else (none)) else (redpenlaw01_SpanRows.l0 kj14 y145 a1 a2 (y138.length : Int) (wrap64 (x23_1 + 1)))) = some r := by first | (rw [hy145]; with_reducible exact H) | (have H2_ := (Option.bind_some _ _).symm.trans H; rw [hy145]; with_reducible exact H2_) | (have H2_ := (Option.bind_some _ _).symm.trans H; with_reducible exact H2_) | with_reducible exact H | (rw [hy145]; exact H) | exact H
            have Ny145 := Aside0.mk hy145
            clear hy145
            by_cases c26 : x23_1 > 0
            ·
             rw [if_pos c26] at H
             have c26b0 : decide (0 < x23_1) = true := decide_eq_true c26
             clear c26
             obtain ⟨ji27, hji27⟩ : ∃ j_ : Int, (wrap64 (x23_1 - 1)) = j_ := ⟨_, rfl⟩
             replace H : (if 0 ≤ (ji27) then (if (ji27) < (x0_1.length : Int) then (redpenlaw01_SpanRows.l0 kj14 (y145.set (x23_1 : Int).toNat (⟨Int.tmod (wrap64 (((rd_T23 y145 (ji27)).f0) + ((rd_T23 y145 (ji27)).f1))) 60000, (rd_T23 y145 x23_1).f1⟩ : S23)) a1 a2 (y138.length : Int) (wrap64 (x23_1 + 1))) else (none)) else (none)) = some r := by first | (rw [hji27] at H; exact H) | (simp only [hji27] at H ⊢; exact H)
             have hji27w : (IntKind.i64.wrap (x23_1 - 1)) = ji27 := (i64_w _).trans hji27
             by_cases c28 : 0 ≤ (ji27)
             ·
              rw [if_pos c28] at H
              have c28b0 : decide (0 ≤ (ji27)) = true := decide_eq_true c28
              clear c28
              by_cases c29 : (ji27) < (x0_1.length : Int)
              ·
               rw [if_pos c29] at H
               have c29b0 : decide ((ji27) < (x0_1.length : Int)) = true := decide_eq_true c29
               (try simp only [hl0_1] at c29b0)
               clear c29
               obtain ⟨y148, hy148⟩ : ∃ y_ : List (S23), y_ = (y145.set (x23_1 : Int).toNat (⟨Int.tmod (wrap64 (((rd_T23 y145 (ji27)).f0) + ((rd_T23 y145 (ji27)).f1))) 60000, (rd_T23 y145 x23_1).f1⟩ : S23)) := ⟨_, rfl⟩
               replace H : (redpenlaw01_SpanRows.l0 kj14 y148 a1 a2 (y138.length : Int) (wrap64 (x23_1 + 1))) = some r := by first | (rw [hy148]; with_reducible exact H) | (have H2_ := (Option.bind_some _ _).symm.trans H; rw [hy148]; with_reducible exact H2_) | (have H2_ := (Option.bind_some _ _).symm.trans H; with_reducible exact H2_) | with_reducible exact H | (rw [hy148]; exact H) | exact H
               have Ny148 := Aside0.mk hy148
               clear hy148
               have H' := Aside0.mk H
               clear H
               have p143 : 0 ≤ (x23_1 : Int) := of_decide_eq_true (by first | (with_reducible assumption) | assumption)
               have q143 : x23_1 < (x0_1.length : Int) := of_decide_eq_true (by first | (with_reducible assumption) | assumption)
               obtain ⟨ad143, e143, hx143_0, hx143_1⟩ := at_T23 (Kd.R_reads' HO_0.out).2.2 x23_1 p143 q143
               cases e143
               replace p143 := eq_true p143
               replace q143 := eq_true q143
               have p24 : 0 ≤ (x23_1 : Int) := of_decide_eq_true (by first | (with_reducible assumption) | assumption)
               have q24 : (x23_1 : Int) < ((x0_1.length : Int) : Int) := of_decide_eq_true (by first | (with_reducible assumption) | assumption)
               obtain ⟨go24, co24, eo24, gb24, gl24, cl24, HG24⟩ := Kd.R_form HO_0.out (by omega)
               (first | cases eo24 | (injection eo24 with ea_ en_ ec_; (first | subst ea_ | (injection ea_ with ea_; subst ea_)); subst ec_; clear en_))
               have GB24 := Aside0.mk gb24
               have GG24 := Aside0.mk HG24
               clear gb24 gl24 HG24
               (first | simp only [add_plain] at hx143_0 | skip)
               (first | simp only [add_plain] at hx143_1 | skip)
               obtain ⟨ce24, hcl24, hM24, hcc24, hfr24⟩ := Kd.R_elem HO_0.out z23 (x23_1 : Int) p24 q24
               obtain rfl := k23_openM hM24
               have hx24_0 : wc.cell? ⟨go24, (x23_1 : Int).toNat * 2, none⟩ = some (.int .i64 ((rd_T23 x0_1 x23_1).f0)) := hcc24 0 _ rfl
               have hx24_1 : wc.cell? ⟨go24, (x23_1 : Int).toNat * 2 + 1, none⟩ = some (.int .i64 ((rd_T23 x0_1 x23_1).f1)) := hcc24 1 _ rfl
               have hf24_0 : wc.frozen? ⟨go24, (x23_1 : Int).toNat * 2, none⟩ = false := hfr24 0
               have hf24_1 : wc.frozen? ⟨go24, (x23_1 : Int).toNat * 2 + 1, none⟩ = false := hfr24 1
               clear hcl24 hcc24 hfr24 hM24
               replace p24 := eq_true p24
               replace q24 := eq_true q24
               have HX31 := Aside0.mk (show Kd.R k23 23 wc w.heap.size (fun _ => True) (.slice (some ⟨go24, 0, none⟩) x0_1.length co13) x0_1 from (by (with_reducible repeat (first | apply Kd.R_alloc | apply Kd.R_drewN | apply Kd.R_drew)); exact HO_0.out))
               obtain ⟨ce31, hcl31, hM31, hcc31, hfr31⟩ := Kd.R_elem HX31.out z23 (x23_1 : Int) (of_decide_eq_true (by first | (with_reducible assumption) | assumption)) (by have h_ : (x23_1 : Int) < ((x0_1.length : Int) : Int) := of_decide_eq_true (by first | (with_reducible assumption) | assumption); first | exact h_ | (have e_ := (Kd.R_reads' HO_0.out).1; omega) | simpa using h_)
               obtain rfl := k23_openM hM31
               have HP31 := Kd.R_seg HX31.out (x23_1 : Int) (of_decide_eq_true (by first | (with_reducible assumption) | assumption)) (by have h_ : (x23_1 : Int) < ((x0_1.length : Int) : Int) := of_decide_eq_true (by first | (with_reducible assumption) | assumption); first | exact h_ | (have e_ := (Kd.R_reads' HO_0.out).1; omega) | simpa using h_) (seg := [.int .i64 (wrap64 (1 + (Int.tmod ((rd_T23 x0_1 x23_1).f1) 50)))]) (j := 1) hcl31 hcc31 (show 2 ≤ 2 from by decide) (x' := (⟨(rd_T23 x0_1 x23_1).f0, wrap64 (1 + (Int.tmod ((rd_T23 x0_1 x23_1).f1) 50))⟩ : S23)) (k23_mkM _ _ _ (⟨(rd_T23 x0_1 x23_1).f0, wrap64 (1 + (Int.tmod ((rd_T23 x0_1 x23_1).f1) 50))⟩ : S23) ) (fun _ hk => hk)
               have hx31_1 := hcc31 1 _ rfl
               (try simp only [show (k23).sz = 2 from rfl, Nat.mul_one, Nat.add_zero] at hx31_1)
               have hf31_1 := hfr31 1
               (try simp only [show (k23).sz = 2 from rfl, Nat.mul_one, Nat.add_zero] at hf31_1)
               clear hcl31 hcc31 hfr31 hM31
               try go_wp2_with (first | ((with_reducible refine gate_store (t := 3) (p := 44) rfl ?_); refine store_event (t := 3) (p := 44) (v := ?vo_w32) (w1 := (wc.setCell ⟨go24, (x23_1 : Int).toNat * 2 + 1, none⟩ (.int .i64 (wrap64 (1 + (Int.tmod ((rd_T23 x0_1 x23_1).f1) 50)))))) ?hg ?ho ?hn ?hr ?_; (case ho => rfl); (case hg => rfl); (case hn => rfl); (case hr => first | (go_simp; done) | (go_simp; rfl)); intro w32 hw; have hg : wc.grownBy w32 (some go24) := (by rw [hw]; exact HP31.2); have hp_ : Kd.R k23 23 w32 w.heap.size (fun _ => True) (.slice (some ⟨go24, 0, none⟩) x0_1.length co13) y144 := (by rw [hw, Ny144.out]; exact HP31.1); clear HP31; have n0_ := Aside0.mk (hp_); have n1_ := Aside0.mk ((by rw [hw]; exact below_set (HB.out) GB24.out : Below w.heap.size w w32)); clear HO_0; clear HB; have HO_0 := n0_; have HB := n1_; clear n0_ n1_; clear hg hw hp_; have p25 : 0 ≤ (x23_1 : Int) := of_decide_eq_true (by first | (with_reducible assumption) | assumption); have q25 : (x23_1 : Int) < ((x0_1.length : Int) : Int) := of_decide_eq_true (by first | (with_reducible assumption) | assumption); obtain ⟨ce25, hcl25, hM25, hcc25, hfr25⟩ := Kd.R_elem HO_0.out z23 (x23_1 : Int) p25 q25; obtain rfl := k23_openM hM25; have hx25_0 : w32.cell? ⟨go24, (x23_1 : Int).toNat * 2, none⟩ = some (.int .i64 ((rd_T23 y144 x23_1).f0)) := hcc25 0 _ rfl; have hx25_1 : w32.cell? ⟨go24, (x23_1 : Int).toNat * 2 + 1, none⟩ = some (.int .i64 ((rd_T23 y144 x23_1).f1)) := hcc25 1 _ rfl; have hf25_0 : w32.frozen? ⟨go24, (x23_1 : Int).toNat * 2, none⟩ = false := hfr25 0; have hf25_1 : w32.frozen? ⟨go24, (x23_1 : Int).toNat * 2 + 1, none⟩ = false := hfr25 1; clear hcl25 hcc25 hfr25 hM25; replace p25 := eq_true p25; replace q25 := eq_true q25; have HX33 := Aside0.mk (show Kd.R k23 23 w32 w.heap.size (fun _ => True) (.slice (some ⟨go24, 0, none⟩) x0_1.length co13) y144 from (by (with_reducible repeat (first | apply Kd.R_alloc | apply Kd.R_drewN | apply Kd.R_drew)); exact HO_0.out)); obtain ⟨ce33, hcl33, hM33, hcc33, hfr33⟩ := Kd.R_elem HX33.out z23 (x23_1 : Int) (of_decide_eq_true (by first | (with_reducible assumption) | assumption)) (by have h_ : (x23_1 : Int) < ((x0_1.length : Int) : Int) := of_decide_eq_true (by first | (with_reducible assumption) | assumption); first | exact h_ | (have e_ := (Kd.R_reads' HO_0.out).1; omega) | simpa using h_); obtain rfl := k23_openM hM33; have HP33 := Kd.R_seg HX33.out (x23_1 : Int) (of_decide_eq_true (by first | (with_reducible assumption) | assumption)) (by have h_ : (x23_1 : Int) < ((x0_1.length : Int) : Int) := of_decide_eq_true (by first | (with_reducible assumption) | assumption); first | exact h_ | (have e_ := (Kd.R_reads' HO_0.out).1; omega) | simpa using h_) (seg := [.int .i64 0]) (j := 0) hcl33 hcc33 (show 1 ≤ 2 from by decide) (x' := (⟨0, (rd_T23 y144 x23_1).f1⟩ : S23)) (k23_mkM _ _ _ (⟨0, (rd_T23 y144 x23_1).f1⟩ : S23) ) (fun _ hk => hk); have hx33_0 := hcc33 0 _ rfl; (try simp only [show (k23).sz = 2 from rfl, Nat.mul_one, Nat.add_zero] at hx33_0); have hf33_0 := hfr33 0; (try simp only [show (k23).sz = 2 from rfl, Nat.mul_one, Nat.add_zero] at hf33_0); clear hcl33 hcc33 hfr33 hM33) | ((with_reducible refine gate_store (t := 3) (p := 48) rfl ?_); refine store_event (t := 3) (p := 48) (v := ?vo_w34) (w1 := (w32.setCell ⟨go24, (x23_1 : Int).toNat * 2, none⟩ (.int .i64 0))) ?hg ?ho ?hn ?hr ?_; (case ho => rfl); (case hg => rfl); (case hn => rfl); (case hr => first | (go_simp; done) | (go_simp; rfl)); intro w34 hw; have hg : w32.grownBy w34 (some go24) := (by rw [hw]; exact HP33.2); have hp_ : Kd.R k23 23 w34 w.heap.size (fun _ => True) (.slice (some ⟨go24, 0, none⟩) x0_1.length co13) y145 := (by rw [hw, Ny145.out]; exact HP33.1); clear HP33; have n0_ := Aside0.mk (hp_); have n1_ := Aside0.mk ((by rw [hw]; exact below_set (HB.out) GB24.out : Below w.heap.size w w34)); clear HO_0; clear HB; have HO_0 := n0_; have HB := n1_; clear n0_ n1_; clear hg hw hp_))
               have n0_ := Aside0.mk (Kd.R_drew HO_0.out)
               have n1_ := Aside0.mk (below_drew1 HB.out)
               clear HO_0
               clear HB
               have HO_0 := n0_
               have HB := n1_
               clear n0_ n1_
               have p146 : 0 ≤ ((ji27) : Int) := of_decide_eq_true (by first | (with_reducible assumption) | assumption)
               have q146 : (ji27) < (y145.length : Int) := (by have h_ : ((ji27) : Int) < ((x0_1.length : Int) : Int) := of_decide_eq_true (by first | (with_reducible assumption) | assumption); first | (have e_ := (Kd.R_reads' HO_0.out).1; omega) | simpa only [Ny144.out, Ny145.out, List.length_set] using h_)
               have ql146 : (((ji27) : Int) < ((x0_1.length : Int) : Int)) = True := eq_true (of_decide_eq_true (by first | (with_reducible assumption) | assumption))
               obtain ⟨ad146, e146, hx146_0, hx146_1⟩ := at_T23 (Kd.R_reads' HO_0.out).2.2 (ji27) p146 q146
               obtain rfl : (⟨go24, 0, none⟩ : Addr) = ad146 := (by injection e146)
               (first | simp only [add_plain] at hx146_0 | simp only [add_at] at hx146_0 | simp only [Addr.add, Nat.zero_add] at hx146_0 | skip)
               (first | simp only [add_plain] at hx146_1 | simp only [add_at] at hx146_1 | simp only [Addr.add, Nat.zero_add] at hx146_1 | skip)
               replace p146 := eq_true p146
               replace q146 := eq_true q146
               have p147 : 0 ≤ ((ji27) : Int) := of_decide_eq_true (by first | (with_reducible assumption) | assumption)
               have q147 : (ji27) < (y145.length : Int) := (by have h_ : ((ji27) : Int) < ((x0_1.length : Int) : Int) := of_decide_eq_true (by first | (with_reducible assumption) | assumption); first | (have e_ := (Kd.R_reads' HO_0.out).1; omega) | simpa only [Ny144.out, Ny145.out, List.length_set] using h_)
               have ql147 : (((ji27) : Int) < ((x0_1.length : Int) : Int)) = True := eq_true (of_decide_eq_true (by first | (with_reducible assumption) | assumption))
               obtain ⟨ad147, e147, hx147_0, hx147_1⟩ := at_T23 (Kd.R_reads' HO_0.out).2.2 (ji27) p147 q147
               obtain rfl : (⟨go24, 0, none⟩ : Addr) = ad147 := (by injection e147)
               (first | simp only [add_plain] at hx147_0 | simp only [add_at] at hx147_0 | simp only [Addr.add, Nat.zero_add] at hx147_0 | skip)
               (first | simp only [add_plain] at hx147_1 | simp only [add_at] at hx147_1 | simp only [Addr.add, Nat.zero_add] at hx147_1 | skip)
               replace p147 := eq_true p147
               replace q147 := eq_true q147
               have p30 : 0 ≤ (x23_1 : Int) := of_decide_eq_true (by first | (with_reducible assumption) | assumption)
               have q30 : (x23_1 : Int) < ((x0_1.length : Int) : Int) := of_decide_eq_true (by first | (with_reducible assumption) | assumption)
               obtain ⟨ce30, hcl30, hM30, hcc30, hfr30⟩ := Kd.R_elem HO_0.out z23 (x23_1 : Int) p30 q30
               obtain rfl := k23_openM hM30
               have hx30_0 : World.cell? _ ⟨go24, (x23_1 : Int).toNat * 2, none⟩ = some (.int .i64 ((rd_T23 y145 x23_1).f0)) := hcc30 0 _ rfl
               have hx30_1 : World.cell? _ ⟨go24, (x23_1 : Int).toNat * 2 + 1, none⟩ = some (.int .i64 ((rd_T23 y145 x23_1).f1)) := hcc30 1 _ rfl
               have hf30_0 : World.frozen? _ ⟨go24, (x23_1 : Int).toNat * 2, none⟩ = false := hfr30 0
               have hf30_1 : World.frozen? _ ⟨go24, (x23_1 : Int).toNat * 2 + 1, none⟩ = false := hfr30 1
               clear hcl30 hcc30 hfr30 hM30
               replace p30 := eq_true p30
               replace q30 := eq_true q30
               obtain ⟨ce36, hcl36, hM36, hcc36, hfr36⟩ := Kd.R_elem HO_0.out z23 (x23_1 : Int) (of_decide_eq_true (by first | (with_reducible assumption) | assumption)) (by have h_ : (x23_1 : Int) < ((x0_1.length : Int) : Int) := of_decide_eq_true (by first | (with_reducible assumption) | assumption); first | exact h_ | (have e_ := (Kd.R_reads' HO_0.out).1; omega) | simpa using h_)
               obtain rfl := k23_openM hM36
               have HP36 := (Kd.R_seg HO_0.out (x23_1 : Int) (of_decide_eq_true (by first | (with_reducible assumption) | assumption)) (by have h_ : (x23_1 : Int) < ((x0_1.length : Int) : Int) := of_decide_eq_true (by first | (with_reducible assumption) | assumption); first | exact h_ | (have e_ := (Kd.R_reads' HO_0.out).1; omega) | simpa using h_) (seg := [.int .i64 (Int.tmod (wrap64 (((rd_T23 y145 (ji27)).f0) + ((rd_T23 y145 (ji27)).f1))) 60000)]) (j := 0) hcl36 hcc36 (show 1 ≤ 2 from by decide) (x' := (⟨Int.tmod (wrap64 (((rd_T23 y145 (ji27)).f0) + ((rd_T23 y145 (ji27)).f1))) 60000, (rd_T23 y145 x23_1).f1⟩ : S23)) (k23_mkM _ _ _ (⟨Int.tmod (wrap64 (((rd_T23 y145 (ji27)).f0) + ((rd_T23 y145 (ji27)).f1))) 60000, (rd_T23 y145 x23_1).f1⟩ : S23) ) (fun _ hk => hk)).1
               rw [← Ny148.out] at HP36
               have HQ36 := Aside0.mk HP36
               clear hcl36 hcc36 hfr36 hM36 HP36
               refine start_ (n := 19) (S := fun w' => w'.cell? ⟨go24, ((ji27)).toNat * 2, none⟩ = some (.int .i64 ((rd_T23 y145 (ji27)).f0)) ∧ w'.cell? ⟨go24, ((ji27)).toNat * 2 + 1, none⟩ = some (.int .i64 ((rd_T23 y145 (ji27)).f1)) ∧ w'.cell? ⟨go24, ((ji27)).toNat * 2, none⟩ = some (.int .i64 ((rd_T23 y145 (ji27)).f0)) ∧ w'.cell? ⟨go24, ((ji27)).toNat * 2 + 1, none⟩ = some (.int .i64 ((rd_T23 y145 (ji27)).f1))) (ds := [18]) #[false, false, false, false, false, false, false, false, false, false, false, false, false, false, false, false, false, false, false] (by kernel_rfl) rfl rfl ⟨hx146_0, hx146_1, hx147_0, hx147_1⟩ (fun hHeld => ?_); refine with_tabW redpenlaw01_SpanRows.tab13 redpenlaw01_SpanRows.bits13 (fun HT_ HW_ => ?_)
               generalize w34.drew = w35 at HO_0 HB HQ36 hf30_0 hf30_1 hx146_0 hx146_1 hx147_0 hx147_1 hx30_0 hx30_1 hHeld ⊢
               refine pure_ (i := 0) (N := some 51) (v := ?_) (a' := ?_) #[true, false, false, false, false, false, false, false, false, false, false, false, false, false, false, false, false, false, false] rfl rfl (any_of HT_.out (by kernel_rfl)) (fun _ _ _ h => h) (Or.inl ⟨by rfl, ?_⟩) ?_ ?_
               rotate_left
               ·
                intro w'
                go_simp
                with_reducible rfl
               rotate_left
               ·
                simp only [Act.put, List.setIfInBounds_toArray, List.set_cons_zero, List.set_cons_succ, i64_w, i32_w]
                rfl
               refine pure_ (i := 1) (N := some 52) (v := ?_) (a' := ?_) #[true, true, false, false, false, false, false, false, false, false, false, false, false, false, false, false, false, false, false] rfl rfl (any_of HT_.out (by kernel_rfl)) (fun _ _ _ h => h) (Or.inl ⟨by rfl, ?_⟩) ?_ ?_
               rotate_left
               ·
                intro w'
                go_simp
                with_reducible rfl
               rotate_left
               ·
                simp only [Act.put, List.setIfInBounds_toArray, List.set_cons_zero, List.set_cons_succ, i64_w, i32_w]
                rfl
               refine pure_ (i := 2) (N := some 53) (v := ?_) (a' := ?_) #[true, true, true, false, false, false, false, false, false, false, false, false, false, false, false, false, false, false, false] rfl rfl (any_of HT_.out (by kernel_rfl)) (fun _ _ _ h => h) (Or.inl ⟨by rfl, ?_⟩) ?_ ?_
               rotate_left
               ·
                intro w'
                go_simp
                with_reducible rfl
               rotate_left
               ·
                simp only [Act.put, List.setIfInBounds_toArray, List.set_cons_zero, List.set_cons_succ, i64_w, i32_w]
                rfl
               refine pure_ (i := 3) (N := some 54) (v := ?_) (a' := ?_) #[true, true, true, true, false, false, false, false, false, false, false, false, false, false, false, false, false, false, false] rfl rfl (any_of HT_.out (by kernel_rfl)) (fun _ _ _ h => h) (Or.inl ⟨by rfl, ?_⟩) ?_ ?_
               rotate_left
               ·
                intro w'
                go_simp
                with_reducible rfl
               rotate_left
               ·
                simp only [Act.put, List.setIfInBounds_toArray, List.set_cons_zero, List.set_cons_succ, i64_w, i32_w]
                rfl
               refine pure_ (i := 4) (N := some 55) (v := ?_) (a' := ?_) #[true, true, true, true, true, false, false, false, false, false, false, false, false, false, false, false, false, false, false] rfl rfl (any_of HT_.out (by kernel_rfl)) (fun _ _ _ h => h) (Or.inl ⟨by rfl, ?_⟩) ?_ ?_
               rotate_left
               ·
                intro w'
                go_simp
                with_reducible rfl
               rotate_left
               ·
                simp only [Act.put, List.setIfInBounds_toArray, List.set_cons_zero, List.set_cons_succ, i64_w, i32_w]
                rfl
               refine pure_ (i := 5) (N := some 56) (v := ?_) (a' := ?_) #[true, true, true, true, true, true, false, false, false, false, false, false, false, false, false, false, false, false, false] rfl rfl (any_of HT_.out (by kernel_rfl)) (fun _ _ _ h => h) (Or.inl ⟨by rfl, ?_⟩) ?_ ?_
               rotate_left
               ·
                intro w'
                go_simp
                with_reducible rfl
               rotate_left
               ·
                simp only [Act.put, List.setIfInBounds_toArray, List.set_cons_zero, List.set_cons_succ, i64_w, i32_w]
                rfl
               refine pure_ (i := 6) (N := some 57) (v := ?_) (a' := ?_) #[true, true, true, true, true, true, true, false, false, false, false, false, false, false, false, false, false, false, false] rfl rfl (any_of HT_.out (by kernel_rfl)) (fun _ _ _ h => h) (Or.inl ⟨by rfl, ?_⟩) ?_ ?_
               rotate_left
               ·
                intro w'
                go_simp
                with_reducible rfl
               rotate_left
               ·
                simp only [Act.put, List.setIfInBounds_toArray, List.set_cons_zero, List.set_cons_succ, i64_w, i32_w]
                rfl
               refine pure_ (i := 8) (N := some 59) (v := ?_) (a' := ?_) #[true, true, true, true, true, true, true, false, true, false, false, false, false, false, false, false, false, false, false] rfl rfl (any_of HT_.out (by kernel_rfl)) (fun _ _ _ h => h) (Or.inl ⟨by rfl, ?_⟩) ?_ ?_
               rotate_left
               ·
                intro w'
                go_simp
                with_reducible rfl
               rotate_left
               ·
                simp only [Act.put, List.setIfInBounds_toArray, List.set_cons_zero, List.set_cons_succ, i64_w, i32_w]
                rfl
               refine pure_ (i := 9) (N := some 60) (v := ?_) (a' := ?_) #[true, true, true, true, true, true, true, false, true, true, false, false, false, false, false, false, false, false, false] rfl rfl (any_of HT_.out (by kernel_rfl)) (fun _ _ _ h => h) (Or.inl ⟨by rfl, ?_⟩) ?_ ?_
               rotate_left
               ·
                intro w'
                go_simp
                with_reducible rfl
               rotate_left
               ·
                simp only [Act.put, List.setIfInBounds_toArray, List.set_cons_zero, List.set_cons_succ, i64_w, i32_w]
                rfl
               refine pure_ (i := 10) (N := some 61) (v := ?_) (a' := ?_) #[true, true, true, true, true, true, true, false, true, true, true, false, false, false, false, false, false, false, false] rfl rfl (any_of HT_.out (by kernel_rfl)) (fun _ _ _ h => h) (Or.inl ⟨by rfl, ?_⟩) ?_ ?_
               rotate_left
               ·
                intro w'
                go_simp
                with_reducible rfl
               rotate_left
               ·
                simp only [Act.put, List.setIfInBounds_toArray, List.set_cons_zero, List.set_cons_succ, i64_w, i32_w]
                rfl
               refine pure_ (i := 11) (N := some 62) (v := ?_) (a' := ?_) #[true, true, true, true, true, true, true, false, true, true, true, true, false, false, false, false, false, false, false] rfl rfl (any_of HT_.out (by kernel_rfl)) (fun _ _ _ h => h) (Or.inl ⟨by rfl, ?_⟩) ?_ ?_
               rotate_left
               ·
                intro w'
                go_simp
                with_reducible rfl
               rotate_left
               ·
                simp only [Act.put, List.setIfInBounds_toArray, List.set_cons_zero, List.set_cons_succ, i64_w, i32_w]
                rfl
               refine pure_ (i := 12) (N := some 63) (v := ?_) (a' := ?_) #[true, true, true, true, true, true, true, false, true, true, true, true, true, false, false, false, false, false, false] rfl rfl (any_of HT_.out (by kernel_rfl)) (fun _ _ _ h => h) (Or.inl ⟨by rfl, ?_⟩) ?_ ?_
               rotate_left
               ·
                intro w'
                go_simp
                with_reducible rfl
               rotate_left
               ·
                simp only [Act.put, List.setIfInBounds_toArray, List.set_cons_zero, List.set_cons_succ, i64_w, i32_w]
                rfl
               refine take_ (i := 7) (N := some 58) (v := ?_) (a' := ?_) #[true, true, true, true, true, true, true, true, true, true, true, true, true, false, false, false, false, false, false] rfl rfl (take_ofW HT_.out HW_.out (by kernel_rfl)) (fun _ _ _ h => h) (Or.inl ⟨by rfl, ?_⟩) hHeld ?_ ?_
               rotate_left
               ·
                rintro w' ⟨s0, s1, s2, s3⟩
                go_simp
                with_reducible rfl
               rotate_left
               ·
                simp only [Act.put, List.setIfInBounds_toArray, List.set_cons_zero, List.set_cons_succ, i64_w, i32_w]
                rfl
               refine take_ (i := 13) (N := some 64) (v := ?_) (a' := ?_) #[true, true, true, true, true, true, true, true, true, true, true, true, true, true, false, false, false, false, false] rfl rfl (take_ofW HT_.out HW_.out (by kernel_rfl)) (fun _ _ _ h => h) (Or.inl ⟨by rfl, ?_⟩) hHeld ?_ ?_
               rotate_left
               ·
                rintro w' ⟨s0, s1, s2, s3⟩
                go_simp
                with_reducible rfl
               rotate_left
               ·
                simp only [Act.put, List.setIfInBounds_toArray, List.set_cons_zero, List.set_cons_succ, i64_w, i32_w]
                rfl
               refine pure_ (i := 14) (N := some 65) (v := ?_) (a' := ?_) #[true, true, true, true, true, true, true, true, true, true, true, true, true, true, true, false, false, false, false] rfl rfl (any_of HT_.out (by kernel_rfl)) (fun _ _ _ h => h) (Or.inl ⟨by rfl, ?_⟩) ?_ ?_
               rotate_left
               ·
                intro w'
                go_simp
                with_reducible rfl
               rotate_left
               ·
                simp only [Act.put, List.setIfInBounds_toArray, List.set_cons_zero, List.set_cons_succ, i64_w, i32_w]
                rfl
               refine pure_ (i := 15) (N := some 66) (v := ?_) (a' := ?_) #[true, true, true, true, true, true, true, true, true, true, true, true, true, true, true, true, false, false, false] rfl rfl (any_of HT_.out (by kernel_rfl)) (fun _ _ _ h => h) (Or.inl ⟨by rfl, ?_⟩) ?_ ?_
               rotate_left
               ·
                intro w'
                go_simp
                with_reducible rfl
               rotate_left
               ·
                simp only [Act.put, List.setIfInBounds_toArray, List.set_cons_zero, List.set_cons_succ, i64_w, i32_w]
                rfl
               refine pure_ (i := 16) (N := some 67) (v := ?_) (a' := ?_) #[true, true, true, true, true, true, true, true, true, true, true, true, true, true, true, true, true, false, false] rfl rfl (any_of HT_.out (by kernel_rfl)) (fun _ _ _ h => h) (Or.inl ⟨by rfl, ?_⟩) ?_ ?_
               rotate_left
               ·
                intro w'
                go_simp
                with_reducible rfl
               rotate_left
               ·
                simp only [Act.put, List.setIfInBounds_toArray, List.set_cons_zero, List.set_cons_succ, i64_w, i32_w]
                rfl
               refine pure_ (i := 17) (N := some 68) (v := ?_) (a' := ?_) #[true, true, true, true, true, true, true, true, true, true, true, true, true, true, true, true, true, true, false] rfl rfl (any_of HT_.out (by kernel_rfl)) (fun _ _ _ h => h) (Or.inl ⟨by rfl, ?_⟩) ?_ ?_
               rotate_left
               ·
                intro w'
                go_simp
                with_reducible rfl
               rotate_left
               ·
                simp only [Act.put, List.setIfInBounds_toArray, List.set_cons_zero, List.set_cons_succ, i64_w, i32_w]
                rfl
               refine last_ (i := 18) (N := none) #[true, true, true, true, true, true, true, true, true, true, true, true, true, true, true, true, true, true, true] rfl rfl (one_of HT_.out (by kernel_rfl)) (by decide) (fun K hK => ?_)
               refine skip_ (w1 := ?_) (by rfl) rfl ?_ ?_
               rotate_left
               ·
                go_simp
                rfl
               refine hK.out _ _ ?_
               clear hK K
               refine done_ (done_of HT_.out (by kernel_rfl)) ?_
               try go_wp2
               (try simp only [← hl0_1])
               go_roundg kj14
               case measure => have := HK1.out; have := HJ14.out; omega
               case rel => exact ⟨(y148), (wrap64 (x23_1 + 1)), (by first | rfl | (simp; done) | (simp [*]; done)), H', ⟨by have := HK1.out; have := HJ14.out; omega⟩, ⟨by (try simp only [hl0_1]); (with_reducible repeat (first | apply Kd.R_alloc | apply Kd.R_drewN | apply Kd.R_drew)); exact HQ36.out⟩, ⟨by repeat (first | (with_reducible first | exact HB.out | apply below_alloc | apply pw_below_drewN | apply below_drew1 | refine below_set ?_ GB24.out) | exact HB.out)⟩⟩
              ·
               rw [if_neg c29] at H
               exact absurd H (by simp)
             ·
              rw [if_neg c28] at H
              exact absurd H (by simp)
            ·
             rw [if_neg c26] at H
             have c26b0 : decide (0 < x23_1) = false := decide_eq_false c26
             clear c26
             have H' := Aside0.mk H
             clear H
             have p143 : 0 ≤ (x23_1 : Int) := of_decide_eq_true (by first | (with_reducible assumption) | assumption)
             have q143 : x23_1 < (x0_1.length : Int) := of_decide_eq_true (by first | (with_reducible assumption) | assumption)
             obtain ⟨ad143, e143, hx143_0, hx143_1⟩ := at_T23 (Kd.R_reads' HO_0.out).2.2 x23_1 p143 q143
             cases e143
             replace p143 := eq_true p143
             replace q143 := eq_true q143
             have p24 : 0 ≤ (x23_1 : Int) := of_decide_eq_true (by first | (with_reducible assumption) | assumption)
             have q24 : (x23_1 : Int) < ((x0_1.length : Int) : Int) := of_decide_eq_true (by first | (with_reducible assumption) | assumption)
             obtain ⟨go24, co24, eo24, gb24, gl24, cl24, HG24⟩ := Kd.R_form HO_0.out (by omega)
             (first | cases eo24 | (injection eo24 with ea_ en_ ec_; (first | subst ea_ | (injection ea_ with ea_; subst ea_)); subst ec_; clear en_))
             have GB24 := Aside0.mk gb24
             have GG24 := Aside0.mk HG24
             clear gb24 gl24 HG24
             (first | simp only [add_plain] at hx143_0 | skip)
             (first | simp only [add_plain] at hx143_1 | skip)
             obtain ⟨ce24, hcl24, hM24, hcc24, hfr24⟩ := Kd.R_elem HO_0.out z23 (x23_1 : Int) p24 q24
             obtain rfl := k23_openM hM24
             have hx24_0 : wc.cell? ⟨go24, (x23_1 : Int).toNat * 2, none⟩ = some (.int .i64 ((rd_T23 x0_1 x23_1).f0)) := hcc24 0 _ rfl
             have hx24_1 : wc.cell? ⟨go24, (x23_1 : Int).toNat * 2 + 1, none⟩ = some (.int .i64 ((rd_T23 x0_1 x23_1).f1)) := hcc24 1 _ rfl
             have hf24_0 : wc.frozen? ⟨go24, (x23_1 : Int).toNat * 2, none⟩ = false := hfr24 0
             have hf24_1 : wc.frozen? ⟨go24, (x23_1 : Int).toNat * 2 + 1, none⟩ = false := hfr24 1
             clear hcl24 hcc24 hfr24 hM24
             replace p24 := eq_true p24
             replace q24 := eq_true q24
             have HX37 := Aside0.mk (show Kd.R k23 23 wc w.heap.size (fun _ => True) (.slice (some ⟨go24, 0, none⟩) x0_1.length co13) x0_1 from (by (with_reducible repeat (first | apply Kd.R_alloc | apply Kd.R_drewN | apply Kd.R_drew)); exact HO_0.out))
             obtain ⟨ce37, hcl37, hM37, hcc37, hfr37⟩ := Kd.R_elem HX37.out z23 (x23_1 : Int) (of_decide_eq_true (by first | (with_reducible assumption) | assumption)) (by have h_ : (x23_1 : Int) < ((x0_1.length : Int) : Int) := of_decide_eq_true (by first | (with_reducible assumption) | assumption); first | exact h_ | (have e_ := (Kd.R_reads' HO_0.out).1; omega) | simpa using h_)
             obtain rfl := k23_openM hM37
             have HP37 := Kd.R_seg HX37.out (x23_1 : Int) (of_decide_eq_true (by first | (with_reducible assumption) | assumption)) (by have h_ : (x23_1 : Int) < ((x0_1.length : Int) : Int) := of_decide_eq_true (by first | (with_reducible assumption) | assumption); first | exact h_ | (have e_ := (Kd.R_reads' HO_0.out).1; omega) | simpa using h_) (seg := [.int .i64 (wrap64 (1 + (Int.tmod ((rd_T23 x0_1 x23_1).f1) 50)))]) (j := 1) hcl37 hcc37 (show 2 ≤ 2 from by decide) (x' := (⟨(rd_T23 x0_1 x23_1).f0, wrap64 (1 + (Int.tmod ((rd_T23 x0_1 x23_1).f1) 50))⟩ : S23)) (k23_mkM _ _ _ (⟨(rd_T23 x0_1 x23_1).f0, wrap64 (1 + (Int.tmod ((rd_T23 x0_1 x23_1).f1) 50))⟩ : S23) ) (fun _ hk => hk)
             have hx37_1 := hcc37 1 _ rfl
             (try simp only [show (k23).sz = 2 from rfl, Nat.mul_one, Nat.add_zero] at hx37_1)
             have hf37_1 := hfr37 1
             (try simp only [show (k23).sz = 2 from rfl, Nat.mul_one, Nat.add_zero] at hf37_1)
             clear hcl37 hcc37 hfr37 hM37
             go_wp2_with (first | ((with_reducible refine gate_store (t := 3) (p := 44) rfl ?_); refine store_event (t := 3) (p := 44) (v := ?vo_w38) (w1 := (wc.setCell ⟨go24, (x23_1 : Int).toNat * 2 + 1, none⟩ (.int .i64 (wrap64 (1 + (Int.tmod ((rd_T23 x0_1 x23_1).f1) 50)))))) ?hg ?ho ?hn ?hr ?_; (case ho => rfl); (case hg => rfl); (case hn => rfl); (case hr => first | (go_simp; done) | (go_simp; rfl)); intro w38 hw; have hg : wc.grownBy w38 (some go24) := (by rw [hw]; exact HP37.2); have hp_ : Kd.R k23 23 w38 w.heap.size (fun _ => True) (.slice (some ⟨go24, 0, none⟩) x0_1.length co13) y144 := (by rw [hw, Ny144.out]; exact HP37.1); clear HP37; have n0_ := Aside0.mk (hp_); have n1_ := Aside0.mk ((by rw [hw]; exact below_set (HB.out) GB24.out : Below w.heap.size w w38)); clear HO_0; clear HB; have HO_0 := n0_; have HB := n1_; clear n0_ n1_; clear hg hw hp_; have p25 : 0 ≤ (x23_1 : Int) := of_decide_eq_true (by first | (with_reducible assumption) | assumption); have q25 : (x23_1 : Int) < ((x0_1.length : Int) : Int) := of_decide_eq_true (by first | (with_reducible assumption) | assumption); obtain ⟨ce25, hcl25, hM25, hcc25, hfr25⟩ := Kd.R_elem HO_0.out z23 (x23_1 : Int) p25 q25; obtain rfl := k23_openM hM25; have hx25_0 : w38.cell? ⟨go24, (x23_1 : Int).toNat * 2, none⟩ = some (.int .i64 ((rd_T23 y144 x23_1).f0)) := hcc25 0 _ rfl; have hx25_1 : w38.cell? ⟨go24, (x23_1 : Int).toNat * 2 + 1, none⟩ = some (.int .i64 ((rd_T23 y144 x23_1).f1)) := hcc25 1 _ rfl; have hf25_0 : w38.frozen? ⟨go24, (x23_1 : Int).toNat * 2, none⟩ = false := hfr25 0; have hf25_1 : w38.frozen? ⟨go24, (x23_1 : Int).toNat * 2 + 1, none⟩ = false := hfr25 1; clear hcl25 hcc25 hfr25 hM25; replace p25 := eq_true p25; replace q25 := eq_true q25; have HX39 := Aside0.mk (show Kd.R k23 23 w38 w.heap.size (fun _ => True) (.slice (some ⟨go24, 0, none⟩) x0_1.length co13) y144 from (by (with_reducible repeat (first | apply Kd.R_alloc | apply Kd.R_drewN | apply Kd.R_drew)); exact HO_0.out)); obtain ⟨ce39, hcl39, hM39, hcc39, hfr39⟩ := Kd.R_elem HX39.out z23 (x23_1 : Int) (of_decide_eq_true (by first | (with_reducible assumption) | assumption)) (by have h_ : (x23_1 : Int) < ((x0_1.length : Int) : Int) := of_decide_eq_true (by first | (with_reducible assumption) | assumption); first | exact h_ | (have e_ := (Kd.R_reads' HO_0.out).1; omega) | simpa using h_); obtain rfl := k23_openM hM39; have HP39 := Kd.R_seg HX39.out (x23_1 : Int) (of_decide_eq_true (by first | (with_reducible assumption) | assumption)) (by have h_ : (x23_1 : Int) < ((x0_1.length : Int) : Int) := of_decide_eq_true (by first | (with_reducible assumption) | assumption); first | exact h_ | (have e_ := (Kd.R_reads' HO_0.out).1; omega) | simpa using h_) (seg := [.int .i64 0]) (j := 0) hcl39 hcc39 (show 1 ≤ 2 from by decide) (x' := (⟨0, (rd_T23 y144 x23_1).f1⟩ : S23)) (k23_mkM _ _ _ (⟨0, (rd_T23 y144 x23_1).f1⟩ : S23) ) (fun _ hk => hk); have hx39_0 := hcc39 0 _ rfl; (try simp only [show (k23).sz = 2 from rfl, Nat.mul_one, Nat.add_zero] at hx39_0); have hf39_0 := hfr39 0; (try simp only [show (k23).sz = 2 from rfl, Nat.mul_one, Nat.add_zero] at hf39_0); clear hcl39 hcc39 hfr39 hM39) | ((with_reducible refine gate_store (t := 3) (p := 48) rfl ?_); refine store_event (t := 3) (p := 48) (v := ?vo_w40) (w1 := (w38.setCell ⟨go24, (x23_1 : Int).toNat * 2, none⟩ (.int .i64 0))) ?hg ?ho ?hn ?hr ?_; (case ho => rfl); (case hg => rfl); (case hn => rfl); (case hr => first | (go_simp; done) | (go_simp; rfl)); intro w40 hw; have hg : w38.grownBy w40 (some go24) := (by rw [hw]; exact HP39.2); have hp_ : Kd.R k23 23 w40 w.heap.size (fun _ => True) (.slice (some ⟨go24, 0, none⟩) x0_1.length co13) y145 := (by rw [hw, Ny145.out]; exact HP39.1); clear HP39; have n0_ := Aside0.mk (hp_); have n1_ := Aside0.mk ((by rw [hw]; exact below_set (HB.out) GB24.out : Below w.heap.size w w40)); clear HO_0; clear HB; have HO_0 := n0_; have HB := n1_; clear n0_ n1_; clear hg hw hp_))
             (try simp only [← hl0_1])
             go_roundg kj14
             case measure => have := HK1.out; have := HJ14.out; omega
             case rel => exact ⟨(y145), (wrap64 (x23_1 + 1)), (by first | rfl | (simp; done) | (simp [*]; done)), H', ⟨by have := HK1.out; have := HJ14.out; omega⟩, ⟨by (try simp only [hl0_1]); (with_reducible repeat (first | apply Kd.R_alloc | apply Kd.R_drewN | apply Kd.R_drew)); exact HO_0.out⟩, ⟨by repeat (first | (with_reducible first | exact HB.out | apply below_alloc | apply pw_below_drewN | apply below_drew1) | exact HB.out)⟩⟩
           ·
            rw [if_neg c23] at H
            exact absurd H (by simp)
          ·
           rw [if_neg c22] at H
           exact absurd H (by simp)
         ·
          replace c21 := Bool.eq_false_iff.mpr c21
          subst c21
          rw [if_neg (show ¬ (false = true) by decide)] at H
          have H' := Aside0.mk H
          clear H
          go_wp2
          (try simp only [← hl0_1])
          go_roundg kj14
          case measure => have := HK1.out; have := HJ14.out; omega
          case rel => exact ⟨(x0_1), (wrap64 (x23_1 + 1)), (by first | rfl | (simp; done) | (simp [*]; done)), H', ⟨by have := HK1.out; have := HJ14.out; omega⟩, ⟨by (try simp only [hl0_1]); (with_reducible repeat (first | apply Kd.R_alloc | apply Kd.R_drewN | apply Kd.R_drew)); exact HO_0.out⟩, ⟨by repeat (first | (with_reducible first | exact HB.out | apply below_alloc | apply pw_below_drewN | apply below_drew1) | exact HB.out)⟩⟩
      ·
       rw [if_neg c14] at H
       have c14b0 : decide (x23_1 < (y138.length : Int)) = false := decide_eq_false c14
       (try simp only [hl0_1] at c14b0)
       clear c14
       have H' := Aside0.mk H
       clear H
       go_wp2
       go_loopg [8, 9, 10, 72] k1 (fun kq v8 v9 v10 v72 w' => ∃ (x8_2 : Bool) (x9_2 : Bool) (x10_2 : Int) (x72_2 : Int), v8 = .bool x8_2 ∧ v9 = .bool x9_2 ∧ v10 = .int .i64 x10_2 ∧ v72 = .int .i64 x72_2 ∧ Aside0 (redpenlaw01_SpanRows.l1 kq x0_1 a1 x8_2 x9_2 x10_2 x0_1 (x0_1.length : Int) x72_2 = some r) ∧ Aside0 (kq ≤ k1) ∧ Aside0 (Kd.R k23 23 w' w.heap.size (fun _ => True) (.slice Ao13 x0_1.length co13) x0_1) ∧ Aside0 (Kd.R k23 23 w' w.heap.size (fun _ => True) (.slice Ao13 x0_1.length co13) x0_1) ∧ Aside0 (Below w.heap.size w w'))
       case atStart => exact ⟨(true), (true), (0), (0), (by first | rfl | (simp; done) | (simp [*]; done)), (by first | rfl | (simp; done) | (simp [*]; done)), (by first | rfl | (simp; done) | (simp [*]; done)), (by first | rfl | (simp; done) | (simp [*]; done)), H', ⟨Nat.le_refl _⟩, ⟨by (try simp only [hl0_1]); (with_reducible repeat (first | apply Kd.R_alloc | apply Kd.R_drewN | apply Kd.R_drew)); exact HO_0.out⟩, ⟨by (try simp only [hl0_1]); (with_reducible repeat (first | apply Kd.R_alloc | apply Kd.R_drewN | apply Kd.R_drew)); exact HO_0.out⟩, ⟨by repeat (first | (with_reducible first | exact HB.out | apply below_alloc | apply pw_below_drewN | apply below_drew1) | exact HB.out)⟩⟩
       case round =>
        clear H'
        try clear c1
        try clear p1
        try clear q1
        try clear hx1
        try clear c2
        try clear p2
        try clear q2
        try clear hx2
        try clear c3
        try clear p3
        try clear q3
        try clear hx3
        try clear hf3
        try clear c5
        try clear c6
        try clear c6b0
        try clear c6b1
        try clear p6
        try clear c7
        try clear c8
        try clear c14
        try clear c14b0
        try clear p14
        try clear q14
        try clear hx14
        try clear c16
        try clear c17
        try clear c17b0
        try clear c18
        try clear c18b0
        try clear c21
        try clear c22
        try clear c22b0
        try clear c23
        try clear c23b0
        try clear c24
        try clear p24
        try clear q24
        try clear hx24
        try clear hf24
        try clear c25
        try clear p25
        try clear q25
        try clear hx25
        try clear hf25
        try clear c26
        try clear c26b0
        try clear c28
        try clear c28b0
        try clear c29
        try clear c29b0
        try clear c30
        try clear p30
        try clear q30
        try clear hx30
        try clear hf30
        try clear c31
        try clear hx31
        try clear hf31
        try clear c33
        try clear hx33
        try clear hf33
        try clear c36
        try clear c37
        try clear hx37
        try clear hf37
        try clear c39
        try clear hx39
        try clear hf39
        try clear hx141_0
        try clear hx141_1
        try clear hx143_0
        try clear hx143_1
        try clear hx146_0
        try clear hx146_1
        try clear hx147_0
        try clear hx147_1
        try clear hx24_0
        try clear hx24_1
        try clear hx25_0
        try clear hx25_1
        try clear hx30_0
        try clear hx30_1
        try clear hx31_1
        try clear hx33_0
        try clear hx37_1
        try clear hx39_0
        try clear p1
        try clear p14
        try clear p141
        try clear p143
        try clear p146
        try clear p147
        try clear p2
        try clear p24
        try clear p25
        try clear p30
        try clear q1
        try clear q14
        try clear q141
        try clear q143
        try clear q146
        try clear q147
        try clear q24
        try clear q25
        try clear q30
        obtain ⟨x8_2, x9_2, x10_2, x72_2, rfl, rfl, rfl, rfl, HA, HK2, HO_0, HO_70, HB⟩ := hrel
        cases gk with
        | zero => exact absurd HA.out (by simp [redpenlaw01_SpanRows.l1])
        | succ k2 =>
         have H := HA.out
         clear HA
         simp only [redpenlaw01_SpanRows.l1] at H
         by_cases c41 : x72_2 < (x0_1.length : Int)
         ·
          rw [if_pos c41] at H
          have c41b0 : decide (x72_2 < (x0_1.length : Int)) = true := decide_eq_true c41
          (try simp only [hl0_1] at c41b0)
          clear c41
          by_cases c42 : 0 ≤ x72_2
          ·
           rw [if_pos c42] at H
           have c42b0 : decide (0 ≤ x72_2) = true := decide_eq_true c42
           clear c42
           by_cases c43 : x72_2 < (x0_1.length : Int)
           ·
            rw [if_pos c43] at H
            have c43b0 : decide (x72_2 < (x0_1.length : Int)) = true := decide_eq_true c43
            (try simp only [hl0_1] at c43b0)
            clear c43
            replace H := Option.bind_eq_some_iff.mp H
            obtain ⟨t151, A440, H⟩ := H
            (try dsimp only at H)
            have A44 := Aside0.mk A440
            clear A440
            by_cases c45 : t151 = true
            ·
             subst c45
             rw [if_pos rfl] at H
             by_cases c46 : x8_2 = true
             ·
              subst c46
              rw [if_pos rfl] at H
              by_cases c47 : x9_2 = true
              ·
               subst c47
               rw [if_pos rfl] at H
               by_cases c48 : ((rd_T23 x0_1 x72_2).f0) = x10_2
               ·
                rw [if_pos c48] at H
                have c48b0 : (((rd_T23 x0_1 x72_2).f0) == x10_2) = true := beq_iff_eq.mpr c48
                have c48b1 : (((rd_T23 x0_1 x72_2).f0) != x10_2) = false := bne_eq_false_iff_eq.mpr c48
                clear c48
                have H' := Aside0.mk H
                clear H
                have p149 : 0 ≤ (x72_2 : Int) := of_decide_eq_true (by first | (with_reducible assumption) | assumption)
                have q149 : x72_2 < (x0_1.length : Int) := of_decide_eq_true (by first | (with_reducible assumption) | assumption)
                obtain ⟨ad149, e149, hx149_0, hx149_1⟩ := at_T23 (Kd.R_reads' HO_70.out).2.2 x72_2 p149 q149
                cases e149
                replace p149 := eq_true p149
                replace q149 := eq_true q149
                go_wp2_with (first | ((with_reducible refine gate_dst (N := 12) rfl ?_); refine box_event ?hg (N := 12) ?hd (cs := #[.int .i64 0, .int .i64 0]) (t := 23) ?hr ?_; (case hd => rfl); (case hg => rfl); (case hr => first | (go_simp; done) | (go_simp; rfl)); intro gb150 hg w49 hbox hb; have n0_ := Aside0.mk (Kd.R_below (Kd.R_elderB (by (with_reducible repeat (first | apply Kd.R_alloc | apply Kd.R_drewN | apply Kd.R_drew)); exact HO_0.out) gb150 (Nat.le_of_eq hg.symm)) hb); have n1_ := Aside0.mk (Kd.R_below (Kd.R_elderB (by (with_reducible repeat (first | apply Kd.R_alloc | apply Kd.R_drewN | apply Kd.R_drew)); exact HO_70.out) gb150 (Nat.le_of_eq hg.symm)) hb); have n2_ := Aside0.mk (below_step (by repeat (first | (with_reducible first | exact HB.out | apply below_alloc | apply pw_below_drewN | apply below_drew1) | exact HB.out)) hb); have n3_ := Aside0.mk (hbox); have n4_ := Aside0.mk ((by rw [hg]; exact (below_size (by repeat (first | (with_reducible first | exact HB.out | apply below_alloc | apply pw_below_drewN | apply below_drew1) | exact HB.out))) : w.heap.size ≤ gb150)); have n5_ := Aside0.mk ((by rw [hg]; exact (below_size (by repeat (first | (with_reducible first | exact HB.out | apply below_alloc | apply pw_below_drewN | apply below_drew1) | exact HB.out))) : w.heap.size ≤ gb150)); clear HO_0; clear HO_70; clear HB; have HO_0 := n0_; have HO_70 := n1_; have HB := n2_; have BK150 := n3_; have GW150 := n4_; have GE150 := n5_; clear n0_ n1_ n2_ n3_ n4_ n5_; clear hb hbox hg; have hcz50_0 : w49.cell? ⟨gb150, 0, none⟩ = some (.int .i64 0) := (blk_cell BK150.out 0).trans rfl; have hcz50_1 : w49.cell? ⟨gb150, 1, none⟩ = some (.int .i64 0) := (blk_cell BK150.out 1).trans rfl; have hfz50_0 := blk_frozen BK150.out 0; have hfz50_1 := blk_frozen BK150.out 1) | ((with_reducible refine gate_callee (f := 13) rfl ?_); refine goesL_ (some 77) rfl rfl Try.func13 (by kernel_rfl) rfl #[.agg #[.int .i64 ((rd_T23 x0_1 x72_2).f0), .int .i64 ((rd_T23 x0_1 x72_2).f1)]] rfl (by (try simp only [List.map_toArray, List.map_cons, List.map_nil]); first | done | rfl | (simp only [List.length_drop, List.length_take]; rfl)) ?_; (with_reducible refine (redpenref01_Sound.calls ((rd_T23 x0_1 x72_2).f0) ((rd_T23 x0_1 x72_2).f1) true _ A44.out).mono ?_); rintro e w51 ⟨rfl, hb⟩; refine ⟨_, rfl, ?_⟩; have n0_ := Aside0.mk (Kd.R_below (by (with_reducible repeat (first | apply Kd.R_alloc | apply Kd.R_drewN | apply Kd.R_drew)); exact (Kd.R_mono (Kd.R_far (p := ⟨gb150, 1, none⟩) (Kd.R_far (p := ⟨gb150, 0, none⟩) (Kd.R_mono HO_0.out (fun k_ hk => (⟨hk, hk.2⟩ : _ ∧ k_ ≠ gb150))) (fun _ hk => hk.2) (.int .i64 ((rd_T23 x0_1 x72_2).f0))) (fun _ hk => hk.2) (.int .i64 ((rd_T23 x0_1 x72_2).f1))) (fun _ h_ => h_.1))) hb); have n1_ := Aside0.mk (Kd.R_below (by (with_reducible repeat (first | apply Kd.R_alloc | apply Kd.R_drewN | apply Kd.R_drew)); exact (Kd.R_mono (Kd.R_far (p := ⟨gb150, 1, none⟩) (Kd.R_far (p := ⟨gb150, 0, none⟩) (Kd.R_mono HO_70.out (fun k_ hk => (⟨hk, hk.2⟩ : _ ∧ k_ ≠ gb150))) (fun _ hk => hk.2) (.int .i64 ((rd_T23 x0_1 x72_2).f0))) (fun _ hk => hk.2) (.int .i64 ((rd_T23 x0_1 x72_2).f1))) (fun _ h_ => h_.1))) hb); have n2_ := Aside0.mk (blk_below (g := gb150) (o := .cells #[.int .i64 ((rd_T23 x0_1 x72_2).f0), .int .i64 ((rd_T23 x0_1 x72_2).f1)] 23 (0, 0)) (by (with_reducible repeat (first | refine blk_drewN ?_ _ | refine blk_drew ?_ | refine blk_alloc ?_ _)); refine blk_put (cs := #[.int .i64 ((rd_T23 x0_1 x72_2).f0), .int .i64 0]) ?_ 1 _ rfl; (with_reducible repeat (first | refine blk_drewN ?_ _ | refine blk_drew ?_ | refine blk_alloc ?_ _)); refine blk_put (cs := #[.int .i64 0, .int .i64 0]) ?_ 0 _ rfl; (with_reducible repeat (first | refine blk_drewN ?_ _ | refine blk_drew ?_ | refine blk_alloc ?_ _)); exact BK150.out) hb); have n3_ := Aside0.mk (below_step (by repeat (first | (with_reducible first | exact HB.out | apply below_alloc | apply pw_below_drewN | apply below_drew1 | refine below_set ?_ GE150.out) | exact HB.out)) hb); clear HO_0; clear HO_70; clear BK150; clear HB; have HO_0 := n0_; have HO_70 := n1_; have BK150 := n2_; have HB := n3_; clear n0_ n1_ n2_ n3_; (try clear hb); (try clear hb2); (try clear hk); (try clear hi); have hcz52_0 : w51.cell? ⟨gb150, 0, none⟩ = some (.int .i64 ((rd_T23 x0_1 x72_2).f0)) := (blk_cell BK150.out 0).trans rfl; have hcz52_1 : w51.cell? ⟨gb150, 1, none⟩ = some (.int .i64 ((rd_T23 x0_1 x72_2).f1)) := (blk_cell BK150.out 1).trans rfl; have hfz52_0 := blk_frozen BK150.out 0; have hfz52_1 := blk_frozen BK150.out 1))
                go_roundg k2
                case measure => have := HK1.out; have := HK2.out; omega
                case rel => exact ⟨(decide (((rd_T23 x0_1 x72_2).f0) ≥ x10_2)), (decide (((rd_T23 x0_1 x72_2).f1) > 0)), (wrap64 (((rd_T23 x0_1 x72_2).f0) + ((rd_T23 x0_1 x72_2).f1))), (wrap64 (x72_2 + 1)), (by first | rfl | (simp; done) | (simp [*]; done)), (by first | rfl | (simp; done) | (simp [*]; done)), (by first | rfl | (simp; done) | (simp [*]; done)), (by first | rfl | (simp; done) | (simp [*]; done)), H', ⟨by have := HK1.out; have := HK2.out; omega⟩, ⟨by (try simp only [hl0_1]); (with_reducible repeat (first | apply Kd.R_alloc | apply Kd.R_drewN | apply Kd.R_drew)); exact Kd.R_mono HO_0.out (fun _ hk => trivial)⟩, ⟨by (try simp only [hl0_1]); (with_reducible repeat (first | apply Kd.R_alloc | apply Kd.R_drewN | apply Kd.R_drew)); exact Kd.R_mono HO_70.out (fun _ hk => trivial)⟩, ⟨by repeat (first | (with_reducible first | exact HB.out | apply below_alloc | apply pw_below_drewN | apply below_drew1 | refine below_set ?_ GE150.out) | exact HB.out)⟩⟩
               ·
                rw [if_neg c48] at H
                have c48b0 : (((rd_T23 x0_1 x72_2).f0) == x10_2) = false := beq_eq_false_iff_ne.mpr c48
                have c48b1 : (((rd_T23 x0_1 x72_2).f0) != x10_2) = true := bne_iff_ne.mpr c48
                have H' := Aside0.mk H
                clear H
                have p149 : 0 ≤ (x72_2 : Int) := of_decide_eq_true (by first | (with_reducible assumption) | assumption)
                have q149 : x72_2 < (x0_1.length : Int) := of_decide_eq_true (by first | (with_reducible assumption) | assumption)
                obtain ⟨ad149, e149, hx149_0, hx149_1⟩ := at_T23 (Kd.R_reads' HO_70.out).2.2 x72_2 p149 q149
                cases e149
                replace p149 := eq_true p149
                replace q149 := eq_true q149
                go_wp2_with (first | ((with_reducible refine gate_dst (N := 12) rfl ?_); refine box_event ?hg (N := 12) ?hd (cs := #[.int .i64 0, .int .i64 0]) (t := 23) ?hr ?_; (case hd => rfl); (case hg => rfl); (case hr => first | (go_simp; done) | (go_simp; rfl)); intro gb150 hg w53 hbox hb; have n0_ := Aside0.mk (Kd.R_below (Kd.R_elderB (by (with_reducible repeat (first | apply Kd.R_alloc | apply Kd.R_drewN | apply Kd.R_drew)); exact HO_0.out) gb150 (Nat.le_of_eq hg.symm)) hb); have n1_ := Aside0.mk (Kd.R_below (Kd.R_elderB (by (with_reducible repeat (first | apply Kd.R_alloc | apply Kd.R_drewN | apply Kd.R_drew)); exact HO_70.out) gb150 (Nat.le_of_eq hg.symm)) hb); have n2_ := Aside0.mk (below_step (by repeat (first | (with_reducible first | exact HB.out | apply below_alloc | apply pw_below_drewN | apply below_drew1) | exact HB.out)) hb); have n3_ := Aside0.mk (hbox); have n4_ := Aside0.mk ((by rw [hg]; exact (below_size (by repeat (first | (with_reducible first | exact HB.out | apply below_alloc | apply pw_below_drewN | apply below_drew1) | exact HB.out))) : w.heap.size ≤ gb150)); have n5_ := Aside0.mk ((by rw [hg]; exact (below_size (by repeat (first | (with_reducible first | exact HB.out | apply below_alloc | apply pw_below_drewN | apply below_drew1) | exact HB.out))) : w.heap.size ≤ gb150)); clear HO_0; clear HO_70; clear HB; have HO_0 := n0_; have HO_70 := n1_; have HB := n2_; have BK150 := n3_; have GW150 := n4_; have GE150 := n5_; clear n0_ n1_ n2_ n3_ n4_ n5_; clear hb hbox hg; have hcz54_0 : w53.cell? ⟨gb150, 0, none⟩ = some (.int .i64 0) := (blk_cell BK150.out 0).trans rfl; have hcz54_1 : w53.cell? ⟨gb150, 1, none⟩ = some (.int .i64 0) := (blk_cell BK150.out 1).trans rfl; have hfz54_0 := blk_frozen BK150.out 0; have hfz54_1 := blk_frozen BK150.out 1) | ((with_reducible refine gate_callee (f := 13) rfl ?_); refine goesL_ (some 77) rfl rfl Try.func13 (by kernel_rfl) rfl #[.agg #[.int .i64 ((rd_T23 x0_1 x72_2).f0), .int .i64 ((rd_T23 x0_1 x72_2).f1)]] rfl (by (try simp only [List.map_toArray, List.map_cons, List.map_nil]); first | done | rfl | (simp only [List.length_drop, List.length_take]; rfl)) ?_; (with_reducible refine (redpenref01_Sound.calls ((rd_T23 x0_1 x72_2).f0) ((rd_T23 x0_1 x72_2).f1) true _ A44.out).mono ?_); rintro e w55 ⟨rfl, hb⟩; refine ⟨_, rfl, ?_⟩; have n0_ := Aside0.mk (Kd.R_below (by (with_reducible repeat (first | apply Kd.R_alloc | apply Kd.R_drewN | apply Kd.R_drew)); exact (Kd.R_mono (Kd.R_far (p := ⟨gb150, 1, none⟩) (Kd.R_far (p := ⟨gb150, 0, none⟩) (Kd.R_mono HO_0.out (fun k_ hk => (⟨hk, hk.2⟩ : _ ∧ k_ ≠ gb150))) (fun _ hk => hk.2) (.int .i64 ((rd_T23 x0_1 x72_2).f0))) (fun _ hk => hk.2) (.int .i64 ((rd_T23 x0_1 x72_2).f1))) (fun _ h_ => h_.1))) hb); have n1_ := Aside0.mk (Kd.R_below (by (with_reducible repeat (first | apply Kd.R_alloc | apply Kd.R_drewN | apply Kd.R_drew)); exact (Kd.R_mono (Kd.R_far (p := ⟨gb150, 1, none⟩) (Kd.R_far (p := ⟨gb150, 0, none⟩) (Kd.R_mono HO_70.out (fun k_ hk => (⟨hk, hk.2⟩ : _ ∧ k_ ≠ gb150))) (fun _ hk => hk.2) (.int .i64 ((rd_T23 x0_1 x72_2).f0))) (fun _ hk => hk.2) (.int .i64 ((rd_T23 x0_1 x72_2).f1))) (fun _ h_ => h_.1))) hb); have n2_ := Aside0.mk (blk_below (g := gb150) (o := .cells #[.int .i64 ((rd_T23 x0_1 x72_2).f0), .int .i64 ((rd_T23 x0_1 x72_2).f1)] 23 (0, 0)) (by (with_reducible repeat (first | refine blk_drewN ?_ _ | refine blk_drew ?_ | refine blk_alloc ?_ _)); refine blk_put (cs := #[.int .i64 ((rd_T23 x0_1 x72_2).f0), .int .i64 0]) ?_ 1 _ rfl; (with_reducible repeat (first | refine blk_drewN ?_ _ | refine blk_drew ?_ | refine blk_alloc ?_ _)); refine blk_put (cs := #[.int .i64 0, .int .i64 0]) ?_ 0 _ rfl; (with_reducible repeat (first | refine blk_drewN ?_ _ | refine blk_drew ?_ | refine blk_alloc ?_ _)); exact BK150.out) hb); have n3_ := Aside0.mk (below_step (by repeat (first | (with_reducible first | exact HB.out | apply below_alloc | apply pw_below_drewN | apply below_drew1 | refine below_set ?_ GE150.out) | exact HB.out)) hb); clear HO_0; clear HO_70; clear BK150; clear HB; have HO_0 := n0_; have HO_70 := n1_; have BK150 := n2_; have HB := n3_; clear n0_ n1_ n2_ n3_; (try clear hb); (try clear hb2); (try clear hk); (try clear hi); have hcz56_0 : w55.cell? ⟨gb150, 0, none⟩ = some (.int .i64 ((rd_T23 x0_1 x72_2).f0)) := (blk_cell BK150.out 0).trans rfl; have hcz56_1 : w55.cell? ⟨gb150, 1, none⟩ = some (.int .i64 ((rd_T23 x0_1 x72_2).f1)) := (blk_cell BK150.out 1).trans rfl; have hfz56_0 := blk_frozen BK150.out 0; have hfz56_1 := blk_frozen BK150.out 1))
                go_roundg k2
                case measure => have := HK1.out; have := HK2.out; omega
                case rel => exact ⟨(decide (((rd_T23 x0_1 x72_2).f0) ≥ x10_2)), (false), (wrap64 (((rd_T23 x0_1 x72_2).f0) + ((rd_T23 x0_1 x72_2).f1))), (wrap64 (x72_2 + 1)), (by first | rfl | (simp; done) | (simp [*]; done)), (by first | rfl | (simp; done) | (simp [*]; done)), (by first | rfl | (simp; done) | (simp [*]; done)), (by first | rfl | (simp; done) | (simp [*]; done)), H', ⟨by have := HK1.out; have := HK2.out; omega⟩, ⟨by (try simp only [hl0_1]); (with_reducible repeat (first | apply Kd.R_alloc | apply Kd.R_drewN | apply Kd.R_drew)); exact Kd.R_mono HO_0.out (fun _ hk => trivial)⟩, ⟨by (try simp only [hl0_1]); (with_reducible repeat (first | apply Kd.R_alloc | apply Kd.R_drewN | apply Kd.R_drew)); exact Kd.R_mono HO_70.out (fun _ hk => trivial)⟩, ⟨by repeat (first | (with_reducible first | exact HB.out | apply below_alloc | apply pw_below_drewN | apply below_drew1 | refine below_set ?_ GE150.out) | exact HB.out)⟩⟩
              ·
               replace c47 := Bool.eq_false_iff.mpr c47
               subst c47
               rw [if_neg (show ¬ (false = true) by decide)] at H
               have H' := Aside0.mk H
               clear H
               have p149 : 0 ≤ (x72_2 : Int) := of_decide_eq_true (by first | (with_reducible assumption) | assumption)
               have q149 : x72_2 < (x0_1.length : Int) := of_decide_eq_true (by first | (with_reducible assumption) | assumption)
               obtain ⟨ad149, e149, hx149_0, hx149_1⟩ := at_T23 (Kd.R_reads' HO_70.out).2.2 x72_2 p149 q149
               cases e149
               replace p149 := eq_true p149
               replace q149 := eq_true q149
               go_wp2_with (first | ((with_reducible refine gate_dst (N := 12) rfl ?_); refine box_event ?hg (N := 12) ?hd (cs := #[.int .i64 0, .int .i64 0]) (t := 23) ?hr ?_; (case hd => rfl); (case hg => rfl); (case hr => first | (go_simp; done) | (go_simp; rfl)); intro gb150 hg w57 hbox hb; have n0_ := Aside0.mk (Kd.R_below (Kd.R_elderB (by (with_reducible repeat (first | apply Kd.R_alloc | apply Kd.R_drewN | apply Kd.R_drew)); exact HO_0.out) gb150 (Nat.le_of_eq hg.symm)) hb); have n1_ := Aside0.mk (Kd.R_below (Kd.R_elderB (by (with_reducible repeat (first | apply Kd.R_alloc | apply Kd.R_drewN | apply Kd.R_drew)); exact HO_70.out) gb150 (Nat.le_of_eq hg.symm)) hb); have n2_ := Aside0.mk (below_step (by repeat (first | (with_reducible first | exact HB.out | apply below_alloc | apply pw_below_drewN | apply below_drew1) | exact HB.out)) hb); have n3_ := Aside0.mk (hbox); have n4_ := Aside0.mk ((by rw [hg]; exact (below_size (by repeat (first | (with_reducible first | exact HB.out | apply below_alloc | apply pw_below_drewN | apply below_drew1) | exact HB.out))) : w.heap.size ≤ gb150)); have n5_ := Aside0.mk ((by rw [hg]; exact (below_size (by repeat (first | (with_reducible first | exact HB.out | apply below_alloc | apply pw_below_drewN | apply below_drew1) | exact HB.out))) : w.heap.size ≤ gb150)); clear HO_0; clear HO_70; clear HB; have HO_0 := n0_; have HO_70 := n1_; have HB := n2_; have BK150 := n3_; have GW150 := n4_; have GE150 := n5_; clear n0_ n1_ n2_ n3_ n4_ n5_; clear hb hbox hg; have hcz58_0 : w57.cell? ⟨gb150, 0, none⟩ = some (.int .i64 0) := (blk_cell BK150.out 0).trans rfl; have hcz58_1 : w57.cell? ⟨gb150, 1, none⟩ = some (.int .i64 0) := (blk_cell BK150.out 1).trans rfl; have hfz58_0 := blk_frozen BK150.out 0; have hfz58_1 := blk_frozen BK150.out 1) | ((with_reducible refine gate_callee (f := 13) rfl ?_); refine goesL_ (some 77) rfl rfl Try.func13 (by kernel_rfl) rfl #[.agg #[.int .i64 ((rd_T23 x0_1 x72_2).f0), .int .i64 ((rd_T23 x0_1 x72_2).f1)]] rfl (by (try simp only [List.map_toArray, List.map_cons, List.map_nil]); first | done | rfl | (simp only [List.length_drop, List.length_take]; rfl)) ?_; (with_reducible refine (redpenref01_Sound.calls ((rd_T23 x0_1 x72_2).f0) ((rd_T23 x0_1 x72_2).f1) true _ A44.out).mono ?_); rintro e w59 ⟨rfl, hb⟩; refine ⟨_, rfl, ?_⟩; have n0_ := Aside0.mk (Kd.R_below (by (with_reducible repeat (first | apply Kd.R_alloc | apply Kd.R_drewN | apply Kd.R_drew)); exact (Kd.R_mono (Kd.R_far (p := ⟨gb150, 1, none⟩) (Kd.R_far (p := ⟨gb150, 0, none⟩) (Kd.R_mono HO_0.out (fun k_ hk => (⟨hk, hk.2⟩ : _ ∧ k_ ≠ gb150))) (fun _ hk => hk.2) (.int .i64 ((rd_T23 x0_1 x72_2).f0))) (fun _ hk => hk.2) (.int .i64 ((rd_T23 x0_1 x72_2).f1))) (fun _ h_ => h_.1))) hb); have n1_ := Aside0.mk (Kd.R_below (by (with_reducible repeat (first | apply Kd.R_alloc | apply Kd.R_drewN | apply Kd.R_drew)); exact (Kd.R_mono (Kd.R_far (p := ⟨gb150, 1, none⟩) (Kd.R_far (p := ⟨gb150, 0, none⟩) (Kd.R_mono HO_70.out (fun k_ hk => (⟨hk, hk.2⟩ : _ ∧ k_ ≠ gb150))) (fun _ hk => hk.2) (.int .i64 ((rd_T23 x0_1 x72_2).f0))) (fun _ hk => hk.2) (.int .i64 ((rd_T23 x0_1 x72_2).f1))) (fun _ h_ => h_.1))) hb); have n2_ := Aside0.mk (blk_below (g := gb150) (o := .cells #[.int .i64 ((rd_T23 x0_1 x72_2).f0), .int .i64 ((rd_T23 x0_1 x72_2).f1)] 23 (0, 0)) (by (with_reducible repeat (first | refine blk_drewN ?_ _ | refine blk_drew ?_ | refine blk_alloc ?_ _)); refine blk_put (cs := #[.int .i64 ((rd_T23 x0_1 x72_2).f0), .int .i64 0]) ?_ 1 _ rfl; (with_reducible repeat (first | refine blk_drewN ?_ _ | refine blk_drew ?_ | refine blk_alloc ?_ _)); refine blk_put (cs := #[.int .i64 0, .int .i64 0]) ?_ 0 _ rfl; (with_reducible repeat (first | refine blk_drewN ?_ _ | refine blk_drew ?_ | refine blk_alloc ?_ _)); exact BK150.out) hb); have n3_ := Aside0.mk (below_step (by repeat (first | (with_reducible first | exact HB.out | apply below_alloc | apply pw_below_drewN | apply below_drew1 | refine below_set ?_ GE150.out) | exact HB.out)) hb); clear HO_0; clear HO_70; clear BK150; clear HB; have HO_0 := n0_; have HO_70 := n1_; have BK150 := n2_; have HB := n3_; clear n0_ n1_ n2_ n3_; (try clear hb); (try clear hb2); (try clear hk); (try clear hi); have hcz60_0 : w59.cell? ⟨gb150, 0, none⟩ = some (.int .i64 ((rd_T23 x0_1 x72_2).f0)) := (blk_cell BK150.out 0).trans rfl; have hcz60_1 : w59.cell? ⟨gb150, 1, none⟩ = some (.int .i64 ((rd_T23 x0_1 x72_2).f1)) := (blk_cell BK150.out 1).trans rfl; have hfz60_0 := blk_frozen BK150.out 0; have hfz60_1 := blk_frozen BK150.out 1))
               go_roundg k2
               case measure => have := HK1.out; have := HK2.out; omega
               case rel => exact ⟨(decide (((rd_T23 x0_1 x72_2).f0) ≥ x10_2)), (false), (wrap64 (((rd_T23 x0_1 x72_2).f0) + ((rd_T23 x0_1 x72_2).f1))), (wrap64 (x72_2 + 1)), (by first | rfl | (simp; done) | (simp [*]; done)), (by first | rfl | (simp; done) | (simp [*]; done)), (by first | rfl | (simp; done) | (simp [*]; done)), (by first | rfl | (simp; done) | (simp [*]; done)), H', ⟨by have := HK1.out; have := HK2.out; omega⟩, ⟨by (try simp only [hl0_1]); (with_reducible repeat (first | apply Kd.R_alloc | apply Kd.R_drewN | apply Kd.R_drew)); exact Kd.R_mono HO_0.out (fun _ hk => trivial)⟩, ⟨by (try simp only [hl0_1]); (with_reducible repeat (first | apply Kd.R_alloc | apply Kd.R_drewN | apply Kd.R_drew)); exact Kd.R_mono HO_70.out (fun _ hk => trivial)⟩, ⟨by repeat (first | (with_reducible first | exact HB.out | apply below_alloc | apply pw_below_drewN | apply below_drew1 | refine below_set ?_ GE150.out) | exact HB.out)⟩⟩
             ·
              replace c46 := Bool.eq_false_iff.mpr c46
              subst c46
              rw [if_neg (show ¬ (false = true) by decide)] at H
              by_cases c61 : x9_2 = true
              ·
               subst c61
               rw [if_pos rfl] at H
               by_cases c62 : ((rd_T23 x0_1 x72_2).f0) = x10_2
               ·
                rw [if_pos c62] at H
                have c62b0 : (((rd_T23 x0_1 x72_2).f0) == x10_2) = true := beq_iff_eq.mpr c62
                have c62b1 : (((rd_T23 x0_1 x72_2).f0) != x10_2) = false := bne_eq_false_iff_eq.mpr c62
                clear c62
                have H' := Aside0.mk H
                clear H
                have p149 : 0 ≤ (x72_2 : Int) := of_decide_eq_true (by first | (with_reducible assumption) | assumption)
                have q149 : x72_2 < (x0_1.length : Int) := of_decide_eq_true (by first | (with_reducible assumption) | assumption)
                obtain ⟨ad149, e149, hx149_0, hx149_1⟩ := at_T23 (Kd.R_reads' HO_70.out).2.2 x72_2 p149 q149
                cases e149
                replace p149 := eq_true p149
                replace q149 := eq_true q149
                go_wp2_with (first | ((with_reducible refine gate_dst (N := 12) rfl ?_); refine box_event ?hg (N := 12) ?hd (cs := #[.int .i64 0, .int .i64 0]) (t := 23) ?hr ?_; (case hd => rfl); (case hg => rfl); (case hr => first | (go_simp; done) | (go_simp; rfl)); intro gb150 hg w63 hbox hb; have n0_ := Aside0.mk (Kd.R_below (Kd.R_elderB (by (with_reducible repeat (first | apply Kd.R_alloc | apply Kd.R_drewN | apply Kd.R_drew)); exact HO_0.out) gb150 (Nat.le_of_eq hg.symm)) hb); have n1_ := Aside0.mk (Kd.R_below (Kd.R_elderB (by (with_reducible repeat (first | apply Kd.R_alloc | apply Kd.R_drewN | apply Kd.R_drew)); exact HO_70.out) gb150 (Nat.le_of_eq hg.symm)) hb); have n2_ := Aside0.mk (below_step (by repeat (first | (with_reducible first | exact HB.out | apply below_alloc | apply pw_below_drewN | apply below_drew1) | exact HB.out)) hb); have n3_ := Aside0.mk (hbox); have n4_ := Aside0.mk ((by rw [hg]; exact (below_size (by repeat (first | (with_reducible first | exact HB.out | apply below_alloc | apply pw_below_drewN | apply below_drew1) | exact HB.out))) : w.heap.size ≤ gb150)); have n5_ := Aside0.mk ((by rw [hg]; exact (below_size (by repeat (first | (with_reducible first | exact HB.out | apply below_alloc | apply pw_below_drewN | apply below_drew1) | exact HB.out))) : w.heap.size ≤ gb150)); clear HO_0; clear HO_70; clear HB; have HO_0 := n0_; have HO_70 := n1_; have HB := n2_; have BK150 := n3_; have GW150 := n4_; have GE150 := n5_; clear n0_ n1_ n2_ n3_ n4_ n5_; clear hb hbox hg; have hcz64_0 : w63.cell? ⟨gb150, 0, none⟩ = some (.int .i64 0) := (blk_cell BK150.out 0).trans rfl; have hcz64_1 : w63.cell? ⟨gb150, 1, none⟩ = some (.int .i64 0) := (blk_cell BK150.out 1).trans rfl; have hfz64_0 := blk_frozen BK150.out 0; have hfz64_1 := blk_frozen BK150.out 1) | ((with_reducible refine gate_callee (f := 13) rfl ?_); refine goesL_ (some 77) rfl rfl Try.func13 (by kernel_rfl) rfl #[.agg #[.int .i64 ((rd_T23 x0_1 x72_2).f0), .int .i64 ((rd_T23 x0_1 x72_2).f1)]] rfl (by (try simp only [List.map_toArray, List.map_cons, List.map_nil]); first | done | rfl | (simp only [List.length_drop, List.length_take]; rfl)) ?_; (with_reducible refine (redpenref01_Sound.calls ((rd_T23 x0_1 x72_2).f0) ((rd_T23 x0_1 x72_2).f1) true _ A44.out).mono ?_); rintro e w65 ⟨rfl, hb⟩; refine ⟨_, rfl, ?_⟩; have n0_ := Aside0.mk (Kd.R_below (by (with_reducible repeat (first | apply Kd.R_alloc | apply Kd.R_drewN | apply Kd.R_drew)); exact (Kd.R_mono (Kd.R_far (p := ⟨gb150, 1, none⟩) (Kd.R_far (p := ⟨gb150, 0, none⟩) (Kd.R_mono HO_0.out (fun k_ hk => (⟨hk, hk.2⟩ : _ ∧ k_ ≠ gb150))) (fun _ hk => hk.2) (.int .i64 ((rd_T23 x0_1 x72_2).f0))) (fun _ hk => hk.2) (.int .i64 ((rd_T23 x0_1 x72_2).f1))) (fun _ h_ => h_.1))) hb); have n1_ := Aside0.mk (Kd.R_below (by (with_reducible repeat (first | apply Kd.R_alloc | apply Kd.R_drewN | apply Kd.R_drew)); exact (Kd.R_mono (Kd.R_far (p := ⟨gb150, 1, none⟩) (Kd.R_far (p := ⟨gb150, 0, none⟩) (Kd.R_mono HO_70.out (fun k_ hk => (⟨hk, hk.2⟩ : _ ∧ k_ ≠ gb150))) (fun _ hk => hk.2) (.int .i64 ((rd_T23 x0_1 x72_2).f0))) (fun _ hk => hk.2) (.int .i64 ((rd_T23 x0_1 x72_2).f1))) (fun _ h_ => h_.1))) hb); have n2_ := Aside0.mk (blk_below (g := gb150) (o := .cells #[.int .i64 ((rd_T23 x0_1 x72_2).f0), .int .i64 ((rd_T23 x0_1 x72_2).f1)] 23 (0, 0)) (by (with_reducible repeat (first | refine blk_drewN ?_ _ | refine blk_drew ?_ | refine blk_alloc ?_ _)); refine blk_put (cs := #[.int .i64 ((rd_T23 x0_1 x72_2).f0), .int .i64 0]) ?_ 1 _ rfl; (with_reducible repeat (first | refine blk_drewN ?_ _ | refine blk_drew ?_ | refine blk_alloc ?_ _)); refine blk_put (cs := #[.int .i64 0, .int .i64 0]) ?_ 0 _ rfl; (with_reducible repeat (first | refine blk_drewN ?_ _ | refine blk_drew ?_ | refine blk_alloc ?_ _)); exact BK150.out) hb); have n3_ := Aside0.mk (below_step (by repeat (first | (with_reducible first | exact HB.out | apply below_alloc | apply pw_below_drewN | apply below_drew1 | refine below_set ?_ GE150.out) | exact HB.out)) hb); clear HO_0; clear HO_70; clear BK150; clear HB; have HO_0 := n0_; have HO_70 := n1_; have BK150 := n2_; have HB := n3_; clear n0_ n1_ n2_ n3_; (try clear hb); (try clear hb2); (try clear hk); (try clear hi); have hcz66_0 : w65.cell? ⟨gb150, 0, none⟩ = some (.int .i64 ((rd_T23 x0_1 x72_2).f0)) := (blk_cell BK150.out 0).trans rfl; have hcz66_1 : w65.cell? ⟨gb150, 1, none⟩ = some (.int .i64 ((rd_T23 x0_1 x72_2).f1)) := (blk_cell BK150.out 1).trans rfl; have hfz66_0 := blk_frozen BK150.out 0; have hfz66_1 := blk_frozen BK150.out 1))
                go_roundg k2
                case measure => have := HK1.out; have := HK2.out; omega
                case rel => exact ⟨(false), (decide (((rd_T23 x0_1 x72_2).f1) > 0)), (wrap64 (((rd_T23 x0_1 x72_2).f0) + ((rd_T23 x0_1 x72_2).f1))), (wrap64 (x72_2 + 1)), (by first | rfl | (simp; done) | (simp [*]; done)), (by first | rfl | (simp; done) | (simp [*]; done)), (by first | rfl | (simp; done) | (simp [*]; done)), (by first | rfl | (simp; done) | (simp [*]; done)), H', ⟨by have := HK1.out; have := HK2.out; omega⟩, ⟨by (try simp only [hl0_1]); (with_reducible repeat (first | apply Kd.R_alloc | apply Kd.R_drewN | apply Kd.R_drew)); exact Kd.R_mono HO_0.out (fun _ hk => trivial)⟩, ⟨by (try simp only [hl0_1]); (with_reducible repeat (first | apply Kd.R_alloc | apply Kd.R_drewN | apply Kd.R_drew)); exact Kd.R_mono HO_70.out (fun _ hk => trivial)⟩, ⟨by repeat (first | (with_reducible first | exact HB.out | apply below_alloc | apply pw_below_drewN | apply below_drew1 | refine below_set ?_ GE150.out) | exact HB.out)⟩⟩
               ·
                rw [if_neg c62] at H
                have c62b0 : (((rd_T23 x0_1 x72_2).f0) == x10_2) = false := beq_eq_false_iff_ne.mpr c62
                have c62b1 : (((rd_T23 x0_1 x72_2).f0) != x10_2) = true := bne_iff_ne.mpr c62
                have H' := Aside0.mk H
                clear H
                have p149 : 0 ≤ (x72_2 : Int) := of_decide_eq_true (by first | (with_reducible assumption) | assumption)
                have q149 : x72_2 < (x0_1.length : Int) := of_decide_eq_true (by first | (with_reducible assumption) | assumption)
                obtain ⟨ad149, e149, hx149_0, hx149_1⟩ := at_T23 (Kd.R_reads' HO_70.out).2.2 x72_2 p149 q149
                cases e149
                replace p149 := eq_true p149
                replace q149 := eq_true q149
                go_wp2_with (first | ((with_reducible refine gate_dst (N := 12) rfl ?_); refine box_event ?hg (N := 12) ?hd (cs := #[.int .i64 0, .int .i64 0]) (t := 23) ?hr ?_; (case hd => rfl); (case hg => rfl); (case hr => first | (go_simp; done) | (go_simp; rfl)); intro gb150 hg w67 hbox hb; have n0_ := Aside0.mk (Kd.R_below (Kd.R_elderB (by (with_reducible repeat (first | apply Kd.R_alloc | apply Kd.R_drewN | apply Kd.R_drew)); exact HO_0.out) gb150 (Nat.le_of_eq hg.symm)) hb); have n1_ := Aside0.mk (Kd.R_below (Kd.R_elderB (by (with_reducible repeat (first | apply Kd.R_alloc | apply Kd.R_drewN | apply Kd.R_drew)); exact HO_70.out) gb150 (Nat.le_of_eq hg.symm)) hb); have n2_ := Aside0.mk (below_step (by repeat (first | (with_reducible first | exact HB.out | apply below_alloc | apply pw_below_drewN | apply below_drew1) | exact HB.out)) hb); have n3_ := Aside0.mk (hbox); have n4_ := Aside0.mk ((by rw [hg]; exact (below_size (by repeat (first | (with_reducible first | exact HB.out | apply below_alloc | apply pw_below_drewN | apply below_drew1) | exact HB.out))) : w.heap.size ≤ gb150)); have n5_ := Aside0.mk ((by rw [hg]; exact (below_size (by repeat (first | (with_reducible first | exact HB.out | apply below_alloc | apply pw_below_drewN | apply below_drew1) | exact HB.out))) : w.heap.size ≤ gb150)); clear HO_0; clear HO_70; clear HB; have HO_0 := n0_; have HO_70 := n1_; have HB := n2_; have BK150 := n3_; have GW150 := n4_; have GE150 := n5_; clear n0_ n1_ n2_ n3_ n4_ n5_; clear hb hbox hg; have hcz68_0 : w67.cell? ⟨gb150, 0, none⟩ = some (.int .i64 0) := (blk_cell BK150.out 0).trans rfl; have hcz68_1 : w67.cell? ⟨gb150, 1, none⟩ = some (.int .i64 0) := (blk_cell BK150.out 1).trans rfl; have hfz68_0 := blk_frozen BK150.out 0; have hfz68_1 := blk_frozen BK150.out 1) | ((with_reducible refine gate_callee (f := 13) rfl ?_); refine goesL_ (some 77) rfl rfl Try.func13 (by kernel_rfl) rfl #[.agg #[.int .i64 ((rd_T23 x0_1 x72_2).f0), .int .i64 ((rd_T23 x0_1 x72_2).f1)]] rfl (by (try simp only [List.map_toArray, List.map_cons, List.map_nil]); first | done | rfl | (simp only [List.length_drop, List.length_take]; rfl)) ?_; (with_reducible refine (redpenref01_Sound.calls ((rd_T23 x0_1 x72_2).f0) ((rd_T23 x0_1 x72_2).f1) true _ A44.out).mono ?_); rintro e w69 ⟨rfl, hb⟩; refine ⟨_, rfl, ?_⟩; have n0_ := Aside0.mk (Kd.R_below (by (with_reducible repeat (first | apply Kd.R_alloc | apply Kd.R_drewN | apply Kd.R_drew)); exact (Kd.R_mono (Kd.R_far (p := ⟨gb150, 1, none⟩) (Kd.R_far (p := ⟨gb150, 0, none⟩) (Kd.R_mono HO_0.out (fun k_ hk => (⟨hk, hk.2⟩ : _ ∧ k_ ≠ gb150))) (fun _ hk => hk.2) (.int .i64 ((rd_T23 x0_1 x72_2).f0))) (fun _ hk => hk.2) (.int .i64 ((rd_T23 x0_1 x72_2).f1))) (fun _ h_ => h_.1))) hb); have n1_ := Aside0.mk (Kd.R_below (by (with_reducible repeat (first | apply Kd.R_alloc | apply Kd.R_drewN | apply Kd.R_drew)); exact (Kd.R_mono (Kd.R_far (p := ⟨gb150, 1, none⟩) (Kd.R_far (p := ⟨gb150, 0, none⟩) (Kd.R_mono HO_70.out (fun k_ hk => (⟨hk, hk.2⟩ : _ ∧ k_ ≠ gb150))) (fun _ hk => hk.2) (.int .i64 ((rd_T23 x0_1 x72_2).f0))) (fun _ hk => hk.2) (.int .i64 ((rd_T23 x0_1 x72_2).f1))) (fun _ h_ => h_.1))) hb); have n2_ := Aside0.mk (blk_below (g := gb150) (o := .cells #[.int .i64 ((rd_T23 x0_1 x72_2).f0), .int .i64 ((rd_T23 x0_1 x72_2).f1)] 23 (0, 0)) (by (with_reducible repeat (first | refine blk_drewN ?_ _ | refine blk_drew ?_ | refine blk_alloc ?_ _)); refine blk_put (cs := #[.int .i64 ((rd_T23 x0_1 x72_2).f0), .int .i64 0]) ?_ 1 _ rfl; (with_reducible repeat (first | refine blk_drewN ?_ _ | refine blk_drew ?_ | refine blk_alloc ?_ _)); refine blk_put (cs := #[.int .i64 0, .int .i64 0]) ?_ 0 _ rfl; (with_reducible repeat (first | refine blk_drewN ?_ _ | refine blk_drew ?_ | refine blk_alloc ?_ _)); exact BK150.out) hb); have n3_ := Aside0.mk (below_step (by repeat (first | (with_reducible first | exact HB.out | apply below_alloc | apply pw_below_drewN | apply below_drew1 | refine below_set ?_ GE150.out) | exact HB.out)) hb); clear HO_0; clear HO_70; clear BK150; clear HB; have HO_0 := n0_; have HO_70 := n1_; have BK150 := n2_; have HB := n3_; clear n0_ n1_ n2_ n3_; (try clear hb); (try clear hb2); (try clear hk); (try clear hi); have hcz70_0 : w69.cell? ⟨gb150, 0, none⟩ = some (.int .i64 ((rd_T23 x0_1 x72_2).f0)) := (blk_cell BK150.out 0).trans rfl; have hcz70_1 : w69.cell? ⟨gb150, 1, none⟩ = some (.int .i64 ((rd_T23 x0_1 x72_2).f1)) := (blk_cell BK150.out 1).trans rfl; have hfz70_0 := blk_frozen BK150.out 0; have hfz70_1 := blk_frozen BK150.out 1))
                go_roundg k2
                case measure => have := HK1.out; have := HK2.out; omega
                case rel => exact ⟨(false), (false), (wrap64 (((rd_T23 x0_1 x72_2).f0) + ((rd_T23 x0_1 x72_2).f1))), (wrap64 (x72_2 + 1)), (by first | rfl | (simp; done) | (simp [*]; done)), (by first | rfl | (simp; done) | (simp [*]; done)), (by first | rfl | (simp; done) | (simp [*]; done)), (by first | rfl | (simp; done) | (simp [*]; done)), H', ⟨by have := HK1.out; have := HK2.out; omega⟩, ⟨by (try simp only [hl0_1]); (with_reducible repeat (first | apply Kd.R_alloc | apply Kd.R_drewN | apply Kd.R_drew)); exact Kd.R_mono HO_0.out (fun _ hk => trivial)⟩, ⟨by (try simp only [hl0_1]); (with_reducible repeat (first | apply Kd.R_alloc | apply Kd.R_drewN | apply Kd.R_drew)); exact Kd.R_mono HO_70.out (fun _ hk => trivial)⟩, ⟨by repeat (first | (with_reducible first | exact HB.out | apply below_alloc | apply pw_below_drewN | apply below_drew1 | refine below_set ?_ GE150.out) | exact HB.out)⟩⟩
              ·
               replace c61 := Bool.eq_false_iff.mpr c61
               subst c61
               rw [if_neg (show ¬ (false = true) by decide)] at H
               have H' := Aside0.mk H
               clear H
               have p149 : 0 ≤ (x72_2 : Int) := of_decide_eq_true (by first | (with_reducible assumption) | assumption)
               have q149 : x72_2 < (x0_1.length : Int) := of_decide_eq_true (by first | (with_reducible assumption) | assumption)
               obtain ⟨ad149, e149, hx149_0, hx149_1⟩ := at_T23 (Kd.R_reads' HO_70.out).2.2 x72_2 p149 q149
               cases e149
               replace p149 := eq_true p149
               replace q149 := eq_true q149
               go_wp2_with (first | ((with_reducible refine gate_dst (N := 12) rfl ?_); refine box_event ?hg (N := 12) ?hd (cs := #[.int .i64 0, .int .i64 0]) (t := 23) ?hr ?_; (case hd => rfl); (case hg => rfl); (case hr => first | (go_simp; done) | (go_simp; rfl)); intro gb150 hg w71 hbox hb; have n0_ := Aside0.mk (Kd.R_below (Kd.R_elderB (by (with_reducible repeat (first | apply Kd.R_alloc | apply Kd.R_drewN | apply Kd.R_drew)); exact HO_0.out) gb150 (Nat.le_of_eq hg.symm)) hb); have n1_ := Aside0.mk (Kd.R_below (Kd.R_elderB (by (with_reducible repeat (first | apply Kd.R_alloc | apply Kd.R_drewN | apply Kd.R_drew)); exact HO_70.out) gb150 (Nat.le_of_eq hg.symm)) hb); have n2_ := Aside0.mk (below_step (by repeat (first | (with_reducible first | exact HB.out | apply below_alloc | apply pw_below_drewN | apply below_drew1) | exact HB.out)) hb); have n3_ := Aside0.mk (hbox); have n4_ := Aside0.mk ((by rw [hg]; exact (below_size (by repeat (first | (with_reducible first | exact HB.out | apply below_alloc | apply pw_below_drewN | apply below_drew1) | exact HB.out))) : w.heap.size ≤ gb150)); have n5_ := Aside0.mk ((by rw [hg]; exact (below_size (by repeat (first | (with_reducible first | exact HB.out | apply below_alloc | apply pw_below_drewN | apply below_drew1) | exact HB.out))) : w.heap.size ≤ gb150)); clear HO_0; clear HO_70; clear HB; have HO_0 := n0_; have HO_70 := n1_; have HB := n2_; have BK150 := n3_; have GW150 := n4_; have GE150 := n5_; clear n0_ n1_ n2_ n3_ n4_ n5_; clear hb hbox hg; have hcz72_0 : w71.cell? ⟨gb150, 0, none⟩ = some (.int .i64 0) := (blk_cell BK150.out 0).trans rfl; have hcz72_1 : w71.cell? ⟨gb150, 1, none⟩ = some (.int .i64 0) := (blk_cell BK150.out 1).trans rfl; have hfz72_0 := blk_frozen BK150.out 0; have hfz72_1 := blk_frozen BK150.out 1) | ((with_reducible refine gate_callee (f := 13) rfl ?_); refine goesL_ (some 77) rfl rfl Try.func13 (by kernel_rfl) rfl #[.agg #[.int .i64 ((rd_T23 x0_1 x72_2).f0), .int .i64 ((rd_T23 x0_1 x72_2).f1)]] rfl (by (try simp only [List.map_toArray, List.map_cons, List.map_nil]); first | done | rfl | (simp only [List.length_drop, List.length_take]; rfl)) ?_; (with_reducible refine (redpenref01_Sound.calls ((rd_T23 x0_1 x72_2).f0) ((rd_T23 x0_1 x72_2).f1) true _ A44.out).mono ?_); rintro e w73 ⟨rfl, hb⟩; refine ⟨_, rfl, ?_⟩; have n0_ := Aside0.mk (Kd.R_below (by (with_reducible repeat (first | apply Kd.R_alloc | apply Kd.R_drewN | apply Kd.R_drew)); exact (Kd.R_mono (Kd.R_far (p := ⟨gb150, 1, none⟩) (Kd.R_far (p := ⟨gb150, 0, none⟩) (Kd.R_mono HO_0.out (fun k_ hk => (⟨hk, hk.2⟩ : _ ∧ k_ ≠ gb150))) (fun _ hk => hk.2) (.int .i64 ((rd_T23 x0_1 x72_2).f0))) (fun _ hk => hk.2) (.int .i64 ((rd_T23 x0_1 x72_2).f1))) (fun _ h_ => h_.1))) hb); have n1_ := Aside0.mk (Kd.R_below (by (with_reducible repeat (first | apply Kd.R_alloc | apply Kd.R_drewN | apply Kd.R_drew)); exact (Kd.R_mono (Kd.R_far (p := ⟨gb150, 1, none⟩) (Kd.R_far (p := ⟨gb150, 0, none⟩) (Kd.R_mono HO_70.out (fun k_ hk => (⟨hk, hk.2⟩ : _ ∧ k_ ≠ gb150))) (fun _ hk => hk.2) (.int .i64 ((rd_T23 x0_1 x72_2).f0))) (fun _ hk => hk.2) (.int .i64 ((rd_T23 x0_1 x72_2).f1))) (fun _ h_ => h_.1))) hb); have n2_ := Aside0.mk (blk_below (g := gb150) (o := .cells #[.int .i64 ((rd_T23 x0_1 x72_2).f0), .int .i64 ((rd_T23 x0_1 x72_2).f1)] 23 (0, 0)) (by (with_reducible repeat (first | refine blk_drewN ?_ _ | refine blk_drew ?_ | refine blk_alloc ?_ _)); refine blk_put (cs := #[.int .i64 ((rd_T23 x0_1 x72_2).f0), .int .i64 0]) ?_ 1 _ rfl; (with_reducible repeat (first | refine blk_drewN ?_ _ | refine blk_drew ?_ | refine blk_alloc ?_ _)); refine blk_put (cs := #[.int .i64 0, .int .i64 0]) ?_ 0 _ rfl; (with_reducible repeat (first | refine blk_drewN ?_ _ | refine blk_drew ?_ | refine blk_alloc ?_ _)); exact BK150.out) hb); have n3_ := Aside0.mk (below_step (by repeat (first | (with_reducible first | exact HB.out | apply below_alloc | apply pw_below_drewN | apply below_drew1 | refine below_set ?_ GE150.out) | exact HB.out)) hb); clear HO_0; clear HO_70; clear BK150; clear HB; have HO_0 := n0_; have HO_70 := n1_; have BK150 := n2_; have HB := n3_; clear n0_ n1_ n2_ n3_; (try clear hb); (try clear hb2); (try clear hk); (try clear hi); have hcz74_0 : w73.cell? ⟨gb150, 0, none⟩ = some (.int .i64 ((rd_T23 x0_1 x72_2).f0)) := (blk_cell BK150.out 0).trans rfl; have hcz74_1 : w73.cell? ⟨gb150, 1, none⟩ = some (.int .i64 ((rd_T23 x0_1 x72_2).f1)) := (blk_cell BK150.out 1).trans rfl; have hfz74_0 := blk_frozen BK150.out 0; have hfz74_1 := blk_frozen BK150.out 1))
               go_roundg k2
               case measure => have := HK1.out; have := HK2.out; omega
               case rel => exact ⟨(false), (false), (wrap64 (((rd_T23 x0_1 x72_2).f0) + ((rd_T23 x0_1 x72_2).f1))), (wrap64 (x72_2 + 1)), (by first | rfl | (simp; done) | (simp [*]; done)), (by first | rfl | (simp; done) | (simp [*]; done)), (by first | rfl | (simp; done) | (simp [*]; done)), (by first | rfl | (simp; done) | (simp [*]; done)), H', ⟨by have := HK1.out; have := HK2.out; omega⟩, ⟨by (try simp only [hl0_1]); (with_reducible repeat (first | apply Kd.R_alloc | apply Kd.R_drewN | apply Kd.R_drew)); exact Kd.R_mono HO_0.out (fun _ hk => trivial)⟩, ⟨by (try simp only [hl0_1]); (with_reducible repeat (first | apply Kd.R_alloc | apply Kd.R_drewN | apply Kd.R_drew)); exact Kd.R_mono HO_70.out (fun _ hk => trivial)⟩, ⟨by repeat (first | (with_reducible first | exact HB.out | apply below_alloc | apply pw_below_drewN | apply below_drew1 | refine below_set ?_ GE150.out) | exact HB.out)⟩⟩
            ·
             replace c45 := Bool.eq_false_iff.mpr c45
             subst c45
             rw [if_neg (show ¬ (false = true) by decide)] at H
             replace H := Option.bind_eq_some_iff.mp H
             obtain ⟨t152, A750, H⟩ := H
             (try dsimp only at H)
             have A75 := Aside0.mk A750
             clear A750
             by_cases c76 : (t152 == false) = true
             ·
              rw [if_pos c76] at H
              have c76b0 : (t152 == false) = true := c76
              (try (have c76b1 : decide (t152 = false) = true := by simpa using c76))
              (try (have c76b2 : (t152 == false) = true := by simpa using c76))
              clear c76
              replace H := Option.bind_eq_some_iff.mp H
              obtain ⟨t153, A770, H⟩ := H
              replace H : (if (t153 == false) = true then (some true) else (some false)) = some r := H
              have A77 := Aside0.mk A770
              clear A770
              by_cases c78 : (t153 == false) = true
              ·
               rw [if_pos c78] at H
               have c78b0 : (t153 == false) = true := c78
               (try (have c78b1 : decide (t153 = false) = true := by simpa using c78))
               (try (have c78b2 : (t153 == false) = true := by simpa using c78))
               clear c78
               obtain rfl := Option.some.inj H
               have p149 : 0 ≤ (x72_2 : Int) := of_decide_eq_true (by first | (with_reducible assumption) | assumption)
               have q149 : x72_2 < (x0_1.length : Int) := of_decide_eq_true (by first | (with_reducible assumption) | assumption)
               obtain ⟨ad149, e149, hx149_0, hx149_1⟩ := at_T23 (Kd.R_reads' HO_70.out).2.2 x72_2 p149 q149
               cases e149
               replace p149 := eq_true p149
               replace q149 := eq_true q149
               go_wp2_with (first | ((with_reducible refine gate_dst (N := 12) rfl ?_); refine box_event ?hg (N := 12) ?hd (cs := #[.int .i64 0, .int .i64 0]) (t := 23) ?hr ?_; (case hd => rfl); (case hg => rfl); (case hr => first | (go_simp; done) | (go_simp; rfl)); intro gb150 hg w79 hbox hb; have n0_ := Aside0.mk (Kd.R_below (Kd.R_elderB (by (with_reducible repeat (first | apply Kd.R_alloc | apply Kd.R_drewN | apply Kd.R_drew)); exact HO_0.out) gb150 (Nat.le_of_eq hg.symm)) hb); have n1_ := Aside0.mk (Kd.R_below (Kd.R_elderB (by (with_reducible repeat (first | apply Kd.R_alloc | apply Kd.R_drewN | apply Kd.R_drew)); exact HO_70.out) gb150 (Nat.le_of_eq hg.symm)) hb); have n2_ := Aside0.mk (below_step (by repeat (first | (with_reducible first | exact HB.out | apply below_alloc | apply pw_below_drewN | apply below_drew1) | exact HB.out)) hb); have n3_ := Aside0.mk (hbox); have n4_ := Aside0.mk ((by rw [hg]; exact (below_size (by repeat (first | (with_reducible first | exact HB.out | apply below_alloc | apply pw_below_drewN | apply below_drew1) | exact HB.out))) : w.heap.size ≤ gb150)); have n5_ := Aside0.mk ((by rw [hg]; exact (below_size (by repeat (first | (with_reducible first | exact HB.out | apply below_alloc | apply pw_below_drewN | apply below_drew1) | exact HB.out))) : w.heap.size ≤ gb150)); clear HO_0; clear HO_70; clear HB; have HO_0 := n0_; have HO_70 := n1_; have HB := n2_; have BK150 := n3_; have GW150 := n4_; have GE150 := n5_; clear n0_ n1_ n2_ n3_ n4_ n5_; clear hb hbox hg; have hcz80_0 : w79.cell? ⟨gb150, 0, none⟩ = some (.int .i64 0) := (blk_cell BK150.out 0).trans rfl; have hcz80_1 : w79.cell? ⟨gb150, 1, none⟩ = some (.int .i64 0) := (blk_cell BK150.out 1).trans rfl; have hfz80_0 := blk_frozen BK150.out 0; have hfz80_1 := blk_frozen BK150.out 1) | ((with_reducible refine gate_callee (f := 13) rfl ?_); refine goesL_ (some 77) rfl rfl Try.func13 (by kernel_rfl) rfl #[.agg #[.int .i64 ((rd_T23 x0_1 x72_2).f0), .int .i64 ((rd_T23 x0_1 x72_2).f1)]] rfl (by (try simp only [List.map_toArray, List.map_cons, List.map_nil]); first | done | rfl | (simp only [List.length_drop, List.length_take]; rfl)) ?_; (with_reducible refine (redpenref01_Sound.calls ((rd_T23 x0_1 x72_2).f0) ((rd_T23 x0_1 x72_2).f1) false _ A44.out).mono ?_); rintro e w81 ⟨rfl, hb⟩; refine ⟨_, rfl, ?_⟩; have n0_ := Aside0.mk (Kd.R_below (by (with_reducible repeat (first | apply Kd.R_alloc | apply Kd.R_drewN | apply Kd.R_drew)); exact (Kd.R_mono (Kd.R_far (p := ⟨gb150, 1, none⟩) (Kd.R_far (p := ⟨gb150, 0, none⟩) (Kd.R_mono HO_0.out (fun k_ hk => (⟨hk, hk.2⟩ : _ ∧ k_ ≠ gb150))) (fun _ hk => hk.2) (.int .i64 ((rd_T23 x0_1 x72_2).f0))) (fun _ hk => hk.2) (.int .i64 ((rd_T23 x0_1 x72_2).f1))) (fun _ h_ => h_.1))) hb); have n1_ := Aside0.mk (Kd.R_below (by (with_reducible repeat (first | apply Kd.R_alloc | apply Kd.R_drewN | apply Kd.R_drew)); exact (Kd.R_mono (Kd.R_far (p := ⟨gb150, 1, none⟩) (Kd.R_far (p := ⟨gb150, 0, none⟩) (Kd.R_mono HO_70.out (fun k_ hk => (⟨hk, hk.2⟩ : _ ∧ k_ ≠ gb150))) (fun _ hk => hk.2) (.int .i64 ((rd_T23 x0_1 x72_2).f0))) (fun _ hk => hk.2) (.int .i64 ((rd_T23 x0_1 x72_2).f1))) (fun _ h_ => h_.1))) hb); have n2_ := Aside0.mk (blk_below (g := gb150) (o := .cells #[.int .i64 ((rd_T23 x0_1 x72_2).f0), .int .i64 ((rd_T23 x0_1 x72_2).f1)] 23 (0, 0)) (by (with_reducible repeat (first | refine blk_drewN ?_ _ | refine blk_drew ?_ | refine blk_alloc ?_ _)); refine blk_put (cs := #[.int .i64 ((rd_T23 x0_1 x72_2).f0), .int .i64 0]) ?_ 1 _ rfl; (with_reducible repeat (first | refine blk_drewN ?_ _ | refine blk_drew ?_ | refine blk_alloc ?_ _)); refine blk_put (cs := #[.int .i64 0, .int .i64 0]) ?_ 0 _ rfl; (with_reducible repeat (first | refine blk_drewN ?_ _ | refine blk_drew ?_ | refine blk_alloc ?_ _)); exact BK150.out) hb); have n3_ := Aside0.mk (below_step (by repeat (first | (with_reducible first | exact HB.out | apply below_alloc | apply pw_below_drewN | apply below_drew1 | refine below_set ?_ GE150.out) | exact HB.out)) hb); clear HO_0; clear HO_70; clear BK150; clear HB; have HO_0 := n0_; have HO_70 := n1_; have BK150 := n2_; have HB := n3_; clear n0_ n1_ n2_ n3_; (try clear hb); (try clear hb2); (try clear hk); (try clear hi)) | ((with_reducible refine gate_callee (f := 18) rfl ?_); refine goesL_ (some 105) rfl rfl Try.func18 (by kernel_rfl) rfl #[.slice (some ad149) x0_1.length co13] rfl (by (try simp only [List.map_toArray, List.map_cons, List.map_nil]); first | done | rfl | (simp only [List.length_drop, List.length_take]; rfl)) ?_; (with_reducible refine (span_Apart.calls k2 _ _ x0_1 t152 _ ?side1 ?side2 A75.out).mono ?_); (case side1 => repeat (first | exact (Kd.R_reads' HO_0.out).2.2 | (with_reducible refine Kd.C_alloc ?_ _) | (with_reducible refine Kd.C_drewN ?_ _) | (with_reducible refine Kd.C_drew ?_))); (case side2 => exact (Kd.R_reads' HO_0.out).2.1); rintro e w82 ⟨rfl, hb⟩; refine ⟨_, rfl, ?_⟩; have n0_ := Aside0.mk (Kd.R_below (by (with_reducible repeat (first | apply Kd.R_alloc | apply Kd.R_drewN | apply Kd.R_drew)); exact HO_0.out) hb); have n1_ := Aside0.mk (Kd.R_below (by (with_reducible repeat (first | apply Kd.R_alloc | apply Kd.R_drewN | apply Kd.R_drew)); exact HO_70.out) hb); have n2_ := Aside0.mk (blk_below (g := gb150) (o := .cells #[.int .i64 ((rd_T23 x0_1 x72_2).f0), .int .i64 ((rd_T23 x0_1 x72_2).f1)] 23 (0, 0)) (by (with_reducible repeat (first | refine blk_drewN ?_ _ | refine blk_drew ?_ | refine blk_alloc ?_ _)); exact BK150.out) hb); have n3_ := Aside0.mk (below_step (by repeat (first | (with_reducible first | exact HB.out | apply below_alloc | apply pw_below_drewN | apply below_drew1 | refine below_set ?_ GE150.out) | exact HB.out)) hb); clear HO_0; clear HO_70; clear BK150; clear HB; have HO_0 := n0_; have HO_70 := n1_; have BK150 := n2_; have HB := n3_; clear n0_ n1_ n2_ n3_; (try clear hb); (try clear hb2); (try clear hk); (try clear hi)) | (go_at_call 19; (with_reducible refine (span_Cover.calls k2 _ _ x0_1 a1 t153 _ ?side1 ?side2 A77.out).mono ?_); (case side1 => repeat (first | exact (Kd.R_reads' HO_0.out).2.2 | (with_reducible refine Kd.C_alloc ?_ _) | (with_reducible refine Kd.C_drewN ?_ _) | (with_reducible refine Kd.C_drew ?_))); (case side2 => exact (Kd.R_reads' HO_0.out).2.1); rintro e w83 ⟨rfl, hb⟩; have n0_ := Aside0.mk (Kd.R_below (by (with_reducible repeat (first | apply Kd.R_alloc | apply Kd.R_drewN | apply Kd.R_drew)); exact HO_0.out) hb); have n1_ := Aside0.mk (Kd.R_below (by (with_reducible repeat (first | apply Kd.R_alloc | apply Kd.R_drewN | apply Kd.R_drew)); exact HO_70.out) hb); have n2_ := Aside0.mk (blk_below (g := gb150) (o := .cells #[.int .i64 ((rd_T23 x0_1 x72_2).f0), .int .i64 ((rd_T23 x0_1 x72_2).f1)] 23 (0, 0)) (by (with_reducible repeat (first | refine blk_drewN ?_ _ | refine blk_drew ?_ | refine blk_alloc ?_ _)); exact BK150.out) hb); have n3_ := Aside0.mk (below_step (by repeat (first | (with_reducible first | exact HB.out | apply below_alloc | apply pw_below_drewN | apply below_drew1 | refine below_set ?_ GE150.out) | exact HB.out)) hb); clear HO_0; clear HO_70; clear BK150; clear HB; have HO_0 := n0_; have HO_70 := n1_; have BK150 := n2_; have HB := n3_; clear n0_ n1_ n2_ n3_; (try clear hb); (try clear hb2); (try clear hk); (try clear hi)))
               go_ret
               exact ⟨by first | rfl | (simp [errW_none, errW_some] <;> rfl) | (simp [*, errW_none, errW_some] <;> rfl), by repeat (first | (with_reducible first | exact HB.out | apply below_alloc | apply pw_below_drewN | apply below_drew1 | refine below_set ?_ GE150.out) | exact HB.out)⟩
              ·
               rw [if_neg c78] at H
               have c78b0 : (t153 == false) = false := by simpa using c78
               (try (have c78b1 : decide (t153 = false) = false := by simpa using c78))
               (try (have c78b2 : (t153 == false) = false := by simpa using c78))
               (try (have c78b3 : ¬ (t153 = false) := by simpa using c78))
               clear c78
               obtain rfl := Option.some.inj H
               have p149 : 0 ≤ (x72_2 : Int) := of_decide_eq_true (by first | (with_reducible assumption) | assumption)
               have q149 : x72_2 < (x0_1.length : Int) := of_decide_eq_true (by first | (with_reducible assumption) | assumption)
               obtain ⟨ad149, e149, hx149_0, hx149_1⟩ := at_T23 (Kd.R_reads' HO_70.out).2.2 x72_2 p149 q149
               cases e149
               replace p149 := eq_true p149
               replace q149 := eq_true q149
               go_wp2_with (first | ((with_reducible refine gate_dst (N := 12) rfl ?_); refine box_event ?hg (N := 12) ?hd (cs := #[.int .i64 0, .int .i64 0]) (t := 23) ?hr ?_; (case hd => rfl); (case hg => rfl); (case hr => first | (go_simp; done) | (go_simp; rfl)); intro gb150 hg w84 hbox hb; have n0_ := Aside0.mk (Kd.R_below (Kd.R_elderB (by (with_reducible repeat (first | apply Kd.R_alloc | apply Kd.R_drewN | apply Kd.R_drew)); exact HO_0.out) gb150 (Nat.le_of_eq hg.symm)) hb); have n1_ := Aside0.mk (Kd.R_below (Kd.R_elderB (by (with_reducible repeat (first | apply Kd.R_alloc | apply Kd.R_drewN | apply Kd.R_drew)); exact HO_70.out) gb150 (Nat.le_of_eq hg.symm)) hb); have n2_ := Aside0.mk (below_step (by repeat (first | (with_reducible first | exact HB.out | apply below_alloc | apply pw_below_drewN | apply below_drew1) | exact HB.out)) hb); have n3_ := Aside0.mk (hbox); have n4_ := Aside0.mk ((by rw [hg]; exact (below_size (by repeat (first | (with_reducible first | exact HB.out | apply below_alloc | apply pw_below_drewN | apply below_drew1) | exact HB.out))) : w.heap.size ≤ gb150)); have n5_ := Aside0.mk ((by rw [hg]; exact (below_size (by repeat (first | (with_reducible first | exact HB.out | apply below_alloc | apply pw_below_drewN | apply below_drew1) | exact HB.out))) : w.heap.size ≤ gb150)); clear HO_0; clear HO_70; clear HB; have HO_0 := n0_; have HO_70 := n1_; have HB := n2_; have BK150 := n3_; have GW150 := n4_; have GE150 := n5_; clear n0_ n1_ n2_ n3_ n4_ n5_; clear hb hbox hg; have hcz85_0 : w84.cell? ⟨gb150, 0, none⟩ = some (.int .i64 0) := (blk_cell BK150.out 0).trans rfl; have hcz85_1 : w84.cell? ⟨gb150, 1, none⟩ = some (.int .i64 0) := (blk_cell BK150.out 1).trans rfl; have hfz85_0 := blk_frozen BK150.out 0; have hfz85_1 := blk_frozen BK150.out 1) | ((with_reducible refine gate_callee (f := 13) rfl ?_); refine goesL_ (some 77) rfl rfl Try.func13 (by kernel_rfl) rfl #[.agg #[.int .i64 ((rd_T23 x0_1 x72_2).f0), .int .i64 ((rd_T23 x0_1 x72_2).f1)]] rfl (by (try simp only [List.map_toArray, List.map_cons, List.map_nil]); first | done | rfl | (simp only [List.length_drop, List.length_take]; rfl)) ?_; (with_reducible refine (redpenref01_Sound.calls ((rd_T23 x0_1 x72_2).f0) ((rd_T23 x0_1 x72_2).f1) false _ A44.out).mono ?_); rintro e w86 ⟨rfl, hb⟩; refine ⟨_, rfl, ?_⟩; have n0_ := Aside0.mk (Kd.R_below (by (with_reducible repeat (first | apply Kd.R_alloc | apply Kd.R_drewN | apply Kd.R_drew)); exact (Kd.R_mono (Kd.R_far (p := ⟨gb150, 1, none⟩) (Kd.R_far (p := ⟨gb150, 0, none⟩) (Kd.R_mono HO_0.out (fun k_ hk => (⟨hk, hk.2⟩ : _ ∧ k_ ≠ gb150))) (fun _ hk => hk.2) (.int .i64 ((rd_T23 x0_1 x72_2).f0))) (fun _ hk => hk.2) (.int .i64 ((rd_T23 x0_1 x72_2).f1))) (fun _ h_ => h_.1))) hb); have n1_ := Aside0.mk (Kd.R_below (by (with_reducible repeat (first | apply Kd.R_alloc | apply Kd.R_drewN | apply Kd.R_drew)); exact (Kd.R_mono (Kd.R_far (p := ⟨gb150, 1, none⟩) (Kd.R_far (p := ⟨gb150, 0, none⟩) (Kd.R_mono HO_70.out (fun k_ hk => (⟨hk, hk.2⟩ : _ ∧ k_ ≠ gb150))) (fun _ hk => hk.2) (.int .i64 ((rd_T23 x0_1 x72_2).f0))) (fun _ hk => hk.2) (.int .i64 ((rd_T23 x0_1 x72_2).f1))) (fun _ h_ => h_.1))) hb); have n2_ := Aside0.mk (blk_below (g := gb150) (o := .cells #[.int .i64 ((rd_T23 x0_1 x72_2).f0), .int .i64 ((rd_T23 x0_1 x72_2).f1)] 23 (0, 0)) (by (with_reducible repeat (first | refine blk_drewN ?_ _ | refine blk_drew ?_ | refine blk_alloc ?_ _)); refine blk_put (cs := #[.int .i64 ((rd_T23 x0_1 x72_2).f0), .int .i64 0]) ?_ 1 _ rfl; (with_reducible repeat (first | refine blk_drewN ?_ _ | refine blk_drew ?_ | refine blk_alloc ?_ _)); refine blk_put (cs := #[.int .i64 0, .int .i64 0]) ?_ 0 _ rfl; (with_reducible repeat (first | refine blk_drewN ?_ _ | refine blk_drew ?_ | refine blk_alloc ?_ _)); exact BK150.out) hb); have n3_ := Aside0.mk (below_step (by repeat (first | (with_reducible first | exact HB.out | apply below_alloc | apply pw_below_drewN | apply below_drew1 | refine below_set ?_ GE150.out) | exact HB.out)) hb); clear HO_0; clear HO_70; clear BK150; clear HB; have HO_0 := n0_; have HO_70 := n1_; have BK150 := n2_; have HB := n3_; clear n0_ n1_ n2_ n3_; (try clear hb); (try clear hb2); (try clear hk); (try clear hi)) | ((with_reducible refine gate_callee (f := 18) rfl ?_); refine goesL_ (some 105) rfl rfl Try.func18 (by kernel_rfl) rfl #[.slice (some ad149) x0_1.length co13] rfl (by (try simp only [List.map_toArray, List.map_cons, List.map_nil]); first | done | rfl | (simp only [List.length_drop, List.length_take]; rfl)) ?_; (with_reducible refine (span_Apart.calls k2 _ _ x0_1 t152 _ ?side1 ?side2 A75.out).mono ?_); (case side1 => repeat (first | exact (Kd.R_reads' HO_0.out).2.2 | (with_reducible refine Kd.C_alloc ?_ _) | (with_reducible refine Kd.C_drewN ?_ _) | (with_reducible refine Kd.C_drew ?_))); (case side2 => exact (Kd.R_reads' HO_0.out).2.1); rintro e w87 ⟨rfl, hb⟩; refine ⟨_, rfl, ?_⟩; have n0_ := Aside0.mk (Kd.R_below (by (with_reducible repeat (first | apply Kd.R_alloc | apply Kd.R_drewN | apply Kd.R_drew)); exact HO_0.out) hb); have n1_ := Aside0.mk (Kd.R_below (by (with_reducible repeat (first | apply Kd.R_alloc | apply Kd.R_drewN | apply Kd.R_drew)); exact HO_70.out) hb); have n2_ := Aside0.mk (blk_below (g := gb150) (o := .cells #[.int .i64 ((rd_T23 x0_1 x72_2).f0), .int .i64 ((rd_T23 x0_1 x72_2).f1)] 23 (0, 0)) (by (with_reducible repeat (first | refine blk_drewN ?_ _ | refine blk_drew ?_ | refine blk_alloc ?_ _)); exact BK150.out) hb); have n3_ := Aside0.mk (below_step (by repeat (first | (with_reducible first | exact HB.out | apply below_alloc | apply pw_below_drewN | apply below_drew1 | refine below_set ?_ GE150.out) | exact HB.out)) hb); clear HO_0; clear HO_70; clear BK150; clear HB; have HO_0 := n0_; have HO_70 := n1_; have BK150 := n2_; have HB := n3_; clear n0_ n1_ n2_ n3_; (try clear hb); (try clear hb2); (try clear hk); (try clear hi)) | (go_at_call 19; (with_reducible refine (span_Cover.calls k2 _ _ x0_1 a1 t153 _ ?side1 ?side2 A77.out).mono ?_); (case side1 => repeat (first | exact (Kd.R_reads' HO_0.out).2.2 | (with_reducible refine Kd.C_alloc ?_ _) | (with_reducible refine Kd.C_drewN ?_ _) | (with_reducible refine Kd.C_drew ?_))); (case side2 => exact (Kd.R_reads' HO_0.out).2.1); rintro e w88 ⟨rfl, hb⟩; have n0_ := Aside0.mk (Kd.R_below (by (with_reducible repeat (first | apply Kd.R_alloc | apply Kd.R_drewN | apply Kd.R_drew)); exact HO_0.out) hb); have n1_ := Aside0.mk (Kd.R_below (by (with_reducible repeat (first | apply Kd.R_alloc | apply Kd.R_drewN | apply Kd.R_drew)); exact HO_70.out) hb); have n2_ := Aside0.mk (blk_below (g := gb150) (o := .cells #[.int .i64 ((rd_T23 x0_1 x72_2).f0), .int .i64 ((rd_T23 x0_1 x72_2).f1)] 23 (0, 0)) (by (with_reducible repeat (first | refine blk_drewN ?_ _ | refine blk_drew ?_ | refine blk_alloc ?_ _)); exact BK150.out) hb); have n3_ := Aside0.mk (below_step (by repeat (first | (with_reducible first | exact HB.out | apply below_alloc | apply pw_below_drewN | apply below_drew1 | refine below_set ?_ GE150.out) | exact HB.out)) hb); clear HO_0; clear HO_70; clear BK150; clear HB; have HO_0 := n0_; have HO_70 := n1_; have BK150 := n2_; have HB := n3_; clear n0_ n1_ n2_ n3_; (try clear hb); (try clear hb2); (try clear hk); (try clear hi)))
               go_ret
               exact ⟨by first | rfl | (simp [errW_none, errW_some] <;> rfl) | (simp [*, errW_none, errW_some] <;> rfl), by repeat (first | (with_reducible first | exact HB.out | apply below_alloc | apply pw_below_drewN | apply below_drew1 | refine below_set ?_ GE150.out) | exact HB.out)⟩
             ·
              rw [if_neg c76] at H
              have c76b0 : (t152 == false) = false := by simpa using c76
              (try (have c76b1 : decide (t152 = false) = false := by simpa using c76))
              (try (have c76b2 : (t152 == false) = false := by simpa using c76))
              (try (have c76b3 : ¬ (t152 = false) := by simpa using c76))
              clear c76
              obtain rfl := Option.some.inj H
              have p149 : 0 ≤ (x72_2 : Int) := of_decide_eq_true (by first | (with_reducible assumption) | assumption)
              have q149 : x72_2 < (x0_1.length : Int) := of_decide_eq_true (by first | (with_reducible assumption) | assumption)
              obtain ⟨ad149, e149, hx149_0, hx149_1⟩ := at_T23 (Kd.R_reads' HO_70.out).2.2 x72_2 p149 q149
              cases e149
              replace p149 := eq_true p149
              replace q149 := eq_true q149
              go_wp2_with (first | ((with_reducible refine gate_dst (N := 12) rfl ?_); refine box_event ?hg (N := 12) ?hd (cs := #[.int .i64 0, .int .i64 0]) (t := 23) ?hr ?_; (case hd => rfl); (case hg => rfl); (case hr => first | (go_simp; done) | (go_simp; rfl)); intro gb150 hg w89 hbox hb; have n0_ := Aside0.mk (Kd.R_below (Kd.R_elderB (by (with_reducible repeat (first | apply Kd.R_alloc | apply Kd.R_drewN | apply Kd.R_drew)); exact HO_0.out) gb150 (Nat.le_of_eq hg.symm)) hb); have n1_ := Aside0.mk (Kd.R_below (Kd.R_elderB (by (with_reducible repeat (first | apply Kd.R_alloc | apply Kd.R_drewN | apply Kd.R_drew)); exact HO_70.out) gb150 (Nat.le_of_eq hg.symm)) hb); have n2_ := Aside0.mk (below_step (by repeat (first | (with_reducible first | exact HB.out | apply below_alloc | apply pw_below_drewN | apply below_drew1) | exact HB.out)) hb); have n3_ := Aside0.mk (hbox); have n4_ := Aside0.mk ((by rw [hg]; exact (below_size (by repeat (first | (with_reducible first | exact HB.out | apply below_alloc | apply pw_below_drewN | apply below_drew1) | exact HB.out))) : w.heap.size ≤ gb150)); have n5_ := Aside0.mk ((by rw [hg]; exact (below_size (by repeat (first | (with_reducible first | exact HB.out | apply below_alloc | apply pw_below_drewN | apply below_drew1) | exact HB.out))) : w.heap.size ≤ gb150)); clear HO_0; clear HO_70; clear HB; have HO_0 := n0_; have HO_70 := n1_; have HB := n2_; have BK150 := n3_; have GW150 := n4_; have GE150 := n5_; clear n0_ n1_ n2_ n3_ n4_ n5_; clear hb hbox hg; have hcz90_0 : w89.cell? ⟨gb150, 0, none⟩ = some (.int .i64 0) := (blk_cell BK150.out 0).trans rfl; have hcz90_1 : w89.cell? ⟨gb150, 1, none⟩ = some (.int .i64 0) := (blk_cell BK150.out 1).trans rfl; have hfz90_0 := blk_frozen BK150.out 0; have hfz90_1 := blk_frozen BK150.out 1) | ((with_reducible refine gate_callee (f := 13) rfl ?_); refine goesL_ (some 77) rfl rfl Try.func13 (by kernel_rfl) rfl #[.agg #[.int .i64 ((rd_T23 x0_1 x72_2).f0), .int .i64 ((rd_T23 x0_1 x72_2).f1)]] rfl (by (try simp only [List.map_toArray, List.map_cons, List.map_nil]); first | done | rfl | (simp only [List.length_drop, List.length_take]; rfl)) ?_; (with_reducible refine (redpenref01_Sound.calls ((rd_T23 x0_1 x72_2).f0) ((rd_T23 x0_1 x72_2).f1) false _ A44.out).mono ?_); rintro e w91 ⟨rfl, hb⟩; refine ⟨_, rfl, ?_⟩; have n0_ := Aside0.mk (Kd.R_below (by (with_reducible repeat (first | apply Kd.R_alloc | apply Kd.R_drewN | apply Kd.R_drew)); exact (Kd.R_mono (Kd.R_far (p := ⟨gb150, 1, none⟩) (Kd.R_far (p := ⟨gb150, 0, none⟩) (Kd.R_mono HO_0.out (fun k_ hk => (⟨hk, hk.2⟩ : _ ∧ k_ ≠ gb150))) (fun _ hk => hk.2) (.int .i64 ((rd_T23 x0_1 x72_2).f0))) (fun _ hk => hk.2) (.int .i64 ((rd_T23 x0_1 x72_2).f1))) (fun _ h_ => h_.1))) hb); have n1_ := Aside0.mk (Kd.R_below (by (with_reducible repeat (first | apply Kd.R_alloc | apply Kd.R_drewN | apply Kd.R_drew)); exact (Kd.R_mono (Kd.R_far (p := ⟨gb150, 1, none⟩) (Kd.R_far (p := ⟨gb150, 0, none⟩) (Kd.R_mono HO_70.out (fun k_ hk => (⟨hk, hk.2⟩ : _ ∧ k_ ≠ gb150))) (fun _ hk => hk.2) (.int .i64 ((rd_T23 x0_1 x72_2).f0))) (fun _ hk => hk.2) (.int .i64 ((rd_T23 x0_1 x72_2).f1))) (fun _ h_ => h_.1))) hb); have n2_ := Aside0.mk (blk_below (g := gb150) (o := .cells #[.int .i64 ((rd_T23 x0_1 x72_2).f0), .int .i64 ((rd_T23 x0_1 x72_2).f1)] 23 (0, 0)) (by (with_reducible repeat (first | refine blk_drewN ?_ _ | refine blk_drew ?_ | refine blk_alloc ?_ _)); refine blk_put (cs := #[.int .i64 ((rd_T23 x0_1 x72_2).f0), .int .i64 0]) ?_ 1 _ rfl; (with_reducible repeat (first | refine blk_drewN ?_ _ | refine blk_drew ?_ | refine blk_alloc ?_ _)); refine blk_put (cs := #[.int .i64 0, .int .i64 0]) ?_ 0 _ rfl; (with_reducible repeat (first | refine blk_drewN ?_ _ | refine blk_drew ?_ | refine blk_alloc ?_ _)); exact BK150.out) hb); have n3_ := Aside0.mk (below_step (by repeat (first | (with_reducible first | exact HB.out | apply below_alloc | apply pw_below_drewN | apply below_drew1 | refine below_set ?_ GE150.out) | exact HB.out)) hb); clear HO_0; clear HO_70; clear BK150; clear HB; have HO_0 := n0_; have HO_70 := n1_; have BK150 := n2_; have HB := n3_; clear n0_ n1_ n2_ n3_; (try clear hb); (try clear hb2); (try clear hk); (try clear hi)) | ((with_reducible refine gate_callee (f := 18) rfl ?_); refine goesL_ (some 105) rfl rfl Try.func18 (by kernel_rfl) rfl #[.slice (some ad149) x0_1.length co13] rfl (by (try simp only [List.map_toArray, List.map_cons, List.map_nil]); first | done | rfl | (simp only [List.length_drop, List.length_take]; rfl)) ?_; (with_reducible refine (span_Apart.calls k2 _ _ x0_1 t152 _ ?side1 ?side2 A75.out).mono ?_); (case side1 => repeat (first | exact (Kd.R_reads' HO_0.out).2.2 | (with_reducible refine Kd.C_alloc ?_ _) | (with_reducible refine Kd.C_drewN ?_ _) | (with_reducible refine Kd.C_drew ?_))); (case side2 => exact (Kd.R_reads' HO_0.out).2.1); rintro e w92 ⟨rfl, hb⟩; refine ⟨_, rfl, ?_⟩; have n0_ := Aside0.mk (Kd.R_below (by (with_reducible repeat (first | apply Kd.R_alloc | apply Kd.R_drewN | apply Kd.R_drew)); exact HO_0.out) hb); have n1_ := Aside0.mk (Kd.R_below (by (with_reducible repeat (first | apply Kd.R_alloc | apply Kd.R_drewN | apply Kd.R_drew)); exact HO_70.out) hb); have n2_ := Aside0.mk (blk_below (g := gb150) (o := .cells #[.int .i64 ((rd_T23 x0_1 x72_2).f0), .int .i64 ((rd_T23 x0_1 x72_2).f1)] 23 (0, 0)) (by (with_reducible repeat (first | refine blk_drewN ?_ _ | refine blk_drew ?_ | refine blk_alloc ?_ _)); exact BK150.out) hb); have n3_ := Aside0.mk (below_step (by repeat (first | (with_reducible first | exact HB.out | apply below_alloc | apply pw_below_drewN | apply below_drew1 | refine below_set ?_ GE150.out) | exact HB.out)) hb); clear HO_0; clear HO_70; clear BK150; clear HB; have HO_0 := n0_; have HO_70 := n1_; have BK150 := n2_; have HB := n3_; clear n0_ n1_ n2_ n3_; (try clear hb); (try clear hb2); (try clear hk); (try clear hi)))
              go_ret
              exact ⟨by first | rfl | (simp [errW_none, errW_some] <;> rfl) | (simp [*, errW_none, errW_some] <;> rfl), by repeat (first | (with_reducible first | exact HB.out | apply below_alloc | apply pw_below_drewN | apply below_drew1 | refine below_set ?_ GE150.out) | exact HB.out)⟩
           ·
            rw [if_neg c43] at H
            exact absurd H (by simp)
          ·
           rw [if_neg c42] at H
           exact absurd H (by simp)
         ·
          rw [if_neg c41] at H
          have c41b0 : decide (x72_2 < (x0_1.length : Int)) = false := decide_eq_false c41
          (try simp only [hl0_1] at c41b0)
          clear c41
          replace H := Option.bind_eq_some_iff.mp H
          obtain ⟨t154, A930, H⟩ := H
          (try dsimp only at H)
          have A93 := Aside0.mk A930
          clear A930
          by_cases c94 : (t154 == x8_2) = true
          ·
           rw [if_pos c94] at H
           have c94b0 : (t154 == x8_2) = true := c94
           (try (have c94b1 : decide (t154 = x8_2) = true := by simpa using c94))
           (try (have c94b2 : (t154 == x8_2) = true := by simpa using c94))
           clear c94
           replace H := Option.bind_eq_some_iff.mp H
           obtain ⟨t155, A950, H⟩ := H
           (try dsimp only at H)
           have A95 := Aside0.mk A950
           clear A950
           by_cases c96 : x9_2 = true
           ·
            subst c96
            rw [if_pos rfl] at H
            by_cases c97 : (t155 == (x10_2 == a1)) = true
            ·
             rw [if_pos c97] at H
             have c97b0 : (t155 == (x10_2 == a1)) = true := c97
             (try (have c97b1 : decide (t155 = (x10_2 == a1)) = true := by simpa using c97))
             (try (have c97b2 : (t155 == (x10_2 == a1)) = true := by simpa using c97))
             clear c97
             replace H := Option.bind_eq_some_iff.mp H
             obtain ⟨t156, A980, H⟩ := H
             replace H : (some t156) = some r := H
             have A98 := Aside0.mk A980
             clear A980
             obtain rfl := Option.some.inj H
             go_wp2_with (first | ((with_reducible refine gate_callee (f := 18) rfl ?_); refine goesL_ (some 105) rfl rfl Try.func18 (by kernel_rfl) rfl #[.slice Ao13 x0_1.length co13] rfl (by (try simp only [List.map_toArray, List.map_cons, List.map_nil]); first | done | rfl | (simp only [List.length_drop, List.length_take]; rfl)) ?_; (with_reducible refine (span_Apart.calls k2 _ _ x0_1 t154 _ ?side1 ?side2 A93.out).mono ?_); (case side1 => repeat (first | exact (Kd.R_reads' HO_0.out).2.2 | (with_reducible refine Kd.C_alloc ?_ _) | (with_reducible refine Kd.C_drewN ?_ _) | (with_reducible refine Kd.C_drew ?_))); (case side2 => exact (Kd.R_reads' HO_0.out).2.1); rintro e w99 ⟨rfl, hb⟩; refine ⟨_, rfl, ?_⟩; have n0_ := Aside0.mk (Kd.R_below (by (with_reducible repeat (first | apply Kd.R_alloc | apply Kd.R_drewN | apply Kd.R_drew)); exact HO_0.out) hb); have n1_ := Aside0.mk (Kd.R_below (by (with_reducible repeat (first | apply Kd.R_alloc | apply Kd.R_drewN | apply Kd.R_drew)); exact HO_70.out) hb); have n2_ := Aside0.mk (below_step (by repeat (first | (with_reducible first | exact HB.out | apply below_alloc | apply pw_below_drewN | apply below_drew1) | exact HB.out)) hb); clear HO_0; clear HO_70; clear HB; have HO_0 := n0_; have HO_70 := n1_; have HB := n2_; clear n0_ n1_ n2_; (try clear hb); (try clear hb2); (try clear hk); (try clear hi)) | (go_at_call 19; (with_reducible refine (span_Cover.calls k2 _ _ x0_1 a1 t155 _ ?side1 ?side2 A95.out).mono ?_); (case side1 => repeat (first | exact (Kd.R_reads' HO_0.out).2.2 | (with_reducible refine Kd.C_alloc ?_ _) | (with_reducible refine Kd.C_drewN ?_ _) | (with_reducible refine Kd.C_drew ?_))); (case side2 => exact (Kd.R_reads' HO_0.out).2.1); rintro e w100 ⟨rfl, hb⟩; have n0_ := Aside0.mk (Kd.R_below (by (with_reducible repeat (first | apply Kd.R_alloc | apply Kd.R_drewN | apply Kd.R_drew)); exact HO_0.out) hb); have n1_ := Aside0.mk (Kd.R_below (by (with_reducible repeat (first | apply Kd.R_alloc | apply Kd.R_drewN | apply Kd.R_drew)); exact HO_70.out) hb); have n2_ := Aside0.mk (below_step (by repeat (first | (with_reducible first | exact HB.out | apply below_alloc | apply pw_below_drewN | apply below_drew1) | exact HB.out)) hb); clear HO_0; clear HO_70; clear HB; have HO_0 := n0_; have HO_70 := n1_; have HB := n2_; clear n0_ n1_ n2_; (try clear hb); (try clear hb2); (try clear hk); (try clear hi)) | (go_at_call 19; (with_reducible refine (span_Cover.calls k2 _ _ x0_1 x10_2 t156 _ ?side1 ?side2 A98.out).mono ?_); (case side1 => repeat (first | exact (Kd.R_reads' HO_0.out).2.2 | (with_reducible refine Kd.C_alloc ?_ _) | (with_reducible refine Kd.C_drewN ?_ _) | (with_reducible refine Kd.C_drew ?_))); (case side2 => exact (Kd.R_reads' HO_0.out).2.1); rintro e w101 ⟨rfl, hb⟩; have n0_ := Aside0.mk (Kd.R_below (by (with_reducible repeat (first | apply Kd.R_alloc | apply Kd.R_drewN | apply Kd.R_drew)); exact HO_0.out) hb); have n1_ := Aside0.mk (Kd.R_below (by (with_reducible repeat (first | apply Kd.R_alloc | apply Kd.R_drewN | apply Kd.R_drew)); exact HO_70.out) hb); have n2_ := Aside0.mk (below_step (by repeat (first | (with_reducible first | exact HB.out | apply below_alloc | apply pw_below_drewN | apply below_drew1) | exact HB.out)) hb); clear HO_0; clear HO_70; clear HB; have HO_0 := n0_; have HO_70 := n1_; have HB := n2_; clear n0_ n1_ n2_; (try clear hb); (try clear hb2); (try clear hk); (try clear hi)))
             go_ret
             exact ⟨by first | rfl | (simp [errW_none, errW_some] <;> rfl) | (simp [*, errW_none, errW_some] <;> rfl), by repeat (first | (with_reducible first | exact HB.out | apply below_alloc | apply pw_below_drewN | apply below_drew1) | exact HB.out)⟩
            ·
             rw [if_neg c97] at H
             have c97b0 : (t155 == (x10_2 == a1)) = false := by simpa using c97
             (try (have c97b1 : decide (t155 = (x10_2 == a1)) = false := by simpa using c97))
             (try (have c97b2 : (t155 == (x10_2 == a1)) = false := by simpa using c97))
             (try (have c97b3 : ¬ (t155 = (x10_2 == a1)) := by simpa using c97))
             clear c97
             obtain rfl := Option.some.inj H
             go_wp2_with (first | ((with_reducible refine gate_callee (f := 18) rfl ?_); refine goesL_ (some 105) rfl rfl Try.func18 (by kernel_rfl) rfl #[.slice Ao13 x0_1.length co13] rfl (by (try simp only [List.map_toArray, List.map_cons, List.map_nil]); first | done | rfl | (simp only [List.length_drop, List.length_take]; rfl)) ?_; (with_reducible refine (span_Apart.calls k2 _ _ x0_1 t154 _ ?side1 ?side2 A93.out).mono ?_); (case side1 => repeat (first | exact (Kd.R_reads' HO_0.out).2.2 | (with_reducible refine Kd.C_alloc ?_ _) | (with_reducible refine Kd.C_drewN ?_ _) | (with_reducible refine Kd.C_drew ?_))); (case side2 => exact (Kd.R_reads' HO_0.out).2.1); rintro e w102 ⟨rfl, hb⟩; refine ⟨_, rfl, ?_⟩; have n0_ := Aside0.mk (Kd.R_below (by (with_reducible repeat (first | apply Kd.R_alloc | apply Kd.R_drewN | apply Kd.R_drew)); exact HO_0.out) hb); have n1_ := Aside0.mk (Kd.R_below (by (with_reducible repeat (first | apply Kd.R_alloc | apply Kd.R_drewN | apply Kd.R_drew)); exact HO_70.out) hb); have n2_ := Aside0.mk (below_step (by repeat (first | (with_reducible first | exact HB.out | apply below_alloc | apply pw_below_drewN | apply below_drew1) | exact HB.out)) hb); clear HO_0; clear HO_70; clear HB; have HO_0 := n0_; have HO_70 := n1_; have HB := n2_; clear n0_ n1_ n2_; (try clear hb); (try clear hb2); (try clear hk); (try clear hi)) | (go_at_call 19; (with_reducible refine (span_Cover.calls k2 _ _ x0_1 a1 t155 _ ?side1 ?side2 A95.out).mono ?_); (case side1 => repeat (first | exact (Kd.R_reads' HO_0.out).2.2 | (with_reducible refine Kd.C_alloc ?_ _) | (with_reducible refine Kd.C_drewN ?_ _) | (with_reducible refine Kd.C_drew ?_))); (case side2 => exact (Kd.R_reads' HO_0.out).2.1); rintro e w103 ⟨rfl, hb⟩; have n0_ := Aside0.mk (Kd.R_below (by (with_reducible repeat (first | apply Kd.R_alloc | apply Kd.R_drewN | apply Kd.R_drew)); exact HO_0.out) hb); have n1_ := Aside0.mk (Kd.R_below (by (with_reducible repeat (first | apply Kd.R_alloc | apply Kd.R_drewN | apply Kd.R_drew)); exact HO_70.out) hb); have n2_ := Aside0.mk (below_step (by repeat (first | (with_reducible first | exact HB.out | apply below_alloc | apply pw_below_drewN | apply below_drew1) | exact HB.out)) hb); clear HO_0; clear HO_70; clear HB; have HO_0 := n0_; have HO_70 := n1_; have HB := n2_; clear n0_ n1_ n2_; (try clear hb); (try clear hb2); (try clear hk); (try clear hi)))
             go_ret
             exact ⟨by first | rfl | (simp [errW_none, errW_some] <;> rfl) | (simp [*, errW_none, errW_some] <;> rfl), by repeat (first | (with_reducible first | exact HB.out | apply below_alloc | apply pw_below_drewN | apply below_drew1) | exact HB.out)⟩
           ·
            replace c96 := Bool.eq_false_iff.mpr c96
            subst c96
            rw [if_neg (show ¬ (false = true) by decide)] at H
            by_cases c104 : (t155 == false) = true
            ·
             rw [if_pos c104] at H
             have c104b0 : (t155 == false) = true := c104
             (try (have c104b1 : decide (t155 = false) = true := by simpa using c104))
             (try (have c104b2 : (t155 == false) = true := by simpa using c104))
             clear c104
             obtain rfl := Option.some.inj H
             go_wp2_with (first | ((with_reducible refine gate_callee (f := 18) rfl ?_); refine goesL_ (some 105) rfl rfl Try.func18 (by kernel_rfl) rfl #[.slice Ao13 x0_1.length co13] rfl (by (try simp only [List.map_toArray, List.map_cons, List.map_nil]); first | done | rfl | (simp only [List.length_drop, List.length_take]; rfl)) ?_; (with_reducible refine (span_Apart.calls k2 _ _ x0_1 t154 _ ?side1 ?side2 A93.out).mono ?_); (case side1 => repeat (first | exact (Kd.R_reads' HO_0.out).2.2 | (with_reducible refine Kd.C_alloc ?_ _) | (with_reducible refine Kd.C_drewN ?_ _) | (with_reducible refine Kd.C_drew ?_))); (case side2 => exact (Kd.R_reads' HO_0.out).2.1); rintro e w105 ⟨rfl, hb⟩; refine ⟨_, rfl, ?_⟩; have n0_ := Aside0.mk (Kd.R_below (by (with_reducible repeat (first | apply Kd.R_alloc | apply Kd.R_drewN | apply Kd.R_drew)); exact HO_0.out) hb); have n1_ := Aside0.mk (Kd.R_below (by (with_reducible repeat (first | apply Kd.R_alloc | apply Kd.R_drewN | apply Kd.R_drew)); exact HO_70.out) hb); have n2_ := Aside0.mk (below_step (by repeat (first | (with_reducible first | exact HB.out | apply below_alloc | apply pw_below_drewN | apply below_drew1) | exact HB.out)) hb); clear HO_0; clear HO_70; clear HB; have HO_0 := n0_; have HO_70 := n1_; have HB := n2_; clear n0_ n1_ n2_; (try clear hb); (try clear hb2); (try clear hk); (try clear hi)) | (go_at_call 19; (with_reducible refine (span_Cover.calls k2 _ _ x0_1 a1 t155 _ ?side1 ?side2 A95.out).mono ?_); (case side1 => repeat (first | exact (Kd.R_reads' HO_0.out).2.2 | (with_reducible refine Kd.C_alloc ?_ _) | (with_reducible refine Kd.C_drewN ?_ _) | (with_reducible refine Kd.C_drew ?_))); (case side2 => exact (Kd.R_reads' HO_0.out).2.1); rintro e w106 ⟨rfl, hb⟩; have n0_ := Aside0.mk (Kd.R_below (by (with_reducible repeat (first | apply Kd.R_alloc | apply Kd.R_drewN | apply Kd.R_drew)); exact HO_0.out) hb); have n1_ := Aside0.mk (Kd.R_below (by (with_reducible repeat (first | apply Kd.R_alloc | apply Kd.R_drewN | apply Kd.R_drew)); exact HO_70.out) hb); have n2_ := Aside0.mk (below_step (by repeat (first | (with_reducible first | exact HB.out | apply below_alloc | apply pw_below_drewN | apply below_drew1) | exact HB.out)) hb); clear HO_0; clear HO_70; clear HB; have HO_0 := n0_; have HO_70 := n1_; have HB := n2_; clear n0_ n1_ n2_; (try clear hb); (try clear hb2); (try clear hk); (try clear hi)))
             go_ret
             exact ⟨by first | rfl | (simp [errW_none, errW_some] <;> rfl) | (simp [*, errW_none, errW_some] <;> rfl), by repeat (first | (with_reducible first | exact HB.out | apply below_alloc | apply pw_below_drewN | apply below_drew1) | exact HB.out)⟩
            ·
             rw [if_neg c104] at H
             have c104b0 : (t155 == false) = false := by simpa using c104
             (try (have c104b1 : decide (t155 = false) = false := by simpa using c104))
             (try (have c104b2 : (t155 == false) = false := by simpa using c104))
             (try (have c104b3 : ¬ (t155 = false) := by simpa using c104))
             clear c104
             obtain rfl := Option.some.inj H
             go_wp2_with (first | ((with_reducible refine gate_callee (f := 18) rfl ?_); refine goesL_ (some 105) rfl rfl Try.func18 (by kernel_rfl) rfl #[.slice Ao13 x0_1.length co13] rfl (by (try simp only [List.map_toArray, List.map_cons, List.map_nil]); first | done | rfl | (simp only [List.length_drop, List.length_take]; rfl)) ?_; (with_reducible refine (span_Apart.calls k2 _ _ x0_1 t154 _ ?side1 ?side2 A93.out).mono ?_); (case side1 => repeat (first | exact (Kd.R_reads' HO_0.out).2.2 | (with_reducible refine Kd.C_alloc ?_ _) | (with_reducible refine Kd.C_drewN ?_ _) | (with_reducible refine Kd.C_drew ?_))); (case side2 => exact (Kd.R_reads' HO_0.out).2.1); rintro e w107 ⟨rfl, hb⟩; refine ⟨_, rfl, ?_⟩; have n0_ := Aside0.mk (Kd.R_below (by (with_reducible repeat (first | apply Kd.R_alloc | apply Kd.R_drewN | apply Kd.R_drew)); exact HO_0.out) hb); have n1_ := Aside0.mk (Kd.R_below (by (with_reducible repeat (first | apply Kd.R_alloc | apply Kd.R_drewN | apply Kd.R_drew)); exact HO_70.out) hb); have n2_ := Aside0.mk (below_step (by repeat (first | (with_reducible first | exact HB.out | apply below_alloc | apply pw_below_drewN | apply below_drew1) | exact HB.out)) hb); clear HO_0; clear HO_70; clear HB; have HO_0 := n0_; have HO_70 := n1_; have HB := n2_; clear n0_ n1_ n2_; (try clear hb); (try clear hb2); (try clear hk); (try clear hi)) | (go_at_call 19; (with_reducible refine (span_Cover.calls k2 _ _ x0_1 a1 t155 _ ?side1 ?side2 A95.out).mono ?_); (case side1 => repeat (first | exact (Kd.R_reads' HO_0.out).2.2 | (with_reducible refine Kd.C_alloc ?_ _) | (with_reducible refine Kd.C_drewN ?_ _) | (with_reducible refine Kd.C_drew ?_))); (case side2 => exact (Kd.R_reads' HO_0.out).2.1); rintro e w108 ⟨rfl, hb⟩; have n0_ := Aside0.mk (Kd.R_below (by (with_reducible repeat (first | apply Kd.R_alloc | apply Kd.R_drewN | apply Kd.R_drew)); exact HO_0.out) hb); have n1_ := Aside0.mk (Kd.R_below (by (with_reducible repeat (first | apply Kd.R_alloc | apply Kd.R_drewN | apply Kd.R_drew)); exact HO_70.out) hb); have n2_ := Aside0.mk (below_step (by repeat (first | (with_reducible first | exact HB.out | apply below_alloc | apply pw_below_drewN | apply below_drew1) | exact HB.out)) hb); clear HO_0; clear HO_70; clear HB; have HO_0 := n0_; have HO_70 := n1_; have HB := n2_; clear n0_ n1_ n2_; (try clear hb); (try clear hb2); (try clear hk); (try clear hi)))
             go_ret
             exact ⟨by first | rfl | (simp [errW_none, errW_some] <;> rfl) | (simp [*, errW_none, errW_some] <;> rfl), by repeat (first | (with_reducible first | exact HB.out | apply below_alloc | apply pw_below_drewN | apply below_drew1) | exact HB.out)⟩
          ·
           rw [if_neg c94] at H
           have c94b0 : (t154 == x8_2) = false := by simpa using c94
           (try (have c94b1 : decide (t154 = x8_2) = false := by simpa using c94))
           (try (have c94b2 : (t154 == x8_2) = false := by simpa using c94))
           (try (have c94b3 : ¬ (t154 = x8_2) := by simpa using c94))
           clear c94
           obtain rfl := Option.some.inj H
           go_wp2_with (first | ((with_reducible refine gate_callee (f := 18) rfl ?_); refine goesL_ (some 105) rfl rfl Try.func18 (by kernel_rfl) rfl #[.slice Ao13 x0_1.length co13] rfl (by (try simp only [List.map_toArray, List.map_cons, List.map_nil]); first | done | rfl | (simp only [List.length_drop, List.length_take]; rfl)) ?_; (with_reducible refine (span_Apart.calls k2 _ _ x0_1 t154 _ ?side1 ?side2 A93.out).mono ?_); (case side1 => repeat (first | exact (Kd.R_reads' HO_0.out).2.2 | (with_reducible refine Kd.C_alloc ?_ _) | (with_reducible refine Kd.C_drewN ?_ _) | (with_reducible refine Kd.C_drew ?_))); (case side2 => exact (Kd.R_reads' HO_0.out).2.1); rintro e w109 ⟨rfl, hb⟩; refine ⟨_, rfl, ?_⟩; have n0_ := Aside0.mk (Kd.R_below (by (with_reducible repeat (first | apply Kd.R_alloc | apply Kd.R_drewN | apply Kd.R_drew)); exact HO_0.out) hb); have n1_ := Aside0.mk (Kd.R_below (by (with_reducible repeat (first | apply Kd.R_alloc | apply Kd.R_drewN | apply Kd.R_drew)); exact HO_70.out) hb); have n2_ := Aside0.mk (below_step (by repeat (first | (with_reducible first | exact HB.out | apply below_alloc | apply pw_below_drewN | apply below_drew1) | exact HB.out)) hb); clear HO_0; clear HO_70; clear HB; have HO_0 := n0_; have HO_70 := n1_; have HB := n2_; clear n0_ n1_ n2_; (try clear hb); (try clear hb2); (try clear hk); (try clear hi)))
           go_ret
           exact ⟨by first | rfl | (simp [errW_none, errW_some] <;> rfl) | (simp [*, errW_none, errW_some] <;> rfl), by repeat (first | (with_reducible first | exact HB.out | apply below_alloc | apply pw_below_drewN | apply below_drew1) | exact HB.out)⟩
   ·
    rw [if_neg c8] at H
    exact absurd H (by simp)
 ·
  replace c5 := Bool.eq_false_iff.mpr c5
  subst c5
  rw [if_neg (show ¬ (false = true) by decide)] at H
  obtain rfl := Option.some.inj H
  go_enter Try.func7, Try.ntmps7
  go_wp2_with (first | ((with_reducible refine gate_callee (f := 8) rfl ?_); refine goesL_ (some 13) rfl rfl Try.func8 (by kernel_rfl) rfl #[] rfl (by (try simp only [List.map_toArray, List.map_cons, List.map_nil]); first | done | rfl | (simp only [List.length_drop, List.length_take]; rfl)) ?_; (with_reducible refine (redpenlaw01_Awake.calls k  false _ A4.out).mono ?_); rintro e w110 ⟨rfl, hb⟩; refine ⟨_, rfl, ?_⟩; have n0_ := Aside0.mk (below_step (by repeat (first | (with_reducible first | exact HB.out | apply below_alloc | apply pw_below_drewN | apply below_drew1) | exact HB.out)) hb); clear HB; have HB := n0_; clear n0_; (try clear hb); (try clear hb2); (try clear hk); (try clear hi)))
  go_ret
  exact ⟨by first | rfl | (simp [errW_none, errW_some] <;> rfl) | (simp [*, errW_none, errW_some] <;> rfl), by repeat (first | (with_reducible first | exact HB.out | apply below_alloc | apply pw_below_drewN | apply below_drew1) | exact HB.out)⟩

end Go.Proofs.Ytehabojhdogghaa.PSpanRows
