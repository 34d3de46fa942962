-- PRINTED BY print.sh 35421559b90ae4d0a3588c463048766b98c2df88dd9212a6774a882060cdf62d: not written by this session
import Derived.Test.YtjbbogcoabgcnaaPSrcx0
import Derived.Test.YtjbbogcoabgcnaaPSrcx1
import Derived.Test.YtjbbogcoabgcnaaPSrcx2
import Derived.Test.YtjbbogcoabgcnaaPSrcx3
namespace Go.Proofs.Ytjbbogcoabgcnaa.PSrc
open Go.RowKit Go.Proofs.YtjbbogcoabgcnaaW.PrintWords Go.Proofs.YtjbbogcoabgcnaaW.PrintLast Go.Proofs.YtjbbogcoabgcnaaW.PrintMore
attribute [local go_sem] max2_int min2_int max_two min_two max_three min_three max_four min_four   -- for this text's walks alone
set_option linter.unusedVariables false
set_option linter.unusedSimpArgs false

/-! ### redpenref10_Src: function 13 -/
mutual
def redpenref10_Src.j0 : Nat → Int → ByteArray → Bool → Option (List Int × Bool)
  | 0, _, _, _ => none
  | k + 1, x0, x1, x16 => if x16 = true then (some (([] : List Int), false)) else ((redpenref10_All.f k (x1.size : Int) 4).bind fun t142 => (redpenref10_Src.l0 k x0 x1 t142 0))
def redpenref10_Src.l0 : Nat → Int → ByteArray → List Int → Int → Option (List Int × Bool)
  | 0, _, _, _, _ => none
  | k + 1, x0, x1, x6, x7 => if x7 < (x1.size : Int) then ((redpenref10_note.f k x0 x1 x7).bind fun t145 => (if t145 > 0 then ((redpenref10_Labels_put.f k x6 3 x7 (wrap64 (x7 + t145))).bind fun t146 => (redpenref10_Src.l1 k x0 x1 t146 (wrap64 (x7 + t145)))) else (if x0 = 6 then (redpenref10_Src.j3 k x0 x1 x6 x7 false) else (if x0 = 7 then (redpenref10_Src.j3 k x0 x1 x6 x7 false) else ((redpenref10_at.f x1 x7 (⟨#[47, 42]⟩ : ByteArray)).bind fun t148 => (redpenref10_Src.j3 k x0 x1 x6 x7 t148)))))) else (some (x6, true))
def redpenref10_Src.l1 : Nat → Int → ByteArray → List Int → Int → Option (List Int × Bool)
  | 0, _, _, _, _ => none
  | k + 1, x0, x1, x6, x7 => if x7 < (x1.size : Int) then (if 0 ≤ x7 then (if (bt x1 x7) = 10 then (redpenref10_Src.l0 k x0 x1 x6 x7) else (if x7 < (x6.length : Int) then (redpenref10_Src.l1 k x0 x1 (x6.set (x7 : Int).toNat 1) (wrap64 (x7 + 1))) else (none))) else (none)) else (redpenref10_Src.l0 k x0 x1 x6 x7)
def redpenref10_Src.j3 : Nat → Int → ByteArray → List Int → Int → Bool → Option (List Int × Bool)
  | 0, _, _, _, _, _ => none
  | k + 1, x0, x1, x6, x7, x64 => if x64 = true then ((redpenref10_Labels_block.f k x6 x1 x7 (x0 == 8)).bind fun bt149 => (redpenref10_Src.l0 k x0 x1 bt149.2 bt149.1)) else ((redpenref10_quotes.f x0).bind fun t151 => (redpenref10_Src.l2 k x0 x1 x6 x7 t151 0))
def redpenref10_Src.l2 : Nat → Int → ByteArray → List Int → Int → List (S69) → Int → Option (List Int × Bool)
  | 0, _, _, _, _, _, _ => none
  | k + 1, x0, x1, x6, x7, x9, x10 => if x10 < (x9.length : Int) then (if 0 ≤ x10 then ((redpenref10_at.f x1 x7 ((rd_T69 x9 x10).f0)).bind fun t155 => (if t155 = true then (if x10 = (x9.length : Int) then (redpenref10_Src.l0 k x0 x1 x6 (wrap64 (x7 + 1))) else ((redpenref10_Labels_quoted.f k x6 x1 (wrap64 (x7 + (((rd_T69 x9 x10).f0).size : Int))) ((rd_T69 x9 x10).f0) ((rd_T69 x9 x10).f1) ((rd_T69 x9 x10).f2) ((rd_T69 x9 x10).f3) ((rd_T69 x9 x10).f4)).bind fun bt158 => (redpenref10_Src.l0 k x0 x1 bt158.2 bt158.1))) else (redpenref10_Src.l2 k x0 x1 x6 x7 x9 (wrap64 (x10 + 1))))) else (none)) else (if x10 = (x9.length : Int) then (redpenref10_Src.l0 k x0 x1 x6 (wrap64 (x7 + 1))) else (if 0 ≤ x10 then (none) else (none)))
end
def redpenref10_Src.f (k : Nat) (a0 : Int) (a1 : ByteArray) : Option (List Int × Bool) := if a0 < 4 then (redpenref10_Src.j0 k a0 a1 true) else (redpenref10_Src.j0 k a0 a1 (decide (a0 > 8)))
theorem redpenref10_Src.mono_l : ∀ k, (∀ y0 y1 y2, LeO (redpenref10_Src.j0 k y0 y1 y2) (redpenref10_Src.j0 (k + 1) y0 y1 y2)) ∧ (∀ y0 y1 y2 y3, LeO (redpenref10_Src.l0 k y0 y1 y2 y3) (redpenref10_Src.l0 (k + 1) y0 y1 y2 y3)) ∧ (∀ y0 y1 y2 y3, LeO (redpenref10_Src.l1 k y0 y1 y2 y3) (redpenref10_Src.l1 (k + 1) y0 y1 y2 y3)) ∧ (∀ y0 y1 y2 y3 y4, LeO (redpenref10_Src.j3 k y0 y1 y2 y3 y4) (redpenref10_Src.j3 (k + 1) y0 y1 y2 y3 y4)) ∧ (∀ y0 y1 y2 y3 y4 y5, LeO (redpenref10_Src.l2 k y0 y1 y2 y3 y4 y5) (redpenref10_Src.l2 (k + 1) y0 y1 y2 y3 y4 y5))
  | 0 => ⟨fun _ _ _ r h => by simp [redpenref10_Src.j0] at h, fun _ _ _ _ r h => by simp [redpenref10_Src.l0] at h, fun _ _ _ _ r h => by simp [redpenref10_Src.l1] at h, fun _ _ _ _ _ r h => by simp [redpenref10_Src.j3] at h, fun _ _ _ _ _ _ r h => by simp [redpenref10_Src.l2] at h⟩
  | k + 1 => by
    obtain ⟨ih0, ih1, ih2, ih3, ih4⟩ := redpenref10_Src.mono_l k
    refine ⟨?_, ?_, ?_, ?_, ?_⟩
    · intro y0 y1 y2
      unfold redpenref10_Src.j0
      repeat' first
      | (with_reducible exact ih0 _ _ _)
      | (with_reducible exact ih1 _ _ _ _)
      | (with_reducible exact ih2 _ _ _ _)
      | (with_reducible exact ih3 _ _ _ _ _)
      | (with_reducible exact ih4 _ _ _ _ _ _)
      | (with_reducible exact redpenref10_All.mono _ _ _)
      | (with_reducible exact redpenref10_Labels_block.mono _ _ _ _ _)
      | (with_reducible exact redpenref10_Labels_put.mono _ _ _ _ _)
      | (with_reducible exact redpenref10_Labels_quoted.mono _ _ _ _ _ _ _ _ _)
      | (with_reducible exact redpenref10_note.mono _ _ _ _)
      | (with_reducible exact LeO.refl _)
      | (with_reducible exact LeO.none _)
      | (with_reducible refine LeO.ite ?_ ?_)
      | (with_reducible refine LeO.bind ?_ (fun _ => ?_))
      | exact ih0 _ _ _
      | exact ih1 _ _ _ _
      | exact ih2 _ _ _ _
      | exact ih3 _ _ _ _ _
      | exact ih4 _ _ _ _ _ _
      | exact redpenref10_All.mono _ _ _
      | exact redpenref10_Labels_block.mono _ _ _ _ _
      | exact redpenref10_Labels_put.mono _ _ _ _ _
      | exact redpenref10_Labels_quoted.mono _ _ _ _ _ _ _ _ _
      | exact redpenref10_note.mono _ _ _ _
      | exact LeO.none _
      | refine LeO.ite ?_ ?_
      | refine LeO.bind ?_ (fun _ => ?_)
    · intro y0 y1 y2 y3
      unfold redpenref10_Src.l0
      repeat' first
      | (with_reducible exact ih0 _ _ _)
      | (with_reducible exact ih1 _ _ _ _)
      | (with_reducible exact ih2 _ _ _ _)
      | (with_reducible exact ih3 _ _ _ _ _)
      | (with_reducible exact ih4 _ _ _ _ _ _)
      | (with_reducible exact redpenref10_All.mono _ _ _)
      | (with_reducible exact redpenref10_Labels_block.mono _ _ _ _ _)
      | (with_reducible exact redpenref10_Labels_put.mono _ _ _ _ _)
      | (with_reducible exact redpenref10_Labels_quoted.mono _ _ _ _ _ _ _ _ _)
      | (with_reducible exact redpenref10_note.mono _ _ _ _)
      | (with_reducible exact LeO.refl _)
      | (with_reducible exact LeO.none _)
      | (with_reducible refine LeO.ite ?_ ?_)
      | (with_reducible refine LeO.bind ?_ (fun _ => ?_))
      | exact ih0 _ _ _
      | exact ih1 _ _ _ _
      | exact ih2 _ _ _ _
      | exact ih3 _ _ _ _ _
      | exact ih4 _ _ _ _ _ _
      | exact redpenref10_All.mono _ _ _
      | exact redpenref10_Labels_block.mono _ _ _ _ _
      | exact redpenref10_Labels_put.mono _ _ _ _ _
      | exact redpenref10_Labels_quoted.mono _ _ _ _ _ _ _ _ _
      | exact redpenref10_note.mono _ _ _ _
      | exact LeO.none _
      | refine LeO.ite ?_ ?_
      | refine LeO.bind ?_ (fun _ => ?_)
    · intro y0 y1 y2 y3
      unfold redpenref10_Src.l1
      repeat' first
      | (with_reducible exact ih0 _ _ _)
      | (with_reducible exact ih1 _ _ _ _)
      | (with_reducible exact ih2 _ _ _ _)
      | (with_reducible exact ih3 _ _ _ _ _)
      | (with_reducible exact ih4 _ _ _ _ _ _)
      | (with_reducible exact redpenref10_All.mono _ _ _)
      | (with_reducible exact redpenref10_Labels_block.mono _ _ _ _ _)
      | (with_reducible exact redpenref10_Labels_put.mono _ _ _ _ _)
      | (with_reducible exact redpenref10_Labels_quoted.mono _ _ _ _ _ _ _ _ _)
      | (with_reducible exact redpenref10_note.mono _ _ _ _)
      | (with_reducible exact LeO.refl _)
      | (with_reducible exact LeO.none _)
      | (with_reducible refine LeO.ite ?_ ?_)
      | (with_reducible refine LeO.bind ?_ (fun _ => ?_))
      | exact ih0 _ _ _
      | exact ih1 _ _ _ _
      | exact ih2 _ _ _ _
      | exact ih3 _ _ _ _ _
      | exact ih4 _ _ _ _ _ _
      | exact redpenref10_All.mono _ _ _
      | exact redpenref10_Labels_block.mono _ _ _ _ _
      | exact redpenref10_Labels_put.mono _ _ _ _ _
      | exact redpenref10_Labels_quoted.mono _ _ _ _ _ _ _ _ _
      | exact redpenref10_note.mono _ _ _ _
      | exact LeO.none _
      | refine LeO.ite ?_ ?_
      | refine LeO.bind ?_ (fun _ => ?_)
    · intro y0 y1 y2 y3 y4
      unfold redpenref10_Src.j3
      repeat' first
      | (with_reducible exact ih0 _ _ _)
      | (with_reducible exact ih1 _ _ _ _)
      | (with_reducible exact ih2 _ _ _ _)
      | (with_reducible exact ih3 _ _ _ _ _)
      | (with_reducible exact ih4 _ _ _ _ _ _)
      | (with_reducible exact redpenref10_All.mono _ _ _)
      | (with_reducible exact redpenref10_Labels_block.mono _ _ _ _ _)
      | (with_reducible exact redpenref10_Labels_put.mono _ _ _ _ _)
      | (with_reducible exact redpenref10_Labels_quoted.mono _ _ _ _ _ _ _ _ _)
      | (with_reducible exact redpenref10_note.mono _ _ _ _)
      | (with_reducible exact LeO.refl _)
      | (with_reducible exact LeO.none _)
      | (with_reducible refine LeO.ite ?_ ?_)
      | (with_reducible refine LeO.bind ?_ (fun _ => ?_))
      | exact ih0 _ _ _
      | exact ih1 _ _ _ _
      | exact ih2 _ _ _ _
      | exact ih3 _ _ _ _ _
      | exact ih4 _ _ _ _ _ _
      | exact redpenref10_All.mono _ _ _
      | exact redpenref10_Labels_block.mono _ _ _ _ _
      | exact redpenref10_Labels_put.mono _ _ _ _ _
      | exact redpenref10_Labels_quoted.mono _ _ _ _ _ _ _ _ _
      | exact redpenref10_note.mono _ _ _ _
      | exact LeO.none _
      | refine LeO.ite ?_ ?_
      | refine LeO.bind ?_ (fun _ => ?_)
    · intro y0 y1 y2 y3 y4 y5
      unfold redpenref10_Src.l2
      repeat' first
      | (with_reducible exact ih0 _ _ _)
      | (with_reducible exact ih1 _ _ _ _)
      | (with_reducible exact ih2 _ _ _ _)
      | (with_reducible exact ih3 _ _ _ _ _)
      | (with_reducible exact ih4 _ _ _ _ _ _)
      | (with_reducible exact redpenref10_All.mono _ _ _)
      | (with_reducible exact redpenref10_Labels_block.mono _ _ _ _ _)
      | (with_reducible exact redpenref10_Labels_put.mono _ _ _ _ _)
      | (with_reducible exact redpenref10_Labels_quoted.mono _ _ _ _ _ _ _ _ _)
      | (with_reducible exact redpenref10_note.mono _ _ _ _)
      | (with_reducible exact LeO.refl _)
      | (with_reducible exact LeO.none _)
      | (with_reducible refine LeO.ite ?_ ?_)
      | (with_reducible refine LeO.bind ?_ (fun _ => ?_))
      | exact ih0 _ _ _
      | exact ih1 _ _ _ _
      | exact ih2 _ _ _ _
      | exact ih3 _ _ _ _ _
      | exact ih4 _ _ _ _ _ _
      | exact redpenref10_All.mono _ _ _
      | exact redpenref10_Labels_block.mono _ _ _ _ _
      | exact redpenref10_Labels_put.mono _ _ _ _ _
      | exact redpenref10_Labels_quoted.mono _ _ _ _ _ _ _ _ _
      | exact redpenref10_note.mono _ _ _ _
      | exact LeO.none _
      | refine LeO.ite ?_ ?_
      | refine LeO.bind ?_ (fun _ => ?_)
theorem redpenref10_Src.mono : ∀ a0 a1 k, LeO (redpenref10_Src.f k a0 a1) (redpenref10_Src.f (k + 1) a0 a1) := by
  intro a0 a1 k
  obtain ⟨ih0, ih1, ih2, ih3, ih4⟩ := redpenref10_Src.mono_l k
  unfold redpenref10_Src.f
  repeat' first
      | (with_reducible exact ih0 _ _ _)
      | (with_reducible exact ih1 _ _ _ _)
      | (with_reducible exact ih2 _ _ _ _)
      | (with_reducible exact ih3 _ _ _ _ _)
      | (with_reducible exact ih4 _ _ _ _ _ _)
      | (with_reducible exact redpenref10_All.mono _ _ _)
      | (with_reducible exact redpenref10_Labels_block.mono _ _ _ _ _)
      | (with_reducible exact redpenref10_Labels_put.mono _ _ _ _ _)
      | (with_reducible exact redpenref10_Labels_quoted.mono _ _ _ _ _ _ _ _ _)
      | (with_reducible exact redpenref10_note.mono _ _ _ _)
      | (with_reducible exact LeO.refl _)
      | (with_reducible exact LeO.none _)
      | (with_reducible refine LeO.ite ?_ ?_)
      | (with_reducible refine LeO.bind ?_ (fun _ => ?_))
      | exact ih0 _ _ _
      | exact ih1 _ _ _ _
      | exact ih2 _ _ _ _
      | exact ih3 _ _ _ _ _
      | exact ih4 _ _ _ _ _ _
      | exact redpenref10_All.mono _ _ _
      | exact redpenref10_Labels_block.mono _ _ _ _ _
      | exact redpenref10_Labels_put.mono _ _ _ _ _
      | exact redpenref10_Labels_quoted.mono _ _ _ _ _ _ _ _ _
      | exact redpenref10_note.mono _ _ _ _
      | exact LeO.none _
      | refine LeO.ite ?_ ?_
      | refine LeO.bind ?_ (fun _ => ?_)
def redpenref10_Src.T21 : Bool × List (List Nat × List Nat) := (true, [([], []), ([], []), ([], []), ([], []), ([], []), ([3, 4], [3, 4]), ([5], [5]), ([6], [6]), ([7], [7]), ([2, 8], [2, 8]), ([], []), ([], []), ([10, 11], [10, 11]), ([12], [12]), ([0, 1, 9, 13], [0, 1, 9, 13]), ([14, 14, 0, 1, 2, 3, 4, 5, 6, 7, 8, 9, 10, 11, 12, 13, 14], [2, 14])])
def redpenref10_Src.B21 : List Nat := [0, 0, 0, 0, 0, 24, 56, 120, 248, 508, 0, 0, 3072, 7168, 16383, 32767]
theorem redpenref10_Src.tab21 : rtab .any (opsOf Try.f13 21) = redpenref10_Src.T21 := by kernel_rfl
theorem redpenref10_Src.bits21 : waitsOk redpenref10_Src.T21.2 redpenref10_Src.B21 = true := by kernel_rfl
set_option maxHeartbeats 8000000 in
set_option maxRecDepth 100000 in
theorem redpenref10_Src.calls (k : Nat) (a0 : Int) (a1 : ByteArray) (r1 : List Int) (r2 : Bool) (w : World) (h : redpenref10_Src.f k a0 a1 = some (r1, r2)) :
    Calls Try.prog 13 #[.int .u8 a0, .string a1] w fun e w' => ∃ v0_ : Value, e = .returned (.tuple #[v0_, .bool r2]) ∧ Kd.R (Kd.int .u8) 43 w' w.heap.size (fun _ => True) v0_ r1 ∧ Below w.heap.size w w' := by
  have hu69 := Try.underlying69
  have HB := Aside0.mk (Below.refl w.heap.size w)
  have H : (if a0 < 4 then (redpenref10_Src.j0 k a0 a1 true) else (redpenref10_Src.j0 k a0 a1 (decide (a0 > 8)))) = some (r1, r2) := h
  clear h
  have HC3 := Aside0.mk H
  clear H
  go_enter Try.func13, Try.ntmps13
  go_upto_region 1 with (fail)
  go_cut [16] (fun v16 wc => ∃ (kq : Nat) (x16_2 : Bool), v16 = .bool x16_2 ∧ Aside0 (redpenref10_Src.j0 kq a0 a1 x16_2 = some (r1, r2)) ∧ Aside0 (kq ≤ k) ∧ Aside0 (Below w.heap.size w wc))
  case first =>
    have H := HC3.out
    clear HC3
    by_cases c4 : a0 < 4
    · rw [if_pos c4] at H
      have c4b0 : decide (a0 < 4) = true := decide_eq_true c4
      clear c4
      (first | rw [c4b0] | (simp only [i64_w, i32_w]; rw [c4b0]) | skip)
      have H' := Aside0.mk H
      clear H
      go_wp2
      go_meet
      case rel => exact ⟨_, (true), (by first | rfl | (simp; done) | (simp [*]; done)), H', ⟨by first | omega | exact Nat.le_refl _⟩, ⟨by repeat (first | (with_reducible first | exact HB.out | apply below_alloc | apply pw_below_drewN | apply below_drew1) | exact HB.out)⟩⟩
    · rw [if_neg c4] at H
      have c4b0 : decide (a0 < 4) = false := decide_eq_false c4
      clear c4
      (first | rw [c4b0] | (simp only [i64_w, i32_w]; rw [c4b0]) | skip)
      have H' := Aside0.mk H
      clear H
      go_wp2
      go_meet
      case rel => exact ⟨_, (decide (a0 > 8)), (by first | rfl | (simp; done) | (simp [*]; done)), H', ⟨by first | omega | exact Nat.le_refl _⟩, ⟨by repeat (first | (with_reducible first | exact HB.out | apply below_alloc | apply pw_below_drewN | apply below_drew1) | exact HB.out)⟩⟩
  case rest =>
    clear HC3
    try clear c1
    try clear p2
    try clear c4
    try clear c4b0
    obtain ⟨kq, x16_2, rfl, HA, HJ2, HB⟩ := hcut
    cases kq with
    | zero => exact absurd HA.out (by simp [redpenref10_Src.j0])
    | succ kj2 =>
      have H := HA.out
      clear HA
      simp only [redpenref10_Src.j0] at H
      by_cases c5 : x16_2 = true
      · subst c5
        have H1 : (some (([] : List Int), false)) = some (r1, r2) := by rw [if_pos rfl] at H; exact H
        clear H
        have H := H1
        clear H1
        simp only [Option.some.injEq, Prod.mk.injEq] at H
        obtain ⟨rfl, rfl⟩ := H
        go_wp2
        go_ret2
        exact ⟨_, by first | rfl | (simp [errW_none, errW_some] <;> rfl) | (simp [*, errW_none, errW_some] <;> rfl), by first | exact Kd.R_nil _ _ _ _ _ | exact Kd.N_nil _ _ _ _ _ | exact Kd.V_nil _ _ _ _ _ | exact Kd.Q_nil _ _ _ _ _ | exact Kd.S_nil _ _ _ _ _, by repeat (first | (with_reducible first | exact HB.out | apply below_alloc | apply pw_below_drewN | apply below_drew1) | exact HB.out)⟩
      · replace c5 := Bool.eq_false_iff.mpr c5
        subst c5
        have H1 : ((redpenref10_All.f kj2 (a1.size : Int) 4).bind fun t142 => (redpenref10_Src.l0 kj2 a0 a1 t142 0)) = some (r1, r2) := by rw [if_neg (show ¬ (false = true) by decide)] at H; exact H
        clear H
        have H := H1
        clear H1
        replace H := Option.bind_eq_some_iff.mp H
        obtain ⟨t142, A60, H⟩ := H
        replace H : (redpenref10_Src.l0 kj2 a0 a1 t142 0) = some (r1, r2) := H
        have A6 := Aside0.mk A60
        clear A60
        have H' := Aside0.mk H
        clear H
        go_wp2_with (first | ((with_reducible refine gate_callee (f := 22) rfl ?_); refine goesL_ (some 19) rfl rfl Try.func22 (by kernel_rfl) rfl #[.int .i64 (a1.size : Int), .int .u8 4] rfl (by (try simp only [List.map_toArray, List.map_cons, List.map_nil]); first | done | rfl | (simp only [List.length_drop, List.length_take]; rfl)) ?_; (with_reducible refine (redpenref10_All.calls kj2 (a1.size : Int) 4 t142 _ A6.out).mono ?_); rintro e w7 ⟨v143, rfl, ho0, hb⟩; refine ⟨_, rfl, ?_⟩; have n0_ := Aside0.mk (Kd.R_lower ho0 (below_size (by repeat (first | (with_reducible first | exact HB.out | apply below_alloc | apply pw_below_drewN | apply below_drew1) | exact HB.out)))); have n1_ := Aside0.mk (below_step (by repeat (first | (with_reducible first | exact HB.out | apply below_alloc | apply pw_below_drewN | apply below_drew1) | exact HB.out)) hb); clear HB; have HO144 := n0_; have HB := n1_; clear n0_ n1_; (try clear hb); (try clear hb2); (try clear hk); (try clear hi); (try clear ho0)))
        go_loopg [7] kj2 (fun kq v7 w' => ∃ (x6_2 : List Int) (x7_2 : Int), v7 = .int .i64 x7_2 ∧ Aside0 (redpenref10_Src.l0 kq a0 a1 x6_2 x7_2 = some (r1, r2)) ∧ Aside0 (kq ≤ kj2) ∧ Aside0 (Kd.R (Kd.int .u8) 43 w' w.heap.size (fun _ => True) v143 x6_2) ∧ Aside0 (Below w.heap.size w w'))
        case atStart => exact ⟨(t142), (0), (by first | rfl | (simp; done) | (simp [*]; done)), H', ⟨Nat.le_refl _⟩, ⟨by (with_reducible repeat (first | apply Kd.R_alloc | apply Kd.R_drewN | apply Kd.R_drew)); exact HO144.out⟩, ⟨by repeat (first | (with_reducible first | exact HB.out | apply below_alloc | apply pw_below_drewN | apply below_drew1) | exact HB.out)⟩⟩
        case round =>
          clear H'
          try clear c1
          try clear c2
          try clear p2
          try clear c4
          try clear c4b0
          try clear c5
          try clear p2
          obtain ⟨x6_2, x7_2, rfl, HA, HK2, HO_6, HB⟩ := hrel
          cases gk with
          | zero => exact absurd HA.out (by simp [redpenref10_Src.l0])
          | succ k2 =>
            have H := HA.out
            clear HA
            simp only [redpenref10_Src.l0] at H
            by_cases c8 : x7_2 < (a1.size : Int)
            · rw [if_pos c8] at H
              have c8b0 : decide (x7_2 < (a1.size : Int)) = true := decide_eq_true c8
              clear c8
              replace H := Option.bind_eq_some_iff.mp H
              obtain ⟨t145, A90, H⟩ := H
              replace H : (if t145 > 0 then ((redpenref10_Labels_put.f k2 x6_2 3 x7_2 (wrap64 (x7_2 + t145))).bind fun t146 => (redpenref10_Src.l1 k2 a0 a1 t146 (wrap64 (x7_2 + t145)))) else (if a0 = 6 then (redpenref10_Src.j3 k2 a0 a1 x6_2 x7_2 false) else (if a0 = 7 then (redpenref10_Src.j3 k2 a0 a1 x6_2 x7_2 false) else ((redpenref10_at.f a1 x7_2 (⟨#[47, 42]⟩ : ByteArray)).bind fun t148 => (redpenref10_Src.j3 k2 a0 a1 x6_2 x7_2 t148))))) = some (r1, r2) := H
              have A9 := Aside0.mk A90
              clear A90
              by_cases c10 : t145 > 0
              · rw [if_pos c10] at H
                have c10b0 : decide (0 < t145) = true := decide_eq_true c10
                clear c10
                replace H := Option.bind_eq_some_iff.mp H
                obtain ⟨t146, A110, H⟩ := H
                replace H : (redpenref10_Src.l1 k2 a0 a1 t146 (wrap64 (x7_2 + t145))) = some (r1, r2) := H
                have A11 := Aside0.mk A110
                clear A110
                have H' := Aside0.mk H
                clear H
                go_wp2_with (first | ((with_reducible refine gate_callee (f := 23) rfl ?_); refine goesL_ (some 27) rfl rfl Try.func23 (by kernel_rfl) rfl #[.int .u8 a0, .string a1, .int .i64 x7_2] rfl (by (try simp only [List.map_toArray, List.map_cons, List.map_nil]); first | done | rfl | (simp only [List.length_drop, List.length_take]; rfl)) ?_; (with_reducible refine (redpenref10_note.calls k2 a0 a1 x7_2 t145 _ A9.out).mono ?_); rintro e w' ⟨rfl, ⟨nd, rfl⟩⟩; refine ⟨_, rfl, ?_⟩; obtain ⟨Ao12, co12, eo12⟩ := Kd.R_slice HO_6.out; subst eo12) | ((with_reducible refine gate_callee (f := 24) rfl ?_); refine goesL_ (some 35) rfl rfl Try.func24 (by kernel_rfl) rfl #[.slice Ao12 x6_2.length co12, .int .u8 3, .int .i64 x7_2, .int .i64 (wrap64 (x7_2 + t145))] rfl (by (try simp only [List.map_toArray, List.map_cons, List.map_nil]); first | done | rfl | (simp only [List.length_drop, List.length_take]; rfl)) ?_; (with_reducible refine (redpenref10_Labels_put.calls k2 (fun k_ => some k_ = (.slice Ao12 x6_2.length co12 : Value).ownBlock) (.slice Ao12 x6_2.length co12) x6_2 3 x7_2 (wrap64 (x7_2 + t145)) t146 w _ ?side1 ?side2 A11.out).mono ?_); (case side1 => repeat (first | (with_reducible first | exact HB.out | apply below_alloc | apply pw_below_drewN | apply below_drew1) | exact HB.out)); (case side2 => exact Kd.R_tight rfl HO_6.out); rintro e w13 ⟨rfl, hy0, hb, hkp⟩; refine ⟨_, rfl, ?_⟩; have n0_ := Aside0.mk (Kd.R_reok rfl hy0 (fun k_ e_ => HO_6.out.1 k_ e_)); have n1_ := Aside0.mk (hb); clear HO_6; clear HB; have HO_6 := n0_; have HB := n1_; clear n0_ n1_; (try clear hb); (try clear hkp); (try clear hy0)))
                go_loopg [7] k2 (fun kq v7 w' => ∃ (x6_3 : List Int) (x7_3 : Int), v7 = .int .i64 x7_3 ∧ Aside0 (redpenref10_Src.l1 kq a0 a1 x6_3 x7_3 = some (r1, r2)) ∧ Aside0 (kq ≤ k2) ∧ Aside0 (Kd.R (Kd.int .u8) 43 w' w.heap.size (fun _ => True) (.slice Ao12 x6_2.length co12) x6_3) ∧ Aside0 (Below w.heap.size w w'))
                case atStart => exact ⟨(t146), (wrap64 (x7_2 + t145)), (by first | rfl | (simp; done) | (simp [*]; done)), H', ⟨Nat.le_refl _⟩, ⟨by (with_reducible repeat (first | apply Kd.R_alloc | apply Kd.R_drewN | apply Kd.R_drew)); exact HO_6.out⟩, ⟨by repeat (first | (with_reducible first | exact HB.out | apply below_alloc | apply pw_below_drewN | apply below_drew1) | exact HB.out)⟩⟩
                case round =>
                  clear H'
                  try clear c1
                  try clear c2
                  try clear p2
                  try clear c4
                  try clear c4b0
                  try clear c5
                  try clear p6
                  try clear c8
                  try clear c8b0
                  try clear c10
                  try clear c10b0
                  try clear c13
                  try clear p2
                  obtain ⟨x6_3, x7_3, rfl, HA, HK3, HO_6, HB⟩ := hrel
                  have hl6_3 := (Kd.R_reads' HO_6.out).1
                  rw [hl6_3] at HO_6
                  (try simp only [hl6_3])
                  cases gk with
                  | zero => exact absurd HA.out (by simp [redpenref10_Src.l1])
                  | succ k3 =>
                    have H := HA.out
                    clear HA
                    simp only [redpenref10_Src.l1] at H
                    by_cases c14 : x7_3 < (a1.size : Int)
                    · rw [if_pos c14] at H
                      have c14b0 : decide (x7_3 < (a1.size : Int)) = true := decide_eq_true c14
                      clear c14
                      by_cases c15 : 0 ≤ x7_3
                      · rw [if_pos c15] at H
                        have c15b0 : decide (0 ≤ x7_3) = true := decide_eq_true c15
                        clear c15
                        by_cases c17 : (bt a1 x7_3) = 10
                        · rw [if_pos c17] at H
                          have c17b0 : ((bt a1 x7_3) == 10) = true := beq_iff_eq.mpr c17
                          have c17b1 : ((bt a1 x7_3) != 10) = false := bne_eq_false_iff_eq.mpr c17
                          clear c17
                          have H' := Aside0.mk H
                          clear H
                          have p16 : 0 ≤ (x7_3 : Int) := of_decide_eq_true (by first | (with_reducible assumption) | assumption)
                          have q16 : x7_3 < (a1.size : Int) := of_decide_eq_true (by first | (with_reducible assumption) | assumption)
                          have hx16 := bt_at a1 x7_3
                          replace p16 := eq_true p16
                          replace q16 := eq_true q16
                          go_wp2
                          (try simp only [← hl6_3])
                          go_roundg k3
                          case measure => have := HJ2.out; have := HK2.out; have := HK3.out; omega
                          case rel => exact ⟨(x6_3), (x7_3), (by first | rfl | (simp; done) | (simp [*]; done)), H', ⟨by have := HJ2.out; have := HK2.out; have := HK3.out; omega⟩, ⟨by (try simp only [hl6_3]); (with_reducible repeat (first | apply Kd.R_alloc | apply Kd.R_drewN | apply Kd.R_drew)); exact HO_6.out⟩, ⟨by repeat (first | (with_reducible first | exact HB.out | apply below_alloc | apply pw_below_drewN | apply below_drew1) | exact HB.out)⟩⟩
                        · rw [if_neg c17] at H
                          have c17b0 : ((bt a1 x7_3) == 10) = false := beq_eq_false_iff_ne.mpr c17
                          have c17b1 : ((bt a1 x7_3) != 10) = true := bne_iff_ne.mpr c17
                          by_cases c18 : x7_3 < (x6_3.length : Int)
                          · rw [if_pos c18] at H
                            have c18b0 : decide (x7_3 < (x6_3.length : Int)) = true := decide_eq_true c18
                            clear c18
                            obtain ⟨y147, hy147⟩ : ∃ y_ : List Int, y_ = (x6_3.set (x7_3 : Int).toNat 1) := ⟨_, rfl⟩
                            replace H : (redpenref10_Src.l1 k3 a0 a1 y147 (wrap64 (x7_3 + 1))) = some (r1, r2) := by first | (rw [hy147]; with_reducible exact H) | (have H2_ := (Option.bind_some _ _).symm.trans H; rw [hy147]; with_reducible exact H2_) | (have H2_ := (Option.bind_some _ _).symm.trans H; with_reducible exact H2_) | with_reducible exact H | (rw [hy147]; exact H) | exact H
                            have Ny147 := Aside0.mk hy147
                            clear hy147
                            have H' := Aside0.mk H
                            clear H
                            have p16 : 0 ≤ (x7_3 : Int) := of_decide_eq_true (by first | (with_reducible assumption) | assumption)
                            have q16 : x7_3 < (a1.size : Int) := of_decide_eq_true (by first | (with_reducible assumption) | assumption)
                            have hx16 := bt_at a1 x7_3
                            replace p16 := eq_true p16
                            replace q16 := eq_true q16
                            have p19 : 0 ≤ (x7_3 : Int) := of_decide_eq_true (by first | (with_reducible assumption) | assumption)
                            have q19 : (x7_3 : Int) < ((x6_3.length : Int) : Int) := of_decide_eq_true (by first | (with_reducible assumption) | assumption)
                            obtain ⟨go19, co19, eo19, gb19, gl19, cl19, HG19⟩ := Kd.R_form HO_6.out (by omega)
                            (first | cases eo19 | (injection eo19 with ea_ en_ ec_; (first | subst ea_ | (injection ea_ with ea_; subst ea_)); subst ec_; clear en_))
                            have GB19 := Aside0.mk gb19
                            have GG19 := Aside0.mk HG19
                            clear gb19 gl19 HG19
                            obtain ⟨hx19_0, hf19_0⟩ := Kd.R_celln 0 HO_6.out (x7_3 : Int) p19 q19
                            replace p19 := eq_true p19
                            replace q19 := eq_true q19
                            have HP20 := Kd.R_putg HO_6.out (x7_3 : Int) 1
                            go_wp2_with (first | ((with_reducible refine gate_store (t := 43) (p := 51) rfl ?_); refine store_event (t := 43) (p := 51) (v := ?vo_w21) (w1 := (wr.setCell ⟨go19, (x7_3 : Int).toNat, none⟩ (.int .u8 1))) ?hg ?ho ?hn ?hr ?_; (case ho => rfl); (case hg => rfl); (case hn => rfl); (case hr => first | (go_simp; done) | (go_simp; rfl)); intro w21 hw; have hg : wr.grownBy w21 (some go19) := (by rw [hw]; exact HP20.2); have hp_ : Kd.R (Kd.int .u8) 43 w21 w.heap.size (fun _ => True) (.slice (some ⟨go19, 0, none⟩) x6_3.length co12) y147 := (by rw [hw, Ny147.out]; exact HP20.1); clear HP20; have n0_ := Aside0.mk (hp_); have n1_ := Aside0.mk ((by rw [hw]; exact below_set (HB.out) GB19.out : Below w.heap.size w w21)); clear HO_6; clear HB; have HO_6 := n0_; have HB := n1_; clear n0_ n1_; clear hg hw hp_))
                            (try simp only [← hl6_3])
                            go_roundg k3
                            case measure => have := HJ2.out; have := HK2.out; have := HK3.out; omega
                            case rel => exact ⟨(y147), (wrap64 (x7_3 + 1)), (by first | rfl | (simp; done) | (simp [*]; done)), H', ⟨by have := HJ2.out; have := HK2.out; have := HK3.out; omega⟩, ⟨by (try simp only [hl6_3]); (with_reducible repeat (first | apply Kd.R_alloc | apply Kd.R_drewN | apply Kd.R_drew)); exact HO_6.out⟩, ⟨by repeat (first | (with_reducible first | exact HB.out | apply below_alloc | apply pw_below_drewN | apply below_drew1) | exact HB.out)⟩⟩
                          · rw [if_neg c18] at H
                            exact absurd H (by simp)
                      · rw [if_neg c15] at H
                        exact absurd H (by simp)
                    · rw [if_neg c14] at H
                      have c14b0 : decide (x7_3 < (a1.size : Int)) = false := decide_eq_false c14
                      clear c14
                      have H' := Aside0.mk H
                      clear H
                      go_wp2
                      (try simp only [← hl6_3])
                      go_roundg k3
                      case measure => have := HJ2.out; have := HK2.out; have := HK3.out; omega
                      case rel => exact ⟨(x6_3), (x7_3), (by first | rfl | (simp; done) | (simp [*]; done)), H', ⟨by have := HJ2.out; have := HK2.out; have := HK3.out; omega⟩, ⟨by (try simp only [hl6_3]); (with_reducible repeat (first | apply Kd.R_alloc | apply Kd.R_drewN | apply Kd.R_drew)); exact HO_6.out⟩, ⟨by repeat (first | (with_reducible first | exact HB.out | apply below_alloc | apply pw_below_drewN | apply below_drew1) | exact HB.out)⟩⟩
              · rw [if_neg c10] at H
                have c10b0 : decide (0 < t145) = false := decide_eq_false c10
                clear c10
                have HC22 := Aside0.mk H
                clear H
                go_upto_region 13 with (first | ((with_reducible refine gate_callee (f := 23) rfl ?_); refine goesL_ (some 27) rfl rfl Try.func23 (by kernel_rfl) rfl #[.int .u8 a0, .string a1, .int .i64 x7_2] rfl (by (try simp only [List.map_toArray, List.map_cons, List.map_nil]); first | done | rfl | (simp only [List.length_drop, List.length_take]; rfl)) ?_; (with_reducible refine (redpenref10_note.calls k2 a0 a1 x7_2 t145 _ A9.out).mono ?_); rintro e w' ⟨rfl, ⟨nd, rfl⟩⟩; refine ⟨_, rfl, ?_⟩))
                (try simp only [Act.put, List.setIfInBounds_toArray, List.set_cons_zero, List.set_cons_succ])
                go_cut [64] (fun v64 wc => ∃ (kq : Nat) (x64_21 : Bool), v64 = .bool x64_21 ∧ Aside0 (redpenref10_Src.j3 kq a0 a1 x6_2 x7_2 x64_21 = some (r1, r2)) ∧ Aside0 (kq ≤ k2) ∧ Aside0 (Kd.R (Kd.int .u8) 43 wc w.heap.size (fun _ => True) v143 x6_2) ∧ Aside0 (Below w.heap.size w wc))
                case first =>
                  have H := HC22.out
                  clear HC22
                  by_cases c23 : a0 = 6
                  · rw [if_pos c23] at H
                    have c23b0 : (a0 == 6) = true := beq_iff_eq.mpr c23
                    have c23b1 : (a0 != 6) = false := bne_eq_false_iff_eq.mpr c23
                    clear c23
                    (first | rw [c23b0] | (simp only [i64_w, i32_w]; rw [c23b0]) | skip)
                    have H' := Aside0.mk H
                    clear H
                    go_wp2
                    go_meet
                    case rel => exact ⟨_, (false), (by first | rfl | (simp; done) | (simp [*]; done)), H', ⟨by have := HJ2.out; have := HK2.out; first | omega | exact Nat.le_refl _⟩, ⟨by (with_reducible repeat (first | apply Kd.R_alloc | apply Kd.R_drewN | apply Kd.R_drew)); exact HO_6.out⟩, ⟨by repeat (first | (with_reducible first | exact HB.out | apply below_alloc | apply pw_below_drewN | apply below_drew1) | exact HB.out)⟩⟩
                  · rw [if_neg c23] at H
                    have c23b0 : (a0 == 6) = false := beq_eq_false_iff_ne.mpr c23
                    have c23b1 : (a0 != 6) = true := bne_iff_ne.mpr c23
                    (first | rw [c23b0] | (simp only [i64_w, i32_w]; rw [c23b0]) | skip)
                    by_cases c24 : a0 = 7
                    · rw [if_pos c24] at H
                      have c24b0 : (a0 == 7) = true := beq_iff_eq.mpr c24
                      have c24b1 : (a0 != 7) = false := bne_eq_false_iff_eq.mpr c24
                      clear c24
                      have H' := Aside0.mk H
                      clear H
                      go_wp2
                      go_meet
                      case rel => exact ⟨_, (false), (by first | rfl | (simp; done) | (simp [*]; done)), H', ⟨by have := HJ2.out; have := HK2.out; first | omega | exact Nat.le_refl _⟩, ⟨by (with_reducible repeat (first | apply Kd.R_alloc | apply Kd.R_drewN | apply Kd.R_drew)); exact HO_6.out⟩, ⟨by repeat (first | (with_reducible first | exact HB.out | apply below_alloc | apply pw_below_drewN | apply below_drew1) | exact HB.out)⟩⟩
                    · rw [if_neg c24] at H
                      have c24b0 : (a0 == 7) = false := beq_eq_false_iff_ne.mpr c24
                      have c24b1 : (a0 != 7) = true := bne_iff_ne.mpr c24
                      replace H := Option.bind_eq_some_iff.mp H
                      obtain ⟨t148, A250, H⟩ := H
                      replace H : (redpenref10_Src.j3 k2 a0 a1 x6_2 x7_2 t148) = some (r1, r2) := H
                      have A25 := Aside0.mk A250
                      clear A250
                      have H' := Aside0.mk H
                      clear H
                      go_wp2_with (first | (go_at_call 25; (with_reducible refine (redpenref10_at.calls a1 x7_2 (⟨#[47, 42]⟩ : ByteArray) t148 _ A25.out).mono ?_); rintro e w' ⟨rfl, ⟨nd, rfl⟩⟩))
                      go_meet
                      case rel => exact ⟨_, (t148), (by first | rfl | (simp; done) | (simp [*]; done)), H', ⟨by have := HJ2.out; have := HK2.out; first | omega | exact Nat.le_refl _⟩, ⟨by (with_reducible repeat (first | apply Kd.R_alloc | apply Kd.R_drewN | apply Kd.R_drew)); exact HO_6.out⟩, ⟨by repeat (first | (with_reducible first | exact HB.out | apply below_alloc | apply pw_below_drewN | apply below_drew1) | exact HB.out)⟩⟩
                case rest =>
                  clear HC22
                  try clear c1
                  try clear p1
                  try clear q1
                  try clear hx1
                  try clear c2
                  try clear p2
                  try clear c4
                  try clear c4b0
                  try clear c5
                  try clear p6
                  try clear c8
                  try clear c8b0
                  try clear c10
                  try clear c10b0
                  try clear c13
                  try clear c14
                  try clear c14b0
                  try clear c15
                  try clear c15b0
                  try clear p16
                  try clear q16
                  try clear hx16
                  try clear c17
                  try clear c17b0
                  try clear c17b1
                  try clear c18
                  try clear c18b0
                  try clear p19
                  try clear q19
                  try clear hx19
                  try clear hf19
                  try clear c22
                  try clear c23
                  try clear c23b0
                  try clear c23b1
                  try clear c24
                  try clear c24b0
                  try clear c24b1
                  try clear hx19_0
                  try clear p16
                  try clear p19
                  try clear p2
                  try clear p6
                  try clear q16
                  try clear q19
                  obtain ⟨kq, x64_21, rfl, HA, HJ21, HO_6, HB⟩ := hcut
                  cases kq with
                  | zero => exact absurd HA.out (by simp [redpenref10_Src.j3])
                  | succ kj21 =>
                    have H := HA.out
                    clear HA
                    simp only [redpenref10_Src.j3] at H
                    by_cases c26 : x64_21 = true
                    · subst c26
                      have H1 : ((redpenref10_Labels_block.f kj21 x6_2 a1 x7_2 (a0 == 8)).bind fun bt149 => (redpenref10_Src.l0 kj21 a0 a1 bt149.2 bt149.1)) = some (r1, r2) := by rw [if_pos rfl] at H; exact H
                      clear H
                      have H := H1
                      clear H1
                      replace H := Option.bind_eq_some_iff.mp H
                      obtain ⟨⟨t149, t150⟩, A270, H⟩ := H
                      replace H : (redpenref10_Src.l0 kj21 a0 a1 t150 t149) = some (r1, r2) := H
                      have A27 := Aside0.mk A270
                      clear A270
                      have H' := Aside0.mk H
                      clear H
                      obtain ⟨Ao28, co28, eo28⟩ := Kd.R_slice HO_6.out
                      subst eo28
                      go_wp2_with (first | ((with_reducible refine gate_callee (f := 26) rfl ?_); refine goesL_ (some 70) rfl rfl Try.func26 (by kernel_rfl) rfl #[.slice Ao28 x6_2.length co28, .string a1, .int .i64 x7_2, .bool (a0 == 8)] rfl (by (try simp only [List.map_toArray, List.map_cons, List.map_nil]); first | done | rfl | (simp only [List.length_drop, List.length_take]; rfl)) ?_; (with_reducible refine (redpenref10_Labels_block.calls kj21 (fun k_ => some k_ = (.slice Ao28 x6_2.length co28 : Value).ownBlock) (.slice Ao28 x6_2.length co28) x6_2 a1 x7_2 (a0 == 8) t149 t150 w _ ?side1 ?side2 A27.out).mono ?_); (case side1 => repeat (first | (with_reducible first | exact HB.out | apply below_alloc | apply pw_below_drewN | apply below_drew1) | exact HB.out)); (case side2 => exact Kd.R_tight rfl HO_6.out); rintro e w29 ⟨rfl, hy0, hb, hkp⟩; refine ⟨_, rfl, ?_⟩; have n0_ := Aside0.mk (Kd.R_reok rfl hy0 (fun k_ e_ => HO_6.out.1 k_ e_)); have n1_ := Aside0.mk (hb); clear HO_6; clear HB; have HO_6 := n0_; have HB := n1_; clear n0_ n1_; (try clear hb); (try clear hkp); (try clear hy0)))
                      go_roundg kj21
                      case measure => have := HJ2.out; have := HK2.out; have := HJ21.out; omega
                      case rel => exact ⟨(t150), (t149), (by first | rfl | (simp; done) | (simp [*]; done)), H', ⟨by have := HJ2.out; have := HK2.out; have := HJ21.out; omega⟩, ⟨by (with_reducible repeat (first | apply Kd.R_alloc | apply Kd.R_drewN | apply Kd.R_drew)); exact HO_6.out⟩, ⟨by repeat (first | (with_reducible first | exact HB.out | apply below_alloc | apply pw_below_drewN | apply below_drew1) | exact HB.out)⟩⟩
                    · replace c26 := Bool.eq_false_iff.mpr c26
                      subst c26
                      have H1 : ((redpenref10_quotes.f a0).bind fun t151 => (redpenref10_Src.l2 kj21 a0 a1 x6_2 x7_2 t151 0)) = some (r1, r2) := by rw [if_neg (show ¬ (false = true) by decide)] at H; exact H
                      clear H
                      have H := H1
                      clear H1
                      replace H := Option.bind_eq_some_iff.mp H
                      obtain ⟨t151, A300, H⟩ := H
                      replace H : (redpenref10_Src.l2 kj21 a0 a1 x6_2 x7_2 t151 0) = some (r1, r2) := H
                      have A30 := Aside0.mk A300
                      clear A300
                      have H' := Aside0.mk H
                      clear H
                      go_wp2_with (first | ((with_reducible refine gate_callee (f := 27) rfl ?_); refine goesL_ (some 72) rfl rfl Try.func27 (by kernel_rfl) rfl #[.int .u8 a0] rfl (by (try simp only [List.map_toArray, List.map_cons, List.map_nil]); first | done | rfl | (simp only [List.length_drop, List.length_take]; rfl)) ?_; (with_reducible refine (redpenref10_quotes.calls a0 t151 _ A30.out).mono ?_); rintro e w31 ⟨v152, rfl, ho0, hb⟩; refine ⟨_, rfl, ?_⟩; have n0_ := Aside0.mk (Kd.R_below (by (with_reducible repeat (first | apply Kd.R_alloc | apply Kd.R_drewN | apply Kd.R_drew)); exact HO_6.out) hb); have n1_ := Aside0.mk (Kd.R_lower ho0 (below_size (by repeat (first | (with_reducible first | exact HB.out | apply below_alloc | apply pw_below_drewN | apply below_drew1) | exact HB.out)))); have n2_ := Aside0.mk (below_step (by repeat (first | (with_reducible first | exact HB.out | apply below_alloc | apply pw_below_drewN | apply below_drew1) | exact HB.out)) hb); clear HO_6; clear HB; have HO_6 := n0_; have HO153 := n1_; have HB := n2_; clear n0_ n1_ n2_; (try clear hb); (try clear hb2); (try clear hk); (try clear hi); (try clear ho0)))
                      go_loopg [10] kj21 (fun kq v10 w' => ∃ (x10_4 : Int), v10 = .int .i64 x10_4 ∧ Aside0 (redpenref10_Src.l2 kq a0 a1 x6_2 x7_2 t151 x10_4 = some (r1, r2)) ∧ Aside0 (kq ≤ kj21) ∧ Aside0 (Kd.R (Kd.int .u8) 43 w' w.heap.size (fun _ => True) v143 x6_2) ∧ Aside0 (Kd.R k69 69 w' w.heap.size (fun _ => True) v152 t151) ∧ Aside0 (Below w.heap.size w w'))
                      case atStart => exact ⟨(0), (by first | rfl | (simp; done) | (simp [*]; done)), H', ⟨Nat.le_refl _⟩, ⟨by (with_reducible repeat (first | apply Kd.R_alloc | apply Kd.R_drewN | apply Kd.R_drew)); exact HO_6.out⟩, ⟨by (with_reducible repeat (first | apply Kd.R_alloc | apply Kd.R_drewN | apply Kd.R_drew)); exact HO153.out⟩, ⟨by repeat (first | (with_reducible first | exact HB.out | apply below_alloc | apply pw_below_drewN | apply below_drew1) | exact HB.out)⟩⟩
                      case round =>
                        clear H'
                        try clear c1
                        try clear p1
                        try clear q1
                        try clear hx1
                        try clear c2
                        try clear p2
                        try clear c4
                        try clear c4b0
                        try clear c5
                        try clear p6
                        try clear c8
                        try clear c8b0
                        try clear c10
                        try clear c10b0
                        try clear c13
                        try clear c14
                        try clear c14b0
                        try clear c15
                        try clear c15b0
                        try clear p16
                        try clear q16
                        try clear hx16
                        try clear c17
                        try clear c17b0
                        try clear c17b1
                        try clear c18
                        try clear c18b0
                        try clear p19
                        try clear q19
                        try clear hx19
                        try clear hf19
                        try clear c22
                        try clear c23
                        try clear c23b0
                        try clear c23b1
                        try clear c24
                        try clear c24b0
                        try clear c24b1
                        try clear c26
                        try clear c27
                        try clear hx19_0
                        try clear p1
                        try clear p16
                        try clear p19
                        try clear p2
                        try clear p6
                        try clear q1
                        try clear q16
                        try clear q19
                        obtain ⟨x10_4, rfl, HA, HK4, HO_6, HO_9, HB⟩ := hrel
                        cases gk with
                        | zero => exact absurd HA.out (by simp [redpenref10_Src.l2])
                        | succ k4 =>
                          have H := HA.out
                          clear HA
                          simp only [redpenref10_Src.l2] at H
                          by_cases c32 : x10_4 < (t151.length : Int)
                          · rw [if_pos c32] at H
                            have c32b0 : decide (x10_4 < (t151.length : Int)) = true := decide_eq_true c32
                            clear c32
                            by_cases c33 : 0 ≤ x10_4
                            · rw [if_pos c33] at H
                              have c33b0 : decide (0 ≤ x10_4) = true := decide_eq_true c33
                              clear c33
                              replace H := Option.bind_eq_some_iff.mp H
                              obtain ⟨t155, A340, H⟩ := H
                              replace H : (if t155 = true then (if x10_4 = (t151.length : Int) then (redpenref10_Src.l0 k4 a0 a1 x6_2 (wrap64 (x7_2 + 1))) else ((redpenref10_Labels_quoted.f k4 x6_2 a1 (wrap64 (x7_2 + (((rd_T69 t151 x10_4).f0).size : Int))) ((rd_T69 t151 x10_4).f0) ((rd_T69 t151 x10_4).f1) ((rd_T69 t151 x10_4).f2) ((rd_T69 t151 x10_4).f3) ((rd_T69 t151 x10_4).f4)).bind fun bt158 => (redpenref10_Src.l0 k4 a0 a1 bt158.2 bt158.1))) else (redpenref10_Src.l2 k4 a0 a1 x6_2 x7_2 t151 (wrap64 (x10_4 + 1)))) = some (r1, r2) := H
                              have A34 := Aside0.mk A340
                              clear A340
                              by_cases c35 : t155 = true
                              · subst c35
                                have H1 : (if x10_4 = (t151.length : Int) then (redpenref10_Src.l0 k4 a0 a1 x6_2 (wrap64 (x7_2 + 1))) else ((redpenref10_Labels_quoted.f k4 x6_2 a1 (wrap64 (x7_2 + (((rd_T69 t151 x10_4).f0).size : Int))) ((rd_T69 t151 x10_4).f0) ((rd_T69 t151 x10_4).f1) ((rd_T69 t151 x10_4).f2) ((rd_T69 t151 x10_4).f3) ((rd_T69 t151 x10_4).f4)).bind fun bt158 => (redpenref10_Src.l0 k4 a0 a1 bt158.2 bt158.1))) = some (r1, r2) := by rw [if_pos rfl] at H; exact H
                                clear H
                                have H := H1
                                clear H1
                                by_cases c36 : x10_4 = (t151.length : Int)
                                · rw [if_pos c36] at H
                                  have c36b0 : (x10_4 == (t151.length : Int)) = true := beq_iff_eq.mpr c36
                                  have c36b1 : (x10_4 != (t151.length : Int)) = false := bne_eq_false_iff_eq.mpr c36
                                  clear c36
                                  have H' := Aside0.mk H
                                  clear H
                                  obtain ⟨Ao37, co37, eo37⟩ := Kd.R_slice HO_9.out
                                  subst eo37
                                  have p154 : 0 ≤ (x10_4 : Int) := of_decide_eq_true (by first | (with_reducible assumption) | assumption)
                                  have q154 : x10_4 < (t151.length : Int) := of_decide_eq_true (by first | (with_reducible assumption) | assumption)
                                  obtain ⟨ad154, e154, hx154_0, hx154_1, hx154_2, hx154_3, hx154_4⟩ := at_T69 (Kd.R_reads' HO_9.out).2.2 x10_4 p154 q154
                                  cases e154
                                  replace p154 := eq_true p154
                                  replace q154 := eq_true q154
                                  go_wp2_with (first | (go_at_call 25; (with_reducible refine (redpenref10_at.calls a1 x7_2 ((rd_T69 t151 x10_4).f0) true _ A34.out).mono ?_); rintro e w' ⟨rfl, ⟨nd, rfl⟩⟩))
                                  go_roundg k4
                                  case measure => have := HJ2.out; have := HK2.out; have := HJ21.out; have := HK4.out; omega
                                  case rel => exact ⟨(x6_2), (wrap64 (x7_2 + 1)), (by first | rfl | (simp; done) | (simp [*]; done)), H', ⟨by have := HJ2.out; have := HK2.out; have := HJ21.out; have := HK4.out; omega⟩, ⟨by (with_reducible repeat (first | apply Kd.R_alloc | apply Kd.R_drewN | apply Kd.R_drew)); exact HO_6.out⟩, ⟨by repeat (first | (with_reducible first | exact HB.out | apply below_alloc | apply pw_below_drewN | apply below_drew1) | exact HB.out)⟩⟩
                                · rw [if_neg c36] at H
                                  have c36b0 : (x10_4 == (t151.length : Int)) = false := beq_eq_false_iff_ne.mpr c36
                                  have c36b1 : (x10_4 != (t151.length : Int)) = true := bne_iff_ne.mpr c36
                                  replace H := Option.bind_eq_some_iff.mp H
                                  obtain ⟨⟨t158, t159⟩, A380, H⟩ := H
                                  replace H : (redpenref10_Src.l0 k4 a0 a1 t159 t158) = some (r1, r2) := H
                                  have A38 := Aside0.mk A380
                                  clear A380
                                  have H' := Aside0.mk H
                                  clear H
                                  obtain ⟨Ao39, co39, eo39⟩ := Kd.R_slice HO_9.out
                                  subst eo39
                                  have p154 : 0 ≤ (x10_4 : Int) := of_decide_eq_true (by first | (with_reducible assumption) | assumption)
                                  have q154 : x10_4 < (t151.length : Int) := of_decide_eq_true (by first | (with_reducible assumption) | assumption)
                                  obtain ⟨ad154, e154, hx154_0, hx154_1, hx154_2, hx154_3, hx154_4⟩ := at_T69 (Kd.R_reads' HO_9.out).2.2 x10_4 p154 q154
                                  cases e154
                                  replace p154 := eq_true p154
                                  replace q154 := eq_true q154
                                  try go_wp2_with (first | (go_at_call 25; (with_reducible refine (redpenref10_at.calls a1 x7_2 ((rd_T69 t151 x10_4).f0) true _ A34.out).mono ?_); rintro e w' ⟨rfl, ⟨nd, rfl⟩⟩))
                                  (try (rw [drewN_self wr]; generalize hq_ : World.drewN wr _ = wr; have n0_ : Aside0 (Kd.R (Kd.int .u8) 43 wr w.heap.size (fun _ => True) v143 x6_2) := ⟨by rw [← hq_]; exact (by (with_reducible repeat (first | apply Kd.R_alloc | apply Kd.R_drewN | apply Kd.R_drew)); exact HO_6.out)⟩; have n1_ : Aside0 (Kd.R k69 69 wr w.heap.size (fun _ => True) (.slice (some ad154) t151.length co39) t151) := ⟨by rw [← hq_]; exact (by (with_reducible repeat (first | apply Kd.R_alloc | apply Kd.R_drewN | apply Kd.R_drew)); exact HO_9.out)⟩; have n2_ : Aside0 (Below w.heap.size w wr) := ⟨by rw [← hq_]; exact (by repeat (first | (with_reducible first | exact HB.out | apply below_alloc | apply pw_below_drewN | apply below_drew1) | exact HB.out))⟩; clear HO_6 HO_9 HB hq_; have HO_6 := n0_; have HO_9 := n1_; have HB := n2_; clear n0_ n1_ n2_))
                                  have n0_ := Aside0.mk (Kd.R_drew HO_6.out)
                                  have n1_ := Aside0.mk (Kd.R_drew HO_9.out)
                                  have n2_ := Aside0.mk (below_drew1 HB.out)
                                  clear HO_6
                                  clear HO_9
                                  clear HB
                                  have HO_6 := n0_
                                  have HO_9 := n1_
                                  have HB := n2_
                                  clear n0_ n1_ n2_
                                  have p156 : 0 ≤ (x10_4 : Int) := of_decide_eq_true (by first | (with_reducible assumption) | assumption)
                                  have q156 : x10_4 < (t151.length : Int) := of_decide_eq_true (by first | (with_reducible assumption) | assumption)
                                  obtain ⟨ad156, e156, hx156_0, hx156_1, hx156_2, hx156_3, hx156_4⟩ := at_T69 (Kd.R_reads' HO_9.out).2.2 x10_4 p156 q156
                                  obtain rfl : ad154 = ad156 := (by injection e156)
                                  replace p156 := eq_true p156
                                  replace q156 := eq_true q156
                                  have p157 : 0 ≤ (x10_4 : Int) := of_decide_eq_true (by first | (with_reducible assumption) | assumption)
                                  have q157 : x10_4 < (t151.length : Int) := of_decide_eq_true (by first | (with_reducible assumption) | assumption)
                                  obtain ⟨ad157, e157, hx157_0, hx157_1, hx157_2, hx157_3, hx157_4⟩ := at_T69 (Kd.R_reads' HO_9.out).2.2 x10_4 p157 q157
                                  obtain rfl : ad154 = ad157 := (by injection e157)
                                  replace p157 := eq_true p157
                                  replace q157 := eq_true q157
                                  obtain ⟨Ao41, co41, eo41⟩ := Kd.R_slice HO_6.out
                                  (first | subst eo41 | (injection eo41 with f1_ f2_ f3_; have f4_ := f1_.symm; have f5_ := f3_.symm; clear f1_ f2_ f3_; subst f4_; subst f5_))
                                  refine start_ (n := 16) (S := fun w' => w'.cell? (ad154.add ((x10_4).toNat * 5)) = some (.string ((rd_T69 t151 x10_4).f0)) ∧ w'.cell? ⟨(ad154.add ((x10_4).toNat * 5)).block, (ad154.add ((x10_4).toNat * 5)).off + 1, none⟩ = some (.bool ((rd_T69 t151 x10_4).f1)) ∧ w'.cell? ⟨(ad154.add ((x10_4).toNat * 5)).block, (ad154.add ((x10_4).toNat * 5)).off + 2, none⟩ = some (.bool ((rd_T69 t151 x10_4).f2)) ∧ w'.cell? ⟨(ad154.add ((x10_4).toNat * 5)).block, (ad154.add ((x10_4).toNat * 5)).off + 3, none⟩ = some (.bool ((rd_T69 t151 x10_4).f3)) ∧ w'.cell? ⟨(ad154.add ((x10_4).toNat * 5)).block, (ad154.add ((x10_4).toNat * 5)).off + 4, none⟩ = some (.bool ((rd_T69 t151 x10_4).f4)) ∧ w'.cell? (ad154.add ((x10_4).toNat * 5)) = some (.string ((rd_T69 t151 x10_4).f0)) ∧ w'.cell? ⟨(ad154.add ((x10_4).toNat * 5)).block, (ad154.add ((x10_4).toNat * 5)).off + 1, none⟩ = some (.bool ((rd_T69 t151 x10_4).f1)) ∧ w'.cell? ⟨(ad154.add ((x10_4).toNat * 5)).block, (ad154.add ((x10_4).toNat * 5)).off + 2, none⟩ = some (.bool ((rd_T69 t151 x10_4).f2)) ∧ w'.cell? ⟨(ad154.add ((x10_4).toNat * 5)).block, (ad154.add ((x10_4).toNat * 5)).off + 3, none⟩ = some (.bool ((rd_T69 t151 x10_4).f3)) ∧ w'.cell? ⟨(ad154.add ((x10_4).toNat * 5)).block, (ad154.add ((x10_4).toNat * 5)).off + 4, none⟩ = some (.bool ((rd_T69 t151 x10_4).f4))) (ds := []) #[false, false, false, false, false, false, false, false, false, false, false, false, false, false, false, false] (by kernel_rfl) rfl rfl ⟨hx156_0, hx156_1, hx156_2, hx156_3, hx156_4, hx157_0, hx157_1, hx157_2, hx157_3, hx157_4⟩ (fun hHeld => ?_); refine with_tabW redpenref10_Src.tab21 redpenref10_Src.bits21 (fun HT_ HW_ => ?_)
                                  generalize wr.drew = w40 at HO_6 HO_9 HB hx156_0 hx156_1 hx156_2 hx156_3 hx156_4 hx157_0 hx157_1 hx157_2 hx157_3 hx157_4 hHeld ⊢
                                  refine pure_ (i := 0) (N := some 96) (v := ?_) (a' := ?_) #[true, false, false, false, false, false, false, false, false, false, false, false, false, false, false, false] rfl rfl (any_of HT_.out (by kernel_rfl)) (fun _ _ _ h => h) (Or.inl ⟨by rfl, ?_⟩) ?_ ?_
                                  rotate_left
                                  · intro w'
                                    go_simp
                                    with_reducible rfl
                                  rotate_left
                                  · simp only [Act.put, List.setIfInBounds_toArray, List.set_cons_zero, List.set_cons_succ, i64_w, i32_w]
                                    rfl
                                  refine pure_ (i := 1) (N := some 97) (v := ?_) (a' := ?_) #[true, true, false, false, false, false, false, false, false, false, false, false, false, false, false, false] rfl rfl (any_of HT_.out (by kernel_rfl)) (fun _ _ _ h => h) (Or.inl ⟨by rfl, ?_⟩) ?_ ?_
                                  rotate_left
                                  · intro w'
                                    go_simp
                                    with_reducible rfl
                                  rotate_left
                                  · simp only [Act.put, List.setIfInBounds_toArray, List.set_cons_zero, List.set_cons_succ, i64_w, i32_w]
                                    rfl
                                  refine pure_ (i := 2) (N := some 98) (v := ?_) (a' := ?_) #[true, true, true, false, false, false, false, false, false, false, false, false, false, false, false, false] rfl rfl (any_of HT_.out (by kernel_rfl)) (fun _ _ _ h => h) (Or.inl ⟨by rfl, ?_⟩) ?_ ?_
                                  rotate_left
                                  · intro w'
                                    go_simp
                                    with_reducible rfl
                                  rotate_left
                                  · simp only [Act.put, List.setIfInBounds_toArray, List.set_cons_zero, List.set_cons_succ, i64_w, i32_w]
                                    rfl
                                  refine pure_ (i := 3) (N := some 99) (v := ?_) (a' := ?_) #[true, true, true, true, false, false, false, false, false, false, false, false, false, false, false, false] rfl rfl (any_of HT_.out (by kernel_rfl)) (fun _ _ _ h => h) (Or.inl ⟨by rfl, ?_⟩) ?_ ?_
                                  rotate_left
                                  · intro w'
                                    go_simp
                                    with_reducible rfl
                                  rotate_left
                                  · simp only [Act.put, List.setIfInBounds_toArray, List.set_cons_zero, List.set_cons_succ, i64_w, i32_w]
                                    rfl
                                  refine pure_ (i := 4) (N := some 100) (v := ?_) (a' := ?_) #[true, true, true, true, true, false, false, false, false, false, false, false, false, false, false, false] rfl rfl (any_of HT_.out (by kernel_rfl)) (fun _ _ _ h => h) (Or.inl ⟨by rfl, ?_⟩) ?_ ?_
                                  rotate_left
                                  · intro w'
                                    go_simp
                                    with_reducible rfl
                                  rotate_left
                                  · simp only [Act.put, List.setIfInBounds_toArray, List.set_cons_zero, List.set_cons_succ, i64_w, i32_w]
                                    rfl
                                  refine pure_ (i := 5) (N := some 101) (v := ?_) (a' := ?_) #[true, true, true, true, true, true, false, false, false, false, false, false, false, false, false, false] rfl rfl (any_of HT_.out (by kernel_rfl)) (fun _ _ _ h => h) (Or.inl ⟨by rfl, ?_⟩) ?_ ?_
                                  rotate_left
                                  · intro w'
                                    go_simp
                                    with_reducible rfl
                                  rotate_left
                                  · simp only [Act.put, List.setIfInBounds_toArray, List.set_cons_zero, List.set_cons_succ, i64_w, i32_w]
                                    rfl
                                  refine pure_ (i := 6) (N := some 102) (v := ?_) (a' := ?_) #[true, true, true, true, true, true, true, false, false, false, false, false, false, false, false, false] rfl rfl (any_of HT_.out (by kernel_rfl)) (fun _ _ _ h => h) (Or.inl ⟨by rfl, ?_⟩) ?_ ?_
                                  rotate_left
                                  · intro w'
                                    go_simp
                                    with_reducible rfl
                                  rotate_left
                                  · simp only [Act.put, List.setIfInBounds_toArray, List.set_cons_zero, List.set_cons_succ, i64_w, i32_w]
                                    rfl
                                  refine pure_ (i := 10) (N := some 106) (v := ?_) (a' := ?_) #[true, true, true, true, true, true, true, false, false, false, true, false, false, false, false, false] rfl rfl (any_of HT_.out (by kernel_rfl)) (fun _ _ _ h => h) (Or.inl ⟨by rfl, ?_⟩) ?_ ?_
                                  rotate_left
                                  · intro w'
                                    go_simp
                                    with_reducible rfl
                                  rotate_left
                                  · simp only [Act.put, List.setIfInBounds_toArray, List.set_cons_zero, List.set_cons_succ, i64_w, i32_w]
                                    rfl
                                  refine pure_ (i := 11) (N := some 107) (v := ?_) (a' := ?_) #[true, true, true, true, true, true, true, false, false, false, true, true, false, false, false, false] rfl rfl (any_of HT_.out (by kernel_rfl)) (fun _ _ _ h => h) (Or.inl ⟨by rfl, ?_⟩) ?_ ?_
                                  rotate_left
                                  · intro w'
                                    go_simp
                                    with_reducible rfl
                                  rotate_left
                                  · simp only [Act.put, List.setIfInBounds_toArray, List.set_cons_zero, List.set_cons_succ, i64_w, i32_w]
                                    rfl
                                  refine pure_ (i := 12) (N := some 108) (v := ?_) (a' := ?_) #[true, true, true, true, true, true, true, false, false, false, true, true, true, false, false, false] rfl rfl (any_of HT_.out (by kernel_rfl)) (fun _ _ _ h => h) (Or.inl ⟨by rfl, ?_⟩) ?_ ?_
                                  rotate_left
                                  · intro w'
                                    go_simp
                                    with_reducible rfl
                                  rotate_left
                                  · simp only [Act.put, List.setIfInBounds_toArray, List.set_cons_zero, List.set_cons_succ, i64_w, i32_w]
                                    rfl
                                  refine take_ (i := 7) (N := some 103) (v := ?_) (a' := ?_) #[true, true, true, true, true, true, true, true, false, false, true, true, true, false, false, false] rfl rfl (take_ofW HT_.out HW_.out (by kernel_rfl)) (fun _ _ _ h => h) (Or.inl ⟨by rfl, ?_⟩) hHeld ?_ ?_
                                  rotate_left
                                  · rintro w' ⟨s0, s1, s2, s3, s4, s5, s6, s7, s8, s9⟩
                                    go_simp
                                    with_reducible rfl
                                  rotate_left
                                  · simp only [Act.put, List.setIfInBounds_toArray, List.set_cons_zero, List.set_cons_succ, i64_w, i32_w]
                                    rfl
                                  refine pure_ (i := 8) (N := some 104) (v := ?_) (a' := ?_) #[true, true, true, true, true, true, true, true, true, false, true, true, true, false, false, false] rfl rfl (any_of HT_.out (by kernel_rfl)) (fun _ _ _ h => h) (Or.inl ⟨by rfl, ?_⟩) ?_ ?_
                                  rotate_left
                                  · intro w'
                                    go_simp
                                    with_reducible rfl
                                  rotate_left
                                  · simp only [Act.put, List.setIfInBounds_toArray, List.set_cons_zero, List.set_cons_succ, i64_w, i32_w]
                                    rfl
                                  refine pure_ (i := 9) (N := some 105) (v := ?_) (a' := ?_) #[true, true, true, true, true, true, true, true, true, true, true, true, true, false, false, false] rfl rfl (any_of HT_.out (by kernel_rfl)) (fun _ _ _ h => h) (Or.inl ⟨by rfl, ?_⟩) ?_ ?_
                                  rotate_left
                                  · intro w'
                                    go_simp
                                    with_reducible rfl
                                  rotate_left
                                  · simp only [Act.put, List.setIfInBounds_toArray, List.set_cons_zero, List.set_cons_succ, i64_w, i32_w]
                                    rfl
                                  refine take_ (i := 13) (N := some 109) (v := ?_) (a' := ?_) #[true, true, true, true, true, true, true, true, true, true, true, true, true, true, false, false] rfl rfl (take_ofW HT_.out HW_.out (by kernel_rfl)) (fun _ _ _ h => h) (Or.inl ⟨by rfl, ?_⟩) hHeld ?_ ?_
                                  rotate_left
                                  · rintro w' ⟨s0, s1, s2, s3, s4, s5, s6, s7, s8, s9⟩
                                    go_simp
                                    with_reducible rfl
                                  rotate_left
                                  · simp only [Act.put, List.setIfInBounds_toArray, List.set_cons_zero, List.set_cons_succ, i64_w, i32_w]
                                    rfl
                                  refine one_ (i := 14) (N := some 110) #[true, true, true, true, true, true, true, true, true, true, true, true, true, true, true, false] rfl rfl (one_of HT_.out (by kernel_rfl)) (by decide) (fun K hK => ?_)
                                  refine goes_ Try.func28 (by kernel_rfl) rfl #[.slice Ao41 x6_2.length co41, .string a1, .int .i64 (wrap64 (x7_2 + (((rd_T69 t151 x10_4).f0).size : Int))), .agg #[.string ((rd_T69 t151 x10_4).f0), .bool ((rd_T69 t151 x10_4).f1), .bool ((rd_T69 t151 x10_4).f2), .bool ((rd_T69 t151 x10_4).f3), .bool ((rd_T69 t151 x10_4).f4)]] (by rfl) rfl rfl (by (try simp only [List.map_toArray, List.map_cons, List.map_nil]); first | done | rfl | (simp only [List.length_drop, List.length_take]; rfl)) ?_
                                  with_reducible refine (redpenref10_Labels_quoted.calls k4 (fun k_ => some k_ = (.slice Ao41 x6_2.length co41 : Value).ownBlock) (.slice Ao41 x6_2.length co41) x6_2 a1 (wrap64 (x7_2 + (((rd_T69 t151 x10_4).f0).size : Int))) ((rd_T69 t151 x10_4).f0) ((rd_T69 t151 x10_4).f1) ((rd_T69 t151 x10_4).f2) ((rd_T69 t151 x10_4).f3) ((rd_T69 t151 x10_4).f4) t158 t159 w _ ?side1 ?side2 A38.out).mono ?_
                                  (case side1 => repeat (first | (with_reducible first | exact HB.out | apply below_alloc | apply pw_below_drewN | apply below_drew1) | exact HB.out))
                                  (case side2 => exact Kd.R_tight rfl HO_6.out)
                                  rintro e w42 ⟨rfl, hy0, hb, hkp⟩
                                  have HS0_ := cell_kept (hHeld.1) hkp (by first | (rw [add_block]; exact (fun hs_ => ((((Kd.R_apart' HO_9.out (Kd.R_typed HO_6.out) (by decide))).1 _ rfl).2) hs_)) | (show ¬ _; simp only [add_block]; exact (fun hs_ => ((((Kd.R_apart' HO_9.out (Kd.R_typed HO_6.out) (by decide))).1 _ rfl).2) hs_)) | exact (fun hs_ => ((((Kd.R_apart' HO_9.out (Kd.R_typed HO_6.out) (by decide))).1 _ rfl).2) hs_))
                                  have HS1_ := cell_kept (hHeld.2.1) hkp (by first | (rw [add_block]; exact (fun hs_ => ((((Kd.R_apart' HO_9.out (Kd.R_typed HO_6.out) (by decide))).1 _ rfl).2) hs_)) | (show ¬ _; simp only [add_block]; exact (fun hs_ => ((((Kd.R_apart' HO_9.out (Kd.R_typed HO_6.out) (by decide))).1 _ rfl).2) hs_)) | exact (fun hs_ => ((((Kd.R_apart' HO_9.out (Kd.R_typed HO_6.out) (by decide))).1 _ rfl).2) hs_))
                                  have HS2_ := cell_kept (hHeld.2.2.1) hkp (by first | (rw [add_block]; exact (fun hs_ => ((((Kd.R_apart' HO_9.out (Kd.R_typed HO_6.out) (by decide))).1 _ rfl).2) hs_)) | (show ¬ _; simp only [add_block]; exact (fun hs_ => ((((Kd.R_apart' HO_9.out (Kd.R_typed HO_6.out) (by decide))).1 _ rfl).2) hs_)) | exact (fun hs_ => ((((Kd.R_apart' HO_9.out (Kd.R_typed HO_6.out) (by decide))).1 _ rfl).2) hs_))
                                  have HS3_ := cell_kept (hHeld.2.2.2.1) hkp (by first | (rw [add_block]; exact (fun hs_ => ((((Kd.R_apart' HO_9.out (Kd.R_typed HO_6.out) (by decide))).1 _ rfl).2) hs_)) | (show ¬ _; simp only [add_block]; exact (fun hs_ => ((((Kd.R_apart' HO_9.out (Kd.R_typed HO_6.out) (by decide))).1 _ rfl).2) hs_)) | exact (fun hs_ => ((((Kd.R_apart' HO_9.out (Kd.R_typed HO_6.out) (by decide))).1 _ rfl).2) hs_))
                                  have HS4_ := cell_kept (hHeld.2.2.2.2.1) hkp (by first | (rw [add_block]; exact (fun hs_ => ((((Kd.R_apart' HO_9.out (Kd.R_typed HO_6.out) (by decide))).1 _ rfl).2) hs_)) | (show ¬ _; simp only [add_block]; exact (fun hs_ => ((((Kd.R_apart' HO_9.out (Kd.R_typed HO_6.out) (by decide))).1 _ rfl).2) hs_)) | exact (fun hs_ => ((((Kd.R_apart' HO_9.out (Kd.R_typed HO_6.out) (by decide))).1 _ rfl).2) hs_))
                                  have HS5_ := cell_kept (hHeld.2.2.2.2.2.1) hkp (by first | (rw [add_block]; exact (fun hs_ => ((((Kd.R_apart' HO_9.out (Kd.R_typed HO_6.out) (by decide))).1 _ rfl).2) hs_)) | (show ¬ _; simp only [add_block]; exact (fun hs_ => ((((Kd.R_apart' HO_9.out (Kd.R_typed HO_6.out) (by decide))).1 _ rfl).2) hs_)) | exact (fun hs_ => ((((Kd.R_apart' HO_9.out (Kd.R_typed HO_6.out) (by decide))).1 _ rfl).2) hs_))
                                  have HS6_ := cell_kept (hHeld.2.2.2.2.2.2.1) hkp (by first | (rw [add_block]; exact (fun hs_ => ((((Kd.R_apart' HO_9.out (Kd.R_typed HO_6.out) (by decide))).1 _ rfl).2) hs_)) | (show ¬ _; simp only [add_block]; exact (fun hs_ => ((((Kd.R_apart' HO_9.out (Kd.R_typed HO_6.out) (by decide))).1 _ rfl).2) hs_)) | exact (fun hs_ => ((((Kd.R_apart' HO_9.out (Kd.R_typed HO_6.out) (by decide))).1 _ rfl).2) hs_))
                                  have HS7_ := cell_kept (hHeld.2.2.2.2.2.2.2.1) hkp (by first | (rw [add_block]; exact (fun hs_ => ((((Kd.R_apart' HO_9.out (Kd.R_typed HO_6.out) (by decide))).1 _ rfl).2) hs_)) | (show ¬ _; simp only [add_block]; exact (fun hs_ => ((((Kd.R_apart' HO_9.out (Kd.R_typed HO_6.out) (by decide))).1 _ rfl).2) hs_)) | exact (fun hs_ => ((((Kd.R_apart' HO_9.out (Kd.R_typed HO_6.out) (by decide))).1 _ rfl).2) hs_))
                                  have HS8_ := cell_kept (hHeld.2.2.2.2.2.2.2.2.1) hkp (by first | (rw [add_block]; exact (fun hs_ => ((((Kd.R_apart' HO_9.out (Kd.R_typed HO_6.out) (by decide))).1 _ rfl).2) hs_)) | (show ¬ _; simp only [add_block]; exact (fun hs_ => ((((Kd.R_apart' HO_9.out (Kd.R_typed HO_6.out) (by decide))).1 _ rfl).2) hs_)) | exact (fun hs_ => ((((Kd.R_apart' HO_9.out (Kd.R_typed HO_6.out) (by decide))).1 _ rfl).2) hs_))
                                  have HS9_ := cell_kept (hHeld.2.2.2.2.2.2.2.2.2) hkp (by first | (rw [add_block]; exact (fun hs_ => ((((Kd.R_apart' HO_9.out (Kd.R_typed HO_6.out) (by decide))).1 _ rfl).2) hs_)) | (show ¬ _; simp only [add_block]; exact (fun hs_ => ((((Kd.R_apart' HO_9.out (Kd.R_typed HO_6.out) (by decide))).1 _ rfl).2) hs_)) | exact (fun hs_ => ((((Kd.R_apart' HO_9.out (Kd.R_typed HO_6.out) (by decide))).1 _ rfl).2) hs_))
                                  refine ⟨_, rfl, ?_⟩
                                  have n0_ := Aside0.mk (Kd.R_reok rfl hy0 (fun k_ e_ => HO_6.out.1 k_ e_))
                                  have n1_ := Aside0.mk (Kd.R_mono (ok' := fun k_ => True) (Kd.R_keptB ((Kd.R_apart' HO_9.out (Kd.R_typed HO_6.out) (by decide))) hkp (fun k_ hk_ hs_ => (hk_.2) hs_)) (fun k_ hk_ => trivial))
                                  have n2_ := Aside0.mk (hb)
                                  clear HO_6
                                  clear HO_9
                                  clear HB
                                  have HO_6 := n0_
                                  have HO_9 := n1_
                                  have HB := n2_
                                  clear n0_ n1_ n2_
                                  (try clear hb)
                                  (try clear hkp)
                                  (try clear hy0)
                                  refine hK.out _ _ ⟨HS0_, HS1_, HS2_, HS3_, HS4_, HS5_, HS6_, HS7_, HS8_, HS9_⟩ (fun hHeld => ?_)
                                  clear hK K
                                  refine norm_ (a' := ?_) ?_ ?_
                                  rotate_left
                                  · show Act.put _ (some 110) _ = _
                                    simp only [Act.put, List.setIfInBounds_toArray, List.set_cons_zero, List.set_cons_succ, i64_w, i32_w]
                                    rfl
                                  refine pure_ (i := 15) (N := some 7) (v := ?_) (a' := ?_) #[true, true, true, true, true, true, true, true, true, true, true, true, true, true, true, true] rfl rfl (any_of HT_.out (by kernel_rfl)) (fun _ _ _ h => h) (Or.inl ⟨by rfl, ?_⟩) ?_ ?_
                                  rotate_left
                                  · intro w'
                                    go_simp
                                    with_reducible rfl
                                  rotate_left
                                  · simp only [Act.put, List.setIfInBounds_toArray, List.set_cons_zero, List.set_cons_succ, i64_w, i32_w]
                                    rfl
                                  refine done_ (done_of HT_.out (by kernel_rfl)) ?_
                                  try go_wp2
                                  go_roundg k4
                                  case measure => have := HJ2.out; have := HK2.out; have := HJ21.out; have := HK4.out; omega
                                  case rel => exact ⟨(t159), (t158), (by first | rfl | (simp; done) | (simp [*]; done)), H', ⟨by have := HJ2.out; have := HK2.out; have := HJ21.out; have := HK4.out; omega⟩, ⟨by (with_reducible repeat (first | apply Kd.R_alloc | apply Kd.R_drewN | apply Kd.R_drew)); exact HO_6.out⟩, ⟨by repeat (first | (with_reducible first | exact HB.out | apply below_alloc | apply pw_below_drewN | apply below_drew1) | exact HB.out)⟩⟩
                              · replace c35 := Bool.eq_false_iff.mpr c35
                                subst c35
                                have H1 : (redpenref10_Src.l2 k4 a0 a1 x6_2 x7_2 t151 (wrap64 (x10_4 + 1))) = some (r1, r2) := by rw [if_neg (show ¬ (false = true) by decide)] at H; exact H
                                clear H
                                have H := H1
                                clear H1
                                have H' := Aside0.mk H
                                clear H
                                obtain ⟨Ao43, co43, eo43⟩ := Kd.R_slice HO_9.out
                                subst eo43
                                have p154 : 0 ≤ (x10_4 : Int) := of_decide_eq_true (by first | (with_reducible assumption) | assumption)
                                have q154 : x10_4 < (t151.length : Int) := of_decide_eq_true (by first | (with_reducible assumption) | assumption)
                                obtain ⟨ad154, e154, hx154_0, hx154_1, hx154_2, hx154_3, hx154_4⟩ := at_T69 (Kd.R_reads' HO_9.out).2.2 x10_4 p154 q154
                                cases e154
                                replace p154 := eq_true p154
                                replace q154 := eq_true q154
                                go_wp2_with (first | (go_at_call 25; (with_reducible refine (redpenref10_at.calls a1 x7_2 ((rd_T69 t151 x10_4).f0) false _ A34.out).mono ?_); rintro e w' ⟨rfl, ⟨nd, rfl⟩⟩))
                                go_roundg k4
                                case measure => have := HJ2.out; have := HK2.out; have := HJ21.out; have := HK4.out; omega
                                case rel => exact ⟨(wrap64 (x10_4 + 1)), (by first | rfl | (simp; done) | (simp [*]; done)), H', ⟨by have := HJ2.out; have := HK2.out; have := HJ21.out; have := HK4.out; omega⟩, ⟨by (with_reducible repeat (first | apply Kd.R_alloc | apply Kd.R_drewN | apply Kd.R_drew)); exact HO_6.out⟩, ⟨by (with_reducible repeat (first | apply Kd.R_alloc | apply Kd.R_drewN | apply Kd.R_drew)); exact HO_9.out⟩, ⟨by repeat (first | (with_reducible first | exact HB.out | apply below_alloc | apply pw_below_drewN | apply below_drew1) | exact HB.out)⟩⟩
                            · rw [if_neg c33] at H
                              exact absurd H (by simp)
                          · rw [if_neg c32] at H
                            have c32b0 : decide (x10_4 < (t151.length : Int)) = false := decide_eq_false c32
                            clear c32
                            by_cases c44 : x10_4 = (t151.length : Int)
                            · rw [if_pos c44] at H
                              have c44b0 : (x10_4 == (t151.length : Int)) = true := beq_iff_eq.mpr c44
                              have c44b1 : (x10_4 != (t151.length : Int)) = false := bne_eq_false_iff_eq.mpr c44
                              clear c44
                              have H' := Aside0.mk H
                              clear H
                              obtain ⟨Ao45, co45, eo45⟩ := Kd.R_slice HO_9.out
                              subst eo45
                              go_wp2
                              go_roundg k4
                              case measure => have := HJ2.out; have := HK2.out; have := HJ21.out; have := HK4.out; omega
                              case rel => exact ⟨(x6_2), (wrap64 (x7_2 + 1)), (by first | rfl | (simp; done) | (simp [*]; done)), H', ⟨by have := HJ2.out; have := HK2.out; have := HJ21.out; have := HK4.out; omega⟩, ⟨by (with_reducible repeat (first | apply Kd.R_alloc | apply Kd.R_drewN | apply Kd.R_drew)); exact HO_6.out⟩, ⟨by repeat (first | (with_reducible first | exact HB.out | apply below_alloc | apply pw_below_drewN | apply below_drew1) | exact HB.out)⟩⟩
                            · rw [if_neg c44] at H
                              have c44b0 : (x10_4 == (t151.length : Int)) = false := beq_eq_false_iff_ne.mpr c44
                              have c44b1 : (x10_4 != (t151.length : Int)) = true := bne_iff_ne.mpr c44
                              by_cases c46 : 0 ≤ x10_4
                              · rw [if_pos c46] at H
                                exact absurd H (by simp)
                              · rw [if_neg c46] at H
                                exact absurd H (by simp)
            · rw [if_neg c8] at H
              have c8b0 : decide (x7_2 < (a1.size : Int)) = false := decide_eq_false c8
              clear c8
              simp only [Option.some.injEq, Prod.mk.injEq] at H
              obtain ⟨rfl, rfl⟩ := H
              go_wp2
              go_ret2
              exact ⟨_, by first | rfl | (simp [errW_none, errW_some] <;> rfl) | (simp [*, errW_none, errW_some] <;> rfl), by (with_reducible repeat (first | apply Kd.R_alloc | apply Kd.R_drewN | apply Kd.R_drew)); exact HO_6.out, by repeat (first | (with_reducible first | exact HB.out | apply below_alloc | apply pw_below_drewN | apply below_drew1) | exact HB.out)⟩

end Go.Proofs.Ytjbbogcoabgcnaa.PSrc
