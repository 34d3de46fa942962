/- Edits compared: cmp.Compare, cmp.Or, Tidy's closure. Conditions: none. -/
import Derived.Test.YtgcjkijndibejaaEStb
import Derived.Test.YtgcjkijndibejaaWWords
import Derived.Test.YtgcjkijndibejaaWLast
import Derived.WalkKit
import Derived.OwnWalk
import Derived.Lib.Hide
import Derived.KernelRfl
import Derived.RowKit3
import Derived.Deep.LoopGhost
import Derived.Deep.RegionHeld3
import Derived.Deep.DeepCutAuto
import Derived.Deep.CutBlock
set_option linter.unusedVariables false
set_option linter.unusedSimpArgs false
namespace Go.Proofs.Ytgcjkijndibejaa.Srt
open Go.Shelf Go.RowKit Go.Lib Go.Sort Go.Proofs.YtgcjkijndibejaaW.PrintWords Go.Proofs.YtgcjkijndibejaaW.PrintLast

theorem sbTry : Sb Try.prog 3 := {
  mixed := by kernel_rfl
  f27 := Try.func27
  f29 := Try.func29
  f30 := Try.func30
  f31 := Try.func31
  f32 := Try.func32
  t0 := Try.underlying0
  a0 := Try.isAgg0
  z0 := Try.sizeOf0
  v0 := Try.zeroValue0
  t3 := Try.underlying3
  a3 := Try.isAgg3
  z3 := Try.sizeOf3
  v3 := Try.zeroValue3
  t4 := Try.underlying4
  a4 := Try.isAgg4
  z4 := Try.sizeOf4
  v4 := Try.zeroValue4
  t33 := Try.underlying33
  a33 := Try.isAgg33
  z33 := Try.sizeOf33
  v33 := Try.zeroValue33
  t23 := Try.underlying23
  a23 := Try.isAgg23
  z23 := Try.sizeOf23
  v23 := Try.zeroValue23
  t55 := Try.underlying55
  a55 := Try.isAgg55
  z55 := Try.sizeOf55
  v55 := Try.zeroValue55
  aE := Try.isAgg46
  zE := Try.sizeOf46 }
/-- An edit: where it begins, its length, its text. -/
abbrev Ed := Int × Int × ByteArray
def encE (e : Ed) : List Value := [.int .i64 e.1, .int .i64 e.2.1, .string e.2.2]
def cI (a b : Int) : Int := if a < b then -1 else if b < a then 1 else 0
def cE (x y : Ed) : Int := if cI x.1 y.1 = 0 then cI x.2.1 y.2.1 else cI x.1 y.1
theorem cI_3 (a b : Int) : cI a b = -1 ∨ cI a b = 1 ∨ cI a b = 0 := by
  unfold cI
  split
  · exact .inl rfl
  · split
    · exact .inr (.inl rfl)
    · exact .inr (.inr rfl)
set_option maxHeartbeats 1000000 in
theorem isNaN_any (a : Int) (w : World) : Calls Try.prog 28 #[.int .i64 a] w fun e w' => e = .returned (.bool false) ∧ w' = w := by
  have h : (a != a) = false := by simp
  go_enter Try.func28, Try.ntmps28
  go_wp2_with fail
  go_ret
  exact ⟨rfl, rfl⟩
set_option maxHeartbeats 1000000 in
theorem compare_any (a b : Int) (w : World) : Calls Try.prog 25 #[.int .i64 a, .int .i64 b] w fun e w' => e = .returned (.int .i64 (cI a b)) ∧ w' = w := by
  obtain ⟨r, hr⟩ : ∃ r, cI a b = r := ⟨_, rfl⟩
  rw [hr]
  have HR := Lib.hid hr
  clear hr
  go_enter Try.func25, Try.ntmps25
  go_wp2_with fail
  refine (isNaN_any a _).mono ?_
  rintro e w1 ⟨rfl, rfl⟩
  go_wp2_with fail
  refine (isNaN_any b _).mono ?_
  rintro e w1 ⟨rfl, rfl⟩
  by_cases h1 : a < b
  · have hd : decide (a < b) = true := decide_eq_true h1
    go_wp2_with fail
    go_ret
    obtain rfl : -1 = r := by rw [← HR.out]; unfold cI; rw [if_pos h1]
    exact ⟨rfl, rfl⟩
  · have hd : decide (a < b) = false := decide_eq_false h1
    by_cases h2 : b < a
    · have hd2 : decide (b < a) = true := decide_eq_true h2
      go_wp2_with fail
      go_ret
      obtain rfl : 1 = r := by rw [← HR.out]; unfold cI; rw [if_neg (by omega), if_pos h2]
      exact ⟨rfl, rfl⟩
    · have hd2 : decide (b < a) = false := decide_eq_false h2
      go_wp2_with fail
      go_ret
      obtain rfl : 0 = r := by rw [← HR.out]; unfold cI; rw [if_neg (by omega), if_neg (by omega)]
      exact ⟨rfl, rfl⟩
set_option maxHeartbeats 2000000 in
theorem or_any (x y : Int) (g : Nat) (w : World) (hg : w.heap[g]? = some (.cells #[.int .i64 x, .int .i64 y] 3 (0, 0))) :
    Calls Try.prog 24 #[.slice (some ⟨g, 0, none⟩) 2 2] w fun e w' => e = .returned (.int .i64 (if x = 0 then y else x)) ∧ w' = w := by
  have c0 : w.cell? ⟨g, 0, none⟩ = some (.int .i64 x) := (blk_cell hg 0).trans rfl
  have c1 : w.cell? ⟨g, 1, none⟩ = some (.int .i64 y) := (blk_cell hg 1).trans rfl
  clear hg
  obtain ⟨r, hr⟩ : ∃ r, (if x = 0 then y else x) = r := ⟨_, rfl⟩
  rw [hr]
  have HR := Lib.hid hr
  clear hr
  go_enter Try.func24, Try.ntmps24
  go_wp2_with fail
  go_loopg [8] 2 (fun gn iv wr => ∃ j : Nat, iv = .int .i64 j ∧ j ≤ 2 ∧ (j = 0 ∨ x = 0) ∧ (j = 2 → y = 0) ∧ Hid (wr = w ∧ gn = 2 - j))
  case atStart => exact ⟨0, rfl, by omega, .inl rfl, by omega, rfl, rfl⟩
  case round =>
  obtain ⟨j, rfl, hj, hx, hy, HQ⟩ := hrel
  obtain ⟨rfl, hg⟩ := HQ.out
  have HG := Lib.hid hg
  clear HQ hg
  have hj3 : j = 0 ∨ j = 1 ∨ j = 2 := by omega
  rcases hj3 with rfl | rfl | rfl
  · by_cases h0 : x = 0
    · have hb : (x != 0) = false := by simp [h0]
      go_wp2_with fail
      go_roundg 1
      case measure => rw [HG.out]; omega
      case rel => exact ⟨1, rfl, by omega, .inr h0, by omega, rfl, rfl⟩
    · have hb : (x != 0) = true := by simp [h0]
      go_wp2_with fail
      go_ret
      obtain rfl : x = r := by rw [← HR.out, if_neg h0]
      exact ⟨rfl, rfl⟩
  · have h0 : x = 0 := by omega
    by_cases h1 : y = 0
    · have hb : (y != 0) = false := by simp [h1]
      go_wp2_with fail
      go_roundg 0
      case measure => rw [HG.out]; omega
      case rel => exact ⟨2, rfl, by omega, .inr h0, fun _ => h1, rfl, rfl⟩
    · have hb : (y != 0) = true := by simp [h1]
      go_wp2_with fail
      go_ret
      obtain rfl : y = r := by rw [← HR.out, if_pos h0]
      exact ⟨rfl, rfl⟩
  · have h0 : x = 0 := by omega
    have h1 : y = 0 := hy rfl
    go_wp2_with fail
    go_ret
    obtain rfl : 0 = r := by rw [← HR.out, if_pos h0, h1]
    exact ⟨rfl, rfl⟩
/-- How far a world is from another one: draws and blocks. -/
def Gr (W W' : World) : Prop := ∃ q os, W' = grow (W.drewN q) os
theorem Gr.refl (W : World) : Gr W W := ⟨0, #[], by simp; rfl⟩
theorem Gr.alloc {W W' : World} (h : Gr W W') (o : Obj) : Gr W (W'.alloc o) := by
  obtain ⟨q, os, rfl⟩ := h
  exact ⟨q, os ++ #[o], by rw [alloc_eq_grow, grow_grow]⟩
theorem Gr.drewN {W W' : World} (h : Gr W W') (n : Nat) : Gr W (W'.drewN n) := by
  obtain ⟨q, os, rfl⟩ := h
  exact ⟨q + n, os, by rw [show (grow (W.drewN q) os).drewN n = grow ((W.drewN q).drewN n) os from rfl, World.drewN_drewN]⟩
theorem Gr.drew {W W' : World} (h : Gr W W') : Gr W W'.drew := h.drewN 1
/-- The two edits in their boxes. -/
def Bx (W0 : World) (b1 b2 : Nat) (a1 l1 a2 l2 : Int) (W : World) : Prop :=
  W.cell? ⟨b1, 0, none⟩ = some (.int .i64 a1) ∧ W.cell? ⟨b1, 1, none⟩ = some (.int .i64 l1) ∧ W.cell? ⟨b2, 0, none⟩ = some (.int .i64 a2) ∧ W.cell? ⟨b2, 1, none⟩ = some (.int .i64 l2) ∧ Hid (b1 < W.heap.size ∧ b2 < W.heap.size ∧ Gr W0 W)
theorem Bx.alloc {W0 W : World} {b1 b2 : Nat} {a1 l1 a2 l2 : Int} (h : Bx W0 b1 b2 a1 l1 a2 l2 W) (o : Obj) : Bx W0 b1 b2 a1 l1 a2 l2 (W.alloc o) := by
  obtain ⟨h1, h2, h3, h4, h5⟩ := h
  have hh := h5.out
  have e : ∀ (b i : Nat) (v : Value), b < W.heap.size → W.cell? ⟨b, i, none⟩ = some v → (W.alloc o).cell? ⟨b, i, none⟩ = some v := fun b i v hb hc => (Below.cell (below_alloc (Below.refl W.heap.size W) o) (p := ⟨b, i, none⟩) hb).trans hc
  exact ⟨e _ _ _ hh.1 h1, e _ _ _ hh.1 h2, e _ _ _ hh.2.1 h3, e _ _ _ hh.2.1 h4, Lib.hid ⟨by simp; omega, by simp; omega, hh.2.2.alloc o⟩⟩
theorem Bx.drewN {W0 W : World} {b1 b2 : Nat} {a1 l1 a2 l2 : Int} (h : Bx W0 b1 b2 a1 l1 a2 l2 W) (n : Nat) : Bx W0 b1 b2 a1 l1 a2 l2 (W.drewN n) :=
  ⟨h.1, h.2.1, h.2.2.1, h.2.2.2.1, Lib.hid ⟨h.2.2.2.2.out.1, h.2.2.2.2.out.2.1, h.2.2.2.2.out.2.2.drewN n⟩⟩
set_option maxRecDepth 100000 in
set_option maxHeartbeats 4000000 in
theorem closure_any (x y : Ed) (W : World) :
    Calls Try.prog 23 #[.agg (encE x).toArray, .agg (encE y).toArray] W fun e w' => e = .returned (.int .i64 (cE x y)) ∧ Gr W w' := by
  obtain ⟨a1, l1, t1⟩ := x
  obtain ⟨a2, l2, t2⟩ := y
  show Calls Try.prog 23 #[.agg #[.int .i64 a1, .int .i64 l1, .string t1], .agg #[.int .i64 a2, .int .i64 l2, .string t2]] W _
  have e : cE (a1, l1, t1) (a2, l2, t2) = if cI a1 a2 = 0 then cI l1 l2 else cI a1 a2 := rfl
  rw [e]
  clear e
  have hc1 := fun W' => compare_any a1 a2 W'
  have hc2 := fun W' => compare_any l1 l2 W'
  generalize cI a1 a2 = r1 at *
  generalize cI l1 l2 = r2 at *
  have HC1 := Lib.hid hc1
  have HC2 := Lib.hid hc2
  clear hc1 hc2
  obtain ⟨r, hr⟩ : ∃ r, (if r1 = 0 then r2 else r1) = r := ⟨_, rfl⟩
  rw [hr]
  have HR := Lib.hid hr
  clear hr
  go_enter Try.func23, Try.ntmps23
  go_upto_region 1 with fail
  have hb : Bx W W.heap.size (W.heap.size + 1) a1 l1 a2 l2 ((W.alloc (.cells #[.int .i64 a1, .int .i64 l1, .string t1] 46)).alloc (.cells #[.int .i64 a2, .int .i64 l2, .string t2] 46)) := by
    have g1 := blk_new W (.cells #[.int .i64 a1, .int .i64 l1, .string t1] 46)
    have g2 := blk_new (W.alloc (.cells #[.int .i64 a1, .int .i64 l1, .string t1] 46)) (.cells #[.int .i64 a2, .int .i64 l2, .string t2] 46)
    have g3 := blk_below g1 (below_alloc (Below.refl _ _) (.cells #[.int .i64 a2, .int .i64 l2, .string t2] 46))
    have z : (W.alloc (.cells #[.int .i64 a1, .int .i64 l1, .string t1] 46)).heap.size = W.heap.size + 1 := by simp
    rw [z] at g2
    exact ⟨(blk_cell g3 0).trans rfl, (blk_cell g3 1).trans rfl, (blk_cell g2 0).trans rfl, (blk_cell g2 1).trans rfl, Lib.hid ⟨by simp; omega, by simp, ((Gr.refl W).alloc _).alloc _⟩⟩
  generalize hwq : (W.alloc (.cells #[.int .i64 a1, .int .i64 l1, .string t1] 46)).alloc (.cells #[.int .i64 a2, .int .i64 l2, .string t2] 46) = wq at *
  clear hwq
  generalize W.heap.size + 1 = b2 at *
  generalize W.heap.size = b1 at *
  have HT0 := Lib.hid (show (wq.drew.cell? ⟨b1, 0, none⟩ = some (.int .i64 a1) ∧ wq.drew.cell? ⟨b1, 1, none⟩ = some (.int .i64 l1) ∧ wq.drew.cell? ⟨b2, 0, none⟩ = some (.int .i64 a2) ∧ wq.drew.cell? ⟨b2, 1, none⟩ = some (.int .i64 l2) ∧ Hid (b1 < wq.drew.heap.size ∧ b2 < wq.drew.heap.size ∧ Gr W wq.drew)) from hb.drewN 1)
  have HSa := Lib.hid (fun (W' : World) (o : Obj) (h : (W'.cell? ⟨b1, 0, none⟩ = some (.int .i64 a1) ∧ W'.cell? ⟨b1, 1, none⟩ = some (.int .i64 l1) ∧ W'.cell? ⟨b2, 0, none⟩ = some (.int .i64 a2) ∧ W'.cell? ⟨b2, 1, none⟩ = some (.int .i64 l2) ∧ Hid (b1 < W'.heap.size ∧ b2 < W'.heap.size ∧ Gr W W'))) => (show ((W'.alloc o).cell? ⟨b1, 0, none⟩ = some (.int .i64 a1) ∧ (W'.alloc o).cell? ⟨b1, 1, none⟩ = some (.int .i64 l1) ∧ (W'.alloc o).cell? ⟨b2, 0, none⟩ = some (.int .i64 a2) ∧ (W'.alloc o).cell? ⟨b2, 1, none⟩ = some (.int .i64 l2) ∧ Hid (b1 < (W'.alloc o).heap.size ∧ b2 < (W'.alloc o).heap.size ∧ Gr W (W'.alloc o))) from Bx.alloc h o))
  have HSn := Lib.hid (fun (W' : World) (n : Nat) (h : (W'.cell? ⟨b1, 0, none⟩ = some (.int .i64 a1) ∧ W'.cell? ⟨b1, 1, none⟩ = some (.int .i64 l1) ∧ W'.cell? ⟨b2, 0, none⟩ = some (.int .i64 a2) ∧ W'.cell? ⟨b2, 1, none⟩ = some (.int .i64 l2) ∧ Hid (b1 < W'.heap.size ∧ b2 < W'.heap.size ∧ Gr W W'))) => (show ((W'.drewN n).cell? ⟨b1, 0, none⟩ = some (.int .i64 a1) ∧ (W'.drewN n).cell? ⟨b1, 1, none⟩ = some (.int .i64 l1) ∧ (W'.drewN n).cell? ⟨b2, 0, none⟩ = some (.int .i64 a2) ∧ (W'.drewN n).cell? ⟨b2, 1, none⟩ = some (.int .i64 l2) ∧ Hid (b1 < (W'.drewN n).heap.size ∧ b2 < (W'.drewN n).heap.size ∧ Gr W (W'.drewN n))) from Bx.drewN h n))
  clear hb
  refine start_ (n := 17) (S := (fun W' => (W'.cell? ⟨b1, 0, none⟩ = some (.int .i64 a1) ∧ W'.cell? ⟨b1, 1, none⟩ = some (.int .i64 l1) ∧ W'.cell? ⟨b2, 0, none⟩ = some (.int .i64 a2) ∧ W'.cell? ⟨b2, 1, none⟩ = some (.int .i64 l2) ∧ Hid (b1 < W'.heap.size ∧ b2 < W'.heap.size ∧ Gr W W')))) (ds := []) #[false, false, false, false, false, false, false, false, false, false, false, false, false, false, false, false, false] (by kernel_rfl) rfl rfl (HT0.out) (fun hHeld => ?_)
  refine pure_ (i := 0) (N := (some 5)) (v := ?_) (a' := ?_) #[true, false, false, false, false, false, false, false, false, false, false, false, false, false, false, false, false] rfl rfl (by kernel_rfl) (fun _ _ _ h => h) (Or.inl ⟨by rfl, ?_⟩) ?_ ?_
  rotate_left
  · intro w'
    go_simp
    try with_reducible rfl
  rotate_left
  · simp only [Act.put, List.setIfInBounds_toArray, List.set_cons_zero, List.set_cons_succ]
    rfl
  refine pure_ (i := 1) (N := (some 6)) (v := ?_) (a' := ?_) #[true, true, false, false, false, false, false, false, false, false, false, false, false, false, false, false, false] rfl rfl (by kernel_rfl) (fun _ _ _ h => h) (Or.inl ⟨by rfl, ?_⟩) ?_ ?_
  rotate_left
  · intro w'
    go_simp
    try with_reducible rfl
  rotate_left
  · simp only [Act.put, List.setIfInBounds_toArray, List.set_cons_zero, List.set_cons_succ]
    rfl
  refine take_ (i := 2) (N := (some 7)) (v := ?_) (a' := ?_) #[true, true, true, false, false, false, false, false, false, false, false, false, false, false, false, false, false] rfl rfl (by kernel_rfl) (fun _ _ _ h => h) (Or.inl ⟨by rfl, ?_⟩) hHeld ?_ ?_
  rotate_left
  · intro w' ⟨s0, s1, s2, s3, s4⟩
    go_simp
    try with_reducible rfl
  rotate_left
  · simp only [Act.put, List.setIfInBounds_toArray, List.set_cons_zero, List.set_cons_succ]
    rfl
  refine pure_ (i := 3) (N := (some 8)) (v := ?_) (a' := ?_) #[true, true, true, true, false, false, false, false, false, false, false, false, false, false, false, false, false] rfl rfl (by kernel_rfl) (fun _ _ _ h => h) (Or.inl ⟨by rfl, ?_⟩) ?_ ?_
  rotate_left
  · intro w'
    go_simp
    try with_reducible rfl
  rotate_left
  · simp only [Act.put, List.setIfInBounds_toArray, List.set_cons_zero, List.set_cons_succ]
    rfl
  refine pure_ (i := 4) (N := (some 9)) (v := ?_) (a' := ?_) #[true, true, true, true, true, false, false, false, false, false, false, false, false, false, false, false, false] rfl rfl (by kernel_rfl) (fun _ _ _ h => h) (Or.inl ⟨by rfl, ?_⟩) ?_ ?_
  rotate_left
  · intro w'
    go_simp
    try with_reducible rfl
  rotate_left
  · simp only [Act.put, List.setIfInBounds_toArray, List.set_cons_zero, List.set_cons_succ]
    rfl
  refine take_ (i := 5) (N := (some 10)) (v := ?_) (a' := ?_) #[true, true, true, true, true, true, false, false, false, false, false, false, false, false, false, false, false] rfl rfl (by kernel_rfl) (fun _ _ _ h => h) (Or.inl ⟨by rfl, ?_⟩) hHeld ?_ ?_
  rotate_left
  · intro w' ⟨s0, s1, s2, s3, s4⟩
    go_simp
    try with_reducible rfl
  rotate_left
  · simp only [Act.put, List.setIfInBounds_toArray, List.set_cons_zero, List.set_cons_succ]
    rfl
  refine pure_ (i := 7) (N := (some 12)) (v := ?_) (a' := ?_) #[true, true, true, true, true, true, false, true, false, false, false, false, false, false, false, false, false] rfl rfl (by kernel_rfl) (fun _ _ _ h => h) (Or.inl ⟨by rfl, ?_⟩) ?_ ?_
  rotate_left
  · intro w'
    go_simp
    try with_reducible rfl
  rotate_left
  · simp only [Act.put, List.setIfInBounds_toArray, List.set_cons_zero, List.set_cons_succ]
    rfl
  refine pure_ (i := 8) (N := (some 13)) (v := ?_) (a' := ?_) #[true, true, true, true, true, true, false, true, true, false, false, false, false, false, false, false, false] rfl rfl (by kernel_rfl) (fun _ _ _ h => h) (Or.inl ⟨by rfl, ?_⟩) ?_ ?_
  rotate_left
  · intro w'
    go_simp
    try with_reducible rfl
  rotate_left
  · simp only [Act.put, List.setIfInBounds_toArray, List.set_cons_zero, List.set_cons_succ]
    rfl
  refine take_ (i := 9) (N := (some 14)) (v := ?_) (a' := ?_) #[true, true, true, true, true, true, false, true, true, true, false, false, false, false, false, false, false] rfl rfl (by kernel_rfl) (fun _ _ _ h => h) (Or.inl ⟨by rfl, ?_⟩) hHeld ?_ ?_
  rotate_left
  · intro w' ⟨s0, s1, s2, s3, s4⟩
    go_simp
    try with_reducible rfl
  rotate_left
  · simp only [Act.put, List.setIfInBounds_toArray, List.set_cons_zero, List.set_cons_succ]
    rfl
  refine pure_ (i := 10) (N := (some 15)) (v := ?_) (a' := ?_) #[true, true, true, true, true, true, false, true, true, true, true, false, false, false, false, false, false] rfl rfl (by kernel_rfl) (fun _ _ _ h => h) (Or.inl ⟨by rfl, ?_⟩) ?_ ?_
  rotate_left
  · intro w'
    go_simp
    try with_reducible rfl
  rotate_left
  · simp only [Act.put, List.setIfInBounds_toArray, List.set_cons_zero, List.set_cons_succ]
    rfl
  refine pure_ (i := 11) (N := (some 16)) (v := ?_) (a' := ?_) #[true, true, true, true, true, true, false, true, true, true, true, true, false, false, false, false, false] rfl rfl (by kernel_rfl) (fun _ _ _ h => h) (Or.inl ⟨by rfl, ?_⟩) ?_ ?_
  rotate_left
  · intro w'
    go_simp
    try with_reducible rfl
  rotate_left
  · simp only [Act.put, List.setIfInBounds_toArray, List.set_cons_zero, List.set_cons_succ]
    rfl
  refine take_ (i := 12) (N := (some 17)) (v := ?_) (a' := ?_) #[true, true, true, true, true, true, false, true, true, true, true, true, true, false, false, false, false] rfl rfl (by kernel_rfl) (fun _ _ _ h => h) (Or.inl ⟨by rfl, ?_⟩) hHeld ?_ ?_
  rotate_left
  · intro w' ⟨s0, s1, s2, s3, s4⟩
    go_simp
    try with_reducible rfl
  rotate_left
  · simp only [Act.put, List.setIfInBounds_toArray, List.set_cons_zero, List.set_cons_succ]
    rfl
  refine one_ (i := 6) (N := (some 11)) #[true, true, true, true, true, true, true, true, true, true, true, true, true, false, false, false, false] rfl rfl (by kernel_rfl) (by decide) (fun K hK => ?_)
  refine goes_ Try.func25 (by kernel_rfl) rfl #[.int .i64 a1, .int .i64 a2] (by rfl) rfl rfl (by (try simp only [List.map_toArray, List.map_cons, List.map_nil]); first | done | rfl) ?_
  refine (HC1.out _).mono ?_
  rintro e w7 ⟨rfl, rfl⟩
  refine ⟨_, rfl, hK.out _ _ hHeld (fun hHeld => ?_)⟩
  clear hK K
  refine norm_ (a' := ?_) ?_ ?_
  rotate_left
  · show Act.put _ (some 11) _ = _
    simp only [Act.put, List.setIfInBounds_toArray, List.set_cons_zero, List.set_cons_succ]
    rfl
  refine one_ (i := 13) (N := (some 18)) #[true, true, true, true, true, true, true, true, true, true, true, true, true, true, false, false, false] rfl rfl (by kernel_rfl) (by decide) (fun K hK => ?_)
  refine goes_ Try.func25 (by kernel_rfl) rfl #[.int .i64 l1, .int .i64 l2] (by rfl) rfl rfl (by (try simp only [List.map_toArray, List.map_cons, List.map_nil]); first | done | rfl) ?_
  refine (HC2.out _).mono ?_
  rintro e w8 ⟨rfl, rfl⟩
  refine ⟨_, rfl, hK.out _ _ hHeld (fun hHeld => ?_)⟩
  clear hK K
  refine norm_ (a' := ?_) ?_ ?_
  rotate_left
  · show Act.put _ (some 18) _ = _
    simp only [Act.put, List.setIfInBounds_toArray, List.set_cons_zero, List.set_cons_succ]
    rfl
  refine one_ (i := 14) (N := (some 19)) #[true, true, true, true, true, true, true, true, true, true, true, true, true, true, true, false, false] rfl rfl (by kernel_rfl) (by decide) (fun K hK => ?_)
  rw [if_pos (by rfl)]
  go_simp
  refine hK.out _ _ (HSa.out _ _ hHeld) (fun hHeld => ?_)
  clear hK K
  refine one_ (i := 15) (N := (some 20)) #[true, true, true, true, true, true, true, true, true, true, true, true, true, true, true, true, false] rfl rfl (by kernel_rfl) (by decide) (fun K hK => ?_)
  refine goes_ Try.func24 (by kernel_rfl) rfl #[.slice (some ⟨_, 0, none⟩) 2 2] (by rfl) rfl rfl (by (try simp only [List.map_toArray, List.map_cons, List.map_nil]); first | done | rfl) ?_
  refine (or_any r1 r2 wq.heap.size _ (blk_new wq.drew (.cells #[.int .i64 r1, .int .i64 r2] 3))).mono ?_
  rintro e w9 ⟨rfl, rfl⟩
  rw [HR.out]
  refine ⟨_, rfl, hK.out _ _ hHeld (fun hHeld => ?_)⟩
  clear hK K
  refine norm_ (a' := ?_) ?_ ?_
  rotate_left
  · show Act.put _ (some 20) _ = _
    simp only [Act.put, List.setIfInBounds_toArray, List.set_cons_zero, List.set_cons_succ]
    rfl
  refine pure_ (i := 16) (N := (some 4)) (v := ?_) (a' := ?_) #[true, true, true, true, true, true, true, true, true, true, true, true, true, true, true, true, true] rfl rfl (by kernel_rfl) (fun _ _ _ h => h) (Or.inl ⟨by rfl, ?_⟩) ?_ ?_
  rotate_left
  · intro w'
    go_simp
    try with_reducible rfl
  rotate_left
  · simp only [Act.put, List.setIfInBounds_toArray, List.set_cons_zero, List.set_cons_succ]
    rfl
  refine done_ (by kernel_rfl) ?_
  go_wp2_with fail
  go_ret
  exact ⟨rfl, hHeld.2.2.2.2.out.2.2⟩
end Go.Proofs.Ytgcjkijndibejaa.Srt
