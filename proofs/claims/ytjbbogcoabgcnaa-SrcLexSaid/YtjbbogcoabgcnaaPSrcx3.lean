-- PRINTED BY print.sh 35421559b90ae4d0a3588c463048766b98c2df88dd9212a6774a882060cdf62d: not written by this session
import Derived.Test.YtjbbogcoabgcnaaPSrcx0
import Derived.Test.YtjbbogcoabgcnaaPSrcx1
namespace Go.Proofs.Ytjbbogcoabgcnaa.PSrc
open Go.RowKit Go.Proofs.YtjbbogcoabgcnaaW.PrintWords Go.Proofs.YtjbbogcoabgcnaaW.PrintLast Go.Proofs.YtjbbogcoabgcnaaW.PrintMore
attribute [local go_sem] max2_int min2_int max_two min_two max_three min_three max_four min_four   -- for this text's walks alone
set_option linter.unusedVariables false
set_option linter.unusedSimpArgs false

/-! ### redpenref10_Labels_quoted: function 28 -/
mutual
def redpenref10_Labels_quoted.j0 : Nat → List Int → ByteArray → Int → Int → ByteArray → Bool → Bool → Bool → Bool → Option (Int × List Int)
  | 0, _, _, _, _, _, _, _, _, _ => none
  | k + 1, x0, x1, x2, x9, x137000, x137001, x137002, x137003, x137004 => redpenref10_Labels_quoted.l0 k x0 x1 x2 x9 x137000 x137001 x137002 x137003 x137004
def redpenref10_Labels_quoted.l0 : Nat → List Int → ByteArray → Int → Int → ByteArray → Bool → Bool → Bool → Bool → Option (Int × List Int)
  | 0, _, _, _, _, _, _, _, _, _ => none
  | k + 1, x0, x1, x2, x9, x137000, x137001, x137002, x137003, x137004 => if x2 < (x1.size : Int) then (if x137003 = true then (redpenref10_Labels_quoted.j2 k x0 x1 x2 x9 false x137000 x137001 x137002 x137003 x137004) else (if 0 ≤ x2 then (redpenref10_Labels_quoted.j2 k x0 x1 x2 x9 ((bt x1 x2) == 10) x137000 x137001 x137002 x137003 x137004) else (none))) else (some ((x1.size : Int), x0))
def redpenref10_Labels_quoted.j2 : Nat → List Int → ByteArray → Int → Int → Bool → ByteArray → Bool → Bool → Bool → Bool → Option (Int × List Int)
  | 0, _, _, _, _, _, _, _, _, _, _ => none
  | k + 1, x0, x1, x2, x9, x25, x137000, x137001, x137002, x137003, x137004 => if x25 = true then (some (x2, x0)) else (if x137001 = true then (if 0 ≤ x2 then (if x2 < (x1.size : Int) then (if (bt x1 x2) = 92 then (if (wrap64 (x2 + 1)) < (x1.size : Int) then (if x137003 = true then (redpenref10_Labels_quoted.j3 k x0 x1 x2 x9 1 true x137000 x137001 x137002 x137003 x137004) else (if 0 ≤ (wrap64 (x2 + 1)) then (redpenref10_Labels_quoted.j3 k x0 x1 x2 x9 1 ((bt x1 (wrap64 (x2 + 1))) != 10) x137000 x137001 x137002 x137003 x137004) else (none))) else (redpenref10_Labels_quoted.j3 k x0 x1 x2 x9 1 false x137000 x137001 x137002 x137003 x137004)) else (redpenref10_Labels_quoted.j3 k x0 x1 x2 x9 1 false x137000 x137001 x137002 x137003 x137004)) else (none)) else (none)) else (redpenref10_Labels_quoted.j3 k x0 x1 x2 x9 1 false x137000 x137001 x137002 x137003 x137004))
def redpenref10_Labels_quoted.j3 : Nat → List Int → ByteArray → Int → Int → Int → Bool → ByteArray → Bool → Bool → Bool → Bool → Option (Int × List Int)
  | 0, _, _, _, _, _, _, _, _, _, _, _ => none
  | k + 1, x0, x1, x2, x9, x10, x52, x137000, x137001, x137002, x137003, x137004 => if x52 = true then ((redpenref10_Labels_put.f k x0 x9 x2 (wrap64 (x2 + 2))).bind fun t137 => (redpenref10_Labels_quoted.l0 k t137 x1 (wrap64 (x2 + 2)) x9 x137000 x137001 x137002 x137003 x137004)) else (if x137002 = true then (if x137000.size + x137000.size ≤ 9223372036854775807 then ((redpenref10_at.f x1 x2 (x137000 ++ x137000)).bind fun t138 => (redpenref10_Labels_quoted.j4 k x0 x1 x2 x9 x10 t138 x137000 x137001 x137002 x137003 x137004)) else (none)) else (redpenref10_Labels_quoted.j4 k x0 x1 x2 x9 x10 false x137000 x137001 x137002 x137003 x137004))
def redpenref10_Labels_quoted.j4 : Nat → List Int → ByteArray → Int → Int → Int → Bool → ByteArray → Bool → Bool → Bool → Bool → Option (Int × List Int)
  | 0, _, _, _, _, _, _, _, _, _, _, _ => none
  | k + 1, x0, x1, x2, x9, x10, x64, x137000, x137001, x137002, x137003, x137004 => if x64 = true then ((redpenref10_Labels_put.f k x0 x9 x2 (wrap64 (x2 + 2))).bind fun t139 => (redpenref10_Labels_quoted.l0 k t139 x1 (wrap64 (x2 + 2)) x9 x137000 x137001 x137002 x137003 x137004)) else ((redpenref10_at.f x1 x2 x137000).bind fun t140 => (if t140 = true then (some (wrap64 (x2 + (x137000.size : Int)), x0)) else ((redpenref10_Labels_put.f k x0 x9 x2 (wrap64 (x2 + x10))).bind fun t141 => (redpenref10_Labels_quoted.l0 k t141 x1 (wrap64 (x2 + x10)) x9 x137000 x137001 x137002 x137003 x137004))))
end
def redpenref10_Labels_quoted.f (k : Nat) (l0 : List Int) (a1 : ByteArray) (a2 : Int) (a3_0 : ByteArray) (a3_1 : Bool) (a3_2 : Bool) (a3_3 : Bool) (a3_4 : Bool) : Option (Int × List Int) := if a3_4 = true then (redpenref10_Labels_quoted.j0 k l0 a1 a2 7 a3_0 a3_1 a3_2 a3_3 a3_4) else (redpenref10_Labels_quoted.j0 k l0 a1 a2 5 a3_0 a3_1 a3_2 a3_3 a3_4)
theorem redpenref10_Labels_quoted.mono_l : ∀ k, (∀ y0 y1 y2 y3 y4 y5 y6 y7 y8, LeO (redpenref10_Labels_quoted.j0 k y0 y1 y2 y3 y4 y5 y6 y7 y8) (redpenref10_Labels_quoted.j0 (k + 1) y0 y1 y2 y3 y4 y5 y6 y7 y8)) ∧ (∀ y0 y1 y2 y3 y4 y5 y6 y7 y8, LeO (redpenref10_Labels_quoted.l0 k y0 y1 y2 y3 y4 y5 y6 y7 y8) (redpenref10_Labels_quoted.l0 (k + 1) y0 y1 y2 y3 y4 y5 y6 y7 y8)) ∧ (∀ y0 y1 y2 y3 y4 y5 y6 y7 y8 y9, LeO (redpenref10_Labels_quoted.j2 k y0 y1 y2 y3 y4 y5 y6 y7 y8 y9) (redpenref10_Labels_quoted.j2 (k + 1) y0 y1 y2 y3 y4 y5 y6 y7 y8 y9)) ∧ (∀ y0 y1 y2 y3 y4 y5 y6 y7 y8 y9 y10, LeO (redpenref10_Labels_quoted.j3 k y0 y1 y2 y3 y4 y5 y6 y7 y8 y9 y10) (redpenref10_Labels_quoted.j3 (k + 1) y0 y1 y2 y3 y4 y5 y6 y7 y8 y9 y10)) ∧ (∀ y0 y1 y2 y3 y4 y5 y6 y7 y8 y9 y10, LeO (redpenref10_Labels_quoted.j4 k y0 y1 y2 y3 y4 y5 y6 y7 y8 y9 y10) (redpenref10_Labels_quoted.j4 (k + 1) y0 y1 y2 y3 y4 y5 y6 y7 y8 y9 y10))
  | 0 => ⟨fun _ _ _ _ _ _ _ _ _ r h => by simp [redpenref10_Labels_quoted.j0] at h, fun _ _ _ _ _ _ _ _ _ r h => by simp [redpenref10_Labels_quoted.l0] at h, fun _ _ _ _ _ _ _ _ _ _ r h => by simp [redpenref10_Labels_quoted.j2] at h, fun _ _ _ _ _ _ _ _ _ _ _ r h => by simp [redpenref10_Labels_quoted.j3] at h, fun _ _ _ _ _ _ _ _ _ _ _ r h => by simp [redpenref10_Labels_quoted.j4] at h⟩
  | k + 1 => by
    obtain ⟨ih0, ih1, ih2, ih3, ih4⟩ := redpenref10_Labels_quoted.mono_l k
    refine ⟨?_, ?_, ?_, ?_, ?_⟩
    · intro y0 y1 y2 y3 y4 y5 y6 y7 y8
      unfold redpenref10_Labels_quoted.j0
      repeat' first
      | (with_reducible exact ih0 _ _ _ _ _ _ _ _ _)
      | (with_reducible exact ih1 _ _ _ _ _ _ _ _ _)
      | (with_reducible exact ih2 _ _ _ _ _ _ _ _ _ _)
      | (with_reducible exact ih3 _ _ _ _ _ _ _ _ _ _ _)
      | (with_reducible exact ih4 _ _ _ _ _ _ _ _ _ _ _)
      | (with_reducible exact redpenref10_Labels_put.mono _ _ _ _ _)
      | (with_reducible exact LeO.refl _)
      | (with_reducible exact LeO.none _)
      | (with_reducible refine LeO.ite ?_ ?_)
      | (with_reducible refine LeO.bind ?_ (fun _ => ?_))
      | exact ih0 _ _ _ _ _ _ _ _ _
      | exact ih1 _ _ _ _ _ _ _ _ _
      | exact ih2 _ _ _ _ _ _ _ _ _ _
      | exact ih3 _ _ _ _ _ _ _ _ _ _ _
      | exact ih4 _ _ _ _ _ _ _ _ _ _ _
      | exact redpenref10_Labels_put.mono _ _ _ _ _
      | exact LeO.none _
      | refine LeO.ite ?_ ?_
      | refine LeO.bind ?_ (fun _ => ?_)
    · intro y0 y1 y2 y3 y4 y5 y6 y7 y8
      unfold redpenref10_Labels_quoted.l0
      repeat' first
      | (with_reducible exact ih0 _ _ _ _ _ _ _ _ _)
      | (with_reducible exact ih1 _ _ _ _ _ _ _ _ _)
      | (with_reducible exact ih2 _ _ _ _ _ _ _ _ _ _)
      | (with_reducible exact ih3 _ _ _ _ _ _ _ _ _ _ _)
      | (with_reducible exact ih4 _ _ _ _ _ _ _ _ _ _ _)
      | (with_reducible exact redpenref10_Labels_put.mono _ _ _ _ _)
      | (with_reducible exact LeO.refl _)
      | (with_reducible exact LeO.none _)
      | (with_reducible refine LeO.ite ?_ ?_)
      | (with_reducible refine LeO.bind ?_ (fun _ => ?_))
      | exact ih0 _ _ _ _ _ _ _ _ _
      | exact ih1 _ _ _ _ _ _ _ _ _
      | exact ih2 _ _ _ _ _ _ _ _ _ _
      | exact ih3 _ _ _ _ _ _ _ _ _ _ _
      | exact ih4 _ _ _ _ _ _ _ _ _ _ _
      | exact redpenref10_Labels_put.mono _ _ _ _ _
      | exact LeO.none _
      | refine LeO.ite ?_ ?_
      | refine LeO.bind ?_ (fun _ => ?_)
    · intro y0 y1 y2 y3 y4 y5 y6 y7 y8 y9
      unfold redpenref10_Labels_quoted.j2
      repeat' first
      | (with_reducible exact ih0 _ _ _ _ _ _ _ _ _)
      | (with_reducible exact ih1 _ _ _ _ _ _ _ _ _)
      | (with_reducible exact ih2 _ _ _ _ _ _ _ _ _ _)
      | (with_reducible exact ih3 _ _ _ _ _ _ _ _ _ _ _)
      | (with_reducible exact ih4 _ _ _ _ _ _ _ _ _ _ _)
      | (with_reducible exact redpenref10_Labels_put.mono _ _ _ _ _)
      | (with_reducible exact LeO.refl _)
      | (with_reducible exact LeO.none _)
      | (with_reducible refine LeO.ite ?_ ?_)
      | (with_reducible refine LeO.bind ?_ (fun _ => ?_))
      | exact ih0 _ _ _ _ _ _ _ _ _
      | exact ih1 _ _ _ _ _ _ _ _ _
      | exact ih2 _ _ _ _ _ _ _ _ _ _
      | exact ih3 _ _ _ _ _ _ _ _ _ _ _
      | exact ih4 _ _ _ _ _ _ _ _ _ _ _
      | exact redpenref10_Labels_put.mono _ _ _ _ _
      | exact LeO.none _
      | refine LeO.ite ?_ ?_
      | refine LeO.bind ?_ (fun _ => ?_)
    · intro y0 y1 y2 y3 y4 y5 y6 y7 y8 y9 y10
      unfold redpenref10_Labels_quoted.j3
      repeat' first
      | (with_reducible exact ih0 _ _ _ _ _ _ _ _ _)
      | (with_reducible exact ih1 _ _ _ _ _ _ _ _ _)
      | (with_reducible exact ih2 _ _ _ _ _ _ _ _ _ _)
      | (with_reducible exact ih3 _ _ _ _ _ _ _ _ _ _ _)
      | (with_reducible exact ih4 _ _ _ _ _ _ _ _ _ _ _)
      | (with_reducible exact redpenref10_Labels_put.mono _ _ _ _ _)
      | (with_reducible exact LeO.refl _)
      | (with_reducible exact LeO.none _)
      | (with_reducible refine LeO.ite ?_ ?_)
      | (with_reducible refine LeO.bind ?_ (fun _ => ?_))
      | exact ih0 _ _ _ _ _ _ _ _ _
      | exact ih1 _ _ _ _ _ _ _ _ _
      | exact ih2 _ _ _ _ _ _ _ _ _ _
      | exact ih3 _ _ _ _ _ _ _ _ _ _ _
      | exact ih4 _ _ _ _ _ _ _ _ _ _ _
      | exact redpenref10_Labels_put.mono _ _ _ _ _
      | exact LeO.none _
      | refine LeO.ite ?_ ?_
      | refine LeO.bind ?_ (fun _ => ?_)
    · intro y0 y1 y2 y3 y4 y5 y6 y7 y8 y9 y10
      unfold redpenref10_Labels_quoted.j4
      repeat' first
      | (with_reducible exact ih0 _ _ _ _ _ _ _ _ _)
      | (with_reducible exact ih1 _ _ _ _ _ _ _ _ _)
      | (with_reducible exact ih2 _ _ _ _ _ _ _ _ _ _)
      | (with_reducible exact ih3 _ _ _ _ _ _ _ _ _ _ _)
      | (with_reducible exact ih4 _ _ _ _ _ _ _ _ _ _ _)
      | (with_reducible exact redpenref10_Labels_put.mono _ _ _ _ _)
      | (with_reducible exact LeO.refl _)
      | (with_reducible exact LeO.none _)
      | (with_reducible refine LeO.ite ?_ ?_)
      | (with_reducible refine LeO.bind ?_ (fun _ => ?_))
      | exact ih0 _ _ _ _ _ _ _ _ _
      | exact ih1 _ _ _ _ _ _ _ _ _
      | exact ih2 _ _ _ _ _ _ _ _ _ _
      | exact ih3 _ _ _ _ _ _ _ _ _ _ _
      | exact ih4 _ _ _ _ _ _ _ _ _ _ _
      | exact redpenref10_Labels_put.mono _ _ _ _ _
      | exact LeO.none _
      | refine LeO.ite ?_ ?_
      | refine LeO.bind ?_ (fun _ => ?_)
theorem redpenref10_Labels_quoted.mono : ∀ a0 a1 a2 a3 a4 a5 a6 a7 k, LeO (redpenref10_Labels_quoted.f k a0 a1 a2 a3 a4 a5 a6 a7) (redpenref10_Labels_quoted.f (k + 1) a0 a1 a2 a3 a4 a5 a6 a7) := by
  intro a0 a1 a2 a3 a4 a5 a6 a7 k
  obtain ⟨ih0, ih1, ih2, ih3, ih4⟩ := redpenref10_Labels_quoted.mono_l k
  unfold redpenref10_Labels_quoted.f
  repeat' first
      | (with_reducible exact ih0 _ _ _ _ _ _ _ _ _)
      | (with_reducible exact ih1 _ _ _ _ _ _ _ _ _)
      | (with_reducible exact ih2 _ _ _ _ _ _ _ _ _ _)
      | (with_reducible exact ih3 _ _ _ _ _ _ _ _ _ _ _)
      | (with_reducible exact ih4 _ _ _ _ _ _ _ _ _ _ _)
      | (with_reducible exact redpenref10_Labels_put.mono _ _ _ _ _)
      | (with_reducible exact LeO.refl _)
      | (with_reducible exact LeO.none _)
      | (with_reducible refine LeO.ite ?_ ?_)
      | (with_reducible refine LeO.bind ?_ (fun _ => ?_))
      | exact ih0 _ _ _ _ _ _ _ _ _
      | exact ih1 _ _ _ _ _ _ _ _ _
      | exact ih2 _ _ _ _ _ _ _ _ _ _
      | exact ih3 _ _ _ _ _ _ _ _ _ _ _
      | exact ih4 _ _ _ _ _ _ _ _ _ _ _
      | exact redpenref10_Labels_put.mono _ _ _ _ _
      | exact LeO.none _
      | refine LeO.ite ?_ ?_
      | refine LeO.bind ?_ (fun _ => ?_)
set_option maxHeartbeats 8000000 in
set_option maxRecDepth 100000 in
theorem redpenref10_Labels_quoted.calls (k : Nat) (P0_ : Nat → Prop) (u9000_ : Value) (l0 : List Int) (a1 : ByteArray) (a2 : Int) (a3_0 : ByteArray) (a3_1 : Bool) (a3_2 : Bool) (a3_3 : Bool) (a3_4 : Bool) (r1 : Int) (r2 : List Int) (w0 w : World) (hB : Below w0.heap.size w0 w) (ho0 : Kd.R (Kd.int .u8) 43 w w0.heap.size P0_ u9000_ l0) (h : redpenref10_Labels_quoted.f k l0 a1 a2 a3_0 a3_1 a3_2 a3_3 a3_4 = some (r1, r2)) :
    Calls Try.prog 28 #[u9000_, .string a1, .int .i64 a2, .agg #[.string a3_0, .bool a3_1, .bool a3_2, .bool a3_3, .bool a3_4]] w fun e w' => e = .returned (.int .i64 r1) ∧ Kd.R (Kd.int .u8) 43 w' w0.heap.size (fun k_ => (P0_ k_ ∨ w.heap.size ≤ k_)) u9000_ r2 ∧ Below w0.heap.size w0 w' ∧ Kept w w' (fun k_ => P0_ k_) := by
  have hu69 := Try.underlying69
  have HO0 := Aside0.mk (show Kd.R (Kd.int .u8) 43 w w0.heap.size (fun k_ => (P0_ k_ ∨ w.heap.size ≤ k_)) u9000_ l0 from Kd.R_mono ho0 (fun k_ hk => (.inl hk)))
  have HK := Aside0.mk (Kept.refl w (fun k_ => P0_ k_))
  have HW0 := Aside0.mk hB.size
  have HB := Aside0.mk hB
  clear hB
  have H : (if a3_4 = true then (redpenref10_Labels_quoted.j0 k l0 a1 a2 7 a3_0 a3_1 a3_2 a3_3 a3_4) else (redpenref10_Labels_quoted.j0 k l0 a1 a2 5 a3_0 a3_1 a3_2 a3_3 a3_4)) = some (r1, r2) := h
  clear h
  have HC5 := Aside0.mk H
  clear H
  go_enter Try.func28, Try.ntmps28
  go_upto_if 12 with (first | ((with_reducible refine gate_dst (N := 7) rfl ?_); (try (refine gate_guard (by rfl) ?_; dsimp only)); refine box_event ?hg (N := 7) ?hd (cs := #[.string a3_0, .bool a3_1, .bool a3_2, .bool a3_3, .bool a3_4]) (t := 69) ?hr ?_; (case hd => rfl); (case hg => rfl); (case hr => first | (go_simp; done) | (go_simp; rfl)); intro gb136 hg w6 hbox hb; have n0_ := Aside0.mk (Kd.R_below (by (with_reducible repeat (first | apply Kd.R_alloc | apply Kd.R_drewN | apply Kd.R_drew)); exact HO0.out) hb); have n1_ := Aside0.mk (Kept.below (S := (fun k_ => P0_ k_)) (by repeat (first | (with_reducible first | exact HK.out | apply Kept.alloc | apply Kept.drewN | apply Kept.drew) | exact HK.out)) hb); have n2_ := Aside0.mk (below_step (by repeat (first | (with_reducible first | exact HB.out | apply below_alloc | apply pw_below_drewN | apply below_drew1) | exact HB.out)) hb); have n3_ := Aside0.mk (hbox); have n4_ := Aside0.mk ((by rw [hg]; exact (by first | exact HK.out.1 | exact (show Kept w _ (fun k_ => P0_ k_) from by repeat (first | (with_reducible first | exact HK.out | apply Kept.alloc | apply Kept.drewN | apply Kept.drew) | exact HK.out)).1) : w.heap.size ≤ gb136)); have n5_ := Aside0.mk ((by rw [hg]; exact (below_size (by repeat (first | (with_reducible first | exact HB.out | apply below_alloc | apply pw_below_drewN | apply below_drew1) | exact HB.out))) : w0.heap.size ≤ gb136)); clear HO0; clear HK; clear HB; have HO0 := n0_; have HK := n1_; have HB := n2_; have BK136 := n3_; have GW136 := n4_; have GE136 := n5_; clear n0_ n1_ n2_ n3_ n4_ n5_; clear hb hbox hg; have hcz7_0 : w6.cell? ⟨gb136, 0, none⟩ = some (.string a3_0) := (blk_cell BK136.out 0).trans rfl; have hcz7_1 : w6.cell? ⟨gb136, 1, none⟩ = some (.bool a3_1) := (blk_cell BK136.out 1).trans rfl; have hcz7_2 : w6.cell? ⟨gb136, 2, none⟩ = some (.bool a3_2) := (blk_cell BK136.out 2).trans rfl; have hcz7_3 : w6.cell? ⟨gb136, 3, none⟩ = some (.bool a3_3) := (blk_cell BK136.out 3).trans rfl; have hcz7_4 : w6.cell? ⟨gb136, 4, none⟩ = some (.bool a3_4) := (blk_cell BK136.out 4).trans rfl; have hfz7_0 := blk_frozen BK136.out 0; have hfz7_1 := blk_frozen BK136.out 1; have hfz7_2 := blk_frozen BK136.out 2; have hfz7_3 := blk_frozen BK136.out 3; have hfz7_4 := blk_frozen BK136.out 4))
  (try simp only [Act.put, List.setIfInBounds_toArray, List.set_cons_zero, List.set_cons_succ])
  go_cut [9] (fun v9 wc => ∃ (kq : Nat) (x9_4 : Int), v9 = .int .u8 x9_4 ∧ Aside0 (redpenref10_Labels_quoted.j0 kq l0 a1 a2 x9_4 a3_0 a3_1 a3_2 a3_3 a3_4 = some (r1, r2)) ∧ Aside0 (kq ≤ k) ∧ Aside0 (Kd.R (Kd.int .u8) 43 wc w0.heap.size (fun k_ => (P0_ k_ ∨ w.heap.size ≤ k_)) u9000_ l0) ∧ Aside0 (wc.heap[gb136]? = some (.cells #[.string a3_0, .bool a3_1, .bool a3_2, .bool a3_3, .bool a3_4] 69 (0, 0))) ∧ Aside0 (Kept w wc (fun k_ => P0_ k_)) ∧ Aside0 (Below w0.heap.size w0 wc))
  case first =>
    have H := HC5.out
    clear HC5
    by_cases c8 : a3_4 = true
    · subst c8
      have H1 : (redpenref10_Labels_quoted.j0 k l0 a1 a2 7 a3_0 a3_1 a3_2 a3_3 true) = some (r1, r2) := by rw [if_pos rfl] at H; exact H
      clear H
      have H := H1
      clear H1
      have H' := Aside0.mk H
      clear H
      go_wp2
      go_meet
      case rel => exact ⟨_, (7), (by first | rfl | (simp; done) | (simp [*]; done)), H', ⟨by first | omega | exact Nat.le_refl _⟩, ⟨by (with_reducible repeat (first | apply Kd.R_alloc | apply Kd.R_drewN | apply Kd.R_drew)); exact HO0.out⟩, ⟨by (with_reducible repeat (first | refine blk_drewN ?_ _ | refine blk_drew ?_ | refine blk_alloc ?_ _)); exact BK136.out⟩, ⟨by repeat (first | (with_reducible first | exact HK.out | apply Kept.alloc | apply Kept.drewN | apply Kept.drew | refine Kept.setCell ?_ (.inr GW136.out) _) | exact HK.out)⟩, ⟨by repeat (first | (with_reducible first | exact HB.out | apply below_alloc | apply pw_below_drewN | apply below_drew1 | refine below_set ?_ GE136.out) | exact HB.out)⟩⟩
    · replace c8 := Bool.eq_false_iff.mpr c8
      subst c8
      have H1 : (redpenref10_Labels_quoted.j0 k l0 a1 a2 5 a3_0 a3_1 a3_2 a3_3 false) = some (r1, r2) := by rw [if_neg (show ¬ (false = true) by decide)] at H; exact H
      clear H
      have H := H1
      clear H1
      have H' := Aside0.mk H
      clear H
      go_wp2
      go_meet
      case rel => exact ⟨_, (5), (by first | rfl | (simp; done) | (simp [*]; done)), H', ⟨by first | omega | exact Nat.le_refl _⟩, ⟨by (with_reducible repeat (first | apply Kd.R_alloc | apply Kd.R_drewN | apply Kd.R_drew)); exact HO0.out⟩, ⟨by (with_reducible repeat (first | refine blk_drewN ?_ _ | refine blk_drew ?_ | refine blk_alloc ?_ _)); exact BK136.out⟩, ⟨by repeat (first | (with_reducible first | exact HK.out | apply Kept.alloc | apply Kept.drewN | apply Kept.drew | refine Kept.setCell ?_ (.inr GW136.out) _) | exact HK.out)⟩, ⟨by repeat (first | (with_reducible first | exact HB.out | apply below_alloc | apply pw_below_drewN | apply below_drew1 | refine below_set ?_ GE136.out) | exact HB.out)⟩⟩
  case rest =>
    clear HC5
    try clear c2
    try clear p2
    try clear c8
    try clear hcz7_0
    try clear hcz7_1
    try clear hcz7_2
    try clear hcz7_3
    try clear hcz7_4
    try clear hfz7_0
    try clear hfz7_1
    try clear hfz7_2
    try clear hfz7_3
    try clear hfz7_4
    obtain ⟨kq, x9_4, rfl, HA, HJ4, HO_0, BK136, HK, HB⟩ := hcut
    cases kq with
    | zero => exact absurd HA.out (by simp [redpenref10_Labels_quoted.j0])
    | succ kj4 =>
      have H := HA.out
      clear HA
      simp only [redpenref10_Labels_quoted.j0] at H
      have H' := Aside0.mk H
      clear H
      go_wp2
      go_loopg [2] kj4 (fun kq v2 w' => ∃ (x0_2 : List Int) (x2_2 : Int), v2 = .int .i64 x2_2 ∧ Aside0 (redpenref10_Labels_quoted.l0 kq x0_2 a1 x2_2 x9_4 a3_0 a3_1 a3_2 a3_3 a3_4 = some (r1, r2)) ∧ Aside0 (kq ≤ kj4) ∧ Aside0 (Kd.R (Kd.int .u8) 43 w' w0.heap.size (fun k_ => (P0_ k_ ∨ w.heap.size ≤ k_)) u9000_ x0_2) ∧ Aside0 (w'.heap[gb136]? = some (.cells #[.string a3_0, .bool a3_1, .bool a3_2, .bool a3_3, .bool a3_4] 69 (0, 0))) ∧ Aside0 (Kept w w' (fun k_ => P0_ k_)) ∧ Aside0 (Below w0.heap.size w0 w'))
      case atStart => exact ⟨(l0), (a2), (by first | rfl | (simp; done) | (simp [*]; done)), H', ⟨Nat.le_refl _⟩, ⟨by (with_reducible repeat (first | apply Kd.R_alloc | apply Kd.R_drewN | apply Kd.R_drew)); exact HO_0.out⟩, ⟨by (with_reducible repeat (first | refine blk_drewN ?_ _ | refine blk_drew ?_ | refine blk_alloc ?_ _)); exact BK136.out⟩, ⟨by repeat (first | (with_reducible first | exact HK.out | apply Kept.alloc | apply Kept.drewN | apply Kept.drew | refine Kept.setCell ?_ (.inr GW136.out) _) | exact HK.out)⟩, ⟨by repeat (first | (with_reducible first | exact HB.out | apply below_alloc | apply pw_below_drewN | apply below_drew1 | refine below_set ?_ GE136.out) | exact HB.out)⟩⟩
      case round =>
        clear H'
        try clear c2
        try clear p2
        try clear c8
        try clear hcz7_0
        try clear hcz7_1
        try clear hcz7_2
        try clear hcz7_3
        try clear hcz7_4
        try clear hfz7_0
        try clear hfz7_1
        try clear hfz7_2
        try clear hfz7_3
        try clear hfz7_4
        try clear p2
        obtain ⟨x0_2, x2_2, rfl, HA, HK2, HO_0, BK136, HK, HB⟩ := hrel
        cases gk with
        | zero => exact absurd HA.out (by simp [redpenref10_Labels_quoted.l0])
        | succ k2 =>
          have H := HA.out
          clear HA
          simp only [redpenref10_Labels_quoted.l0] at H
          by_cases c9 : x2_2 < (a1.size : Int)
          · rw [if_pos c9] at H
            have c9b0 : decide (x2_2 < (a1.size : Int)) = true := decide_eq_true c9
            clear c9
            have HC10 := Aside0.mk H
            clear H
            go_upto_region 5 with (fail)
            go_cut [25] (fun v25 wc => ∃ (kq : Nat) (x25_9 : Bool), v25 = .bool x25_9 ∧ Aside0 (redpenref10_Labels_quoted.j2 kq x0_2 a1 x2_2 x9_4 x25_9 a3_0 a3_1 a3_2 a3_3 a3_4 = some (r1, r2)) ∧ Aside0 (kq ≤ k2) ∧ Aside0 (Kd.R (Kd.int .u8) 43 wc w0.heap.size (fun k_ => (P0_ k_ ∨ w.heap.size ≤ k_)) u9000_ x0_2) ∧ Aside0 (wc.heap[gb136]? = some (.cells #[.string a3_0, .bool a3_1, .bool a3_2, .bool a3_3, .bool a3_4] 69 (0, 0))) ∧ Aside0 (Kept w wc (fun k_ => P0_ k_)) ∧ Aside0 (Below w0.heap.size w0 wc))
            case first =>
              have H := HC10.out
              clear HC10
              by_cases c11 : a3_3 = true
              · subst c11
                have H1 : (redpenref10_Labels_quoted.j2 k2 x0_2 a1 x2_2 x9_4 false a3_0 a3_1 a3_2 true a3_4) = some (r1, r2) := by rw [if_pos rfl] at H; exact H
                clear H
                have H := H1
                clear H1
                have H' := Aside0.mk H
                clear H
                have hcz12_0 : wr.cell? ⟨gb136, 0, none⟩ = some (.string a3_0) := (blk_cell BK136.out 0).trans rfl
                have hcz12_1 : wr.cell? ⟨gb136, 1, none⟩ = some (.bool a3_1) := (blk_cell BK136.out 1).trans rfl
                have hcz12_2 : wr.cell? ⟨gb136, 2, none⟩ = some (.bool a3_2) := (blk_cell BK136.out 2).trans rfl
                have hcz12_3 : wr.cell? ⟨gb136, 3, none⟩ = some (.bool true) := (blk_cell BK136.out 3).trans rfl
                have hcz12_4 : wr.cell? ⟨gb136, 4, none⟩ = some (.bool a3_4) := (blk_cell BK136.out 4).trans rfl
                have hfz12_0 := blk_frozen BK136.out 0
                have hfz12_1 := blk_frozen BK136.out 1
                have hfz12_2 := blk_frozen BK136.out 2
                have hfz12_3 := blk_frozen BK136.out 3
                have hfz12_4 := blk_frozen BK136.out 4
                go_wp2
                go_meet
                case rel => exact ⟨_, (false), (by first | rfl | (simp; done) | (simp [*]; done)), H', ⟨by have := HJ4.out; have := HK2.out; first | omega | exact Nat.le_refl _⟩, ⟨by (with_reducible repeat (first | apply Kd.R_alloc | apply Kd.R_drewN | apply Kd.R_drew)); exact HO_0.out⟩, ⟨by (with_reducible repeat (first | refine blk_drewN ?_ _ | refine blk_drew ?_ | refine blk_alloc ?_ _)); exact BK136.out⟩, ⟨by repeat (first | (with_reducible first | exact HK.out | apply Kept.alloc | apply Kept.drewN | apply Kept.drew | refine Kept.setCell ?_ (.inr GW136.out) _) | exact HK.out)⟩, ⟨by repeat (first | (with_reducible first | exact HB.out | apply below_alloc | apply pw_below_drewN | apply below_drew1 | refine below_set ?_ GE136.out) | exact HB.out)⟩⟩
              · replace c11 := Bool.eq_false_iff.mpr c11
                subst c11
                have H1 : (if 0 ≤ x2_2 then (redpenref10_Labels_quoted.j2 k2 x0_2 a1 x2_2 x9_4 ((bt a1 x2_2) == 10) a3_0 a3_1 a3_2 false a3_4) else (none)) = some (r1, r2) := by rw [if_neg (show ¬ (false = true) by decide)] at H; exact H
                clear H
                have H := H1
                clear H1
                by_cases c13 : 0 ≤ x2_2
                · rw [if_pos c13] at H
                  have c13b0 : decide (0 ≤ x2_2) = true := decide_eq_true c13
                  clear c13
                  (first | rw [c13b0] | (simp only [i64_w, i32_w]; rw [c13b0]) | skip)
                  have H' := Aside0.mk H
                  clear H
                  have hcz15_0 : wr.cell? ⟨gb136, 0, none⟩ = some (.string a3_0) := (blk_cell BK136.out 0).trans rfl
                  have hcz15_1 : wr.cell? ⟨gb136, 1, none⟩ = some (.bool a3_1) := (blk_cell BK136.out 1).trans rfl
                  have hcz15_2 : wr.cell? ⟨gb136, 2, none⟩ = some (.bool a3_2) := (blk_cell BK136.out 2).trans rfl
                  have hcz15_3 : wr.cell? ⟨gb136, 3, none⟩ = some (.bool false) := (blk_cell BK136.out 3).trans rfl
                  have hcz15_4 : wr.cell? ⟨gb136, 4, none⟩ = some (.bool a3_4) := (blk_cell BK136.out 4).trans rfl
                  have hfz15_0 := blk_frozen BK136.out 0
                  have hfz15_1 := blk_frozen BK136.out 1
                  have hfz15_2 := blk_frozen BK136.out 2
                  have hfz15_3 := blk_frozen BK136.out 3
                  have hfz15_4 := blk_frozen BK136.out 4
                  have p14 : 0 ≤ (x2_2 : Int) := of_decide_eq_true (by first | (with_reducible assumption) | assumption)
                  have q14 : x2_2 < (a1.size : Int) := of_decide_eq_true (by first | (with_reducible assumption) | assumption)
                  have hx14 := bt_at a1 x2_2
                  replace p14 := eq_true p14
                  replace q14 := eq_true q14
                  go_wp2
                  go_meet
                  case rel => exact ⟨_, (((bt a1 x2_2) == 10)), (by first | rfl | (simp; done) | (simp [*]; done)), H', ⟨by have := HJ4.out; have := HK2.out; first | omega | exact Nat.le_refl _⟩, ⟨by (with_reducible repeat (first | apply Kd.R_alloc | apply Kd.R_drewN | apply Kd.R_drew)); exact HO_0.out⟩, ⟨by (with_reducible repeat (first | refine blk_drewN ?_ _ | refine blk_drew ?_ | refine blk_alloc ?_ _)); exact BK136.out⟩, ⟨by repeat (first | (with_reducible first | exact HK.out | apply Kept.alloc | apply Kept.drewN | apply Kept.drew | refine Kept.setCell ?_ (.inr GW136.out) _) | exact HK.out)⟩, ⟨by repeat (first | (with_reducible first | exact HB.out | apply below_alloc | apply pw_below_drewN | apply below_drew1 | refine below_set ?_ GE136.out) | exact HB.out)⟩⟩
                · rw [if_neg c13] at H
                  exact absurd H (by simp)
            case rest =>
              clear HC10
              try clear c1
              try clear p1
              try clear q1
              try clear hx1
              try clear c2
              try clear p2
              try clear c8
              try clear c9
              try clear c9b0
              try clear c11
              try clear c13
              try clear c13b0
              try clear p14
              try clear q14
              try clear hx14
              try clear hcz12_0
              try clear hcz12_1
              try clear hcz12_2
              try clear hcz12_3
              try clear hcz12_4
              try clear hcz15_0
              try clear hcz15_1
              try clear hcz15_2
              try clear hcz15_3
              try clear hcz15_4
              try clear hcz7_0
              try clear hcz7_1
              try clear hcz7_2
              try clear hcz7_3
              try clear hcz7_4
              try clear hfz12_0
              try clear hfz12_1
              try clear hfz12_2
              try clear hfz12_3
              try clear hfz12_4
              try clear hfz15_0
              try clear hfz15_1
              try clear hfz15_2
              try clear hfz15_3
              try clear hfz15_4
              try clear hfz7_0
              try clear hfz7_1
              try clear hfz7_2
              try clear hfz7_3
              try clear hfz7_4
              try clear p14
              try clear p2
              try clear q14
              obtain ⟨kq, x25_9, rfl, HA, HJ9, HO_0, BK136, HK, HB⟩ := hcut
              cases kq with
              | zero => exact absurd HA.out (by simp [redpenref10_Labels_quoted.j2])
              | succ kj9 =>
                have H := HA.out
                clear HA
                simp only [redpenref10_Labels_quoted.j2] at H
                by_cases c16 : x25_9 = true
                · subst c16
                  have H1 : (some (x2_2, x0_2)) = some (r1, r2) := by rw [if_pos rfl] at H; exact H
                  clear H
                  have H := H1
                  clear H1
                  simp only [Option.some.injEq, Prod.mk.injEq] at H
                  obtain ⟨rfl, rfl⟩ := H
                  go_wp2
                  go_ret
                  exact ⟨by first | rfl | (simp [errW_none, errW_some] <;> rfl) | (simp [*, errW_none, errW_some] <;> rfl), by (with_reducible repeat (first | apply Kd.R_alloc | apply Kd.R_drewN | apply Kd.R_drew)); exact HO_0.out, by repeat (first | (with_reducible first | exact HB.out | apply below_alloc | apply pw_below_drewN | apply below_drew1 | refine below_set ?_ GE136.out) | exact HB.out), by repeat (first | (with_reducible first | exact HK.out | apply Kept.alloc | apply Kept.drewN | apply Kept.drew | refine Kept.setCell ?_ (.inr GW136.out) _) | exact HK.out)⟩
                · replace c16 := Bool.eq_false_iff.mpr c16
                  subst c16
                  have H1 : (if a3_1 = true then (if 0 ≤ x2_2 then (if x2_2 < (a1.size : Int) then (if (bt a1 x2_2) = 92 then (if (wrap64 (x2_2 + 1)) < (a1.size : Int) then (if a3_3 = true then (redpenref10_Labels_quoted.j3 kj9 x0_2 a1 x2_2 x9_4 1 true a3_0 a3_1 a3_2 a3_3 a3_4) else (if 0 ≤ (wrap64 (x2_2 + 1)) then (redpenref10_Labels_quoted.j3 kj9 x0_2 a1 x2_2 x9_4 1 ((bt a1 (wrap64 (x2_2 + 1))) != 10) a3_0 a3_1 a3_2 a3_3 a3_4) else (none))) else (redpenref10_Labels_quoted.j3 kj9 x0_2 a1 x2_2 x9_4 1 false a3_0 a3_1 a3_2 a3_3 a3_4)) else (redpenref10_Labels_quoted.j3 kj9 x0_2 a1 x2_2 x9_4 1 false a3_0 a3_1 a3_2 a3_3 a3_4)) else (none)) else (none)) else (redpenref10_Labels_quoted.j3 kj9 x0_2 a1 x2_2 x9_4 1 false a3_0 a3_1 a3_2 a3_3 a3_4)) = some (r1, r2) := by rw [if_neg (show ¬ (false = true) by decide)] at H; exact H
                  clear H
                  have H := H1
                  clear H1
                  have HC17 := Aside0.mk H
                  clear H
                  go_upto_region 8 with (fail)
                  go_cut [52] (fun v52 wc => ∃ (kq : Nat) (x52_16 : Bool), v52 = .bool x52_16 ∧ Aside0 (redpenref10_Labels_quoted.j3 kq x0_2 a1 x2_2 x9_4 1 x52_16 a3_0 a3_1 a3_2 a3_3 a3_4 = some (r1, r2)) ∧ Aside0 (kq ≤ kj9) ∧ Aside0 (Kd.R (Kd.int .u8) 43 wc w0.heap.size (fun k_ => (P0_ k_ ∨ w.heap.size ≤ k_)) u9000_ x0_2) ∧ Aside0 (wc.heap[gb136]? = some (.cells #[.string a3_0, .bool a3_1, .bool a3_2, .bool a3_3, .bool a3_4] 69 (0, 0))) ∧ Aside0 (Kept w wc (fun k_ => P0_ k_)) ∧ Aside0 (Below w0.heap.size w0 wc))
                  case first =>
                    have H := HC17.out
                    clear HC17
                    by_cases c18 : a3_1 = true
                    · subst c18
                      have H1 : (if 0 ≤ x2_2 then (if x2_2 < (a1.size : Int) then (if (bt a1 x2_2) = 92 then (if (wrap64 (x2_2 + 1)) < (a1.size : Int) then (if a3_3 = true then (redpenref10_Labels_quoted.j3 kj9 x0_2 a1 x2_2 x9_4 1 true a3_0 true a3_2 a3_3 a3_4) else (if 0 ≤ (wrap64 (x2_2 + 1)) then (redpenref10_Labels_quoted.j3 kj9 x0_2 a1 x2_2 x9_4 1 ((bt a1 (wrap64 (x2_2 + 1))) != 10) a3_0 true a3_2 a3_3 a3_4) else (none))) else (redpenref10_Labels_quoted.j3 kj9 x0_2 a1 x2_2 x9_4 1 false a3_0 true a3_2 a3_3 a3_4)) else (redpenref10_Labels_quoted.j3 kj9 x0_2 a1 x2_2 x9_4 1 false a3_0 true a3_2 a3_3 a3_4)) else (none)) else (none)) = some (r1, r2) := by rw [if_pos rfl] at H; exact H
                      clear H
                      have H := H1
                      clear H1
                      by_cases c19 : 0 ≤ x2_2
                      · rw [if_pos c19] at H
                        have c19b0 : decide (0 ≤ x2_2) = true := decide_eq_true c19
                        clear c19
                        (first | rw [c19b0] | (simp only [i64_w, i32_w]; rw [c19b0]) | skip)
                        by_cases c20 : x2_2 < (a1.size : Int)
                        · rw [if_pos c20] at H
                          have c20b0 : decide (x2_2 < (a1.size : Int)) = true := decide_eq_true c20
                          clear c20
                          by_cases c22 : (bt a1 x2_2) = 92
                          · rw [if_pos c22] at H
                            have c22b0 : ((bt a1 x2_2) == 92) = true := beq_iff_eq.mpr c22
                            have c22b1 : ((bt a1 x2_2) != 92) = false := bne_eq_false_iff_eq.mpr c22
                            clear c22
                            by_cases c23 : (wrap64 (x2_2 + 1)) < (a1.size : Int)
                            · rw [if_pos c23] at H
                              have c23b0 : decide ((wrap64 (x2_2 + 1)) < (a1.size : Int)) = true := decide_eq_true c23
                              clear c23
                              by_cases c24 : a3_3 = true
                              · subst c24
                                have H1 : (redpenref10_Labels_quoted.j3 kj9 x0_2 a1 x2_2 x9_4 1 true a3_0 true a3_2 true a3_4) = some (r1, r2) := by rw [if_pos rfl] at H; exact H
                                clear H
                                have H := H1
                                clear H1
                                have H' := Aside0.mk H
                                clear H
                                have hcz25_0 : wc.cell? ⟨gb136, 0, none⟩ = some (.string a3_0) := (blk_cell BK136.out 0).trans rfl
                                have hcz25_1 : wc.cell? ⟨gb136, 1, none⟩ = some (.bool true) := (blk_cell BK136.out 1).trans rfl
                                have hcz25_2 : wc.cell? ⟨gb136, 2, none⟩ = some (.bool a3_2) := (blk_cell BK136.out 2).trans rfl
                                have hcz25_3 : wc.cell? ⟨gb136, 3, none⟩ = some (.bool true) := (blk_cell BK136.out 3).trans rfl
                                have hcz25_4 : wc.cell? ⟨gb136, 4, none⟩ = some (.bool a3_4) := (blk_cell BK136.out 4).trans rfl
                                have hfz25_0 := blk_frozen BK136.out 0
                                have hfz25_1 := blk_frozen BK136.out 1
                                have hfz25_2 := blk_frozen BK136.out 2
                                have hfz25_3 := blk_frozen BK136.out 3
                                have hfz25_4 := blk_frozen BK136.out 4
                                have p21 : 0 ≤ (x2_2 : Int) := of_decide_eq_true (by first | (with_reducible assumption) | assumption)
                                have q21 : x2_2 < (a1.size : Int) := of_decide_eq_true (by first | (with_reducible assumption) | assumption)
                                have hx21 := bt_at a1 x2_2
                                replace p21 := eq_true p21
                                replace q21 := eq_true q21
                                go_wp2
                                go_meet
                                case rel => exact ⟨_, (true), (by first | rfl | (simp; done) | (simp [*]; done)), H', ⟨by have := HJ4.out; have := HK2.out; have := HJ9.out; first | omega | exact Nat.le_refl _⟩, ⟨by (with_reducible repeat (first | apply Kd.R_alloc | apply Kd.R_drewN | apply Kd.R_drew)); exact HO_0.out⟩, ⟨by (with_reducible repeat (first | refine blk_drewN ?_ _ | refine blk_drew ?_ | refine blk_alloc ?_ _)); exact BK136.out⟩, ⟨by repeat (first | (with_reducible first | exact HK.out | apply Kept.alloc | apply Kept.drewN | apply Kept.drew | refine Kept.setCell ?_ (.inr GW136.out) _) | exact HK.out)⟩, ⟨by repeat (first | (with_reducible first | exact HB.out | apply below_alloc | apply pw_below_drewN | apply below_drew1 | refine below_set ?_ GE136.out) | exact HB.out)⟩⟩
                              · replace c24 := Bool.eq_false_iff.mpr c24
                                subst c24
                                have H1 : (if 0 ≤ (wrap64 (x2_2 + 1)) then (redpenref10_Labels_quoted.j3 kj9 x0_2 a1 x2_2 x9_4 1 ((bt a1 (wrap64 (x2_2 + 1))) != 10) a3_0 true a3_2 false a3_4) else (none)) = some (r1, r2) := by rw [if_neg (show ¬ (false = true) by decide)] at H; exact H
                                clear H
                                have H := H1
                                clear H1
                                obtain ⟨ji26, hji26⟩ : ∃ j_ : Int, (wrap64 (x2_2 + 1)) = j_ := ⟨_, rfl⟩
                                replace H : (if 0 ≤ (ji26) then (redpenref10_Labels_quoted.j3 kj9 x0_2 a1 x2_2 x9_4 1 ((bt a1 (ji26)) != 10) a3_0 true a3_2 false a3_4) else (none)) = some (r1, r2) := by first | (rw [hji26] at H; exact H) | (simp only [hji26] at H ⊢; exact H)
                                (try rw [hji26] at c23b0)
                                have hji26w : (IntKind.i64.wrap (x2_2 + 1)) = ji26 := (i64_w _).trans hji26
                                by_cases c27 : 0 ≤ (ji26)
                                · rw [if_pos c27] at H
                                  have c27b0 : decide (0 ≤ (ji26)) = true := decide_eq_true c27
                                  clear c27
                                  have H' := Aside0.mk H
                                  clear H
                                  have hcz29_0 : wc.cell? ⟨gb136, 0, none⟩ = some (.string a3_0) := (blk_cell BK136.out 0).trans rfl
                                  have hcz29_1 : wc.cell? ⟨gb136, 1, none⟩ = some (.bool true) := (blk_cell BK136.out 1).trans rfl
                                  have hcz29_2 : wc.cell? ⟨gb136, 2, none⟩ = some (.bool a3_2) := (blk_cell BK136.out 2).trans rfl
                                  have hcz29_3 : wc.cell? ⟨gb136, 3, none⟩ = some (.bool false) := (blk_cell BK136.out 3).trans rfl
                                  have hcz29_4 : wc.cell? ⟨gb136, 4, none⟩ = some (.bool a3_4) := (blk_cell BK136.out 4).trans rfl
                                  have hfz29_0 := blk_frozen BK136.out 0
                                  have hfz29_1 := blk_frozen BK136.out 1
                                  have hfz29_2 := blk_frozen BK136.out 2
                                  have hfz29_3 := blk_frozen BK136.out 3
                                  have hfz29_4 := blk_frozen BK136.out 4
                                  have p21 : 0 ≤ (x2_2 : Int) := of_decide_eq_true (by first | (with_reducible assumption) | assumption)
                                  have q21 : x2_2 < (a1.size : Int) := of_decide_eq_true (by first | (with_reducible assumption) | assumption)
                                  have hx21 := bt_at a1 x2_2
                                  replace p21 := eq_true p21
                                  replace q21 := eq_true q21
                                  have p28 : 0 ≤ ((ji26) : Int) := of_decide_eq_true (by first | (with_reducible assumption) | assumption)
                                  have q28 : (ji26) < (a1.size : Int) := of_decide_eq_true (by first | (with_reducible assumption) | assumption)
                                  have hx28 := bt_at a1 (ji26)
                                  replace p28 := eq_true p28
                                  replace q28 := eq_true q28
                                  go_wp2
                                  go_meet
                                  case rel => exact ⟨_, (((bt a1 (ji26)) != 10)), (by first | rfl | (simp; done) | (simp only [← hji26] <;> (first | rfl | simp)) | (simp [*]; done)), H', ⟨by have := HJ4.out; have := HK2.out; have := HJ9.out; first | omega | exact Nat.le_refl _⟩, ⟨by (with_reducible repeat (first | apply Kd.R_alloc | apply Kd.R_drewN | apply Kd.R_drew)); exact HO_0.out⟩, ⟨by (with_reducible repeat (first | refine blk_drewN ?_ _ | refine blk_drew ?_ | refine blk_alloc ?_ _)); exact BK136.out⟩, ⟨by repeat (first | (with_reducible first | exact HK.out | apply Kept.alloc | apply Kept.drewN | apply Kept.drew | refine Kept.setCell ?_ (.inr GW136.out) _) | exact HK.out)⟩, ⟨by repeat (first | (with_reducible first | exact HB.out | apply below_alloc | apply pw_below_drewN | apply below_drew1 | refine below_set ?_ GE136.out) | exact HB.out)⟩⟩
                                · rw [if_neg c27] at H
                                  exact absurd H (by simp)
                            · rw [if_neg c23] at H
                              have c23b0 : decide ((wrap64 (x2_2 + 1)) < (a1.size : Int)) = false := decide_eq_false c23
                              clear c23
                              have H' := Aside0.mk H
                              clear H
                              have hcz30_0 : wc.cell? ⟨gb136, 0, none⟩ = some (.string a3_0) := (blk_cell BK136.out 0).trans rfl
                              have hcz30_1 : wc.cell? ⟨gb136, 1, none⟩ = some (.bool true) := (blk_cell BK136.out 1).trans rfl
                              have hcz30_2 : wc.cell? ⟨gb136, 2, none⟩ = some (.bool a3_2) := (blk_cell BK136.out 2).trans rfl
                              have hcz30_3 : wc.cell? ⟨gb136, 3, none⟩ = some (.bool a3_3) := (blk_cell BK136.out 3).trans rfl
                              have hcz30_4 : wc.cell? ⟨gb136, 4, none⟩ = some (.bool a3_4) := (blk_cell BK136.out 4).trans rfl
                              have hfz30_0 := blk_frozen BK136.out 0
                              have hfz30_1 := blk_frozen BK136.out 1
                              have hfz30_2 := blk_frozen BK136.out 2
                              have hfz30_3 := blk_frozen BK136.out 3
                              have hfz30_4 := blk_frozen BK136.out 4
                              have p21 : 0 ≤ (x2_2 : Int) := of_decide_eq_true (by first | (with_reducible assumption) | assumption)
                              have q21 : x2_2 < (a1.size : Int) := of_decide_eq_true (by first | (with_reducible assumption) | assumption)
                              have hx21 := bt_at a1 x2_2
                              replace p21 := eq_true p21
                              replace q21 := eq_true q21
                              go_wp2
                              go_meet
                              case rel => exact ⟨_, (false), (by first | rfl | (simp; done) | (simp [*]; done)), H', ⟨by have := HJ4.out; have := HK2.out; have := HJ9.out; first | omega | exact Nat.le_refl _⟩, ⟨by (with_reducible repeat (first | apply Kd.R_alloc | apply Kd.R_drewN | apply Kd.R_drew)); exact HO_0.out⟩, ⟨by (with_reducible repeat (first | refine blk_drewN ?_ _ | refine blk_drew ?_ | refine blk_alloc ?_ _)); exact BK136.out⟩, ⟨by repeat (first | (with_reducible first | exact HK.out | apply Kept.alloc | apply Kept.drewN | apply Kept.drew | refine Kept.setCell ?_ (.inr GW136.out) _) | exact HK.out)⟩, ⟨by repeat (first | (with_reducible first | exact HB.out | apply below_alloc | apply pw_below_drewN | apply below_drew1 | refine below_set ?_ GE136.out) | exact HB.out)⟩⟩
                          · rw [if_neg c22] at H
                            have c22b0 : ((bt a1 x2_2) == 92) = false := beq_eq_false_iff_ne.mpr c22
                            have c22b1 : ((bt a1 x2_2) != 92) = true := bne_iff_ne.mpr c22
                            have H' := Aside0.mk H
                            clear H
                            have hcz31_0 : wc.cell? ⟨gb136, 0, none⟩ = some (.string a3_0) := (blk_cell BK136.out 0).trans rfl
                            have hcz31_1 : wc.cell? ⟨gb136, 1, none⟩ = some (.bool true) := (blk_cell BK136.out 1).trans rfl
                            have hcz31_2 : wc.cell? ⟨gb136, 2, none⟩ = some (.bool a3_2) := (blk_cell BK136.out 2).trans rfl
                            have hcz31_3 : wc.cell? ⟨gb136, 3, none⟩ = some (.bool a3_3) := (blk_cell BK136.out 3).trans rfl
                            have hcz31_4 : wc.cell? ⟨gb136, 4, none⟩ = some (.bool a3_4) := (blk_cell BK136.out 4).trans rfl
                            have hfz31_0 := blk_frozen BK136.out 0
                            have hfz31_1 := blk_frozen BK136.out 1
                            have hfz31_2 := blk_frozen BK136.out 2
                            have hfz31_3 := blk_frozen BK136.out 3
                            have hfz31_4 := blk_frozen BK136.out 4
                            have p21 : 0 ≤ (x2_2 : Int) := of_decide_eq_true (by first | (with_reducible assumption) | assumption)
                            have q21 : x2_2 < (a1.size : Int) := of_decide_eq_true (by first | (with_reducible assumption) | assumption)
                            have hx21 := bt_at a1 x2_2
                            replace p21 := eq_true p21
                            replace q21 := eq_true q21
                            go_wp2
                            go_meet
                            case rel => exact ⟨_, (false), (by first | rfl | (simp; done) | (simp [*]; done)), H', ⟨by have := HJ4.out; have := HK2.out; have := HJ9.out; first | omega | exact Nat.le_refl _⟩, ⟨by (with_reducible repeat (first | apply Kd.R_alloc | apply Kd.R_drewN | apply Kd.R_drew)); exact HO_0.out⟩, ⟨by (with_reducible repeat (first | refine blk_drewN ?_ _ | refine blk_drew ?_ | refine blk_alloc ?_ _)); exact BK136.out⟩, ⟨by repeat (first | (with_reducible first | exact HK.out | apply Kept.alloc | apply Kept.drewN | apply Kept.drew | refine Kept.setCell ?_ (.inr GW136.out) _) | exact HK.out)⟩, ⟨by repeat (first | (with_reducible first | exact HB.out | apply below_alloc | apply pw_below_drewN | apply below_drew1 | refine below_set ?_ GE136.out) | exact HB.out)⟩⟩
                        · rw [if_neg c20] at H
                          exact absurd H (by simp)
                      · rw [if_neg c19] at H
                        exact absurd H (by simp)
                    · replace c18 := Bool.eq_false_iff.mpr c18
                      subst c18
                      have H1 : (redpenref10_Labels_quoted.j3 kj9 x0_2 a1 x2_2 x9_4 1 false a3_0 false a3_2 a3_3 a3_4) = some (r1, r2) := by rw [if_neg (show ¬ (false = true) by decide)] at H; exact H
                      clear H
                      have H := H1
                      clear H1
                      have H' := Aside0.mk H
                      clear H
                      have hcz32_0 : wc.cell? ⟨gb136, 0, none⟩ = some (.string a3_0) := (blk_cell BK136.out 0).trans rfl
                      have hcz32_1 : wc.cell? ⟨gb136, 1, none⟩ = some (.bool false) := (blk_cell BK136.out 1).trans rfl
                      have hcz32_2 : wc.cell? ⟨gb136, 2, none⟩ = some (.bool a3_2) := (blk_cell BK136.out 2).trans rfl
                      have hcz32_3 : wc.cell? ⟨gb136, 3, none⟩ = some (.bool a3_3) := (blk_cell BK136.out 3).trans rfl
                      have hcz32_4 : wc.cell? ⟨gb136, 4, none⟩ = some (.bool a3_4) := (blk_cell BK136.out 4).trans rfl
                      have hfz32_0 := blk_frozen BK136.out 0
                      have hfz32_1 := blk_frozen BK136.out 1
                      have hfz32_2 := blk_frozen BK136.out 2
                      have hfz32_3 := blk_frozen BK136.out 3
                      have hfz32_4 := blk_frozen BK136.out 4
                      go_wp2
                      go_meet
                      case rel => exact ⟨_, (false), (by first | rfl | (simp; done) | (simp [*]; done)), H', ⟨by have := HJ4.out; have := HK2.out; have := HJ9.out; first | omega | exact Nat.le_refl _⟩, ⟨by (with_reducible repeat (first | apply Kd.R_alloc | apply Kd.R_drewN | apply Kd.R_drew)); exact HO_0.out⟩, ⟨by (with_reducible repeat (first | refine blk_drewN ?_ _ | refine blk_drew ?_ | refine blk_alloc ?_ _)); exact BK136.out⟩, ⟨by repeat (first | (with_reducible first | exact HK.out | apply Kept.alloc | apply Kept.drewN | apply Kept.drew | refine Kept.setCell ?_ (.inr GW136.out) _) | exact HK.out)⟩, ⟨by repeat (first | (with_reducible first | exact HB.out | apply below_alloc | apply pw_below_drewN | apply below_drew1 | refine below_set ?_ GE136.out) | exact HB.out)⟩⟩
                  case rest =>
                    clear HC17
                    try clear c1
                    try clear p1
                    try clear q1
                    try clear hx1
                    try clear c2
                    try clear p2
                    try clear q2
                    try clear hx2
                    try clear p6
                    try clear c8
                    try clear c9
                    try clear c9b0
                    try clear c11
                    try clear c13
                    try clear c13b0
                    try clear p14
                    try clear q14
                    try clear hx14
                    try clear c16
                    try clear c18
                    try clear c19
                    try clear c19b0
                    try clear c20
                    try clear c20b0
                    try clear p21
                    try clear q21
                    try clear hx21
                    try clear c22
                    try clear c22b0
                    try clear c22b1
                    try clear c23
                    try clear c23b0
                    try clear c24
                    try clear c27
                    try clear c27b0
                    try clear c28
                    try clear p28
                    try clear q28
                    try clear hx28
                    try clear hcz12_0
                    try clear hcz12_1
                    try clear hcz12_2
                    try clear hcz12_3
                    try clear hcz12_4
                    try clear hcz15_0
                    try clear hcz15_1
                    try clear hcz15_2
                    try clear hcz15_3
                    try clear hcz15_4
                    try clear hcz25_0
                    try clear hcz25_1
                    try clear hcz25_2
                    try clear hcz25_3
                    try clear hcz25_4
                    try clear hcz29_0
                    try clear hcz29_1
                    try clear hcz29_2
                    try clear hcz29_3
                    try clear hcz29_4
                    try clear hcz30_0
                    try clear hcz30_1
                    try clear hcz30_2
                    try clear hcz30_3
                    try clear hcz30_4
                    try clear hcz31_0
                    try clear hcz31_1
                    try clear hcz31_2
                    try clear hcz31_3
                    try clear hcz31_4
                    try clear hcz32_0
                    try clear hcz32_1
                    try clear hcz32_2
                    try clear hcz32_3
                    try clear hcz32_4
                    try clear hcz7_0
                    try clear hcz7_1
                    try clear hcz7_2
                    try clear hcz7_3
                    try clear hcz7_4
                    try clear hfz12_0
                    try clear hfz12_1
                    try clear hfz12_2
                    try clear hfz12_3
                    try clear hfz12_4
                    try clear hfz15_0
                    try clear hfz15_1
                    try clear hfz15_2
                    try clear hfz15_3
                    try clear hfz15_4
                    try clear hfz25_0
                    try clear hfz25_1
                    try clear hfz25_2
                    try clear hfz25_3
                    try clear hfz25_4
                    try clear hfz29_0
                    try clear hfz29_1
                    try clear hfz29_2
                    try clear hfz29_3
                    try clear hfz29_4
                    try clear hfz30_0
                    try clear hfz30_1
                    try clear hfz30_2
                    try clear hfz30_3
                    try clear hfz30_4
                    try clear hfz31_0
                    try clear hfz31_1
                    try clear hfz31_2
                    try clear hfz31_3
                    try clear hfz31_4
                    try clear hfz32_0
                    try clear hfz32_1
                    try clear hfz32_2
                    try clear hfz32_3
                    try clear hfz32_4
                    try clear hfz7_0
                    try clear hfz7_1
                    try clear hfz7_2
                    try clear hfz7_3
                    try clear hfz7_4
                    try clear p1
                    try clear p14
                    try clear p2
                    try clear p21
                    try clear p28
                    try clear q1
                    try clear q14
                    try clear q21
                    try clear q28
                    obtain ⟨kq, x52_16, rfl, HA, HJ16, HO_0, BK136, HK, HB⟩ := hcut
                    cases kq with
                    | zero => exact absurd HA.out (by simp [redpenref10_Labels_quoted.j3])
                    | succ kj16 =>
                      have H := HA.out
                      clear HA
                      simp only [redpenref10_Labels_quoted.j3] at H
                      by_cases c33 : x52_16 = true
                      · subst c33
                        have H1 : ((redpenref10_Labels_put.f kj16 x0_2 x9_4 x2_2 (wrap64 (x2_2 + 2))).bind fun t137 => (redpenref10_Labels_quoted.l0 kj16 t137 a1 (wrap64 (x2_2 + 2)) x9_4 a3_0 a3_1 a3_2 a3_3 a3_4)) = some (r1, r2) := by rw [if_pos rfl] at H; exact H
                        clear H
                        have H := H1
                        clear H1
                        replace H := Option.bind_eq_some_iff.mp H
                        obtain ⟨t137, A340, H⟩ := H
                        replace H : (redpenref10_Labels_quoted.l0 kj16 t137 a1 (wrap64 (x2_2 + 2)) x9_4 a3_0 a3_1 a3_2 a3_3 a3_4) = some (r1, r2) := H
                        have A34 := Aside0.mk A340
                        clear A340
                        have H' := Aside0.mk H
                        clear H
                        obtain ⟨Ao35, co35, eo35⟩ := Kd.R_slice HO_0.out
                        subst eo35
                        go_wp2_with (first | ((with_reducible refine gate_callee (f := 24) rfl ?_); refine goesL_ (some 81) rfl rfl Try.func24 (by kernel_rfl) rfl #[.slice Ao35 x0_2.length co35, .int .u8 x9_4, .int .i64 x2_2, .int .i64 (wrap64 (x2_2 + 2))] rfl (by (try simp only [List.map_toArray, List.map_cons, List.map_nil]); first | done | rfl | (simp only [List.length_drop, List.length_take]; rfl)) ?_; (with_reducible refine (redpenref10_Labels_put.calls kj16 (fun k_ => some k_ = (.slice Ao35 x0_2.length co35 : Value).ownBlock) (.slice Ao35 x0_2.length co35) x0_2 x9_4 x2_2 (wrap64 (x2_2 + 2)) t137 w0 _ ?side1 ?side2 A34.out).mono ?_); (case side1 => repeat (first | (with_reducible first | exact HB.out | apply below_alloc | apply pw_below_drewN | apply below_drew1 | refine below_set ?_ GE136.out) | exact HB.out)); (case side2 => exact Kd.R_tight rfl HO_0.out); rintro e w36 ⟨rfl, hy0, hb, hkp⟩; refine ⟨_, rfl, ?_⟩; have n0_ := Aside0.mk (Kd.R_reok rfl hy0 (fun k_ e_ => HO_0.out.1 k_ e_)); have n1_ := Aside0.mk (blk_kept (by (with_reducible repeat (first | refine blk_drewN ?_ _ | refine blk_drew ?_ | refine blk_alloc ?_ _)); exact BK136.out) hkp (fun hs_ => (fun e_ => (Kd.R_ne HO_0.out BK136.out (by decide)) e_) hs_)); have n2_ := Aside0.mk (Kept.then_ (S := (fun k_ => P0_ k_)) (by repeat (first | (with_reducible first | exact HK.out | apply Kept.alloc | apply Kept.drewN | apply Kept.drew | refine Kept.setCell ?_ (.inr GW136.out) _) | exact HK.out)) hkp (fun k_ hs_ => (fun e_ => (HO_0.out.1 k_ e_.symm)) hs_)); have n3_ := Aside0.mk (hb); clear HO_0; clear BK136; clear HK; clear HB; have HO_0 := n0_; have BK136 := n1_; have HK := n2_; have HB := n3_; clear n0_ n1_ n2_ n3_; (try clear hb); (try clear hkp); (try clear hy0)))
                        go_roundg kj16
                        case measure => have := HJ4.out; have := HK2.out; have := HJ9.out; have := HJ16.out; omega
                        case rel => exact ⟨(t137), (wrap64 (x2_2 + 2)), (by first | rfl | (simp; done) | (simp [*]; done)), H', ⟨by have := HJ4.out; have := HK2.out; have := HJ9.out; have := HJ16.out; omega⟩, ⟨by (with_reducible repeat (first | apply Kd.R_alloc | apply Kd.R_drewN | apply Kd.R_drew)); exact HO_0.out⟩, ⟨by (with_reducible repeat (first | refine blk_drewN ?_ _ | refine blk_drew ?_ | refine blk_alloc ?_ _)); exact BK136.out⟩, ⟨by repeat (first | (with_reducible first | exact HK.out | apply Kept.alloc | apply Kept.drewN | apply Kept.drew | refine Kept.setCell ?_ (.inr GW136.out) _) | exact HK.out)⟩, ⟨by repeat (first | (with_reducible first | exact HB.out | apply below_alloc | apply pw_below_drewN | apply below_drew1 | refine below_set ?_ GE136.out) | exact HB.out)⟩⟩
                      · replace c33 := Bool.eq_false_iff.mpr c33
                        subst c33
                        have H1 : (if a3_2 = true then (if a3_0.size + a3_0.size ≤ 9223372036854775807 then ((redpenref10_at.f a1 x2_2 (a3_0 ++ a3_0)).bind fun t138 => (redpenref10_Labels_quoted.j4 kj16 x0_2 a1 x2_2 x9_4 1 t138 a3_0 a3_1 a3_2 a3_3 a3_4)) else (none)) else (redpenref10_Labels_quoted.j4 kj16 x0_2 a1 x2_2 x9_4 1 false a3_0 a3_1 a3_2 a3_3 a3_4)) = some (r1, r2) := by rw [if_neg (show ¬ (false = true) by decide)] at H; exact H
                        clear H
                        have H := H1
                        clear H1
                        have HC37 := Aside0.mk H
                        clear H
                        go_upto_region 10 with (fail)
                        go_cut [64] (fun v64 wc => ∃ (kq : Nat) (x64_36 : Bool), v64 = .bool x64_36 ∧ Aside0 (redpenref10_Labels_quoted.j4 kq x0_2 a1 x2_2 x9_4 1 x64_36 a3_0 a3_1 a3_2 a3_3 a3_4 = some (r1, r2)) ∧ Aside0 (kq ≤ kj16) ∧ Aside0 (Kd.R (Kd.int .u8) 43 wc w0.heap.size (fun k_ => (P0_ k_ ∨ w.heap.size ≤ k_)) u9000_ x0_2) ∧ Aside0 (wc.heap[gb136]? = some (.cells #[.string a3_0, .bool a3_1, .bool a3_2, .bool a3_3, .bool a3_4] 69 (0, 0))) ∧ Aside0 (Kept w wc (fun k_ => P0_ k_)) ∧ Aside0 (Below w0.heap.size w0 wc))
                        case first =>
                          have H := HC37.out
                          clear HC37
                          by_cases c38 : a3_2 = true
                          · subst c38
                            have H1 : (if a3_0.size + a3_0.size ≤ 9223372036854775807 then ((redpenref10_at.f a1 x2_2 (a3_0 ++ a3_0)).bind fun t138 => (redpenref10_Labels_quoted.j4 kj16 x0_2 a1 x2_2 x9_4 1 t138 a3_0 a3_1 true a3_3 a3_4)) else (none)) = some (r1, r2) := by rw [if_pos rfl] at H; exact H
                            clear H
                            have H := H1
                            clear H1
                            by_cases c39 : a3_0.size + a3_0.size ≤ 9223372036854775807
                            · rw [if_pos c39] at H
                              have c39b0 := eq_true c39
                              have c39b1 : decide (a3_0.size + a3_0.size ≤ 9223372036854775807) = true := decide_eq_true c39
                              try have c39b2 : (9223372036854775807 < a3_0.size + a3_0.size) = False := eq_false (Nat.not_lt.2 c39)
                              replace H := Option.bind_eq_some_iff.mp H
                              obtain ⟨t138, A400, H⟩ := H
                              replace H : (redpenref10_Labels_quoted.j4 kj16 x0_2 a1 x2_2 x9_4 1 t138 a3_0 a3_1 true a3_3 a3_4) = some (r1, r2) := H
                              have A40 := Aside0.mk A400
                              clear A400
                              have H' := Aside0.mk H
                              clear H
                              have hcz41_0 : wc.cell? ⟨gb136, 0, none⟩ = some (.string a3_0) := (blk_cell BK136.out 0).trans rfl
                              have hcz41_1 : wc.cell? ⟨gb136, 1, none⟩ = some (.bool a3_1) := (blk_cell BK136.out 1).trans rfl
                              have hcz41_2 : wc.cell? ⟨gb136, 2, none⟩ = some (.bool true) := (blk_cell BK136.out 2).trans rfl
                              have hcz41_3 : wc.cell? ⟨gb136, 3, none⟩ = some (.bool a3_3) := (blk_cell BK136.out 3).trans rfl
                              have hcz41_4 : wc.cell? ⟨gb136, 4, none⟩ = some (.bool a3_4) := (blk_cell BK136.out 4).trans rfl
                              have hfz41_0 := blk_frozen BK136.out 0
                              have hfz41_1 := blk_frozen BK136.out 1
                              have hfz41_2 := blk_frozen BK136.out 2
                              have hfz41_3 := blk_frozen BK136.out 3
                              have hfz41_4 := blk_frozen BK136.out 4
                              go_wp2_with (first | (go_at_call 25; (with_reducible refine (redpenref10_at.calls a1 x2_2 (a3_0 ++ a3_0) t138 _ A40.out).mono ?_); rintro e w' ⟨rfl, ⟨nd, rfl⟩⟩))
                              go_meet
                              case rel => exact ⟨_, (t138), (by first | rfl | (simp; done) | (simp [*]; done)), H', ⟨by have := HJ4.out; have := HK2.out; have := HJ9.out; have := HJ16.out; first | omega | exact Nat.le_refl _⟩, ⟨by (with_reducible repeat (first | apply Kd.R_alloc | apply Kd.R_drewN | apply Kd.R_drew)); exact HO_0.out⟩, ⟨by (with_reducible repeat (first | refine blk_drewN ?_ _ | refine blk_drew ?_ | refine blk_alloc ?_ _)); exact BK136.out⟩, ⟨by repeat (first | (with_reducible first | exact HK.out | apply Kept.alloc | apply Kept.drewN | apply Kept.drew | refine Kept.setCell ?_ (.inr GW136.out) _) | exact HK.out)⟩, ⟨by repeat (first | (with_reducible first | exact HB.out | apply below_alloc | apply pw_below_drewN | apply below_drew1 | refine below_set ?_ GE136.out) | exact HB.out)⟩⟩
                            · rw [if_neg c39] at H
                              exact absurd H (by simp)
                          · replace c38 := Bool.eq_false_iff.mpr c38
                            subst c38
                            have H1 : (redpenref10_Labels_quoted.j4 kj16 x0_2 a1 x2_2 x9_4 1 false a3_0 a3_1 false a3_3 a3_4) = some (r1, r2) := by rw [if_neg (show ¬ (false = true) by decide)] at H; exact H
                            clear H
                            have H := H1
                            clear H1
                            have H' := Aside0.mk H
                            clear H
                            have hcz42_0 : wc.cell? ⟨gb136, 0, none⟩ = some (.string a3_0) := (blk_cell BK136.out 0).trans rfl
                            have hcz42_1 : wc.cell? ⟨gb136, 1, none⟩ = some (.bool a3_1) := (blk_cell BK136.out 1).trans rfl
                            have hcz42_2 : wc.cell? ⟨gb136, 2, none⟩ = some (.bool false) := (blk_cell BK136.out 2).trans rfl
                            have hcz42_3 : wc.cell? ⟨gb136, 3, none⟩ = some (.bool a3_3) := (blk_cell BK136.out 3).trans rfl
                            have hcz42_4 : wc.cell? ⟨gb136, 4, none⟩ = some (.bool a3_4) := (blk_cell BK136.out 4).trans rfl
                            have hfz42_0 := blk_frozen BK136.out 0
                            have hfz42_1 := blk_frozen BK136.out 1
                            have hfz42_2 := blk_frozen BK136.out 2
                            have hfz42_3 := blk_frozen BK136.out 3
                            have hfz42_4 := blk_frozen BK136.out 4
                            go_wp2
                            go_meet
                            case rel => exact ⟨_, (false), (by first | rfl | (simp; done) | (simp [*]; done)), H', ⟨by have := HJ4.out; have := HK2.out; have := HJ9.out; have := HJ16.out; first | omega | exact Nat.le_refl _⟩, ⟨by (with_reducible repeat (first | apply Kd.R_alloc | apply Kd.R_drewN | apply Kd.R_drew)); exact HO_0.out⟩, ⟨by (with_reducible repeat (first | refine blk_drewN ?_ _ | refine blk_drew ?_ | refine blk_alloc ?_ _)); exact BK136.out⟩, ⟨by repeat (first | (with_reducible first | exact HK.out | apply Kept.alloc | apply Kept.drewN | apply Kept.drew | refine Kept.setCell ?_ (.inr GW136.out) _) | exact HK.out)⟩, ⟨by repeat (first | (with_reducible first | exact HB.out | apply below_alloc | apply pw_below_drewN | apply below_drew1 | refine below_set ?_ GE136.out) | exact HB.out)⟩⟩
                        case rest =>
                          clear HC37
                          try clear c1
                          try clear p1
                          try clear q1
                          try clear hx1
                          try clear c2
                          try clear p2
                          try clear q2
                          try clear hx2
                          try clear c3
                          try clear p6
                          try clear c8
                          try clear c9
                          try clear c9b0
                          try clear c11
                          try clear c13
                          try clear c13b0
                          try clear p14
                          try clear q14
                          try clear hx14
                          try clear c16
                          try clear c18
                          try clear c19
                          try clear c19b0
                          try clear c20
                          try clear c20b0
                          try clear p21
                          try clear q21
                          try clear hx21
                          try clear c22
                          try clear c22b0
                          try clear c22b1
                          try clear c23
                          try clear c23b0
                          try clear c24
                          try clear c27
                          try clear c27b0
                          try clear c28
                          try clear p28
                          try clear q28
                          try clear hx28
                          try clear c33
                          try clear c38
                          try clear c39
                          try clear c39b0
                          try clear c39b1
                          try clear c39b2
                          try clear hcz12_0
                          try clear hcz12_1
                          try clear hcz12_2
                          try clear hcz12_3
                          try clear hcz12_4
                          try clear hcz15_0
                          try clear hcz15_1
                          try clear hcz15_2
                          try clear hcz15_3
                          try clear hcz15_4
                          try clear hcz25_0
                          try clear hcz25_1
                          try clear hcz25_2
                          try clear hcz25_3
                          try clear hcz25_4
                          try clear hcz29_0
                          try clear hcz29_1
                          try clear hcz29_2
                          try clear hcz29_3
                          try clear hcz29_4
                          try clear hcz30_0
                          try clear hcz30_1
                          try clear hcz30_2
                          try clear hcz30_3
                          try clear hcz30_4
                          try clear hcz31_0
                          try clear hcz31_1
                          try clear hcz31_2
                          try clear hcz31_3
                          try clear hcz31_4
                          try clear hcz32_0
                          try clear hcz32_1
                          try clear hcz32_2
                          try clear hcz32_3
                          try clear hcz32_4
                          try clear hcz41_0
                          try clear hcz41_1
                          try clear hcz41_2
                          try clear hcz41_3
                          try clear hcz41_4
                          try clear hcz42_0
                          try clear hcz42_1
                          try clear hcz42_2
                          try clear hcz42_3
                          try clear hcz42_4
                          try clear hcz7_0
                          try clear hcz7_1
                          try clear hcz7_2
                          try clear hcz7_3
                          try clear hcz7_4
                          try clear hfz12_0
                          try clear hfz12_1
                          try clear hfz12_2
                          try clear hfz12_3
                          try clear hfz12_4
                          try clear hfz15_0
                          try clear hfz15_1
                          try clear hfz15_2
                          try clear hfz15_3
                          try clear hfz15_4
                          try clear hfz25_0
                          try clear hfz25_1
                          try clear hfz25_2
                          try clear hfz25_3
                          try clear hfz25_4
                          try clear hfz29_0
                          try clear hfz29_1
                          try clear hfz29_2
                          try clear hfz29_3
                          try clear hfz29_4
                          try clear hfz30_0
                          try clear hfz30_1
                          try clear hfz30_2
                          try clear hfz30_3
                          try clear hfz30_4
                          try clear hfz31_0
                          try clear hfz31_1
                          try clear hfz31_2
                          try clear hfz31_3
                          try clear hfz31_4
                          try clear hfz32_0
                          try clear hfz32_1
                          try clear hfz32_2
                          try clear hfz32_3
                          try clear hfz32_4
                          try clear hfz41_0
                          try clear hfz41_1
                          try clear hfz41_2
                          try clear hfz41_3
                          try clear hfz41_4
                          try clear hfz42_0
                          try clear hfz42_1
                          try clear hfz42_2
                          try clear hfz42_3
                          try clear hfz42_4
                          try clear hfz7_0
                          try clear hfz7_1
                          try clear hfz7_2
                          try clear hfz7_3
                          try clear hfz7_4
                          try clear p1
                          try clear p14
                          try clear p2
                          try clear p21
                          try clear p28
                          try clear p6
                          try clear q1
                          try clear q14
                          try clear q2
                          try clear q21
                          try clear q28
                          obtain ⟨kq, x64_36, rfl, HA, HJ36, HO_0, BK136, HK, HB⟩ := hcut
                          cases kq with
                          | zero => exact absurd HA.out (by simp [redpenref10_Labels_quoted.j4])
                          | succ kj36 =>
                            have H := HA.out
                            clear HA
                            simp only [redpenref10_Labels_quoted.j4] at H
                            by_cases c43 : x64_36 = true
                            · subst c43
                              have H1 : ((redpenref10_Labels_put.f kj36 x0_2 x9_4 x2_2 (wrap64 (x2_2 + 2))).bind fun t139 => (redpenref10_Labels_quoted.l0 kj36 t139 a1 (wrap64 (x2_2 + 2)) x9_4 a3_0 a3_1 a3_2 a3_3 a3_4)) = some (r1, r2) := by rw [if_pos rfl] at H; exact H
                              clear H
                              have H := H1
                              clear H1
                              replace H := Option.bind_eq_some_iff.mp H
                              obtain ⟨t139, A440, H⟩ := H
                              replace H : (redpenref10_Labels_quoted.l0 kj36 t139 a1 (wrap64 (x2_2 + 2)) x9_4 a3_0 a3_1 a3_2 a3_3 a3_4) = some (r1, r2) := H
                              have A44 := Aside0.mk A440
                              clear A440
                              have H' := Aside0.mk H
                              clear H
                              obtain ⟨Ao45, co45, eo45⟩ := Kd.R_slice HO_0.out
                              subst eo45
                              go_wp2_with (first | ((with_reducible refine gate_callee (f := 24) rfl ?_); refine goesL_ (some 81) rfl rfl Try.func24 (by kernel_rfl) rfl #[.slice Ao45 x0_2.length co45, .int .u8 x9_4, .int .i64 x2_2, .int .i64 (wrap64 (x2_2 + 2))] rfl (by (try simp only [List.map_toArray, List.map_cons, List.map_nil]); first | done | rfl | (simp only [List.length_drop, List.length_take]; rfl)) ?_; (with_reducible refine (redpenref10_Labels_put.calls kj36 (fun k_ => some k_ = (.slice Ao45 x0_2.length co45 : Value).ownBlock) (.slice Ao45 x0_2.length co45) x0_2 x9_4 x2_2 (wrap64 (x2_2 + 2)) t139 w0 _ ?side1 ?side2 A44.out).mono ?_); (case side1 => repeat (first | (with_reducible first | exact HB.out | apply below_alloc | apply pw_below_drewN | apply below_drew1 | refine below_set ?_ GE136.out) | exact HB.out)); (case side2 => exact Kd.R_tight rfl HO_0.out); rintro e w46 ⟨rfl, hy0, hb, hkp⟩; refine ⟨_, rfl, ?_⟩; have n0_ := Aside0.mk (Kd.R_reok rfl hy0 (fun k_ e_ => HO_0.out.1 k_ e_)); have n1_ := Aside0.mk (blk_kept (by (with_reducible repeat (first | refine blk_drewN ?_ _ | refine blk_drew ?_ | refine blk_alloc ?_ _)); exact BK136.out) hkp (fun hs_ => (fun e_ => (Kd.R_ne HO_0.out BK136.out (by decide)) e_) hs_)); have n2_ := Aside0.mk (Kept.then_ (S := (fun k_ => P0_ k_)) (by repeat (first | (with_reducible first | exact HK.out | apply Kept.alloc | apply Kept.drewN | apply Kept.drew | refine Kept.setCell ?_ (.inr GW136.out) _) | exact HK.out)) hkp (fun k_ hs_ => (fun e_ => (HO_0.out.1 k_ e_.symm)) hs_)); have n3_ := Aside0.mk (hb); clear HO_0; clear BK136; clear HK; clear HB; have HO_0 := n0_; have BK136 := n1_; have HK := n2_; have HB := n3_; clear n0_ n1_ n2_ n3_; (try clear hb); (try clear hkp); (try clear hy0)))
                              go_roundg kj36
                              case measure => have := HJ4.out; have := HK2.out; have := HJ9.out; have := HJ16.out; have := HJ36.out; omega
                              case rel => exact ⟨(t139), (wrap64 (x2_2 + 2)), (by first | rfl | (simp; done) | (simp [*]; done)), H', ⟨by have := HJ4.out; have := HK2.out; have := HJ9.out; have := HJ16.out; have := HJ36.out; omega⟩, ⟨by (with_reducible repeat (first | apply Kd.R_alloc | apply Kd.R_drewN | apply Kd.R_drew)); exact HO_0.out⟩, ⟨by (with_reducible repeat (first | refine blk_drewN ?_ _ | refine blk_drew ?_ | refine blk_alloc ?_ _)); exact BK136.out⟩, ⟨by repeat (first | (with_reducible first | exact HK.out | apply Kept.alloc | apply Kept.drewN | apply Kept.drew | refine Kept.setCell ?_ (.inr GW136.out) _) | exact HK.out)⟩, ⟨by repeat (first | (with_reducible first | exact HB.out | apply below_alloc | apply pw_below_drewN | apply below_drew1 | refine below_set ?_ GE136.out) | exact HB.out)⟩⟩
                            · replace c43 := Bool.eq_false_iff.mpr c43
                              subst c43
                              have H1 : ((redpenref10_at.f a1 x2_2 a3_0).bind fun t140 => (if t140 = true then (some (wrap64 (x2_2 + (a3_0.size : Int)), x0_2)) else ((redpenref10_Labels_put.f kj36 x0_2 x9_4 x2_2 (wrap64 (x2_2 + 1))).bind fun t141 => (redpenref10_Labels_quoted.l0 kj36 t141 a1 (wrap64 (x2_2 + 1)) x9_4 a3_0 a3_1 a3_2 a3_3 a3_4)))) = some (r1, r2) := by rw [if_neg (show ¬ (false = true) by decide)] at H; exact H
                              clear H
                              have H := H1
                              clear H1
                              replace H := Option.bind_eq_some_iff.mp H
                              obtain ⟨t140, A470, H⟩ := H
                              replace H : (if t140 = true then (some (wrap64 (x2_2 + (a3_0.size : Int)), x0_2)) else ((redpenref10_Labels_put.f kj36 x0_2 x9_4 x2_2 (wrap64 (x2_2 + 1))).bind fun t141 => (redpenref10_Labels_quoted.l0 kj36 t141 a1 (wrap64 (x2_2 + 1)) x9_4 a3_0 a3_1 a3_2 a3_3 a3_4))) = some (r1, r2) := H
                              have A47 := Aside0.mk A470
                              clear A470
                              by_cases c48 : t140 = true
                              · subst c48
                                have H1 : (some (wrap64 (x2_2 + (a3_0.size : Int)), x0_2)) = some (r1, r2) := by rw [if_pos rfl] at H; exact H
                                clear H
                                have H := H1
                                clear H1
                                simp only [Option.some.injEq, Prod.mk.injEq] at H
                                obtain ⟨rfl, rfl⟩ := H
                                have hcz49_0 : wc.cell? ⟨gb136, 0, none⟩ = some (.string a3_0) := (blk_cell BK136.out 0).trans rfl
                                have hcz49_1 : wc.cell? ⟨gb136, 1, none⟩ = some (.bool a3_1) := (blk_cell BK136.out 1).trans rfl
                                have hcz49_2 : wc.cell? ⟨gb136, 2, none⟩ = some (.bool a3_2) := (blk_cell BK136.out 2).trans rfl
                                have hcz49_3 : wc.cell? ⟨gb136, 3, none⟩ = some (.bool a3_3) := (blk_cell BK136.out 3).trans rfl
                                have hcz49_4 : wc.cell? ⟨gb136, 4, none⟩ = some (.bool a3_4) := (blk_cell BK136.out 4).trans rfl
                                have hfz49_0 := blk_frozen BK136.out 0
                                have hfz49_1 := blk_frozen BK136.out 1
                                have hfz49_2 := blk_frozen BK136.out 2
                                have hfz49_3 := blk_frozen BK136.out 3
                                have hfz49_4 := blk_frozen BK136.out 4
                                go_wp2_with (first | ((with_reducible refine gate_callee (f := 25) rfl ?_); refine goesL_ (some 69) rfl rfl Try.func25 (by kernel_rfl) rfl #[.string a1, .int .i64 x2_2, .string a3_0] rfl (by (try simp only [List.map_toArray, List.map_cons, List.map_nil]); first | done | rfl | (simp only [List.length_drop, List.length_take]; rfl)) ?_; (with_reducible refine (redpenref10_at.calls a1 x2_2 a3_0 true _ A47.out).mono ?_); rintro e w' ⟨rfl, ⟨nd, rfl⟩⟩; refine ⟨_, rfl, ?_⟩))
                                go_ret
                                exact ⟨by first | rfl | (simp [errW_none, errW_some] <;> rfl) | (simp [*, errW_none, errW_some] <;> rfl), by (with_reducible repeat (first | apply Kd.R_alloc | apply Kd.R_drewN | apply Kd.R_drew)); exact HO_0.out, by repeat (first | (with_reducible first | exact HB.out | apply below_alloc | apply pw_below_drewN | apply below_drew1 | refine below_set ?_ GE136.out) | exact HB.out), by repeat (first | (with_reducible first | exact HK.out | apply Kept.alloc | apply Kept.drewN | apply Kept.drew | refine Kept.setCell ?_ (.inr GW136.out) _) | exact HK.out)⟩
                              · replace c48 := Bool.eq_false_iff.mpr c48
                                subst c48
                                have H1 : ((redpenref10_Labels_put.f kj36 x0_2 x9_4 x2_2 (wrap64 (x2_2 + 1))).bind fun t141 => (redpenref10_Labels_quoted.l0 kj36 t141 a1 (wrap64 (x2_2 + 1)) x9_4 a3_0 a3_1 a3_2 a3_3 a3_4)) = some (r1, r2) := by rw [if_neg (show ¬ (false = true) by decide)] at H; exact H
                                clear H
                                have H := H1
                                clear H1
                                replace H := Option.bind_eq_some_iff.mp H
                                obtain ⟨t141, A500, H⟩ := H
                                replace H : (redpenref10_Labels_quoted.l0 kj36 t141 a1 (wrap64 (x2_2 + 1)) x9_4 a3_0 a3_1 a3_2 a3_3 a3_4) = some (r1, r2) := H
                                have A50 := Aside0.mk A500
                                clear A500
                                have H' := Aside0.mk H
                                clear H
                                have hcz51_0 : wc.cell? ⟨gb136, 0, none⟩ = some (.string a3_0) := (blk_cell BK136.out 0).trans rfl
                                have hcz51_1 : wc.cell? ⟨gb136, 1, none⟩ = some (.bool a3_1) := (blk_cell BK136.out 1).trans rfl
                                have hcz51_2 : wc.cell? ⟨gb136, 2, none⟩ = some (.bool a3_2) := (blk_cell BK136.out 2).trans rfl
                                have hcz51_3 : wc.cell? ⟨gb136, 3, none⟩ = some (.bool a3_3) := (blk_cell BK136.out 3).trans rfl
                                have hcz51_4 : wc.cell? ⟨gb136, 4, none⟩ = some (.bool a3_4) := (blk_cell BK136.out 4).trans rfl
                                have hfz51_0 := blk_frozen BK136.out 0
                                have hfz51_1 := blk_frozen BK136.out 1
                                have hfz51_2 := blk_frozen BK136.out 2
                                have hfz51_3 := blk_frozen BK136.out 3
                                have hfz51_4 := blk_frozen BK136.out 4
                                go_wp2_with (first | ((with_reducible refine gate_callee (f := 25) rfl ?_); refine goesL_ (some 69) rfl rfl Try.func25 (by kernel_rfl) rfl #[.string a1, .int .i64 x2_2, .string a3_0] rfl (by (try simp only [List.map_toArray, List.map_cons, List.map_nil]); first | done | rfl | (simp only [List.length_drop, List.length_take]; rfl)) ?_; (with_reducible refine (redpenref10_at.calls a1 x2_2 a3_0 false _ A47.out).mono ?_); rintro e w' ⟨rfl, ⟨nd, rfl⟩⟩; refine ⟨_, rfl, ?_⟩; obtain ⟨Ao52, co52, eo52⟩ := Kd.R_slice HO_0.out; subst eo52) | ((with_reducible refine gate_callee (f := 24) rfl ?_); refine goesL_ (some 81) rfl rfl Try.func24 (by kernel_rfl) rfl #[.slice Ao52 x0_2.length co52, .int .u8 x9_4, .int .i64 x2_2, .int .i64 (wrap64 (x2_2 + 1))] rfl (by (try simp only [List.map_toArray, List.map_cons, List.map_nil]); first | done | rfl | (simp only [List.length_drop, List.length_take]; rfl)) ?_; (with_reducible refine (redpenref10_Labels_put.calls kj36 (fun k_ => some k_ = (.slice Ao52 x0_2.length co52 : Value).ownBlock) (.slice Ao52 x0_2.length co52) x0_2 x9_4 x2_2 (wrap64 (x2_2 + 1)) t141 w0 _ ?side1 ?side2 A50.out).mono ?_); (case side1 => repeat (first | (with_reducible first | exact HB.out | apply below_alloc | apply pw_below_drewN | apply below_drew1 | refine below_set ?_ GE136.out) | exact HB.out)); (case side2 => exact Kd.R_tight rfl HO_0.out); rintro e w53 ⟨rfl, hy0, hb, hkp⟩; refine ⟨_, rfl, ?_⟩; have n0_ := Aside0.mk (Kd.R_reok rfl hy0 (fun k_ e_ => HO_0.out.1 k_ e_)); have n1_ := Aside0.mk (blk_kept (by (with_reducible repeat (first | refine blk_drewN ?_ _ | refine blk_drew ?_ | refine blk_alloc ?_ _)); exact BK136.out) hkp (fun hs_ => (fun e_ => (Kd.R_ne HO_0.out BK136.out (by decide)) e_) hs_)); have n2_ := Aside0.mk (Kept.then_ (S := (fun k_ => P0_ k_)) (by repeat (first | (with_reducible first | exact HK.out | apply Kept.alloc | apply Kept.drewN | apply Kept.drew | refine Kept.setCell ?_ (.inr GW136.out) _) | exact HK.out)) hkp (fun k_ hs_ => (fun e_ => (HO_0.out.1 k_ e_.symm)) hs_)); have n3_ := Aside0.mk (hb); clear HO_0; clear BK136; clear HK; clear HB; have HO_0 := n0_; have BK136 := n1_; have HK := n2_; have HB := n3_; clear n0_ n1_ n2_ n3_; (try clear hb); (try clear hkp); (try clear hy0)))
                                go_roundg kj36
                                case measure => have := HJ4.out; have := HK2.out; have := HJ9.out; have := HJ16.out; have := HJ36.out; omega
                                case rel => exact ⟨(t141), (wrap64 (x2_2 + 1)), (by first | rfl | (simp; done) | (simp [*]; done)), H', ⟨by have := HJ4.out; have := HK2.out; have := HJ9.out; have := HJ16.out; have := HJ36.out; omega⟩, ⟨by (with_reducible repeat (first | apply Kd.R_alloc | apply Kd.R_drewN | apply Kd.R_drew)); exact HO_0.out⟩, ⟨by (with_reducible repeat (first | refine blk_drewN ?_ _ | refine blk_drew ?_ | refine blk_alloc ?_ _)); exact BK136.out⟩, ⟨by repeat (first | (with_reducible first | exact HK.out | apply Kept.alloc | apply Kept.drewN | apply Kept.drew | refine Kept.setCell ?_ (.inr GW136.out) _) | exact HK.out)⟩, ⟨by repeat (first | (with_reducible first | exact HB.out | apply below_alloc | apply pw_below_drewN | apply below_drew1 | refine below_set ?_ GE136.out) | exact HB.out)⟩⟩
          · rw [if_neg c9] at H
            have c9b0 : decide (x2_2 < (a1.size : Int)) = false := decide_eq_false c9
            clear c9
            simp only [Option.some.injEq, Prod.mk.injEq] at H
            obtain ⟨rfl, rfl⟩ := H
            go_wp2
            go_ret
            exact ⟨by first | rfl | (simp [errW_none, errW_some] <;> rfl) | (simp [*, errW_none, errW_some] <;> rfl), by (with_reducible repeat (first | apply Kd.R_alloc | apply Kd.R_drewN | apply Kd.R_drew)); exact HO_0.out, by repeat (first | (with_reducible first | exact HB.out | apply below_alloc | apply pw_below_drewN | apply below_drew1 | refine below_set ?_ GE136.out) | exact HB.out), by repeat (first | (with_reducible first | exact HK.out | apply Kept.alloc | apply Kept.drewN | apply Kept.drew | refine Kept.setCell ?_ (.inr GW136.out) _) | exact HK.out)⟩

end Go.Proofs.Ytjbbogcoabgcnaa.PSrc
