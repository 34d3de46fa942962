/- The law SpanSelf, walked by hand over the printed callees: it answers true. Conditions: none. -/
import Derived.Test.YtehabojhdogghaaSpanHand
import Derived.Test.YtehabojhdogghaaOpn
namespace Go.Proofs.Ytehabojhdogghaa.Hand
open Go.RowKit Go.Proofs.YtehabojhdogghaaW.PrintWords Go.Proofs.YtehabojhdogghaaW.PrintLast Go.Proofs.YtehabojhdogghaaW.PrintMore Go.Proofs.Ytehabojhdogghaa.PSpanAsks
attribute [local go_sem high] eqSpan
set_option maxHeartbeats 4000000 in
set_option maxRecDepth 10000 in
theorem self_whole (a b c d : Int) (w : World) (hs : Snd a b) (hp : 0 < b) :
    Calls Try.prog 4 #[.agg #[.int .i64 a, .int .i64 b], .agg #[.int .i64 c, .int .i64 d]] w fun e w' => e = .returned (.bool true) ∧ Below w.heap.size w w' := by
  have hu23 := Try.underlying23
  have hm := meetS_self a b
  rw [if_pos ⟨hs, hp⟩] at hm
  obtain ⟨⟨x0, x1, x2⟩, hx⟩ : ∃ t, meetS a b c d = t := ⟨_, rfl⟩
  have hy := (meetS_comm c d a b).trans hx
  obtain ⟨⟨z0, z1, z2⟩, hz⟩ : ∃ t, joinE a b c d = t := ⟨_, rfl⟩
  have hw := (joinE_comm c d a b).trans hz
  have HM := Lib.hid hm
  have HX := Lib.hid hx
  have HY := Lib.hid hy
  have HZ := Lib.hid hz
  have HW := Lib.hid hw
  obtain ⟨t, ht⟩ : ∃ t, t = true := ⟨_, rfl⟩
  have HT := Lib.hid (show decide (Snd a b) = t by rw [ht]; simp [hs])
  clear hm hx hy hz hw hs
  subst ht
  have hd : decide (0 < b) = true := by simp; omega
  clear hp
  go_enter Try.func4, Try.ntmps4
  go_wp2_with fail
  refine (awake_at _).mono ?_
  rintro e w1 ⟨rfl, hb⟩
  have K1_0 := Lib.hid (blk_below (blk_alloc (blk_new w (.cells #[.int .i64 a, .int .i64 b] 23 (0, 0))) _) hb)
  have K1_1 := Lib.hid (blk_below (blk_new2 w _ (.cells #[.int .i64 c, .int .i64 d] 23 (0, 0))) hb)
  have HB1 := Lib.hid (below_step (below_alloc (below_alloc (Below.refl w.heap.size w) _) _) hb)
  clear hb
  have c1_0_0 : w1.cell? ⟨w.heap.size, 0, none⟩ = some (.int .i64 a) := (blk_cell K1_0.out 0).trans rfl
  have c1_0_1 : w1.cell? ⟨w.heap.size, 1, none⟩ = some (.int .i64 b) := (blk_cell K1_0.out 1).trans rfl
  have c1_1_0 : w1.cell? ⟨w.heap.size + 1, 0, none⟩ = some (.int .i64 c) := (blk_cell K1_1.out 0).trans rfl
  have c1_1_1 : w1.cell? ⟨w.heap.size + 1, 1, none⟩ = some (.int .i64 d) := (blk_cell K1_1.out 1).trans rfl
  go_wp2_with fail
  refine (meet_at _ HM.out).mono ?_
  rintro e w2 ⟨rfl, hb⟩
  have K2_0 := Lib.hid (blk_below K1_0.out hb)
  have K2_1 := Lib.hid (blk_below K1_1.out hb)
  have HB2 := Lib.hid (below_step HB1.out hb)
  clear K1_0 K1_1 HB1 c1_0_0 c1_0_1 c1_1_0 c1_1_1
  clear hb
  have c2_0_0 : (w2.alloc (.cells #[.int .i64 a, .int .i64 b] 23 (0, 0))).cell? ⟨w.heap.size, 0, none⟩ = some (.int .i64 a) := (blk_cell (blk_alloc K2_0.out _) 0).trans rfl
  have c2_0_1 : (w2.alloc (.cells #[.int .i64 a, .int .i64 b] 23 (0, 0))).cell? ⟨w.heap.size, 1, none⟩ = some (.int .i64 b) := (blk_cell (blk_alloc K2_0.out _) 1).trans rfl
  have c2_1_0 : (w2.alloc (.cells #[.int .i64 a, .int .i64 b] 23 (0, 0))).cell? ⟨w.heap.size + 1, 0, none⟩ = some (.int .i64 c) := (blk_cell (blk_alloc K2_1.out _) 0).trans rfl
  have c2_1_1 : (w2.alloc (.cells #[.int .i64 a, .int .i64 b] 23 (0, 0))).cell? ⟨w.heap.size + 1, 1, none⟩ = some (.int .i64 d) := (blk_cell (blk_alloc K2_1.out _) 1).trans rfl
  have c2_2_0 : (w2.alloc (.cells #[.int .i64 a, .int .i64 b] 23 (0, 0))).cell? ⟨w2.heap.size, 0, none⟩ = some (.int .i64 a) := (blk_cell (blk_new w2 (.cells #[.int .i64 a, .int .i64 b] 23 (0, 0))) 0).trans rfl
  have c2_2_1 : (w2.alloc (.cells #[.int .i64 a, .int .i64 b] 23 (0, 0))).cell? ⟨w2.heap.size, 1, none⟩ = some (.int .i64 b) := (blk_cell (blk_new w2 (.cells #[.int .i64 a, .int .i64 b] 23 (0, 0))) 1).trans rfl
  go_wp2_with fail
  refine (meet_at _ HX.out).mono ?_
  rintro e w3 ⟨rfl, hb⟩
  have K3_0 := Lib.hid (blk_below (blk_alloc K2_0.out _) hb)
  have K3_1 := Lib.hid (blk_below (blk_alloc K2_1.out _) hb)
  have K3_2 := Lib.hid (blk_below (blk_new w2 (.cells #[.int .i64 a, .int .i64 b] 23 (0, 0))) hb)
  have HB3 := Lib.hid (below_step (below_alloc HB2.out _) hb)
  clear K2_0 K2_1 HB2 c2_0_0 c2_0_1 c2_1_0 c2_1_1 c2_2_0 c2_2_1
  clear hb
  have c3_0_0 : (w3.alloc (.cells #[.int .i64 x0, .int .i64 x1] 23 (0, 0))).cell? ⟨w.heap.size, 0, none⟩ = some (.int .i64 a) := (blk_cell (blk_alloc K3_0.out _) 0).trans rfl
  have c3_0_1 : (w3.alloc (.cells #[.int .i64 x0, .int .i64 x1] 23 (0, 0))).cell? ⟨w.heap.size, 1, none⟩ = some (.int .i64 b) := (blk_cell (blk_alloc K3_0.out _) 1).trans rfl
  have c3_1_0 : (w3.alloc (.cells #[.int .i64 x0, .int .i64 x1] 23 (0, 0))).cell? ⟨w.heap.size + 1, 0, none⟩ = some (.int .i64 c) := (blk_cell (blk_alloc K3_1.out _) 0).trans rfl
  have c3_1_1 : (w3.alloc (.cells #[.int .i64 x0, .int .i64 x1] 23 (0, 0))).cell? ⟨w.heap.size + 1, 1, none⟩ = some (.int .i64 d) := (blk_cell (blk_alloc K3_1.out _) 1).trans rfl
  have c3_2_0 : (w3.alloc (.cells #[.int .i64 x0, .int .i64 x1] 23 (0, 0))).cell? ⟨w2.heap.size, 0, none⟩ = some (.int .i64 a) := (blk_cell (blk_alloc K3_2.out _) 0).trans rfl
  have c3_2_1 : (w3.alloc (.cells #[.int .i64 x0, .int .i64 x1] 23 (0, 0))).cell? ⟨w2.heap.size, 1, none⟩ = some (.int .i64 b) := (blk_cell (blk_alloc K3_2.out _) 1).trans rfl
  have c3_3_0 : (w3.alloc (.cells #[.int .i64 x0, .int .i64 x1] 23 (0, 0))).cell? ⟨w3.heap.size, 0, none⟩ = some (.int .i64 x0) := (blk_cell (blk_new w3 (.cells #[.int .i64 x0, .int .i64 x1] 23 (0, 0))) 0).trans rfl
  have c3_3_1 : (w3.alloc (.cells #[.int .i64 x0, .int .i64 x1] 23 (0, 0))).cell? ⟨w3.heap.size, 1, none⟩ = some (.int .i64 x1) := (blk_cell (blk_new w3 (.cells #[.int .i64 x0, .int .i64 x1] 23 (0, 0))) 1).trans rfl
  go_wp2_with fail
  refine (meet_at _ HY.out).mono ?_
  rintro e w4 ⟨rfl, hb⟩
  have K4_0 := Lib.hid (blk_below (blk_alloc K3_0.out _) hb)
  have K4_1 := Lib.hid (blk_below (blk_alloc K3_1.out _) hb)
  have K4_2 := Lib.hid (blk_below (blk_alloc K3_2.out _) hb)
  have K4_3 := Lib.hid (blk_below (blk_new w3 (.cells #[.int .i64 x0, .int .i64 x1] 23 (0, 0))) hb)
  have HB4 := Lib.hid (below_step (below_alloc HB3.out _) hb)
  clear K3_0 K3_1 K3_2 HB3 c3_0_0 c3_0_1 c3_1_0 c3_1_1 c3_2_0 c3_2_1 c3_3_0 c3_3_1
  clear hb
  have c4_0_0 : (w4.alloc (.cells #[.int .i64 x0, .int .i64 x1] 23 (0, 0))).cell? ⟨w.heap.size, 0, none⟩ = some (.int .i64 a) := (blk_cell (blk_alloc K4_0.out _) 0).trans rfl
  have c4_0_1 : (w4.alloc (.cells #[.int .i64 x0, .int .i64 x1] 23 (0, 0))).cell? ⟨w.heap.size, 1, none⟩ = some (.int .i64 b) := (blk_cell (blk_alloc K4_0.out _) 1).trans rfl
  have c4_1_0 : (w4.alloc (.cells #[.int .i64 x0, .int .i64 x1] 23 (0, 0))).cell? ⟨w.heap.size + 1, 0, none⟩ = some (.int .i64 c) := (blk_cell (blk_alloc K4_1.out _) 0).trans rfl
  have c4_1_1 : (w4.alloc (.cells #[.int .i64 x0, .int .i64 x1] 23 (0, 0))).cell? ⟨w.heap.size + 1, 1, none⟩ = some (.int .i64 d) := (blk_cell (blk_alloc K4_1.out _) 1).trans rfl
  have c4_2_0 : (w4.alloc (.cells #[.int .i64 x0, .int .i64 x1] 23 (0, 0))).cell? ⟨w2.heap.size, 0, none⟩ = some (.int .i64 a) := (blk_cell (blk_alloc K4_2.out _) 0).trans rfl
  have c4_2_1 : (w4.alloc (.cells #[.int .i64 x0, .int .i64 x1] 23 (0, 0))).cell? ⟨w2.heap.size, 1, none⟩ = some (.int .i64 b) := (blk_cell (blk_alloc K4_2.out _) 1).trans rfl
  have c4_3_0 : (w4.alloc (.cells #[.int .i64 x0, .int .i64 x1] 23 (0, 0))).cell? ⟨w3.heap.size, 0, none⟩ = some (.int .i64 x0) := (blk_cell (blk_alloc K4_3.out _) 0).trans rfl
  have c4_3_1 : (w4.alloc (.cells #[.int .i64 x0, .int .i64 x1] 23 (0, 0))).cell? ⟨w3.heap.size, 1, none⟩ = some (.int .i64 x1) := (blk_cell (blk_alloc K4_3.out _) 1).trans rfl
  have c4_4_0 : (w4.alloc (.cells #[.int .i64 x0, .int .i64 x1] 23 (0, 0))).cell? ⟨w4.heap.size, 0, none⟩ = some (.int .i64 x0) := (blk_cell (blk_new w4 (.cells #[.int .i64 x0, .int .i64 x1] 23 (0, 0))) 0).trans rfl
  have c4_4_1 : (w4.alloc (.cells #[.int .i64 x0, .int .i64 x1] 23 (0, 0))).cell? ⟨w4.heap.size, 1, none⟩ = some (.int .i64 x1) := (blk_cell (blk_new w4 (.cells #[.int .i64 x0, .int .i64 x1] 23 (0, 0))) 1).trans rfl
  go_wp2_with fail
  refine (join_at _ HZ.out).mono ?_
  rintro e w5 ⟨rfl, hb⟩
  have K5_0 := Lib.hid (blk_below (blk_alloc K4_0.out _) hb)
  have K5_1 := Lib.hid (blk_below (blk_alloc K4_1.out _) hb)
  have K5_2 := Lib.hid (blk_below (blk_alloc K4_2.out _) hb)
  have K5_3 := Lib.hid (blk_below (blk_alloc K4_3.out _) hb)
  have K5_4 := Lib.hid (blk_below (blk_new w4 (.cells #[.int .i64 x0, .int .i64 x1] 23 (0, 0))) hb)
  have HB5 := Lib.hid (below_step (below_alloc HB4.out _) hb)
  clear K4_0 K4_1 K4_2 K4_3 HB4 c4_0_0 c4_0_1 c4_1_0 c4_1_1 c4_2_0 c4_2_1 c4_3_0 c4_3_1 c4_4_0 c4_4_1
  clear hb
  have c5_0_0 : (w5.alloc (.cells #[.int .i64 z0, .int .i64 z1] 23 (0, 0))).cell? ⟨w.heap.size, 0, none⟩ = some (.int .i64 a) := (blk_cell (blk_alloc K5_0.out _) 0).trans rfl
  have c5_0_1 : (w5.alloc (.cells #[.int .i64 z0, .int .i64 z1] 23 (0, 0))).cell? ⟨w.heap.size, 1, none⟩ = some (.int .i64 b) := (blk_cell (blk_alloc K5_0.out _) 1).trans rfl
  have c5_1_0 : (w5.alloc (.cells #[.int .i64 z0, .int .i64 z1] 23 (0, 0))).cell? ⟨w.heap.size + 1, 0, none⟩ = some (.int .i64 c) := (blk_cell (blk_alloc K5_1.out _) 0).trans rfl
  have c5_1_1 : (w5.alloc (.cells #[.int .i64 z0, .int .i64 z1] 23 (0, 0))).cell? ⟨w.heap.size + 1, 1, none⟩ = some (.int .i64 d) := (blk_cell (blk_alloc K5_1.out _) 1).trans rfl
  have c5_2_0 : (w5.alloc (.cells #[.int .i64 z0, .int .i64 z1] 23 (0, 0))).cell? ⟨w2.heap.size, 0, none⟩ = some (.int .i64 a) := (blk_cell (blk_alloc K5_2.out _) 0).trans rfl
  have c5_2_1 : (w5.alloc (.cells #[.int .i64 z0, .int .i64 z1] 23 (0, 0))).cell? ⟨w2.heap.size, 1, none⟩ = some (.int .i64 b) := (blk_cell (blk_alloc K5_2.out _) 1).trans rfl
  have c5_3_0 : (w5.alloc (.cells #[.int .i64 z0, .int .i64 z1] 23 (0, 0))).cell? ⟨w3.heap.size, 0, none⟩ = some (.int .i64 x0) := (blk_cell (blk_alloc K5_3.out _) 0).trans rfl
  have c5_3_1 : (w5.alloc (.cells #[.int .i64 z0, .int .i64 z1] 23 (0, 0))).cell? ⟨w3.heap.size, 1, none⟩ = some (.int .i64 x1) := (blk_cell (blk_alloc K5_3.out _) 1).trans rfl
  have c5_4_0 : (w5.alloc (.cells #[.int .i64 z0, .int .i64 z1] 23 (0, 0))).cell? ⟨w4.heap.size, 0, none⟩ = some (.int .i64 x0) := (blk_cell (blk_alloc K5_4.out _) 0).trans rfl
  have c5_4_1 : (w5.alloc (.cells #[.int .i64 z0, .int .i64 z1] 23 (0, 0))).cell? ⟨w4.heap.size, 1, none⟩ = some (.int .i64 x1) := (blk_cell (blk_alloc K5_4.out _) 1).trans rfl
  have c5_5_0 : (w5.alloc (.cells #[.int .i64 z0, .int .i64 z1] 23 (0, 0))).cell? ⟨w5.heap.size, 0, none⟩ = some (.int .i64 z0) := (blk_cell (blk_new w5 (.cells #[.int .i64 z0, .int .i64 z1] 23 (0, 0))) 0).trans rfl
  have c5_5_1 : (w5.alloc (.cells #[.int .i64 z0, .int .i64 z1] 23 (0, 0))).cell? ⟨w5.heap.size, 1, none⟩ = some (.int .i64 z1) := (blk_cell (blk_new w5 (.cells #[.int .i64 z0, .int .i64 z1] 23 (0, 0))) 1).trans rfl
  go_wp2_with fail
  refine (join_at _ HW.out).mono ?_
  rintro e w6 ⟨rfl, hb⟩
  have K6_0 := Lib.hid (blk_below (blk_alloc K5_0.out _) hb)
  have K6_1 := Lib.hid (blk_below (blk_alloc K5_1.out _) hb)
  have K6_2 := Lib.hid (blk_below (blk_alloc K5_2.out _) hb)
  have K6_3 := Lib.hid (blk_below (blk_alloc K5_3.out _) hb)
  have K6_4 := Lib.hid (blk_below (blk_alloc K5_4.out _) hb)
  have K6_5 := Lib.hid (blk_below (blk_new w5 (.cells #[.int .i64 z0, .int .i64 z1] 23 (0, 0))) hb)
  have HB6 := Lib.hid (below_step (below_alloc HB5.out _) hb)
  clear K5_0 K5_1 K5_2 K5_3 K5_4 HB5 c5_0_0 c5_0_1 c5_1_0 c5_1_1 c5_2_0 c5_2_1 c5_3_0 c5_3_1 c5_4_0 c5_4_1 c5_5_0 c5_5_1
  clear hb
  have c6_0_0 : (w6.alloc (.cells #[.int .i64 z0, .int .i64 z1] 23 (0, 0))).cell? ⟨w.heap.size, 0, none⟩ = some (.int .i64 a) := (blk_cell (blk_alloc K6_0.out _) 0).trans rfl
  have c6_0_1 : (w6.alloc (.cells #[.int .i64 z0, .int .i64 z1] 23 (0, 0))).cell? ⟨w.heap.size, 1, none⟩ = some (.int .i64 b) := (blk_cell (blk_alloc K6_0.out _) 1).trans rfl
  have c6_1_0 : (w6.alloc (.cells #[.int .i64 z0, .int .i64 z1] 23 (0, 0))).cell? ⟨w.heap.size + 1, 0, none⟩ = some (.int .i64 c) := (blk_cell (blk_alloc K6_1.out _) 0).trans rfl
  have c6_1_1 : (w6.alloc (.cells #[.int .i64 z0, .int .i64 z1] 23 (0, 0))).cell? ⟨w.heap.size + 1, 1, none⟩ = some (.int .i64 d) := (blk_cell (blk_alloc K6_1.out _) 1).trans rfl
  have c6_2_0 : (w6.alloc (.cells #[.int .i64 z0, .int .i64 z1] 23 (0, 0))).cell? ⟨w2.heap.size, 0, none⟩ = some (.int .i64 a) := (blk_cell (blk_alloc K6_2.out _) 0).trans rfl
  have c6_2_1 : (w6.alloc (.cells #[.int .i64 z0, .int .i64 z1] 23 (0, 0))).cell? ⟨w2.heap.size, 1, none⟩ = some (.int .i64 b) := (blk_cell (blk_alloc K6_2.out _) 1).trans rfl
  have c6_3_0 : (w6.alloc (.cells #[.int .i64 z0, .int .i64 z1] 23 (0, 0))).cell? ⟨w3.heap.size, 0, none⟩ = some (.int .i64 x0) := (blk_cell (blk_alloc K6_3.out _) 0).trans rfl
  have c6_3_1 : (w6.alloc (.cells #[.int .i64 z0, .int .i64 z1] 23 (0, 0))).cell? ⟨w3.heap.size, 1, none⟩ = some (.int .i64 x1) := (blk_cell (blk_alloc K6_3.out _) 1).trans rfl
  have c6_4_0 : (w6.alloc (.cells #[.int .i64 z0, .int .i64 z1] 23 (0, 0))).cell? ⟨w4.heap.size, 0, none⟩ = some (.int .i64 x0) := (blk_cell (blk_alloc K6_4.out _) 0).trans rfl
  have c6_4_1 : (w6.alloc (.cells #[.int .i64 z0, .int .i64 z1] 23 (0, 0))).cell? ⟨w4.heap.size, 1, none⟩ = some (.int .i64 x1) := (blk_cell (blk_alloc K6_4.out _) 1).trans rfl
  have c6_5_0 : (w6.alloc (.cells #[.int .i64 z0, .int .i64 z1] 23 (0, 0))).cell? ⟨w5.heap.size, 0, none⟩ = some (.int .i64 z0) := (blk_cell (blk_alloc K6_5.out _) 0).trans rfl
  have c6_5_1 : (w6.alloc (.cells #[.int .i64 z0, .int .i64 z1] 23 (0, 0))).cell? ⟨w5.heap.size, 1, none⟩ = some (.int .i64 z1) := (blk_cell (blk_alloc K6_5.out _) 1).trans rfl
  have c6_6_0 : (w6.alloc (.cells #[.int .i64 z0, .int .i64 z1] 23 (0, 0))).cell? ⟨w6.heap.size, 0, none⟩ = some (.int .i64 z0) := (blk_cell (blk_new w6 (.cells #[.int .i64 z0, .int .i64 z1] 23 (0, 0))) 0).trans rfl
  have c6_6_1 : (w6.alloc (.cells #[.int .i64 z0, .int .i64 z1] 23 (0, 0))).cell? ⟨w6.heap.size, 1, none⟩ = some (.int .i64 z1) := (blk_cell (blk_new w6 (.cells #[.int .i64 z0, .int .i64 z1] 23 (0, 0))) 1).trans rfl
  go_wp2_with fail
  refine (sound_at _ HT.out).mono ?_
  rintro e w7 ⟨rfl, hb⟩
  have K7_0 := Lib.hid (blk_below (blk_alloc K6_0.out _) hb)
  have K7_1 := Lib.hid (blk_below (blk_alloc K6_1.out _) hb)
  have K7_2 := Lib.hid (blk_below (blk_alloc K6_2.out _) hb)
  have K7_3 := Lib.hid (blk_below (blk_alloc K6_3.out _) hb)
  have K7_4 := Lib.hid (blk_below (blk_alloc K6_4.out _) hb)
  have K7_5 := Lib.hid (blk_below (blk_alloc K6_5.out _) hb)
  have K7_6 := Lib.hid (blk_below (blk_new w6 (.cells #[.int .i64 z0, .int .i64 z1] 23 (0, 0))) hb)
  have HB7 := Lib.hid (below_step (below_alloc HB6.out _) hb)
  clear K6_0 K6_1 K6_2 K6_3 K6_4 K6_5 HB6 c6_0_0 c6_0_1 c6_1_0 c6_1_1 c6_2_0 c6_2_1 c6_3_0 c6_3_1 c6_4_0 c6_4_1 c6_5_0 c6_5_1 c6_6_0 c6_6_1
  clear hb
  have c7_0_0 : w7.cell? ⟨w.heap.size, 0, none⟩ = some (.int .i64 a) := (blk_cell K7_0.out 0).trans rfl
  have c7_0_1 : w7.cell? ⟨w.heap.size, 1, none⟩ = some (.int .i64 b) := (blk_cell K7_0.out 1).trans rfl
  have c7_1_0 : w7.cell? ⟨w.heap.size + 1, 0, none⟩ = some (.int .i64 c) := (blk_cell K7_1.out 0).trans rfl
  have c7_1_1 : w7.cell? ⟨w.heap.size + 1, 1, none⟩ = some (.int .i64 d) := (blk_cell K7_1.out 1).trans rfl
  have c7_2_0 : w7.cell? ⟨w2.heap.size, 0, none⟩ = some (.int .i64 a) := (blk_cell K7_2.out 0).trans rfl
  have c7_2_1 : w7.cell? ⟨w2.heap.size, 1, none⟩ = some (.int .i64 b) := (blk_cell K7_2.out 1).trans rfl
  have c7_3_0 : w7.cell? ⟨w3.heap.size, 0, none⟩ = some (.int .i64 x0) := (blk_cell K7_3.out 0).trans rfl
  have c7_3_1 : w7.cell? ⟨w3.heap.size, 1, none⟩ = some (.int .i64 x1) := (blk_cell K7_3.out 1).trans rfl
  have c7_4_0 : w7.cell? ⟨w4.heap.size, 0, none⟩ = some (.int .i64 x0) := (blk_cell K7_4.out 0).trans rfl
  have c7_4_1 : w7.cell? ⟨w4.heap.size, 1, none⟩ = some (.int .i64 x1) := (blk_cell K7_4.out 1).trans rfl
  have c7_5_0 : w7.cell? ⟨w5.heap.size, 0, none⟩ = some (.int .i64 z0) := (blk_cell K7_5.out 0).trans rfl
  have c7_5_1 : w7.cell? ⟨w5.heap.size, 1, none⟩ = some (.int .i64 z1) := (blk_cell K7_5.out 1).trans rfl
  have c7_6_0 : w7.cell? ⟨w6.heap.size, 0, none⟩ = some (.int .i64 z0) := (blk_cell K7_6.out 0).trans rfl
  have c7_6_1 : w7.cell? ⟨w6.heap.size, 1, none⟩ = some (.int .i64 z1) := (blk_cell K7_6.out 1).trans rfl
  go_wp2_with fail
  go_ret
  exact ⟨rfl, HB7.out⟩
set_option maxHeartbeats 4000000 in
set_option maxRecDepth 10000 in
theorem self_nots (a b c d : Int) (w : World) (hs : ¬ Snd a b) :
    Calls Try.prog 4 #[.agg #[.int .i64 a, .int .i64 b], .agg #[.int .i64 c, .int .i64 d]] w fun e w' => e = .returned (.bool true) ∧ Below w.heap.size w w' := by
  have hu23 := Try.underlying23
  have hm := meetS_self a b
  rw [if_neg (fun h => hs h.1)] at hm
  obtain ⟨⟨x0, x1, x2⟩, hx⟩ : ∃ t, meetS a b c d = t := ⟨_, rfl⟩
  have hy := (meetS_comm c d a b).trans hx
  obtain ⟨⟨z0, z1, z2⟩, hz⟩ : ∃ t, joinE a b c d = t := ⟨_, rfl⟩
  have hw := (joinE_comm c d a b).trans hz
  have HM := Lib.hid hm
  have HX := Lib.hid hx
  have HY := Lib.hid hy
  have HZ := Lib.hid hz
  have HW := Lib.hid hw
  obtain ⟨t, ht⟩ : ∃ t, t = false := ⟨_, rfl⟩
  have HT := Lib.hid (show decide (Snd a b) = t by rw [ht]; simp [hs])
  clear hm hx hy hz hw hs
  subst ht

  go_enter Try.func4, Try.ntmps4
  go_wp2_with fail
  refine (awake_at _).mono ?_
  rintro e w1 ⟨rfl, hb⟩
  have K1_0 := Lib.hid (blk_below (blk_alloc (blk_new w (.cells #[.int .i64 a, .int .i64 b] 23 (0, 0))) _) hb)
  have K1_1 := Lib.hid (blk_below (blk_new2 w _ (.cells #[.int .i64 c, .int .i64 d] 23 (0, 0))) hb)
  have HB1 := Lib.hid (below_step (below_alloc (below_alloc (Below.refl w.heap.size w) _) _) hb)
  clear hb
  have c1_0_0 : w1.cell? ⟨w.heap.size, 0, none⟩ = some (.int .i64 a) := (blk_cell K1_0.out 0).trans rfl
  have c1_0_1 : w1.cell? ⟨w.heap.size, 1, none⟩ = some (.int .i64 b) := (blk_cell K1_0.out 1).trans rfl
  have c1_1_0 : w1.cell? ⟨w.heap.size + 1, 0, none⟩ = some (.int .i64 c) := (blk_cell K1_1.out 0).trans rfl
  have c1_1_1 : w1.cell? ⟨w.heap.size + 1, 1, none⟩ = some (.int .i64 d) := (blk_cell K1_1.out 1).trans rfl
  go_wp2_with fail
  refine (meet_at _ HM.out).mono ?_
  rintro e w2 ⟨rfl, hb⟩
  have K2_0 := Lib.hid (blk_below K1_0.out hb)
  have K2_1 := Lib.hid (blk_below K1_1.out hb)
  have HB2 := Lib.hid (below_step HB1.out hb)
  clear K1_0 K1_1 HB1 c1_0_0 c1_0_1 c1_1_0 c1_1_1
  clear hb
  have c2_0_0 : (w2.alloc (.cells #[.int .i64 0, .int .i64 0] 23 (0, 0))).cell? ⟨w.heap.size, 0, none⟩ = some (.int .i64 a) := (blk_cell (blk_alloc K2_0.out _) 0).trans rfl
  have c2_0_1 : (w2.alloc (.cells #[.int .i64 0, .int .i64 0] 23 (0, 0))).cell? ⟨w.heap.size, 1, none⟩ = some (.int .i64 b) := (blk_cell (blk_alloc K2_0.out _) 1).trans rfl
  have c2_1_0 : (w2.alloc (.cells #[.int .i64 0, .int .i64 0] 23 (0, 0))).cell? ⟨w.heap.size + 1, 0, none⟩ = some (.int .i64 c) := (blk_cell (blk_alloc K2_1.out _) 0).trans rfl
  have c2_1_1 : (w2.alloc (.cells #[.int .i64 0, .int .i64 0] 23 (0, 0))).cell? ⟨w.heap.size + 1, 1, none⟩ = some (.int .i64 d) := (blk_cell (blk_alloc K2_1.out _) 1).trans rfl
  have c2_2_0 : (w2.alloc (.cells #[.int .i64 0, .int .i64 0] 23 (0, 0))).cell? ⟨w2.heap.size, 0, none⟩ = some (.int .i64 0) := (blk_cell (blk_new w2 (.cells #[.int .i64 0, .int .i64 0] 23 (0, 0))) 0).trans rfl
  have c2_2_1 : (w2.alloc (.cells #[.int .i64 0, .int .i64 0] 23 (0, 0))).cell? ⟨w2.heap.size, 1, none⟩ = some (.int .i64 0) := (blk_cell (blk_new w2 (.cells #[.int .i64 0, .int .i64 0] 23 (0, 0))) 1).trans rfl
  go_wp2_with fail
  refine (meet_at _ HX.out).mono ?_
  rintro e w3 ⟨rfl, hb⟩
  have K3_0 := Lib.hid (blk_below (blk_alloc K2_0.out _) hb)
  have K3_1 := Lib.hid (blk_below (blk_alloc K2_1.out _) hb)
  have K3_2 := Lib.hid (blk_below (blk_new w2 (.cells #[.int .i64 0, .int .i64 0] 23 (0, 0))) hb)
  have HB3 := Lib.hid (below_step (below_alloc HB2.out _) hb)
  clear K2_0 K2_1 HB2 c2_0_0 c2_0_1 c2_1_0 c2_1_1 c2_2_0 c2_2_1
  clear hb
  have c3_0_0 : (w3.alloc (.cells #[.int .i64 x0, .int .i64 x1] 23 (0, 0))).cell? ⟨w.heap.size, 0, none⟩ = some (.int .i64 a) := (blk_cell (blk_alloc K3_0.out _) 0).trans rfl
  have c3_0_1 : (w3.alloc (.cells #[.int .i64 x0, .int .i64 x1] 23 (0, 0))).cell? ⟨w.heap.size, 1, none⟩ = some (.int .i64 b) := (blk_cell (blk_alloc K3_0.out _) 1).trans rfl
  have c3_1_0 : (w3.alloc (.cells #[.int .i64 x0, .int .i64 x1] 23 (0, 0))).cell? ⟨w.heap.size + 1, 0, none⟩ = some (.int .i64 c) := (blk_cell (blk_alloc K3_1.out _) 0).trans rfl
  have c3_1_1 : (w3.alloc (.cells #[.int .i64 x0, .int .i64 x1] 23 (0, 0))).cell? ⟨w.heap.size + 1, 1, none⟩ = some (.int .i64 d) := (blk_cell (blk_alloc K3_1.out _) 1).trans rfl
  have c3_2_0 : (w3.alloc (.cells #[.int .i64 x0, .int .i64 x1] 23 (0, 0))).cell? ⟨w2.heap.size, 0, none⟩ = some (.int .i64 0) := (blk_cell (blk_alloc K3_2.out _) 0).trans rfl
  have c3_2_1 : (w3.alloc (.cells #[.int .i64 x0, .int .i64 x1] 23 (0, 0))).cell? ⟨w2.heap.size, 1, none⟩ = some (.int .i64 0) := (blk_cell (blk_alloc K3_2.out _) 1).trans rfl
  have c3_3_0 : (w3.alloc (.cells #[.int .i64 x0, .int .i64 x1] 23 (0, 0))).cell? ⟨w3.heap.size, 0, none⟩ = some (.int .i64 x0) := (blk_cell (blk_new w3 (.cells #[.int .i64 x0, .int .i64 x1] 23 (0, 0))) 0).trans rfl
  have c3_3_1 : (w3.alloc (.cells #[.int .i64 x0, .int .i64 x1] 23 (0, 0))).cell? ⟨w3.heap.size, 1, none⟩ = some (.int .i64 x1) := (blk_cell (blk_new w3 (.cells #[.int .i64 x0, .int .i64 x1] 23 (0, 0))) 1).trans rfl
  go_wp2_with fail
  refine (meet_at _ HY.out).mono ?_
  rintro e w4 ⟨rfl, hb⟩
  have K4_0 := Lib.hid (blk_below (blk_alloc K3_0.out _) hb)
  have K4_1 := Lib.hid (blk_below (blk_alloc K3_1.out _) hb)
  have K4_2 := Lib.hid (blk_below (blk_alloc K3_2.out _) hb)
  have K4_3 := Lib.hid (blk_below (blk_new w3 (.cells #[.int .i64 x0, .int .i64 x1] 23 (0, 0))) hb)
  have HB4 := Lib.hid (below_step (below_alloc HB3.out _) hb)
  clear K3_0 K3_1 K3_2 HB3 c3_0_0 c3_0_1 c3_1_0 c3_1_1 c3_2_0 c3_2_1 c3_3_0 c3_3_1
  clear hb
  have c4_0_0 : (w4.alloc (.cells #[.int .i64 x0, .int .i64 x1] 23 (0, 0))).cell? ⟨w.heap.size, 0, none⟩ = some (.int .i64 a) := (blk_cell (blk_alloc K4_0.out _) 0).trans rfl
  have c4_0_1 : (w4.alloc (.cells #[.int .i64 x0, .int .i64 x1] 23 (0, 0))).cell? ⟨w.heap.size, 1, none⟩ = some (.int .i64 b) := (blk_cell (blk_alloc K4_0.out _) 1).trans rfl
  have c4_1_0 : (w4.alloc (.cells #[.int .i64 x0, .int .i64 x1] 23 (0, 0))).cell? ⟨w.heap.size + 1, 0, none⟩ = some (.int .i64 c) := (blk_cell (blk_alloc K4_1.out _) 0).trans rfl
  have c4_1_1 : (w4.alloc (.cells #[.int .i64 x0, .int .i64 x1] 23 (0, 0))).cell? ⟨w.heap.size + 1, 1, none⟩ = some (.int .i64 d) := (blk_cell (blk_alloc K4_1.out _) 1).trans rfl
  have c4_2_0 : (w4.alloc (.cells #[.int .i64 x0, .int .i64 x1] 23 (0, 0))).cell? ⟨w2.heap.size, 0, none⟩ = some (.int .i64 0) := (blk_cell (blk_alloc K4_2.out _) 0).trans rfl
  have c4_2_1 : (w4.alloc (.cells #[.int .i64 x0, .int .i64 x1] 23 (0, 0))).cell? ⟨w2.heap.size, 1, none⟩ = some (.int .i64 0) := (blk_cell (blk_alloc K4_2.out _) 1).trans rfl
  have c4_3_0 : (w4.alloc (.cells #[.int .i64 x0, .int .i64 x1] 23 (0, 0))).cell? ⟨w3.heap.size, 0, none⟩ = some (.int .i64 x0) := (blk_cell (blk_alloc K4_3.out _) 0).trans rfl
  have c4_3_1 : (w4.alloc (.cells #[.int .i64 x0, .int .i64 x1] 23 (0, 0))).cell? ⟨w3.heap.size, 1, none⟩ = some (.int .i64 x1) := (blk_cell (blk_alloc K4_3.out _) 1).trans rfl
  have c4_4_0 : (w4.alloc (.cells #[.int .i64 x0, .int .i64 x1] 23 (0, 0))).cell? ⟨w4.heap.size, 0, none⟩ = some (.int .i64 x0) := (blk_cell (blk_new w4 (.cells #[.int .i64 x0, .int .i64 x1] 23 (0, 0))) 0).trans rfl
  have c4_4_1 : (w4.alloc (.cells #[.int .i64 x0, .int .i64 x1] 23 (0, 0))).cell? ⟨w4.heap.size, 1, none⟩ = some (.int .i64 x1) := (blk_cell (blk_new w4 (.cells #[.int .i64 x0, .int .i64 x1] 23 (0, 0))) 1).trans rfl
  go_wp2_with fail
  refine (join_at _ HZ.out).mono ?_
  rintro e w5 ⟨rfl, hb⟩
  have K5_0 := Lib.hid (blk_below (blk_alloc K4_0.out _) hb)
  have K5_1 := Lib.hid (blk_below (blk_alloc K4_1.out _) hb)
  have K5_2 := Lib.hid (blk_below (blk_alloc K4_2.out _) hb)
  have K5_3 := Lib.hid (blk_below (blk_alloc K4_3.out _) hb)
  have K5_4 := Lib.hid (blk_below (blk_new w4 (.cells #[.int .i64 x0, .int .i64 x1] 23 (0, 0))) hb)
  have HB5 := Lib.hid (below_step (below_alloc HB4.out _) hb)
  clear K4_0 K4_1 K4_2 K4_3 HB4 c4_0_0 c4_0_1 c4_1_0 c4_1_1 c4_2_0 c4_2_1 c4_3_0 c4_3_1 c4_4_0 c4_4_1
  clear hb
  have c5_0_0 : (w5.alloc (.cells #[.int .i64 z0, .int .i64 z1] 23 (0, 0))).cell? ⟨w.heap.size, 0, none⟩ = some (.int .i64 a) := (blk_cell (blk_alloc K5_0.out _) 0).trans rfl
  have c5_0_1 : (w5.alloc (.cells #[.int .i64 z0, .int .i64 z1] 23 (0, 0))).cell? ⟨w.heap.size, 1, none⟩ = some (.int .i64 b) := (blk_cell (blk_alloc K5_0.out _) 1).trans rfl
  have c5_1_0 : (w5.alloc (.cells #[.int .i64 z0, .int .i64 z1] 23 (0, 0))).cell? ⟨w.heap.size + 1, 0, none⟩ = some (.int .i64 c) := (blk_cell (blk_alloc K5_1.out _) 0).trans rfl
  have c5_1_1 : (w5.alloc (.cells #[.int .i64 z0, .int .i64 z1] 23 (0, 0))).cell? ⟨w.heap.size + 1, 1, none⟩ = some (.int .i64 d) := (blk_cell (blk_alloc K5_1.out _) 1).trans rfl
  have c5_2_0 : (w5.alloc (.cells #[.int .i64 z0, .int .i64 z1] 23 (0, 0))).cell? ⟨w2.heap.size, 0, none⟩ = some (.int .i64 0) := (blk_cell (blk_alloc K5_2.out _) 0).trans rfl
  have c5_2_1 : (w5.alloc (.cells #[.int .i64 z0, .int .i64 z1] 23 (0, 0))).cell? ⟨w2.heap.size, 1, none⟩ = some (.int .i64 0) := (blk_cell (blk_alloc K5_2.out _) 1).trans rfl
  have c5_3_0 : (w5.alloc (.cells #[.int .i64 z0, .int .i64 z1] 23 (0, 0))).cell? ⟨w3.heap.size, 0, none⟩ = some (.int .i64 x0) := (blk_cell (blk_alloc K5_3.out _) 0).trans rfl
  have c5_3_1 : (w5.alloc (.cells #[.int .i64 z0, .int .i64 z1] 23 (0, 0))).cell? ⟨w3.heap.size, 1, none⟩ = some (.int .i64 x1) := (blk_cell (blk_alloc K5_3.out _) 1).trans rfl
  have c5_4_0 : (w5.alloc (.cells #[.int .i64 z0, .int .i64 z1] 23 (0, 0))).cell? ⟨w4.heap.size, 0, none⟩ = some (.int .i64 x0) := (blk_cell (blk_alloc K5_4.out _) 0).trans rfl
  have c5_4_1 : (w5.alloc (.cells #[.int .i64 z0, .int .i64 z1] 23 (0, 0))).cell? ⟨w4.heap.size, 1, none⟩ = some (.int .i64 x1) := (blk_cell (blk_alloc K5_4.out _) 1).trans rfl
  have c5_5_0 : (w5.alloc (.cells #[.int .i64 z0, .int .i64 z1] 23 (0, 0))).cell? ⟨w5.heap.size, 0, none⟩ = some (.int .i64 z0) := (blk_cell (blk_new w5 (.cells #[.int .i64 z0, .int .i64 z1] 23 (0, 0))) 0).trans rfl
  have c5_5_1 : (w5.alloc (.cells #[.int .i64 z0, .int .i64 z1] 23 (0, 0))).cell? ⟨w5.heap.size, 1, none⟩ = some (.int .i64 z1) := (blk_cell (blk_new w5 (.cells #[.int .i64 z0, .int .i64 z1] 23 (0, 0))) 1).trans rfl
  go_wp2_with fail
  refine (join_at _ HW.out).mono ?_
  rintro e w6 ⟨rfl, hb⟩
  have K6_0 := Lib.hid (blk_below (blk_alloc K5_0.out _) hb)
  have K6_1 := Lib.hid (blk_below (blk_alloc K5_1.out _) hb)
  have K6_2 := Lib.hid (blk_below (blk_alloc K5_2.out _) hb)
  have K6_3 := Lib.hid (blk_below (blk_alloc K5_3.out _) hb)
  have K6_4 := Lib.hid (blk_below (blk_alloc K5_4.out _) hb)
  have K6_5 := Lib.hid (blk_below (blk_new w5 (.cells #[.int .i64 z0, .int .i64 z1] 23 (0, 0))) hb)
  have HB6 := Lib.hid (below_step (below_alloc HB5.out _) hb)
  clear K5_0 K5_1 K5_2 K5_3 K5_4 HB5 c5_0_0 c5_0_1 c5_1_0 c5_1_1 c5_2_0 c5_2_1 c5_3_0 c5_3_1 c5_4_0 c5_4_1 c5_5_0 c5_5_1
  clear hb
  have c6_0_0 : (w6.alloc (.cells #[.int .i64 z0, .int .i64 z1] 23 (0, 0))).cell? ⟨w.heap.size, 0, none⟩ = some (.int .i64 a) := (blk_cell (blk_alloc K6_0.out _) 0).trans rfl
  have c6_0_1 : (w6.alloc (.cells #[.int .i64 z0, .int .i64 z1] 23 (0, 0))).cell? ⟨w.heap.size, 1, none⟩ = some (.int .i64 b) := (blk_cell (blk_alloc K6_0.out _) 1).trans rfl
  have c6_1_0 : (w6.alloc (.cells #[.int .i64 z0, .int .i64 z1] 23 (0, 0))).cell? ⟨w.heap.size + 1, 0, none⟩ = some (.int .i64 c) := (blk_cell (blk_alloc K6_1.out _) 0).trans rfl
  have c6_1_1 : (w6.alloc (.cells #[.int .i64 z0, .int .i64 z1] 23 (0, 0))).cell? ⟨w.heap.size + 1, 1, none⟩ = some (.int .i64 d) := (blk_cell (blk_alloc K6_1.out _) 1).trans rfl
  have c6_2_0 : (w6.alloc (.cells #[.int .i64 z0, .int .i64 z1] 23 (0, 0))).cell? ⟨w2.heap.size, 0, none⟩ = some (.int .i64 0) := (blk_cell (blk_alloc K6_2.out _) 0).trans rfl
  have c6_2_1 : (w6.alloc (.cells #[.int .i64 z0, .int .i64 z1] 23 (0, 0))).cell? ⟨w2.heap.size, 1, none⟩ = some (.int .i64 0) := (blk_cell (blk_alloc K6_2.out _) 1).trans rfl
  have c6_3_0 : (w6.alloc (.cells #[.int .i64 z0, .int .i64 z1] 23 (0, 0))).cell? ⟨w3.heap.size, 0, none⟩ = some (.int .i64 x0) := (blk_cell (blk_alloc K6_3.out _) 0).trans rfl
  have c6_3_1 : (w6.alloc (.cells #[.int .i64 z0, .int .i64 z1] 23 (0, 0))).cell? ⟨w3.heap.size, 1, none⟩ = some (.int .i64 x1) := (blk_cell (blk_alloc K6_3.out _) 1).trans rfl
  have c6_4_0 : (w6.alloc (.cells #[.int .i64 z0, .int .i64 z1] 23 (0, 0))).cell? ⟨w4.heap.size, 0, none⟩ = some (.int .i64 x0) := (blk_cell (blk_alloc K6_4.out _) 0).trans rfl
  have c6_4_1 : (w6.alloc (.cells #[.int .i64 z0, .int .i64 z1] 23 (0, 0))).cell? ⟨w4.heap.size, 1, none⟩ = some (.int .i64 x1) := (blk_cell (blk_alloc K6_4.out _) 1).trans rfl
  have c6_5_0 : (w6.alloc (.cells #[.int .i64 z0, .int .i64 z1] 23 (0, 0))).cell? ⟨w5.heap.size, 0, none⟩ = some (.int .i64 z0) := (blk_cell (blk_alloc K6_5.out _) 0).trans rfl
  have c6_5_1 : (w6.alloc (.cells #[.int .i64 z0, .int .i64 z1] 23 (0, 0))).cell? ⟨w5.heap.size, 1, none⟩ = some (.int .i64 z1) := (blk_cell (blk_alloc K6_5.out _) 1).trans rfl
  have c6_6_0 : (w6.alloc (.cells #[.int .i64 z0, .int .i64 z1] 23 (0, 0))).cell? ⟨w6.heap.size, 0, none⟩ = some (.int .i64 z0) := (blk_cell (blk_new w6 (.cells #[.int .i64 z0, .int .i64 z1] 23 (0, 0))) 0).trans rfl
  have c6_6_1 : (w6.alloc (.cells #[.int .i64 z0, .int .i64 z1] 23 (0, 0))).cell? ⟨w6.heap.size, 1, none⟩ = some (.int .i64 z1) := (blk_cell (blk_new w6 (.cells #[.int .i64 z0, .int .i64 z1] 23 (0, 0))) 1).trans rfl
  go_wp2_with fail
  refine (sound_at _ HT.out).mono ?_
  rintro e w7 ⟨rfl, hb⟩
  have K7_0 := Lib.hid (blk_below (blk_alloc K6_0.out _) hb)
  have K7_1 := Lib.hid (blk_below (blk_alloc K6_1.out _) hb)
  have K7_2 := Lib.hid (blk_below (blk_alloc K6_2.out _) hb)
  have K7_3 := Lib.hid (blk_below (blk_alloc K6_3.out _) hb)
  have K7_4 := Lib.hid (blk_below (blk_alloc K6_4.out _) hb)
  have K7_5 := Lib.hid (blk_below (blk_alloc K6_5.out _) hb)
  have K7_6 := Lib.hid (blk_below (blk_new w6 (.cells #[.int .i64 z0, .int .i64 z1] 23 (0, 0))) hb)
  have HB7 := Lib.hid (below_step (below_alloc HB6.out _) hb)
  clear K6_0 K6_1 K6_2 K6_3 K6_4 K6_5 HB6 c6_0_0 c6_0_1 c6_1_0 c6_1_1 c6_2_0 c6_2_1 c6_3_0 c6_3_1 c6_4_0 c6_4_1 c6_5_0 c6_5_1 c6_6_0 c6_6_1
  clear hb
  have c7_0_0 : w7.cell? ⟨w.heap.size, 0, none⟩ = some (.int .i64 a) := (blk_cell K7_0.out 0).trans rfl
  have c7_0_1 : w7.cell? ⟨w.heap.size, 1, none⟩ = some (.int .i64 b) := (blk_cell K7_0.out 1).trans rfl
  have c7_1_0 : w7.cell? ⟨w.heap.size + 1, 0, none⟩ = some (.int .i64 c) := (blk_cell K7_1.out 0).trans rfl
  have c7_1_1 : w7.cell? ⟨w.heap.size + 1, 1, none⟩ = some (.int .i64 d) := (blk_cell K7_1.out 1).trans rfl
  have c7_2_0 : w7.cell? ⟨w2.heap.size, 0, none⟩ = some (.int .i64 0) := (blk_cell K7_2.out 0).trans rfl
  have c7_2_1 : w7.cell? ⟨w2.heap.size, 1, none⟩ = some (.int .i64 0) := (blk_cell K7_2.out 1).trans rfl
  have c7_3_0 : w7.cell? ⟨w3.heap.size, 0, none⟩ = some (.int .i64 x0) := (blk_cell K7_3.out 0).trans rfl
  have c7_3_1 : w7.cell? ⟨w3.heap.size, 1, none⟩ = some (.int .i64 x1) := (blk_cell K7_3.out 1).trans rfl
  have c7_4_0 : w7.cell? ⟨w4.heap.size, 0, none⟩ = some (.int .i64 x0) := (blk_cell K7_4.out 0).trans rfl
  have c7_4_1 : w7.cell? ⟨w4.heap.size, 1, none⟩ = some (.int .i64 x1) := (blk_cell K7_4.out 1).trans rfl
  have c7_5_0 : w7.cell? ⟨w5.heap.size, 0, none⟩ = some (.int .i64 z0) := (blk_cell K7_5.out 0).trans rfl
  have c7_5_1 : w7.cell? ⟨w5.heap.size, 1, none⟩ = some (.int .i64 z1) := (blk_cell K7_5.out 1).trans rfl
  have c7_6_0 : w7.cell? ⟨w6.heap.size, 0, none⟩ = some (.int .i64 z0) := (blk_cell K7_6.out 0).trans rfl
  have c7_6_1 : w7.cell? ⟨w6.heap.size, 1, none⟩ = some (.int .i64 z1) := (blk_cell K7_6.out 1).trans rfl
  go_wp2_with fail
  go_ret
  exact ⟨rfl, HB7.out⟩
set_option maxHeartbeats 4000000 in
set_option maxRecDepth 10000 in
theorem self_notp (a b c d : Int) (w : World) (hs : Snd a b) (hp : ¬ 0 < b) :
    Calls Try.prog 4 #[.agg #[.int .i64 a, .int .i64 b], .agg #[.int .i64 c, .int .i64 d]] w fun e w' => e = .returned (.bool true) ∧ Below w.heap.size w w' := by
  have hu23 := Try.underlying23
  have hm := meetS_self a b
  rw [if_neg (fun h => hp h.2)] at hm
  obtain ⟨⟨x0, x1, x2⟩, hx⟩ : ∃ t, meetS a b c d = t := ⟨_, rfl⟩
  have hy := (meetS_comm c d a b).trans hx
  obtain ⟨⟨z0, z1, z2⟩, hz⟩ : ∃ t, joinE a b c d = t := ⟨_, rfl⟩
  have hw := (joinE_comm c d a b).trans hz
  have HM := Lib.hid hm
  have HX := Lib.hid hx
  have HY := Lib.hid hy
  have HZ := Lib.hid hz
  have HW := Lib.hid hw
  obtain ⟨t, ht⟩ : ∃ t, t = true := ⟨_, rfl⟩
  have HT := Lib.hid (show decide (Snd a b) = t by rw [ht]; simp [hs])
  clear hm hx hy hz hw hs
  subst ht
  have hd : decide (0 < b) = false := by simp; omega
  clear hp
  go_enter Try.func4, Try.ntmps4
  go_wp2_with fail
  refine (awake_at _).mono ?_
  rintro e w1 ⟨rfl, hb⟩
  have K1_0 := Lib.hid (blk_below (blk_alloc (blk_new w (.cells #[.int .i64 a, .int .i64 b] 23 (0, 0))) _) hb)
  have K1_1 := Lib.hid (blk_below (blk_new2 w _ (.cells #[.int .i64 c, .int .i64 d] 23 (0, 0))) hb)
  have HB1 := Lib.hid (below_step (below_alloc (below_alloc (Below.refl w.heap.size w) _) _) hb)
  clear hb
  have c1_0_0 : w1.cell? ⟨w.heap.size, 0, none⟩ = some (.int .i64 a) := (blk_cell K1_0.out 0).trans rfl
  have c1_0_1 : w1.cell? ⟨w.heap.size, 1, none⟩ = some (.int .i64 b) := (blk_cell K1_0.out 1).trans rfl
  have c1_1_0 : w1.cell? ⟨w.heap.size + 1, 0, none⟩ = some (.int .i64 c) := (blk_cell K1_1.out 0).trans rfl
  have c1_1_1 : w1.cell? ⟨w.heap.size + 1, 1, none⟩ = some (.int .i64 d) := (blk_cell K1_1.out 1).trans rfl
  go_wp2_with fail
  refine (meet_at _ HM.out).mono ?_
  rintro e w2 ⟨rfl, hb⟩
  have K2_0 := Lib.hid (blk_below K1_0.out hb)
  have K2_1 := Lib.hid (blk_below K1_1.out hb)
  have HB2 := Lib.hid (below_step HB1.out hb)
  clear K1_0 K1_1 HB1 c1_0_0 c1_0_1 c1_1_0 c1_1_1
  clear hb
  have c2_0_0 : (w2.alloc (.cells #[.int .i64 0, .int .i64 0] 23 (0, 0))).cell? ⟨w.heap.size, 0, none⟩ = some (.int .i64 a) := (blk_cell (blk_alloc K2_0.out _) 0).trans rfl
  have c2_0_1 : (w2.alloc (.cells #[.int .i64 0, .int .i64 0] 23 (0, 0))).cell? ⟨w.heap.size, 1, none⟩ = some (.int .i64 b) := (blk_cell (blk_alloc K2_0.out _) 1).trans rfl
  have c2_1_0 : (w2.alloc (.cells #[.int .i64 0, .int .i64 0] 23 (0, 0))).cell? ⟨w.heap.size + 1, 0, none⟩ = some (.int .i64 c) := (blk_cell (blk_alloc K2_1.out _) 0).trans rfl
  have c2_1_1 : (w2.alloc (.cells #[.int .i64 0, .int .i64 0] 23 (0, 0))).cell? ⟨w.heap.size + 1, 1, none⟩ = some (.int .i64 d) := (blk_cell (blk_alloc K2_1.out _) 1).trans rfl
  have c2_2_0 : (w2.alloc (.cells #[.int .i64 0, .int .i64 0] 23 (0, 0))).cell? ⟨w2.heap.size, 0, none⟩ = some (.int .i64 0) := (blk_cell (blk_new w2 (.cells #[.int .i64 0, .int .i64 0] 23 (0, 0))) 0).trans rfl
  have c2_2_1 : (w2.alloc (.cells #[.int .i64 0, .int .i64 0] 23 (0, 0))).cell? ⟨w2.heap.size, 1, none⟩ = some (.int .i64 0) := (blk_cell (blk_new w2 (.cells #[.int .i64 0, .int .i64 0] 23 (0, 0))) 1).trans rfl
  go_wp2_with fail
  refine (meet_at _ HX.out).mono ?_
  rintro e w3 ⟨rfl, hb⟩
  have K3_0 := Lib.hid (blk_below (blk_alloc K2_0.out _) hb)
  have K3_1 := Lib.hid (blk_below (blk_alloc K2_1.out _) hb)
  have K3_2 := Lib.hid (blk_below (blk_new w2 (.cells #[.int .i64 0, .int .i64 0] 23 (0, 0))) hb)
  have HB3 := Lib.hid (below_step (below_alloc HB2.out _) hb)
  clear K2_0 K2_1 HB2 c2_0_0 c2_0_1 c2_1_0 c2_1_1 c2_2_0 c2_2_1
  clear hb
  have c3_0_0 : (w3.alloc (.cells #[.int .i64 x0, .int .i64 x1] 23 (0, 0))).cell? ⟨w.heap.size, 0, none⟩ = some (.int .i64 a) := (blk_cell (blk_alloc K3_0.out _) 0).trans rfl
  have c3_0_1 : (w3.alloc (.cells #[.int .i64 x0, .int .i64 x1] 23 (0, 0))).cell? ⟨w.heap.size, 1, none⟩ = some (.int .i64 b) := (blk_cell (blk_alloc K3_0.out _) 1).trans rfl
  have c3_1_0 : (w3.alloc (.cells #[.int .i64 x0, .int .i64 x1] 23 (0, 0))).cell? ⟨w.heap.size + 1, 0, none⟩ = some (.int .i64 c) := (blk_cell (blk_alloc K3_1.out _) 0).trans rfl
  have c3_1_1 : (w3.alloc (.cells #[.int .i64 x0, .int .i64 x1] 23 (0, 0))).cell? ⟨w.heap.size + 1, 1, none⟩ = some (.int .i64 d) := (blk_cell (blk_alloc K3_1.out _) 1).trans rfl
  have c3_2_0 : (w3.alloc (.cells #[.int .i64 x0, .int .i64 x1] 23 (0, 0))).cell? ⟨w2.heap.size, 0, none⟩ = some (.int .i64 0) := (blk_cell (blk_alloc K3_2.out _) 0).trans rfl
  have c3_2_1 : (w3.alloc (.cells #[.int .i64 x0, .int .i64 x1] 23 (0, 0))).cell? ⟨w2.heap.size, 1, none⟩ = some (.int .i64 0) := (blk_cell (blk_alloc K3_2.out _) 1).trans rfl
  have c3_3_0 : (w3.alloc (.cells #[.int .i64 x0, .int .i64 x1] 23 (0, 0))).cell? ⟨w3.heap.size, 0, none⟩ = some (.int .i64 x0) := (blk_cell (blk_new w3 (.cells #[.int .i64 x0, .int .i64 x1] 23 (0, 0))) 0).trans rfl
  have c3_3_1 : (w3.alloc (.cells #[.int .i64 x0, .int .i64 x1] 23 (0, 0))).cell? ⟨w3.heap.size, 1, none⟩ = some (.int .i64 x1) := (blk_cell (blk_new w3 (.cells #[.int .i64 x0, .int .i64 x1] 23 (0, 0))) 1).trans rfl
  go_wp2_with fail
  refine (meet_at _ HY.out).mono ?_
  rintro e w4 ⟨rfl, hb⟩
  have K4_0 := Lib.hid (blk_below (blk_alloc K3_0.out _) hb)
  have K4_1 := Lib.hid (blk_below (blk_alloc K3_1.out _) hb)
  have K4_2 := Lib.hid (blk_below (blk_alloc K3_2.out _) hb)
  have K4_3 := Lib.hid (blk_below (blk_new w3 (.cells #[.int .i64 x0, .int .i64 x1] 23 (0, 0))) hb)
  have HB4 := Lib.hid (below_step (below_alloc HB3.out _) hb)
  clear K3_0 K3_1 K3_2 HB3 c3_0_0 c3_0_1 c3_1_0 c3_1_1 c3_2_0 c3_2_1 c3_3_0 c3_3_1
  clear hb
  have c4_0_0 : (w4.alloc (.cells #[.int .i64 x0, .int .i64 x1] 23 (0, 0))).cell? ⟨w.heap.size, 0, none⟩ = some (.int .i64 a) := (blk_cell (blk_alloc K4_0.out _) 0).trans rfl
  have c4_0_1 : (w4.alloc (.cells #[.int .i64 x0, .int .i64 x1] 23 (0, 0))).cell? ⟨w.heap.size, 1, none⟩ = some (.int .i64 b) := (blk_cell (blk_alloc K4_0.out _) 1).trans rfl
  have c4_1_0 : (w4.alloc (.cells #[.int .i64 x0, .int .i64 x1] 23 (0, 0))).cell? ⟨w.heap.size + 1, 0, none⟩ = some (.int .i64 c) := (blk_cell (blk_alloc K4_1.out _) 0).trans rfl
  have c4_1_1 : (w4.alloc (.cells #[.int .i64 x0, .int .i64 x1] 23 (0, 0))).cell? ⟨w.heap.size + 1, 1, none⟩ = some (.int .i64 d) := (blk_cell (blk_alloc K4_1.out _) 1).trans rfl
  have c4_2_0 : (w4.alloc (.cells #[.int .i64 x0, .int .i64 x1] 23 (0, 0))).cell? ⟨w2.heap.size, 0, none⟩ = some (.int .i64 0) := (blk_cell (blk_alloc K4_2.out _) 0).trans rfl
  have c4_2_1 : (w4.alloc (.cells #[.int .i64 x0, .int .i64 x1] 23 (0, 0))).cell? ⟨w2.heap.size, 1, none⟩ = some (.int .i64 0) := (blk_cell (blk_alloc K4_2.out _) 1).trans rfl
  have c4_3_0 : (w4.alloc (.cells #[.int .i64 x0, .int .i64 x1] 23 (0, 0))).cell? ⟨w3.heap.size, 0, none⟩ = some (.int .i64 x0) := (blk_cell (blk_alloc K4_3.out _) 0).trans rfl
  have c4_3_1 : (w4.alloc (.cells #[.int .i64 x0, .int .i64 x1] 23 (0, 0))).cell? ⟨w3.heap.size, 1, none⟩ = some (.int .i64 x1) := (blk_cell (blk_alloc K4_3.out _) 1).trans rfl
  have c4_4_0 : (w4.alloc (.cells #[.int .i64 x0, .int .i64 x1] 23 (0, 0))).cell? ⟨w4.heap.size, 0, none⟩ = some (.int .i64 x0) := (blk_cell (blk_new w4 (.cells #[.int .i64 x0, .int .i64 x1] 23 (0, 0))) 0).trans rfl
  have c4_4_1 : (w4.alloc (.cells #[.int .i64 x0, .int .i64 x1] 23 (0, 0))).cell? ⟨w4.heap.size, 1, none⟩ = some (.int .i64 x1) := (blk_cell (blk_new w4 (.cells #[.int .i64 x0, .int .i64 x1] 23 (0, 0))) 1).trans rfl
  go_wp2_with fail
  refine (join_at _ HZ.out).mono ?_
  rintro e w5 ⟨rfl, hb⟩
  have K5_0 := Lib.hid (blk_below (blk_alloc K4_0.out _) hb)
  have K5_1 := Lib.hid (blk_below (blk_alloc K4_1.out _) hb)
  have K5_2 := Lib.hid (blk_below (blk_alloc K4_2.out _) hb)
  have K5_3 := Lib.hid (blk_below (blk_alloc K4_3.out _) hb)
  have K5_4 := Lib.hid (blk_below (blk_new w4 (.cells #[.int .i64 x0, .int .i64 x1] 23 (0, 0))) hb)
  have HB5 := Lib.hid (below_step (below_alloc HB4.out _) hb)
  clear K4_0 K4_1 K4_2 K4_3 HB4 c4_0_0 c4_0_1 c4_1_0 c4_1_1 c4_2_0 c4_2_1 c4_3_0 c4_3_1 c4_4_0 c4_4_1
  clear hb
  have c5_0_0 : (w5.alloc (.cells #[.int .i64 z0, .int .i64 z1] 23 (0, 0))).cell? ⟨w.heap.size, 0, none⟩ = some (.int .i64 a) := (blk_cell (blk_alloc K5_0.out _) 0).trans rfl
  have c5_0_1 : (w5.alloc (.cells #[.int .i64 z0, .int .i64 z1] 23 (0, 0))).cell? ⟨w.heap.size, 1, none⟩ = some (.int .i64 b) := (blk_cell (blk_alloc K5_0.out _) 1).trans rfl
  have c5_1_0 : (w5.alloc (.cells #[.int .i64 z0, .int .i64 z1] 23 (0, 0))).cell? ⟨w.heap.size + 1, 0, none⟩ = some (.int .i64 c) := (blk_cell (blk_alloc K5_1.out _) 0).trans rfl
  have c5_1_1 : (w5.alloc (.cells #[.int .i64 z0, .int .i64 z1] 23 (0, 0))).cell? ⟨w.heap.size + 1, 1, none⟩ = some (.int .i64 d) := (blk_cell (blk_alloc K5_1.out _) 1).trans rfl
  have c5_2_0 : (w5.alloc (.cells #[.int .i64 z0, .int .i64 z1] 23 (0, 0))).cell? ⟨w2.heap.size, 0, none⟩ = some (.int .i64 0) := (blk_cell (blk_alloc K5_2.out _) 0).trans rfl
  have c5_2_1 : (w5.alloc (.cells #[.int .i64 z0, .int .i64 z1] 23 (0, 0))).cell? ⟨w2.heap.size, 1, none⟩ = some (.int .i64 0) := (blk_cell (blk_alloc K5_2.out _) 1).trans rfl
  have c5_3_0 : (w5.alloc (.cells #[.int .i64 z0, .int .i64 z1] 23 (0, 0))).cell? ⟨w3.heap.size, 0, none⟩ = some (.int .i64 x0) := (blk_cell (blk_alloc K5_3.out _) 0).trans rfl
  have c5_3_1 : (w5.alloc (.cells #[.int .i64 z0, .int .i64 z1] 23 (0, 0))).cell? ⟨w3.heap.size, 1, none⟩ = some (.int .i64 x1) := (blk_cell (blk_alloc K5_3.out _) 1).trans rfl
  have c5_4_0 : (w5.alloc (.cells #[.int .i64 z0, .int .i64 z1] 23 (0, 0))).cell? ⟨w4.heap.size, 0, none⟩ = some (.int .i64 x0) := (blk_cell (blk_alloc K5_4.out _) 0).trans rfl
  have c5_4_1 : (w5.alloc (.cells #[.int .i64 z0, .int .i64 z1] 23 (0, 0))).cell? ⟨w4.heap.size, 1, none⟩ = some (.int .i64 x1) := (blk_cell (blk_alloc K5_4.out _) 1).trans rfl
  have c5_5_0 : (w5.alloc (.cells #[.int .i64 z0, .int .i64 z1] 23 (0, 0))).cell? ⟨w5.heap.size, 0, none⟩ = some (.int .i64 z0) := (blk_cell (blk_new w5 (.cells #[.int .i64 z0, .int .i64 z1] 23 (0, 0))) 0).trans rfl
  have c5_5_1 : (w5.alloc (.cells #[.int .i64 z0, .int .i64 z1] 23 (0, 0))).cell? ⟨w5.heap.size, 1, none⟩ = some (.int .i64 z1) := (blk_cell (blk_new w5 (.cells #[.int .i64 z0, .int .i64 z1] 23 (0, 0))) 1).trans rfl
  go_wp2_with fail
  refine (join_at _ HW.out).mono ?_
  rintro e w6 ⟨rfl, hb⟩
  have K6_0 := Lib.hid (blk_below (blk_alloc K5_0.out _) hb)
  have K6_1 := Lib.hid (blk_below (blk_alloc K5_1.out _) hb)
  have K6_2 := Lib.hid (blk_below (blk_alloc K5_2.out _) hb)
  have K6_3 := Lib.hid (blk_below (blk_alloc K5_3.out _) hb)
  have K6_4 := Lib.hid (blk_below (blk_alloc K5_4.out _) hb)
  have K6_5 := Lib.hid (blk_below (blk_new w5 (.cells #[.int .i64 z0, .int .i64 z1] 23 (0, 0))) hb)
  have HB6 := Lib.hid (below_step (below_alloc HB5.out _) hb)
  clear K5_0 K5_1 K5_2 K5_3 K5_4 HB5 c5_0_0 c5_0_1 c5_1_0 c5_1_1 c5_2_0 c5_2_1 c5_3_0 c5_3_1 c5_4_0 c5_4_1 c5_5_0 c5_5_1
  clear hb
  have c6_0_0 : (w6.alloc (.cells #[.int .i64 z0, .int .i64 z1] 23 (0, 0))).cell? ⟨w.heap.size, 0, none⟩ = some (.int .i64 a) := (blk_cell (blk_alloc K6_0.out _) 0).trans rfl
  have c6_0_1 : (w6.alloc (.cells #[.int .i64 z0, .int .i64 z1] 23 (0, 0))).cell? ⟨w.heap.size, 1, none⟩ = some (.int .i64 b) := (blk_cell (blk_alloc K6_0.out _) 1).trans rfl
  have c6_1_0 : (w6.alloc (.cells #[.int .i64 z0, .int .i64 z1] 23 (0, 0))).cell? ⟨w.heap.size + 1, 0, none⟩ = some (.int .i64 c) := (blk_cell (blk_alloc K6_1.out _) 0).trans rfl
  have c6_1_1 : (w6.alloc (.cells #[.int .i64 z0, .int .i64 z1] 23 (0, 0))).cell? ⟨w.heap.size + 1, 1, none⟩ = some (.int .i64 d) := (blk_cell (blk_alloc K6_1.out _) 1).trans rfl
  have c6_2_0 : (w6.alloc (.cells #[.int .i64 z0, .int .i64 z1] 23 (0, 0))).cell? ⟨w2.heap.size, 0, none⟩ = some (.int .i64 0) := (blk_cell (blk_alloc K6_2.out _) 0).trans rfl
  have c6_2_1 : (w6.alloc (.cells #[.int .i64 z0, .int .i64 z1] 23 (0, 0))).cell? ⟨w2.heap.size, 1, none⟩ = some (.int .i64 0) := (blk_cell (blk_alloc K6_2.out _) 1).trans rfl
  have c6_3_0 : (w6.alloc (.cells #[.int .i64 z0, .int .i64 z1] 23 (0, 0))).cell? ⟨w3.heap.size, 0, none⟩ = some (.int .i64 x0) := (blk_cell (blk_alloc K6_3.out _) 0).trans rfl
  have c6_3_1 : (w6.alloc (.cells #[.int .i64 z0, .int .i64 z1] 23 (0, 0))).cell? ⟨w3.heap.size, 1, none⟩ = some (.int .i64 x1) := (blk_cell (blk_alloc K6_3.out _) 1).trans rfl
  have c6_4_0 : (w6.alloc (.cells #[.int .i64 z0, .int .i64 z1] 23 (0, 0))).cell? ⟨w4.heap.size, 0, none⟩ = some (.int .i64 x0) := (blk_cell (blk_alloc K6_4.out _) 0).trans rfl
  have c6_4_1 : (w6.alloc (.cells #[.int .i64 z0, .int .i64 z1] 23 (0, 0))).cell? ⟨w4.heap.size, 1, none⟩ = some (.int .i64 x1) := (blk_cell (blk_alloc K6_4.out _) 1).trans rfl
  have c6_5_0 : (w6.alloc (.cells #[.int .i64 z0, .int .i64 z1] 23 (0, 0))).cell? ⟨w5.heap.size, 0, none⟩ = some (.int .i64 z0) := (blk_cell (blk_alloc K6_5.out _) 0).trans rfl
  have c6_5_1 : (w6.alloc (.cells #[.int .i64 z0, .int .i64 z1] 23 (0, 0))).cell? ⟨w5.heap.size, 1, none⟩ = some (.int .i64 z1) := (blk_cell (blk_alloc K6_5.out _) 1).trans rfl
  have c6_6_0 : (w6.alloc (.cells #[.int .i64 z0, .int .i64 z1] 23 (0, 0))).cell? ⟨w6.heap.size, 0, none⟩ = some (.int .i64 z0) := (blk_cell (blk_new w6 (.cells #[.int .i64 z0, .int .i64 z1] 23 (0, 0))) 0).trans rfl
  have c6_6_1 : (w6.alloc (.cells #[.int .i64 z0, .int .i64 z1] 23 (0, 0))).cell? ⟨w6.heap.size, 1, none⟩ = some (.int .i64 z1) := (blk_cell (blk_new w6 (.cells #[.int .i64 z0, .int .i64 z1] 23 (0, 0))) 1).trans rfl
  go_wp2_with fail
  refine (sound_at _ HT.out).mono ?_
  rintro e w7 ⟨rfl, hb⟩
  have K7_0 := Lib.hid (blk_below (blk_alloc K6_0.out _) hb)
  have K7_1 := Lib.hid (blk_below (blk_alloc K6_1.out _) hb)
  have K7_2 := Lib.hid (blk_below (blk_alloc K6_2.out _) hb)
  have K7_3 := Lib.hid (blk_below (blk_alloc K6_3.out _) hb)
  have K7_4 := Lib.hid (blk_below (blk_alloc K6_4.out _) hb)
  have K7_5 := Lib.hid (blk_below (blk_alloc K6_5.out _) hb)
  have K7_6 := Lib.hid (blk_below (blk_new w6 (.cells #[.int .i64 z0, .int .i64 z1] 23 (0, 0))) hb)
  have HB7 := Lib.hid (below_step (below_alloc HB6.out _) hb)
  clear K6_0 K6_1 K6_2 K6_3 K6_4 K6_5 HB6 c6_0_0 c6_0_1 c6_1_0 c6_1_1 c6_2_0 c6_2_1 c6_3_0 c6_3_1 c6_4_0 c6_4_1 c6_5_0 c6_5_1 c6_6_0 c6_6_1
  clear hb
  have c7_0_0 : w7.cell? ⟨w.heap.size, 0, none⟩ = some (.int .i64 a) := (blk_cell K7_0.out 0).trans rfl
  have c7_0_1 : w7.cell? ⟨w.heap.size, 1, none⟩ = some (.int .i64 b) := (blk_cell K7_0.out 1).trans rfl
  have c7_1_0 : w7.cell? ⟨w.heap.size + 1, 0, none⟩ = some (.int .i64 c) := (blk_cell K7_1.out 0).trans rfl
  have c7_1_1 : w7.cell? ⟨w.heap.size + 1, 1, none⟩ = some (.int .i64 d) := (blk_cell K7_1.out 1).trans rfl
  have c7_2_0 : w7.cell? ⟨w2.heap.size, 0, none⟩ = some (.int .i64 0) := (blk_cell K7_2.out 0).trans rfl
  have c7_2_1 : w7.cell? ⟨w2.heap.size, 1, none⟩ = some (.int .i64 0) := (blk_cell K7_2.out 1).trans rfl
  have c7_3_0 : w7.cell? ⟨w3.heap.size, 0, none⟩ = some (.int .i64 x0) := (blk_cell K7_3.out 0).trans rfl
  have c7_3_1 : w7.cell? ⟨w3.heap.size, 1, none⟩ = some (.int .i64 x1) := (blk_cell K7_3.out 1).trans rfl
  have c7_4_0 : w7.cell? ⟨w4.heap.size, 0, none⟩ = some (.int .i64 x0) := (blk_cell K7_4.out 0).trans rfl
  have c7_4_1 : w7.cell? ⟨w4.heap.size, 1, none⟩ = some (.int .i64 x1) := (blk_cell K7_4.out 1).trans rfl
  have c7_5_0 : w7.cell? ⟨w5.heap.size, 0, none⟩ = some (.int .i64 z0) := (blk_cell K7_5.out 0).trans rfl
  have c7_5_1 : w7.cell? ⟨w5.heap.size, 1, none⟩ = some (.int .i64 z1) := (blk_cell K7_5.out 1).trans rfl
  have c7_6_0 : w7.cell? ⟨w6.heap.size, 0, none⟩ = some (.int .i64 z0) := (blk_cell K7_6.out 0).trans rfl
  have c7_6_1 : w7.cell? ⟨w6.heap.size, 1, none⟩ = some (.int .i64 z1) := (blk_cell K7_6.out 1).trans rfl
  go_wp2_with fail
  go_ret
  exact ⟨rfl, HB7.out⟩
theorem self_any (a b c d : Int) (w : World) :
    Calls Try.prog 4 #[.agg #[.int .i64 a, .int .i64 b], .agg #[.int .i64 c, .int .i64 d]] w fun e w' => e = .returned (.bool true) ∧ Below w.heap.size w w' := by
  by_cases hs : Snd a b
  · by_cases hp : 0 < b
    · exact self_whole a b c d w hs hp
    · exact self_notp a b c d w hs hp
  · exact self_nots a b c d w hs
end Go.Proofs.Ytehabojhdogghaa.Hand
namespace Go.Proofs.Ytehabojhdogghaa.Wk.SpanSelf
open Go.RowKit Go.Proofs.YtehabojhdogghaaW.PrintWords Go.Proofs.YtehabojhdogghaaW.Opn
theorem walk (cs0 : List Value) (a0 : Int × Int) (cs1 : List Value) (a1 : Int × Int) (w : World) (hk0 : kII.K w a0 (Value.agg ⟨cs0⟩).cells.toList) (_ : (Lit.int .i64 a0.1).wf = true ∧ (Lit.int .i64 a0.2).wf = true) (hk1 : kII.K w a1 (Value.agg ⟨cs1⟩).cells.toList) (_ : (Lit.int .i64 a1.1).wf = true ∧ (Lit.int .i64 a1.2).wf = true) :
    Calls Try.prog 4 #[.agg ⟨cs0⟩, .agg ⟨cs1⟩] w fun e w' => e = .returned (.bool true) ∧ Below w.heap.size w w' := by
  have e0 : cs0 = _ := kII_open hk0
  have e1 : cs1 = _ := kII_open hk1
  subst e0
  subst e1
  exact Hand.self_any a0.1 a0.2 a1.1 a1.2 w
/-- A span's reading. -/
theorem op23 : Opens Try.prog 23 kII (fun x => (Lit.int .i64 x.1).wf = true ∧ (Lit.int .i64 x.2).wf = true) :=
  kII_opens Try.underlying23 rfl rfl Try.underlying3 rfl rfl (by kernel_rfl) (by kernel_rfl)
end Go.Proofs.Ytehabojhdogghaa.Wk.SpanSelf
