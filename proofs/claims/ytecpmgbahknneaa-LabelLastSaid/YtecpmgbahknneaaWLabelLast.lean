/- The law LabelLast, walked: it answers true. Conditions: none. -/
import Derived.Test.YtecpmgbahknneaaLAw
import Derived.Test.YtecpmgbahknneaaOpn
namespace Go.Proofs.Ytecpmgbahknneaa.L
open Go.RowKit Go.Proofs.YtecpmgbahknneaaW.PrintWords Go.Proofs.YtecpmgbahknneaaW.PrintMore

set_option maxHeartbeats 2000000 in
theorem labelLast_any (n a0 a1 b0 b1 : Nat) (x y : Int) (w : World) (hn : n < 256) (ha0 : a0 < 256) (ha1 : a1 < 256) (hb0 : b0 < 256) (hb1 : b1 < 256) :
    Calls Try.prog 4 #[.int .u8 n, .agg #[.int .u8 a0, .int .u8 a1], .agg #[.int .u8 b0, .int .u8 b1], .int .u8 x, .int .u8 y] w fun e w' => e = .returned (.bool true) ∧ Below w.heap.size w w' := by
  have hu37 := Try.underlying37
  have hu5 := Try.underlying5
  go_enter Try.func4, Try.ntmps4
  go_wp2_with fail
  refine (awake_any _).mono ?_
  rintro e w1 ⟨rfl, hb⟩
  have HA := Lib.hid (blk_below (blk_alloc (blk_new w (.cells #[.int .u8 a0, .int .u8 a1] 37 (0, 0))) (.cells #[.int .u8 b0, .int .u8 b1] 37 (0, 0))) hb)
  have HB := Lib.hid (blk_below (blk_alloc_at w (.cells #[.int .u8 a0, .int .u8 a1] 37 (0, 0)) (.cells #[.int .u8 b0, .int .u8 b1] 37 (0, 0)) (w.heap.size + 1) (by simp)) hb)
  have HW := Lib.hid (below_step (below_alloc (below_alloc (Below.refl _ _) _) _) hb)
  have hz1 := hb.size
  simp only [World.size_alloc] at hz1
  clear hb
  go_wp2_with fail
  refine (new_yes n _ (by omega)).mono ?_
  rintro e w2 ⟨g, k, rfl, hs, hb, hg, hk⟩
  have HS := Lib.hid hs
  have HA2 := Lib.hid (blk_below HA.out hb)
  have HB2 := Lib.hid (blk_below HB.out hb)
  have HW2 := Lib.hid (below_step HW.out hb)
  clear hs hb HA HB HW
  have c1 : w2.cell? ⟨w.heap.size, 0, none⟩ = some (.int .u8 a0) := (blk_cell HA2.out 0).trans rfl
  have c2 : w2.cell? ⟨w.heap.size, 1, none⟩ = some (.int .u8 a1) := (blk_cell HA2.out 1).trans rfl
  go_wp2_with fail
  refine (set_any g k _ x a0 a1 _ HS.out).mono ?_
  rintro e w3 ⟨rfl, hs, hg3⟩
  have HS3 := Lib.hid hs
  have HA3 := Lib.hid (blk_grown HA2.out hg3 (by intro e; injection e with e; omega))
  have HB3 := Lib.hid (blk_grown HB2.out hg3 (by intro e; injection e with e; omega))
  have HW3 := Lib.hid (below_grown HW2.out (by omega) hg3)
  clear hs hg3 HA2 HB2 HW2 c1 c2
  have c1 : w3.cell? ⟨w.heap.size + 1, 0, none⟩ = some (.int .u8 b0) := (blk_cell HB3.out 0).trans rfl
  have c2 : w3.cell? ⟨w.heap.size + 1, 1, none⟩ = some (.int .u8 b1) := (blk_cell HB3.out 1).trans rfl
  go_wp2_with fail
  refine (set_any g k _ y b0 b1 _ HS3.out).mono ?_
  rintro e w4 ⟨rfl, hs, hg4⟩
  have HS4 := Lib.hid hs
  have HA4 := Lib.hid (blk_grown HA3.out hg4 (by intro e; injection e with e; omega))
  have HB4 := Lib.hid (blk_grown HB3.out hg4 (by intro e; injection e with e; omega))
  have HW4 := Lib.hid (below_grown HW3.out (by omega) hg4)
  clear hs hg4 HA3 HB3 HW3 c1 c2
  have c1 : w4.cell? ⟨w.heap.size, 0, none⟩ = some (.int .u8 a0) := (blk_cell HA4.out 0).trans rfl
  have c2 : w4.cell? ⟨w.heap.size, 1, none⟩ = some (.int .u8 a1) := (blk_cell HA4.out 1).trans rfl
  have c3 : w4.cell? ⟨w.heap.size + 1, 0, none⟩ = some (.int .u8 b0) := (blk_cell HB4.out 0).trans rfl
  have c4 : w4.cell? ⟨w.heap.size + 1, 1, none⟩ = some (.int .u8 b1) := (blk_cell HB4.out 1).trans rfl
  go_wp2_with fail
  go_loop [43] (fun i => ∃ j : Nat, j ≤ n ∧ i = .int .i64 j) (fun i => n - (intOf i).toNat)
  case atStart => exact ⟨0, Nat.zero_le _, rfl⟩
  case round =>
    obtain ⟨j, hj, rfl⟩ := hrel
    by_cases hlt : j < n
    · have HX := Lib.hid (show (setL (setL (List.replicate n 1) x a0 a1) y b0 b1)[j]? = some (if (b0 : Int) ≤ (j : Int) ∧ (j : Int) < (b1 : Int) then y else if (a0 : Int) ≤ (j : Int) ∧ (j : Int) < (a1 : Int) then x else 1) by
        rw [setL_get, setL_get, List.getElem?_replicate, if_pos hlt]
        rfl)
      rcases Nat.lt_or_ge j a0 with p1 | p1 <;> rcases Nat.lt_or_ge j a1 with p2 | p2 <;> rcases Nat.lt_or_ge j b0 with p3 | p3 <;> rcases Nat.lt_or_ge j b1 with p4 | p4
      all_goals
        go_wp2_with (go_at_call 12; refine (at_in g k _ j _ _ HS4.out HX.out).mono ?_; rintro e w' ⟨rfl, rfl⟩)
        go_round
        case rel => exact ⟨j + 1, by omega, by go_num⟩
        case measure => simp [intOf]; omega
    · have : j = n := by omega
      subst this
      go_wp2
      go_ret
      exact ⟨rfl, HW4.out⟩
end Go.Proofs.Ytecpmgbahknneaa.L
namespace Go.Proofs.Ytecpmgbahknneaa.Wk.LabelLast
open Go.RowKit Go.Proofs.YtecpmgbahknneaaW.PrintWords Go.Proofs.YtecpmgbahknneaaW.Opn
def kUU : Kd (Int × Int) := Kd.pair (Kd.int .u8) (Kd.int .u8)
theorem opArr : Opens Try.prog 37 kUU (fun x => (Lit.int .u8 x.1).wf = true ∧ (Lit.int .u8 x.2).wf = true) := by
  intro H enc w base spare held fuel cs x h _
  obtain ⟨xs, m, _, rfl, hl, hxl, hi⟩ := DataW.trod_array Try.underlying37 h
  have hC : Try.prog.cellsOf 37 = 2 := by kernel_rfl
  have hE : Try.prog.cellsOf 5 = 1 := by kernel_rfl
  rw [hC] at hl
  match cs, hl with
  | [c0, c1], _ =>
    match xs, hxl with
    | [x0, x1], _ =>
      have h0 := hi 0 (by omega)
      have h1 := hi 1 (by omega)
      rw [hE] at h0 h1
      obtain ⟨n0, e0, _, w0⟩ := DataW.trod_int Try.underlying5 (h0.trans rfl)
      obtain ⟨n1, e1, _, w1⟩ := DataW.trod_int Try.underlying5 (h1.trans rfl)
      simp at e0 e1
      subst e0
      subst e1
      exact ⟨(n0, n1), ⟨[.int .u8 n0], [.int .u8 n1], rfl, rfl, rfl⟩, w0, w1⟩
theorem okWide_array {P : Program} {w : World} {r : Reach} {base n : Nat} {t e : TypeId} {v : Value} (ht : P.underlying t = some (.array n e)) (h : Value.okWide P w r base t v) : ∃ cs, v = .agg cs ∧ cs.size = P.cellsOf t := by
  simp only [Value.okWide, ht] at h
  obtain ⟨cs, h1, h2, _⟩ := h
  exact ⟨cs, h1, h2⟩
theorem u8_nat {n : Int} (h : (Lit.int .u8 n).wf = true) : ∃ m : Nat, n = m ∧ m < 256 := by
  have := bounds_u8 h
  exact ⟨n.toNat, by omega, by omega⟩
theorem walk (a0 : Int) (cs1 : List Value) (a1 : Int × Int) (cs2 : List Value) (a2 : Int × Int) (a3 a4 : Int) (w : World) (w0 : (Lit.int .u8 a0).wf = true) (hk1 : kUU.K w a1 (Value.agg ⟨cs1⟩).cells.toList) (hg1 : (Lit.int .u8 a1.1).wf = true ∧ (Lit.int .u8 a1.2).wf = true) (hk2 : kUU.K w a2 (Value.agg ⟨cs2⟩).cells.toList) (hg2 : (Lit.int .u8 a2.1).wf = true ∧ (Lit.int .u8 a2.2).wf = true) (_ : (Lit.int .u8 a3).wf = true) (_ : (Lit.int .u8 a4).wf = true) :
    Calls Try.prog 4 #[.int .u8 a0, .agg ⟨cs1⟩, .agg ⟨cs2⟩, .int .u8 a3, .int .u8 a4] w fun e w' => e = .returned (.bool true) ∧ Below w.heap.size w w' := by
  obtain ⟨n, rfl, hn⟩ := u8_nat w0
  obtain ⟨p, q⟩ := a1
  obtain ⟨r, s⟩ := a2
  obtain ⟨p, rfl, hp⟩ := u8_nat hg1.1
  obtain ⟨q, rfl, hq⟩ := u8_nat hg1.2
  obtain ⟨r, rfl, hr⟩ := u8_nat hg2.1
  obtain ⟨s, rfl, hs⟩ := u8_nat hg2.2
  obtain ⟨_, _, e1, rfl, rfl⟩ := hk1
  obtain ⟨_, _, e2, rfl, rfl⟩ := hk2
  have e1' : cs1 = [.int .u8 p, .int .u8 q] := e1
  have e2' : cs2 = [.int .u8 r, .int .u8 s] := e2
  subst e1'
  subst e2'
  exact L.labelLast_any n p q r s a3 a4 w hn hp hq hr hs
end Go.Proofs.Ytecpmgbahknneaa.Wk.LabelLast
