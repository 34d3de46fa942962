/- The law LabelNil, walked: it answers true. Conditions: none. -/
import Derived.Test.YtecpmgbahknneaaLAw
import Derived.Test.YtecpmgbahknneaaLRef
import Derived.Test.YtecpmgbahknneaaLAll
import Derived.Test.YtecpmgbahknneaaOpn
import Derived.Test.YtecpmgbahknneaaLAct
namespace Go.Proofs.Ytecpmgbahknneaa.L
open Go.RowKit Go.Proofs.YtecpmgbahknneaaW.PrintWords Go.Proofs.YtecpmgbahknneaaW.PrintMore

theorem lay_nil_any (at_ : Int) (g : Addr) (w : World) :
    Calls Try.prog 16 #[.pointer (some g), .int .i64 at_, .pointer none] w fun e w' => e = .returned (.tuple #[]) ∧ w = w' := by
  by_cases h : at_ < -65536 ∨ 65536 < at_
  · exact lay_far _ _ _ w h
  · exact lay_nil _ _ w (by omega) (by omega)
theorem lay_none_any (at_ : Int) (h : Option Addr) (w : World) :
    Calls Try.prog 16 #[.pointer none, .int .i64 at_, .pointer h] w fun e w' => e = .returned (.tuple #[]) ∧ w = w' := by
  by_cases h : at_ < -65536 ∨ 65536 < at_
  · exact lay_far _ _ _ w h
  · exact lay_none _ _ w (by omega) (by omega)

/-- A box, a sheet, and what was there. -/
def Cx (w0 W : World) (p g k t : Nat) (cs : Array Value) (L : List Int) : Prop := W.heap[p]? = some (.cells cs t (0, 0)) ∧ Sheet W g k L ∧ Below w0.heap.size w0 W
theorem Cx.below {w0 W W' : World} {p g k t : Nat} {cs : Array Value} {L : List Int} (h : Cx w0 W p g k t cs L) (hb : Below W.heap.size W W') : Cx w0 W' p g k t cs L := ⟨blk_below h.1 hb, h.2.1.below hb, below_step h.2.2 hb⟩
theorem Cx.set {w0 W W' : World} {p g k t : Nat} {cs : Array Value} {L L' : List Int} (h : Cx w0 W p g k t cs L) (hs : Sheet W' g k L') (hg : W.grownBy W' (some k)) (hp : p ≠ k) (hk : w0.heap.size ≤ k) : Cx w0 W' p g k t cs L' :=
  ⟨blk_grown h.1 hg (fun e => hp (by injection e)), hs, below_grown h.2.2 hk hg⟩
theorem Cx.sheet {w0 W : World} {p g k t : Nat} {cs : Array Value} {L : List Int} (h : Cx w0 W p g k t cs L) : Sheet W g k L := h.2.1
theorem Cx.bel {w0 W : World} {p g k t : Nat} {cs : Array Value} {L : List Int} (h : Cx w0 W p g k t cs L) : Below w0.heap.size w0 W := h.2.2
theorem Cx.drewN {w0 W : World} {p g k t : Nat} {cs : Array Value} {L : List Int} (h : Cx w0 W p g k t cs L) (n : Nat) : Cx w0 (W.drewN n) p g k t cs L := ⟨h.1, h.2.1.drewN n, pw_below_drewN h.2.2 n⟩
theorem Cx.cell {w0 W : World} {p g k t : Nat} {cs : Array Value} {L : List Int} (h : Cx w0 W p g k t cs L) (i : Nat) : W.cell? ⟨p, i, none⟩ = cs[i]? := blk_cell h.1 i

theorem nil_end (n N : Nat) : (if 0 < n ∧ N = 0 then (setL (List.replicate n 1) 4 0 (min n (N + 1) : Nat)).set 0 1 else setL (List.replicate n 1) 4 0 (min n (N + 1) : Nat)) = layL (setL (List.replicate n 1) 4 0 N) (setL (List.replicate n 1) 4 0 N) 1 := by
  apply List.ext_getElem?
  intro j
  unfold layL
  rw [layTo_get, setL_length, List.length_replicate]
  by_cases hj : j < n
  · have h1 : ∀ b : Int, (setL (List.replicate n 1) 4 0 b)[j]? = some (if (0 : Int) ≤ j ∧ (j : Int) < b then 4 else 1) := fun b => by
      rw [setL_get, List.getElem?_replicate, if_pos hj]
      rfl
    rw [h1]
    have h2 : (setL (List.replicate n 1) 4 0 N).getD ((j : Int) - 1).toNat 0 = if (((j : Int) - 1).toNat : Int) < N then 4 else 1 := by
      rw [List.getD_eq_getElem?_getD, setL_get, List.getElem?_replicate, if_pos (by omega)]
      simp
    simp only [Option.map_some]
    rw [h2]
    by_cases hz : 0 < n ∧ N = 0
    · rw [if_pos hz, List.getElem?_set, setL_length, List.length_replicate]
      obtain ⟨_, rfl⟩ := hz
      by_cases hj0 : 0 = j
      · subst hj0
        simp [hj]
      · rw [if_neg hj0, h1]
        congr 1
        rw [if_neg (by omega), if_pos (by omega), if_neg (by omega)]
    · rw [if_neg hz, h1]
      congr 1
      by_cases hj0 : 1 ≤ (j : Int)
      · rw [if_pos (show (1 : Int) ≤ j ∧ (j : Int) < 1 + n by omega)]
        by_cases hjN : j < N + 1
        · rw [if_pos (by omega), if_pos (by omega)]
        · rw [if_neg (by omega), if_neg (by omega)]
      · rw [if_neg (show ¬ ((1 : Int) ≤ j ∧ (j : Int) < 1 + n) by omega), if_pos (by omega), if_pos (by omega)]
  · have h1 : ∀ b : Int, (setL (List.replicate n 1) 4 0 b)[j]? = none := fun b => by
      rw [List.getElem?_eq_none_iff, setL_length, List.length_replicate]
      omega
    rw [h1]
    split
    · rw [List.getElem?_set, setL_length, List.length_replicate, if_neg (by omega), h1]
      rfl
    · rw [h1]
      rfl

theorem same_anyL (A1 A2 : Option Addr) (c1 c2 : Nat) (S : List Sg) (w : World) (hl : S.length ≤ 1000000) (h1 : Kd.C PSameSegs.k35 w A1 (S.map toQ).length (S.map toQ)) (h2 : Kd.C PSameSegs.k35 w A2 (S.map toQ).length (S.map toQ)) (hc1 : (S.map toQ).length ≤ c1) (hc2 : (S.map toQ).length ≤ c2) :
    Calls Try.prog 17 #[.slice A1 S.length c1, .slice A2 S.length c2] w fun e w' => e = .returned (.bool true) ∧ ∃ n, w' = w.drewN n := by
  have := same_any A1 A2 c1 c2 S w hl h1 h2 hc1 hc2
  simpa only [List.length_map] using this
theorem refSegs_anyL (k n c : Nat) (L : List Int) (w : World) (h : w.heap[k]? = some (.cells (cellsL L) 27 (0, 0))) (hc : n ≤ c) (hl : n ≤ 1000000) (hn : L.length = n) :
    Calls Try.prog 18 #[.slice (some ⟨k, 0, none⟩) n c] w fun e w' => ∃ A cp, e = .returned (.slice A (segsOf L).length cp) ∧ ((segsOf L).map toQ).length ≤ cp ∧ Kd.C PSameSegs.k35 w' A ((segsOf L).map toQ).length ((segsOf L).map toQ) ∧ Below w.heap.size w w' := by
  subst hn
  have := refSegs_any k c L w h hc hl
  simpa only [List.length_map] using this
set_option maxHeartbeats 2000000 in
theorem labelNil_any (K Lb F T : Int) (N n : Nat) (w : World) (hn : n < 256) (hN : N < 256) :
    Calls Try.prog 6 #[.agg #[.int .u8 K, .int .u8 Lb, .int .i64 F, .int .i64 T, .int .u8 N], .int .u8 n] w fun e w' => e = .returned (.bool true) ∧ Below w.heap.size w w' := by
  have hu46 := Try.underlying46
  go_enter Try.func6, Try.ntmps6
  go_wp2_with fail
  refine (awake_any _).mono ?_
  rintro e w1 ⟨rfl, hb⟩
  have HB := Lib.hid (blk_below (blk_new w (.cells #[.int .u8 K, .int .u8 Lb, .int .i64 F, .int .i64 T, .int .u8 N] 46 (0, 0))) hb)
  have HW := Lib.hid (below_step (below_alloc (Below.refl _ _) _) hb)
  have hz1 := hb.size
  simp only [World.size_alloc] at hz1
  clear hb
  have c2 : w1.cell? ⟨w.heap.size, 2, none⟩ = some (.int .i64 F) := (blk_cell HB.out 2).trans rfl
  have c3 : w1.cell? ⟨w.heap.size, 3, none⟩ = some (.int .i64 T) := (blk_cell HB.out 3).trans rfl
  go_wp2_with (go_at_call 13; refine (set_nil 4 F T _).mono ?_; rintro e w' ⟨rfl, rfl⟩)
  refine (new_yes n _ (by omega)).mono ?_
  rintro e w2 ⟨g, k, rfl, hs, hb, hg, hk⟩
  have HC := Lib.hid (show Cx w w2 w.heap.size g k 46 _ _ from ⟨blk_below HB.out hb, hs, below_step HW.out hb⟩)
  clear hs hb HB HW c2 c3
  have c4 : w2.cell? ⟨w.heap.size, 4, none⟩ = some (.int .u8 N) := (HC.out.cell 4).trans rfl
  go_wp2_with fail
  refine (set_any g k _ 4 0 N _ HC.out.2.1).mono ?_
  rintro e w3 ⟨rfl, hs, hg3⟩
  have HC3 := Lib.hid (HC.out.set hs hg3 (by omega) (by omega))
  clear hs hg3 HC c4
  go_wp2_with fail
  refine (segs_any g k _ _ HC3.out.2.1).mono ?_
  rintro e w4 ⟨v, rfl, ho, hb⟩
  obtain ⟨A1, cp1, rfl, hc1, hC1⟩ := own_Q ho
  have HC4 := Lib.hid (HC3.out.below hb)
  have HV4 := Lib.hid hC1
  clear ho hb HC3 hC1
  have c2 : w4.cell? ⟨w.heap.size, 2, none⟩ = some (.int .i64 F) := (HC4.out.cell 2).trans rfl
  go_wp2_with fail
  ((with_reducible refine (lay_nil_any F _ _).mono ?_))
  rintro e w' ⟨rfl, rfl⟩
  go_wp2_with fail
  ((with_reducible refine (lay_none_any F _ _).mono ?_))
  rintro e w' ⟨rfl, rfl⟩
  go_wp2_with fail
  refine (segs_any g k _ _ HC4.out.2.1).mono ?_
  rintro e w5 ⟨v, rfl, ho, hb⟩
  obtain ⟨A2, cp2, rfl, hc2, hC2⟩ := own_Q ho
  have HC5 := Lib.hid (HC4.out.below hb)
  have HV5 := Lib.hid (Kd.C_below HV4.out hb)
  have HU5 := Lib.hid hC2
  have hlen := (segsTo_ok (setL (List.replicate n 1) 4 0 N) (setL (List.replicate n 1) 4 0 N).length).1
  rw [setL_length, List.length_replicate] at hlen
  have hlen2 : (segsOf (setL (List.replicate n 1) 4 0 N)).length ≤ 1000000 := by unfold segsOf; rw [setL_length, List.length_replicate]; omega
  clear ho hb HC4 hC2 HV4 c2 hlen
  go_wp2_with fail
  ((with_reducible refine (same_anyL A2 A1 cp2 cp1 _ _ hlen2 HU5.out HV5.out hc2 hc1).mono ?_))
  rintro e w6 ⟨rfl, nq, rfl⟩
  have HC6 := Lib.hid (HC5.out.drewN nq)
  clear HV5 HU5 HC5
  go_wp2_with fail
  refine (lay_any g k _ g k _ 1 _ HC6.out.2.1 HC6.out.2.1 (by omega) (by omega)).mono ?_
  rintro e w7 ⟨rfl, hs, hg7⟩
  have HC7 := Lib.hid (HC6.out.set hs hg7 (by omega) (by omega))
  clear hs hg7 HC6
  go_wp2_with fail
  refine (all_any n 1 _ (by omega)).mono ?_
  rintro e w8 ⟨q, rfl, hq, hb, hqs⟩
  have HC8 := Lib.hid (HC7.out.below hb)
  have hz7 := HC7.out.2.2.size
  have hgq : g ≠ q := by have := HC7.out.2.1.lt.1; omega
  have hkq : k ≠ q := by have := HC7.out.2.1.lt.2; omega
  have hpq : w.heap.size ≠ q := by have := blk_lt HC7.out.1; omega
  have HI := Lib.hid (show Cx w w8 w.heap.size g k 46 _ _ ∧ w8.heap[q]? = some (.cells (cellsL (setL (List.replicate n 1) 4 0 (min 0 (N + 1) : Nat))) 27 (0, 0)) from ⟨HC7.out.below hb, by rw [setL_none _ _ _ _ (.inl (by omega))]; exact hq⟩)
  clear hq hb HC8 HC7
  go_wp2_with fail
  go_loopw [54] (fun i wr => ∃ j : Nat, j ≤ n ∧ i = .int .i64 j ∧ Hid (Cx w wr w.heap.size g k 46 #[.int .u8 K, .int .u8 Lb, .int .i64 F, .int .i64 T, .int .u8 N] (layL (setL (List.replicate n 1) 4 0 N) (setL (List.replicate n 1) 4 0 N) 1) ∧ wr.heap[q]? = some (.cells (cellsL (setL (List.replicate n 1) 4 0 (min j (N + 1) : Nat))) 27 (0, 0)))) (fun i _ => n - (intOf i).toNat)
  case atStart => exact ⟨0, Nat.zero_le _, rfl, HI⟩
  case round =>
    obtain ⟨j, hj, rfl, HJ⟩ := hrel
    clear HI
    have c4 : wr.cell? ⟨w.heap.size, 4, none⟩ = some (.int .u8 N) := (HJ.out.1.cell 4).trans rfl
    by_cases hlt : j < n
    · by_cases hjN : j < N + 1
      · have hc : wr.cell? ⟨q, j, none⟩ = some (.int .u8 ((setL (List.replicate n 1) 4 0 (min j (N + 1) : Nat)).getD j 0)) := by
          rw [blk_cell HJ.out.2, cellsL_get, List.getD_eq_getElem?_getD]
          have : j < (setL (List.replicate n 1) 4 0 (min j (N + 1) : Nat)).length := by rw [setL_length]; simpa using hlt
          rw [List.getElem?_eq_getElem this]
          rfl
        have hf := blk_frozen HJ.out.2 j
        have hst := setL_step (List.replicate n 1) 4 0 j
        rw [Nat.zero_add, Int.natCast_zero, Int.zero_add, Int.zero_add] at hst
        have e1 : min j (N + 1) = j := by omega
        have e2 : min (j + 1) (N + 1) = j + 1 := by omega
        have HW := Lib.hid (show Cx w (wr.setCell ⟨q, j, none⟩ (.int .u8 4)) w.heap.size g k 46 #[.int .u8 K, .int .u8 Lb, .int .i64 F, .int .i64 T, .int .u8 N] (layL (setL (List.replicate n 1) 4 0 N) (setL (List.replicate n 1) 4 0 N) 1) ∧ (wr.setCell ⟨q, j, none⟩ (.int .u8 4)).heap[q]? = some (.cells (cellsL (setL (List.replicate n 1) 4 0 (min (j + 1) (N + 1) : Nat))) 27 (0, 0)) from
          ⟨⟨blk_far HJ.out.1.1 hpq _, HJ.out.1.2.1.far hgq hkq _, HJ.out.1.2.2.setCell (show w.heap.size ≤ q by omega) _⟩, blk_put HJ.out.2 _ _ (by rw [cellsL_set, e1, e2, hst])⟩)
        clear HJ hst e1 e2
        go_wp2
        go_roundw
        case rel => exact ⟨j + 1, by omega, by go_num, HW⟩
        case measure => simp [intOf]; omega
      · have e1 : min j (N + 1) = min (j + 1) (N + 1) := by omega
        have HW := Lib.hid (show _ ∧ wr.heap[q]? = some (.cells (cellsL (setL (List.replicate n 1) 4 0 (min (j + 1) (N + 1) : Nat))) 27 (0, 0)) from ⟨HJ.out.1, by rw [← e1]; exact HJ.out.2⟩)
        clear HJ e1
        go_wp2
        go_roundw
        case rel => exact ⟨j + 1, by omega, by go_num, HW⟩
        case measure => simp [intOf]; omega
    · have : j = n := by omega
      subst this
      have hend := nil_end j N
      by_cases hz : 0 < j ∧ N = 0
      · rw [if_pos hz] at hend
        have h0 := hz.1
        have g1 : ((N : Int) == 0) = true := by simp [hz.2]
        clear hz
        have hc : wr.cell? ⟨q, 0, none⟩ = some (.int .u8 ((setL (List.replicate j 1) 4 0 (min j (N + 1) : Nat)).getD 0 0)) := by
          rw [blk_cell HJ.out.2, cellsL_get, List.getD_eq_getElem?_getD]
          have : 0 < (setL (List.replicate j 1) 4 0 (min j (N + 1) : Nat)).length := by rw [setL_length]; simpa using h0
          rw [List.getElem?_eq_getElem this]
          rfl
        have hf := blk_frozen HJ.out.2 0
        have HD := Lib.hid (show Cx w (wr.setCell ⟨q, 0, none⟩ (.int .u8 1)) w.heap.size g k 46 #[.int .u8 K, .int .u8 Lb, .int .i64 F, .int .i64 T, .int .u8 N] (layL (setL (List.replicate j 1) 4 0 N) (setL (List.replicate j 1) 4 0 N) 1) ∧ (wr.setCell ⟨q, 0, none⟩ (.int .u8 1)).heap[q]? = some (.cells (cellsL (layL (setL (List.replicate j 1) 4 0 N) (setL (List.replicate j 1) 4 0 N) 1)) 27 (0, 0)) from
          ⟨⟨blk_far HJ.out.1.1 hpq _, HJ.out.1.2.1.far hgq hkq _, HJ.out.1.2.2.setCell (show w.heap.size ≤ q by omega) _⟩, blk_put HJ.out.2 _ _ (by rw [cellsL_set]; exact congrArg cellsL hend)⟩)
        have g0 : decide (0 < j) = true := by simpa using h0
        clear hend HJ
        have hlen := (segsTo_ok (layL (setL (List.replicate j 1) 4 0 N) (setL (List.replicate j 1) 4 0 N) 1) (layL (setL (List.replicate j 1) 4 0 N) (setL (List.replicate j 1) 4 0 N) 1).length).1
        have hlen1 : (layL (setL (List.replicate j 1) 4 0 N) (setL (List.replicate j 1) 4 0 N) 1).length = j := by unfold layL; rw [layTo_length, setL_length, List.length_replicate]
        rw [hlen1] at hlen
        have hlen2 : (segsOf (layL (setL (List.replicate j 1) 4 0 N) (setL (List.replicate j 1) 4 0 N) 1)).length ≤ 1000000 := by unfold segsOf; rw [hlen1]; omega
        clear hlen
        have HL1 := Lib.hid hlen1
        clear hlen1
        go_wp2_with fail
        ((with_reducible refine (segs_any g k _ _ HD.out.1.sheet).mono ?_))
        rintro e w9 ⟨v9, rfl, ho, hb⟩
        obtain ⟨A3, cp3, rfl, hc3, hC3⟩ := own_Q ho
        have HE9 := Lib.hid (show Cx w w9 _ _ _ _ _ _ ∧ w9.heap[q]? = _ from ⟨HD.out.1.below hb, blk_below HD.out.2 hb⟩)
        have HV9 := Lib.hid hC3
        clear ho hb HD hC3
        go_wp2_with fail
        ((with_reducible refine (refSegs_anyL q j j _ _ HE9.out.2 (Nat.le_refl _) (by omega) HL1.out).mono ?_))
        rintro e w10 ⟨A4, cp4, rfl, hc4, hC4, hb⟩
        have HE10 := Lib.hid (HE9.out.1.below hb)
        have HV10 := Lib.hid (Kd.C_below HV9.out hb)
        have HU10 := Lib.hid hC4
        clear hb hC4 HE9 HV9
        go_wp2_with fail
        ((with_reducible refine (same_anyL A3 A4 cp3 cp4 _ _ hlen2 HV10.out HU10.out hc3 hc4).mono ?_))
        rintro e w11 ⟨rfl, nq2, rfl⟩
        have HE11 := Lib.hid (HE10.out.drewN nq2)
        clear HV10 HU10 HE10
        have d2 : (w10.drewN nq2).cell? ⟨w.heap.size, 2, none⟩ = some (.int .i64 F) := (HE11.out.cell 2).trans rfl
        go_wp2_with (first | (go_at_call 11; ((with_reducible refine (len_nil _).mono ?_)); rintro e w' ⟨rfl, rfl⟩) | (go_at_call 12; ((with_reducible refine (at_nil F _).mono ?_)); rintro e w' ⟨rfl, rfl⟩) | (go_at_call 10; ((with_reducible refine (segs_nil _).mono ?_)); rintro e w' ⟨rfl, rfl⟩))
        go_ret
        exact ⟨rfl, HE11.out.bel⟩
      · rw [if_neg hz] at hend
        have HD := Lib.hid (show Cx w wr w.heap.size g k 46 #[.int .u8 K, .int .u8 Lb, .int .i64 F, .int .i64 T, .int .u8 N] (layL (setL (List.replicate j 1) 4 0 N) (setL (List.replicate j 1) 4 0 N) 1) ∧ wr.heap[q]? = some (.cells (cellsL (layL (setL (List.replicate j 1) 4 0 N) (setL (List.replicate j 1) 4 0 N) 1)) 27 (0, 0)) from ⟨HJ.out.1, by rw [← hend]; exact HJ.out.2⟩)
        clear hend HJ
        rcases Nat.eq_zero_or_pos j with h0 | h0
        · have g0 : decide (0 < j) = false := by simp; omega
          clear hz h0
          have hlen := (segsTo_ok (layL (setL (List.replicate j 1) 4 0 N) (setL (List.replicate j 1) 4 0 N) 1) (layL (setL (List.replicate j 1) 4 0 N) (setL (List.replicate j 1) 4 0 N) 1).length).1
          have hlen1 : (layL (setL (List.replicate j 1) 4 0 N) (setL (List.replicate j 1) 4 0 N) 1).length = j := by unfold layL; rw [layTo_length, setL_length, List.length_replicate]
          rw [hlen1] at hlen
          have hlen2 : (segsOf (layL (setL (List.replicate j 1) 4 0 N) (setL (List.replicate j 1) 4 0 N) 1)).length ≤ 1000000 := by unfold segsOf; rw [hlen1]; omega
          clear hlen
          have HL1 := Lib.hid hlen1
          clear hlen1
          go_wp2_with fail
          ((with_reducible refine (segs_any g k _ _ HD.out.1.sheet).mono ?_))
          rintro e w9 ⟨v9, rfl, ho, hb⟩
          obtain ⟨A3, cp3, rfl, hc3, hC3⟩ := own_Q ho
          have HE9 := Lib.hid (show Cx w w9 _ _ _ _ _ _ ∧ w9.heap[q]? = _ from ⟨HD.out.1.below hb, blk_below HD.out.2 hb⟩)
          have HV9 := Lib.hid hC3
          clear ho hb HD hC3
          go_wp2_with fail
          ((with_reducible refine (refSegs_anyL q j j _ _ HE9.out.2 (Nat.le_refl _) (by omega) HL1.out).mono ?_))
          rintro e w10 ⟨A4, cp4, rfl, hc4, hC4, hb⟩
          have HE10 := Lib.hid (HE9.out.1.below hb)
          have HV10 := Lib.hid (Kd.C_below HV9.out hb)
          have HU10 := Lib.hid hC4
          clear hb hC4 HE9 HV9
          go_wp2_with fail
          ((with_reducible refine (same_anyL A3 A4 cp3 cp4 _ _ hlen2 HV10.out HU10.out hc3 hc4).mono ?_))
          rintro e w11 ⟨rfl, nq2, rfl⟩
          have HE11 := Lib.hid (HE10.out.drewN nq2)
          clear HV10 HU10 HE10
          have d2 : (w10.drewN nq2).cell? ⟨w.heap.size, 2, none⟩ = some (.int .i64 F) := (HE11.out.cell 2).trans rfl
          go_wp2_with (first | (go_at_call 11; ((with_reducible refine (len_nil _).mono ?_)); rintro e w' ⟨rfl, rfl⟩) | (go_at_call 12; ((with_reducible refine (at_nil F _).mono ?_)); rintro e w' ⟨rfl, rfl⟩) | (go_at_call 10; ((with_reducible refine (segs_nil _).mono ?_)); rintro e w' ⟨rfl, rfl⟩))
          go_ret
          exact ⟨rfl, HE11.out.bel⟩
        · have g0 : decide (0 < j) = true := by simpa using h0
          have g1 : ((N : Int) == 0) = false := by simp; omega
          clear hz
          have hlen := (segsTo_ok (layL (setL (List.replicate j 1) 4 0 N) (setL (List.replicate j 1) 4 0 N) 1) (layL (setL (List.replicate j 1) 4 0 N) (setL (List.replicate j 1) 4 0 N) 1).length).1
          have hlen1 : (layL (setL (List.replicate j 1) 4 0 N) (setL (List.replicate j 1) 4 0 N) 1).length = j := by unfold layL; rw [layTo_length, setL_length, List.length_replicate]
          rw [hlen1] at hlen
          have hlen2 : (segsOf (layL (setL (List.replicate j 1) 4 0 N) (setL (List.replicate j 1) 4 0 N) 1)).length ≤ 1000000 := by unfold segsOf; rw [hlen1]; omega
          clear hlen
          have HL1 := Lib.hid hlen1
          clear hlen1
          go_wp2_with fail
          ((with_reducible refine (segs_any g k _ _ HD.out.1.sheet).mono ?_))
          rintro e w9 ⟨v9, rfl, ho, hb⟩
          obtain ⟨A3, cp3, rfl, hc3, hC3⟩ := own_Q ho
          have HE9 := Lib.hid (show Cx w w9 _ _ _ _ _ _ ∧ w9.heap[q]? = _ from ⟨HD.out.1.below hb, blk_below HD.out.2 hb⟩)
          have HV9 := Lib.hid hC3
          clear ho hb HD hC3
          go_wp2_with fail
          ((with_reducible refine (refSegs_anyL q j j _ _ HE9.out.2 (Nat.le_refl _) (by omega) HL1.out).mono ?_))
          rintro e w10 ⟨A4, cp4, rfl, hc4, hC4, hb⟩
          have HE10 := Lib.hid (HE9.out.1.below hb)
          have HV10 := Lib.hid (Kd.C_below HV9.out hb)
          have HU10 := Lib.hid hC4
          clear hb hC4 HE9 HV9
          go_wp2_with fail
          ((with_reducible refine (same_anyL A3 A4 cp3 cp4 _ _ hlen2 HV10.out HU10.out hc3 hc4).mono ?_))
          rintro e w11 ⟨rfl, nq2, rfl⟩
          have HE11 := Lib.hid (HE10.out.drewN nq2)
          clear HV10 HU10 HE10
          have d2 : (w10.drewN nq2).cell? ⟨w.heap.size, 2, none⟩ = some (.int .i64 F) := (HE11.out.cell 2).trans rfl
          go_wp2_with (first | (go_at_call 11; ((with_reducible refine (len_nil _).mono ?_)); rintro e w' ⟨rfl, rfl⟩) | (go_at_call 12; ((with_reducible refine (at_nil F _).mono ?_)); rintro e w' ⟨rfl, rfl⟩) | (go_at_call 10; ((with_reducible refine (segs_nil _).mono ?_)); rintro e w' ⟨rfl, rfl⟩))
          go_ret
          exact ⟨rfl, HE11.out.bel⟩
end Go.Proofs.Ytecpmgbahknneaa.L
namespace Go.Proofs.Ytecpmgbahknneaa.Wk.LabelNil
open Go.RowKit Go.Proofs.YtecpmgbahknneaaW.PrintWords Go.Proofs.Ytecpmgbahknneaa.L
theorem walk (cs0 : List Value) (a0 : Ac) (a1 : Int) (w : World) (hk0 : kAct.K w a0 (Value.agg ⟨cs0⟩).cells.toList) (hg : AcOk a0) (h1 : (Lit.int .u8 a1).wf = true) :
    Calls Try.prog 6 #[.agg ⟨cs0⟩, .int .u8 a1] w fun e w' => e = .returned (.bool true) ∧ Below w.heap.size w w' := by
  have e0 : cs0 = acC a0 := kAct_open hk0
  subst e0
  obtain ⟨K, Lb, F, T, N⟩ := a0
  obtain ⟨N, rfl, hN⟩ := u8_of hg.2.2.2.2
  obtain ⟨n, rfl, hn⟩ := u8_of h1
  exact labelNil_any K Lb F T N n w hn hN
end Go.Proofs.Ytecpmgbahknneaa.Wk.LabelNil
