/- The law LabelNew, walked: it answers true. Conditions: none. -/
import Derived.Test.YtecpmgbahknneaaLAw
namespace Go.Proofs.Ytecpmgbahknneaa.L
open Go.RowKit Go.Proofs.YtecpmgbahknneaaW.PrintWords Go.Proofs.YtecpmgbahknneaaW.PrintMore
attribute [local go_sem high] eqSpan eqSeg

theorem segsTo_one (n i : Nat) (l : Int) (h : i ≤ n) : segsTo (List.replicate n l) i = if i = 0 then [] else [(l, 0, (i : Int))] := by
  induction i with
  | zero => rfl
  | succ i ih =>
    rw [segsTo, ih (by omega)]
    have hx : (List.replicate n l).getD i 0 = l := by
      rw [List.getD_eq_getElem?_getD, List.getElem?_replicate, if_pos (by omega)]
      rfl
    rw [hx]
    by_cases h0 : i = 0
    · subst h0
      rfl
    · rw [if_neg h0, if_neg (by omega)]
      show segsStep ([] ++ [(l, 0, (i : Int))]) i l = _
      rw [segsStep_snoc, if_pos rfl]
      simp
theorem segsOf_one (n : Nat) (l : Int) : segsOf (List.replicate n l) = if n = 0 then [] else [(l, 0, (n : Int))] := by
  unfold segsOf
  rw [List.length_replicate, segsTo_one _ _ _ (Nat.le_refl _)]

set_option maxHeartbeats 1000000 in
theorem labelNew_any (n a : Int) (w : World) :
    Calls Try.prog 3 #[.int .i64 n, .int .i64 a] w fun e w' => e = .returned (.bool true) ∧ Below w.heap.size w w' := by
  have hu33 := Try.underlying33
  have hu35 := Try.underlying35
  by_cases hn : n < 0 ∨ 65536 < n
  · rcases hn with h0 | h0
    · have h1 : decide (n < 0) = true := by simp [h0]
      go_enter Try.func3, Try.ntmps3
      go_wp2_with (first | (go_at_call 8; refine (awake_any _).mono ?_; rintro e w1 ⟨rfl, hb⟩; have HB := Lib.hid hb; clear hb) | (go_at_call 9; refine (new_no n _ (by omega)).mono ?_; rintro e w' ⟨rfl, rfl⟩))
      go_ret
      exact ⟨rfl, HB.out⟩
    · have h1 : decide (n < 0) = false := by simp; omega
      go_enter Try.func3, Try.ntmps3
      go_wp2_with (first | (go_at_call 8; refine (awake_any _).mono ?_; rintro e w1 ⟨rfl, hb⟩; have HB := Lib.hid hb; clear hb) | (go_at_call 9; refine (new_no n _ (by omega)).mono ?_; rintro e w' ⟨rfl, rfl⟩))
      go_ret
      exact ⟨rfl, HB.out⟩
  · obtain ⟨n, rfl⟩ : ∃ m : Nat, n = m := ⟨n.toNat, by omega⟩
    have h1 : decide ((n : Int) < 0) = false := by simp
    have hn2 : n ≤ 65536 := by omega
    have hseg := segsOf_one n 1
    go_enter Try.func3, Try.ntmps3
    go_wp2_with fail
    refine (awake_any _).mono ?_
    rintro e w1 ⟨rfl, hb⟩
    have HB := Lib.hid hb
    clear hb
    go_wp2_with fail
    refine (new_yes n _ hn2).mono ?_
    rintro e w2 ⟨g, k, rfl, hs, hb, hg, hk⟩
    have HS := Lib.hid hs
    have HB2 := Lib.hid (below_step HB.out hb)
    clear hs hb
    rcases Nat.eq_zero_or_pos n with h0 | h0
    · subst h0
      have HE := Lib.hid hseg
      clear hseg
      rcases Int.lt_or_le a 0 with ha | ha
      · have g1 : decide (0 ≤ a) = false := by simp; omega
        go_wp2_with (first | (go_at_call 10; refine (segs_any g k _ _ HS.out).mono ?_; rintro e w3 ⟨v, rfl, ho, hb⟩; rw [HE.out] at ho; obtain ⟨A, c, rfl⟩ := own_form ho; have HS3 := Lib.hid (HS.out.below hb); have HB3 := Lib.hid (below_step HB2.out hb); clear ho hb) | (go_at_call 11; refine (len_any g k _ _ HS3.out).mono ?_; rintro e w' ⟨rfl, rfl⟩) | (go_at_call 12; refine (at_out g k _ a _ HS3.out (by simp; omega)).mono ?_; rintro e w' ⟨rfl, rfl⟩))
        go_ret
        exact ⟨rfl, HB3.out⟩
      · have g1 : decide (0 ≤ a) = true := by simp; omega
        have g2 : decide (a < 0) = false := by simp; omega
        go_wp2_with (first | (go_at_call 10; refine (segs_any g k _ _ HS.out).mono ?_; rintro e w3 ⟨v, rfl, ho, hb⟩; rw [HE.out] at ho; obtain ⟨A, c, rfl⟩ := own_form ho; have HS3 := Lib.hid (HS.out.below hb); have HB3 := Lib.hid (below_step HB2.out hb); clear ho hb) | (go_at_call 11; refine (len_any g k _ _ HS3.out).mono ?_; rintro e w' ⟨rfl, rfl⟩) | (go_at_call 12; refine (at_out g k _ a _ HS3.out (by simp; omega)).mono ?_; rintro e w' ⟨rfl, rfl⟩))
        go_ret
        exact ⟨rfl, HB3.out⟩
    · have z0 : ((n : Int) == 0) = false := by simp; omega
      rw [if_neg (by omega)] at hseg
      have HE := Lib.hid hseg
      clear hseg
      rcases Int.lt_or_le a 0 with ha | ha
      · have g1 : decide (0 ≤ a) = false := by simp; omega
        go_wp2_with (first | (go_at_call 10; refine (segs_any g k _ _ HS.out).mono ?_; rintro e w3 ⟨v, rfl, ho, hb⟩; rw [HE.out] at ho; obtain ⟨gg, cap, rfl, _, _⟩ := ho.form (by simp); obtain ⟨d0, d1, d2⟩ := seg_cells ho 0 (1, 0, (n : Int)) rfl; have HS3 := Lib.hid (HS.out.below hb); have HB3 := Lib.hid (below_step HB2.out hb); clear ho hb) | (go_at_call 11; refine (len_any g k _ _ HS3.out).mono ?_; rintro e w' ⟨rfl, rfl⟩) | (go_at_call 12; refine (at_out g k _ a _ HS3.out (by simp; omega)).mono ?_; rintro e w' ⟨rfl, rfl⟩))
        go_ret
        exact ⟨rfl, HB3.out⟩
      · have g1 : decide (0 ≤ a) = true := by simp; omega
        rcases Int.lt_or_le a n with han | han
        · obtain ⟨a, rfl⟩ : ∃ m : Nat, a = m := ⟨a.toNat, by omega⟩
          have g2 : decide (a < n) = true := by simp; omega
          go_wp2_with (first | (go_at_call 10; refine (segs_any g k _ _ HS.out).mono ?_; rintro e w3 ⟨v, rfl, ho, hb⟩; rw [HE.out] at ho; obtain ⟨gg, cap, rfl, _, _⟩ := ho.form (by simp); obtain ⟨d0, d1, d2⟩ := seg_cells ho 0 (1, 0, (n : Int)) rfl; have HS3 := Lib.hid (HS.out.below hb); have HB3 := Lib.hid (below_step HB2.out hb); clear ho hb) | (go_at_call 11; refine (len_any g k _ _ HS3.out).mono ?_; rintro e w' ⟨rfl, rfl⟩) | (go_at_call 12; refine (at_in g k _ a 1 _ HS3.out (by rw [List.getElem?_replicate, if_pos (by omega)])).mono ?_; rintro e w' ⟨rfl, rfl⟩))
          go_ret
          exact ⟨rfl, HB3.out⟩
        · have g2 : decide (a < n) = false := by simp; omega
          go_wp2_with (first | (go_at_call 10; refine (segs_any g k _ _ HS.out).mono ?_; rintro e w3 ⟨v, rfl, ho, hb⟩; rw [HE.out] at ho; obtain ⟨gg, cap, rfl, _, _⟩ := ho.form (by simp); obtain ⟨d0, d1, d2⟩ := seg_cells ho 0 (1, 0, (n : Int)) rfl; have HS3 := Lib.hid (HS.out.below hb); have HB3 := Lib.hid (below_step HB2.out hb); clear ho hb) | (go_at_call 11; refine (len_any g k _ _ HS3.out).mono ?_; rintro e w' ⟨rfl, rfl⟩) | (go_at_call 12; refine (at_out g k _ a _ HS3.out (by simp; omega)).mono ?_; rintro e w' ⟨rfl, rfl⟩))
          go_ret
          exact ⟨rfl, HB3.out⟩
end Go.Proofs.Ytecpmgbahknneaa.L
namespace Go.Proofs.Ytecpmgbahknneaa.Wk.LabelNew
open Go.RowKit
theorem walk (a0 a1 : Int) (w : World) (_ : (Lit.int .i64 a0).wf = true) (_ : (Lit.int .i64 a1).wf = true) :
    Calls Try.prog 3 #[.int .i64 a0, .int .i64 a1] w fun e w' => e = .returned (.bool true) ∧ Below w.heap.size w w' := L.labelNew_any a0 a1 w
end Go.Proofs.Ytecpmgbahknneaa.Wk.LabelNew
