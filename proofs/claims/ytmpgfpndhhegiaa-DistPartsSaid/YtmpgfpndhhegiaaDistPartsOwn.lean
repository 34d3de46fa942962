/- DistParts: the walk by hand over the closure's contract, and the plain law: two put together are no further apart than both. Conditions: none. -/
import Derived.Test.YtmpgfpndhhegiaaDBOf
import Derived.Test.YtmpgfpndhhegiaaDistOf
import Derived.Test.YtmpgfpndhhegiaaOpn
import Derived.Outline
namespace Go.Proofs.Ytmpgfpndhhegiaa.DB
open Go.RowKit Go.Proofs.YtmpgfpndhhegiaaW.PrintWords Go.Proofs.YtmpgfpndhhegiaaW.PrintLast Go.Proofs.YtmpgfpndhhegiaaW.PrintMore Go.Proofs.Ytmpgfpndhhegiaa.Osa
/-- The greatest one of four. -/
def mx4 (a b c d : Int) : Int := mx (mx (mx a b) c) d
theorem max4_val (ats : Array TypeId) (ty : TypeId) (a b c d : Int) : Builtin.max_ ats ty #[.int .i64 a, .int .i64 b, .int .i64 c, .int .i64 d] = pure (.int .i64 (mx4 a b c d)) := by
  simp only [max_four, max2_int, pure_bind]
  rfl
theorem mx4_le {a b c d : Nat} (ha : a ≤ 30) (hb : b ≤ 30) (hc : c ≤ 30) (hd : d ≤ 30) : decide (30 < mx4 (a : Int) (b : Int) (c : Int) (d : Int)) = false := by
  have : mx4 (a : Int) (b : Int) (c : Int) (d : Int) ≤ 30 := by
    unfold mx4 mx
    repeat' split
    all_goals omega
  simp
  omega
theorem mx4_gt {a b c d : Nat} (h : 30 < a ∨ 30 < b ∨ 30 < c ∨ 30 < d) : decide (30 < mx4 (a : Int) (b : Int) (c : Int) (d : Int)) = true := by
  have : 30 < mx4 (a : Int) (b : Int) (c : Int) (d : Int) := by
    unfold mx4 mx
    repeat' split
    all_goals omega
  simpa using this
attribute [local go_sem] max4_val
set_option linter.unusedVariables false
set_option linter.unusedSimpArgs false

set_option maxHeartbeats 1000000 in
theorem join_calls (A0 : Option Addr) (c0 : Nat) (l0 : List Int) (A1 : Option Addr) (c1 : Nat) (l1 : List Int) (w : World) (hr0 : Kd.C (Kd.int .i32) w A0 l0.length l0) (hc0 : l0.length ≤ c0) (hr1 : Kd.C (Kd.int .i32) w A1 l1.length l1) (hc1 : l1.length ≤ c1) (hl0 : l0.length ≤ 1000) (hl1 : l1.length ≤ 1000) :
    Calls Try.prog 12 #[.slice A0 l0.length c0, .slice A1 l1.length c1] w fun e w' => ∃ v0_ : Value, e = .returned (v0_) ∧ Kd.R (Kd.int .i32) 21 w' w.heap.size (fun _ => True) v0_ (l0 ++ l1) ∧ Below w.heap.size w w' := by
  have HR0 := Aside0.mk hr0
  have HR1 := Aside0.mk hr1
  clear hr0 hr1
  have HB := Aside0.mk (Below.refl w.heap.size w)
  go_enter Try.func12, Try.ntmps12
  go_wp2_with (first | ((with_reducible refine gate_dst (N := 5) rfl ?_); (try (refine gate_guard (by rfl) ?_; dsimp only)); refine Kd.R_lit (Kd.int .i32) _ 21 ?hg (N := 5) ?hd (xs := ([] : List Int)) (inner := []) (ok := fun _ => True) (okp := fun _ => True) ?hr ?hp (fun _ hk => hk) trivial (Below.refl _ _) (Nat.le_refl _) (by simp) ?_; (case hd => rfl); (case hg => rfl); (case hr => first | (go_simp; done) | (go_simp; rfl)); (case hp => exact (Reps.none _ _)); intro v1 w1 ho29 hb hg_ hnew_; clear hg_ hnew_; have n0_ := Aside0.mk (Kd.R_lower ho29 (below_size (by repeat (first | (with_reducible first | exact HB.out | apply below_alloc | apply pw_below_drewN | apply below_drew1) | exact HB.out)))); have n1_ := Aside0.mk (below_step (by repeat (first | (with_reducible first | exact HB.out | apply below_alloc | apply pw_below_drewN | apply below_drew1) | exact HB.out)) hb); clear HB; have HO1 := n0_; have HB := n1_; clear n0_ n1_; clear hb ho29) | ((with_reducible refine gate_builtin (b := .append) (xs := #[.tmp 5, .tmp 6]) rfl ?_); (try (refine gate_guard (by rfl) ?_; dsimp only)); at_builtin; refine Kd.R_append_rows (Kd.int .i32) (w0 := w) w.heap.size rfl (.tmp 5) (.tmp 6) 22 21 (.int .i32 0) 4 rfl Try.underlying22 info21 rfl (by decide) (by omega) v1 ([] : List Int) l0 _ _ _ (fun _ => True) (fun _ => False) rfl rfl ?aO ?aR (fun _ _ h => h) (fun _ h => h.elim) ?aF ?aB ?aS ?aL ?_; (case aR => repeat (first | exact (Kd.C_below HR0.out HB.out) | (with_reducible refine Kd.C_alloc ?_ _) | (with_reducible refine Kd.C_drewN ?_ _) | (with_reducible refine Kd.C_drew ?_))); (case aB => exact (by repeat (first | (with_reducible first | exact HB.out | apply below_alloc | apply pw_below_drewN | apply below_drew1) | exact HB.out))); (case aF => exact (fun _ _ => trivial)); (case aO => exact (by (with_reducible repeat (first | apply Kd.R_alloc | apply Kd.R_drewN | apply Kd.R_drew)); exact HO1.out)); (case aS => exact (below_size (by repeat (first | (with_reducible first | exact HB.out | apply below_alloc | apply pw_below_drewN | apply below_drew1) | exact HB.out)))); (case aL => (simp only [List.length_nil, List.nil_append]; omega)); intro v2 w2 ho hb hg hat; have n0_ := Aside0.mk (hb); have n1_ := Aside0.mk (ho); clear HB; clear HO1; have HB := n0_; have HO2 := n1_; clear n0_ n1_; clear ho hb hg hat) | ((with_reducible refine gate_builtin (b := .append) (xs := #[.tmp 7, .tmp 8]) rfl ?_); (try (refine gate_guard (by rfl) ?_; dsimp only)); at_builtin; refine Kd.R_append_rows (Kd.int .i32) (w0 := w) w.heap.size rfl (.tmp 7) (.tmp 8) 22 21 (.int .i32 0) 4 rfl Try.underlying22 info21 rfl (by decide) (by omega) v2 ([] ++ l0) l1 _ _ _ (fun _ => True) (fun _ => False) rfl rfl ?aO ?aR (fun _ _ h => h) (fun _ h => h.elim) ?aF ?aB ?aS ?aL ?_; (case aR => repeat (first | exact (Kd.C_below HR1.out HB.out) | (with_reducible refine Kd.C_alloc ?_ _) | (with_reducible refine Kd.C_drewN ?_ _) | (with_reducible refine Kd.C_drew ?_))); (case aB => exact (by repeat (first | (with_reducible first | exact HB.out | apply below_alloc | apply pw_below_drewN | apply below_drew1) | exact HB.out))); (case aF => exact (fun _ _ => trivial)); (case aO => exact (by (with_reducible repeat (first | apply Kd.R_alloc | apply Kd.R_drewN | apply Kd.R_drew)); exact HO2.out)); (case aS => exact (below_size (by repeat (first | (with_reducible first | exact HB.out | apply below_alloc | apply pw_below_drewN | apply below_drew1) | exact HB.out)))); (case aL => (simp only [List.length_nil, List.nil_append]; omega)); intro v3 w3 ho hb hg hat; have n0_ := Aside0.mk (hb); have n1_ := Aside0.mk (ho); clear HB; clear HO2; have HB := n0_; have HO3 := n1_; clear n0_ n1_; clear ho hb hg hat))
  go_ret
  exact ⟨_, rfl, (by (with_reducible repeat (first | apply Kd.R_alloc | apply Kd.R_drewN | apply Kd.R_drew)); exact HO3.out), (by repeat (first | (with_reducible first | exact HB.out | apply below_alloc | apply pw_below_drewN | apply below_drew1) | exact HB.out))⟩

/-- Of, by what it comes to. -/
theorem of_calls (A0 : Option Addr) (c0 : Nat) (a : List Int) (A1 : Option Addr) (c1 : Nat) (b : List Int) (w : World) (hr0 : Kd.C (Kd.int .i32) w A0 a.length a) (hc0 : a.length ≤ c0) (hr1 : Kd.C (Kd.int .i32) w A1 b.length b) (hc1 : b.length ≤ c1) (ha : a.length ≤ 64) (hb : b.length ≤ 64) :
    Calls Try.prog 10 #[.slice A0 a.length c0, .slice A1 b.length c1] w fun e w' => e = .returned (.int .i64 (dist a b : Int)) ∧ Below w.heap.size w w' :=
  dist_Of.calls 200 A0 c0 a A1 c1 b (dist a b : Int) w hr0 hc0 hr1 hc1 (of_eq a b 200 ha hb (by omega))
theorem of_callsN (A0 : Option Addr) (c0 : Nat) (a : List Int) (A1 : Option Addr) (c1 : Nat) (b : List Int) (n m : Nat) (w : World) (hr0 : Kd.C (Kd.int .i32) w A0 a.length a) (hc0 : a.length ≤ c0) (hr1 : Kd.C (Kd.int .i32) w A1 b.length b) (hc1 : b.length ≤ c1) (hn : a.length = n) (hm : b.length = m) (ha : a.length ≤ 64) (hb : b.length ≤ 64) :
    Calls Try.prog 10 #[.slice A0 n c0, .slice A1 m c1] w fun e w' => e = .returned (.int .i64 (dist a b : Int)) ∧ Below w.heap.size w w' := by
  subst hn
  subst hm
  exact of_calls A0 c0 a A1 c1 b w hr0 hc0 hr1 hc1 ha hb

set_option maxHeartbeats 2000000 in
theorem parts_short (A0 : Option Addr) (c0 : Nat) (a : List Int) (A1 : Option Addr) (c1 : Nat) (b : List Int) (A2 : Option Addr) (c2 : Nat) (c : List Int) (A3 : Option Addr) (c3 : Nat) (d : List Int) (w : World)
    (ha : Kd.C (Kd.int .i32) w A0 a.length a) (ca : a.length ≤ c0) (hb : Kd.C (Kd.int .i32) w A1 b.length b) (cb : b.length ≤ c1) (hc : Kd.C (Kd.int .i32) w A2 c.length c) (cc : c.length ≤ c2) (hd : Kd.C (Kd.int .i32) w A3 d.length d) (cd : d.length ≤ c3)
    (la : a.length ≤ 30) (lb : b.length ≤ 30) (lc : c.length ≤ 30) (ld : d.length ≤ 30) :
    Calls Try.prog 6 #[.slice A0 a.length c0, .slice A1 b.length c1, .slice A2 c.length c2, .slice A3 d.length c3] w fun e w' => e = .returned (.bool true) ∧ Below w.heap.size w w' := by
  have p1 := dist_parts a b c d
  have p2 := dist_ends a c d
  have p3 := dist_begins a b c
  have q1 := (dist_bounds (a ++ c) (b ++ d)).1
  have q2 := (dist_bounds a b).1
  have q3 := (dist_bounds c d).1
  have q4 := (dist_bounds (a ++ c) (a ++ d)).1
  have q5 := (dist_bounds (a ++ c) (b ++ c)).1
  simp only [List.length_append] at q1 q4 q5
  have g0 : decide (30 < mx4 (a.length : Int) (b.length : Int) (c.length : Int) (d.length : Int)) = false := mx4_le la lb lc ld
  have HA := Aside0.mk ha
  have HBb := Aside0.mk hb
  have HCc := Aside0.mk hc
  have HD := Aside0.mk hd
  clear ha hb hc hd
  have HB := Aside0.mk (Below.refl w.heap.size w)
  have e1 : decide ((dist (a ++ c) (b ++ d) : Int) ≤ (dist a b : Int) + (dist c d : Int)) = true := by simp; omega
  have e2 : decide (dist (a ++ c) (a ++ d) ≤ dist c d) = true := by simpa using p2
  have e3 : decide (dist (a ++ c) (b ++ c) ≤ dist a b) = true := by simpa using p3
  go_enter Try.func6, Try.ntmps6
  go_wp2_with fail
  refine (redpenlaw08_Awake.calls 200 true _ (awake_eq 200 (by omega))).mono ?_
  rintro e w0 ⟨rfl, hb⟩
  have n1_ := Aside0.mk (below_step HB.out hb)
  clear HB hb
  have HB := n1_
  clear n1_
  go_wp2_with fail
  ((with_reducible refine (join_calls _ _ _ _ _ _ _ ?side1 ca ?side2 cc ?side3 ?side4).mono ?_))
  case side1 => repeat (first | exact (Kd.C_below HA.out HB.out) | (with_reducible refine Kd.C_alloc ?_ _) | (with_reducible refine Kd.C_drewN ?_ _) | (with_reducible refine Kd.C_drew ?_))
  case side2 => repeat (first | exact (Kd.C_below HCc.out HB.out) | (with_reducible refine Kd.C_alloc ?_ _) | (with_reducible refine Kd.C_drewN ?_ _) | (with_reducible refine Kd.C_drew ?_))
  case side3 => omega
  case side4 => omega
  rintro e w1 ⟨v1, rfl, ho, hb⟩
  have HBo := Aside0.mk HB.out
  have n1_ := Aside0.mk (below_step HB.out hb)
  clear HB hb
  have HB := n1_
  clear n1_
  have JA0 := Aside0.mk (Kd.R_lower ho (below_size HBo.out))
  clear ho
  obtain ⟨AJA, cJA, rfl, hcJA, hCJA⟩ := Kd.R_reads JA0.out
  have JAC := Aside0.mk hCJA
  have JAc := Aside0.mk hcJA
  clear hCJA hcJA JA0
  clear HBo
  go_wp2_with fail
  ((with_reducible refine (join_calls _ _ _ _ _ _ _ ?side1 cb ?side2 cd ?side3 ?side4).mono ?_))
  case side1 => repeat (first | exact (Kd.C_below HBb.out HB.out) | (with_reducible refine Kd.C_alloc ?_ _) | (with_reducible refine Kd.C_drewN ?_ _) | (with_reducible refine Kd.C_drew ?_))
  case side2 => repeat (first | exact (Kd.C_below HD.out HB.out) | (with_reducible refine Kd.C_alloc ?_ _) | (with_reducible refine Kd.C_drewN ?_ _) | (with_reducible refine Kd.C_drew ?_))
  case side3 => omega
  case side4 => omega
  rintro e w2 ⟨v2, rfl, ho, hb⟩
  have n_ := Aside0.mk (Kd.C_below JAC.out hb)
  clear JAC
  have JAC := n_
  clear n_
  have HBo := Aside0.mk HB.out
  have n1_ := Aside0.mk (below_step HB.out hb)
  clear HB hb
  have HB := n1_
  clear n1_
  have JB0 := Aside0.mk (Kd.R_lower ho (below_size HBo.out))
  clear ho
  obtain ⟨AJB, cJB, rfl, hcJB, hCJB⟩ := Kd.R_reads JB0.out
  have JBC := Aside0.mk hCJB
  have JBc := Aside0.mk hcJB
  clear hCJB hcJB JB0
  clear HBo
  go_wp2_with fail
  ((with_reducible refine (of_callsN _ _ (a ++ c) _ _ (b ++ d) _ _ _ ?side1 JAc.out ?side2 JBc.out ?sideN ?sideM ?side3 ?side4).mono ?_))
  case side1 => exact JAC.out
  case side2 => exact JBC.out
  case sideN => (try simp only [List.length_append])
  case sideM => (try simp only [List.length_append])
  case side3 => (try simp only [List.length_append]); omega
  case side4 => (try simp only [List.length_append]); omega
  rintro e w3 ⟨rfl, hb⟩
  have n_ := Aside0.mk (Kd.C_below JAC.out hb)
  clear JAC
  have JAC := n_
  clear n_
  have n_ := Aside0.mk (Kd.C_below JBC.out hb)
  clear JBC
  have JBC := n_
  clear n_
  have HBo := Aside0.mk HB.out
  have n1_ := Aside0.mk (below_step HB.out hb)
  clear HB hb
  have HB := n1_
  clear n1_
  clear HBo
  clear JAC JAc
  clear JBC JBc
  go_wp2_with fail
  ((with_reducible refine (of_callsN _ _ a _ _ b _ _ _ ?side1 ca ?side2 cb ?sideN ?sideM ?side3 ?side4).mono ?_))
  case side1 => repeat (first | exact (Kd.C_below HA.out HB.out) | (with_reducible refine Kd.C_alloc ?_ _) | (with_reducible refine Kd.C_drewN ?_ _) | (with_reducible refine Kd.C_drew ?_))
  case side2 => repeat (first | exact (Kd.C_below HBb.out HB.out) | (with_reducible refine Kd.C_alloc ?_ _) | (with_reducible refine Kd.C_drewN ?_ _) | (with_reducible refine Kd.C_drew ?_))
  case sideN => (try simp only [List.length_append])
  case sideM => (try simp only [List.length_append])
  case side3 => (try simp only [List.length_append]); omega
  case side4 => (try simp only [List.length_append]); omega
  rintro e w4 ⟨rfl, hb⟩
  have HBo := Aside0.mk HB.out
  have n1_ := Aside0.mk (below_step HB.out hb)
  clear HB hb
  have HB := n1_
  clear n1_
  clear HBo
  go_wp2_with fail
  ((with_reducible refine (of_callsN _ _ c _ _ d _ _ _ ?side1 cc ?side2 cd ?sideN ?sideM ?side3 ?side4).mono ?_))
  case side1 => repeat (first | exact (Kd.C_below HCc.out HB.out) | (with_reducible refine Kd.C_alloc ?_ _) | (with_reducible refine Kd.C_drewN ?_ _) | (with_reducible refine Kd.C_drew ?_))
  case side2 => repeat (first | exact (Kd.C_below HD.out HB.out) | (with_reducible refine Kd.C_alloc ?_ _) | (with_reducible refine Kd.C_drewN ?_ _) | (with_reducible refine Kd.C_drew ?_))
  case sideN => (try simp only [List.length_append])
  case sideM => (try simp only [List.length_append])
  case side3 => (try simp only [List.length_append]); omega
  case side4 => (try simp only [List.length_append]); omega
  rintro e w5 ⟨rfl, hb⟩
  have HBo := Aside0.mk HB.out
  have n1_ := Aside0.mk (below_step HB.out hb)
  clear HB hb
  have HB := n1_
  clear n1_
  clear HBo
  go_wp2_with fail
  ((with_reducible refine (join_calls _ _ _ _ _ _ _ ?side1 ca ?side2 cc ?side3 ?side4).mono ?_))
  case side1 => repeat (first | exact (Kd.C_below HA.out HB.out) | (with_reducible refine Kd.C_alloc ?_ _) | (with_reducible refine Kd.C_drewN ?_ _) | (with_reducible refine Kd.C_drew ?_))
  case side2 => repeat (first | exact (Kd.C_below HCc.out HB.out) | (with_reducible refine Kd.C_alloc ?_ _) | (with_reducible refine Kd.C_drewN ?_ _) | (with_reducible refine Kd.C_drew ?_))
  case side3 => omega
  case side4 => omega
  rintro e w6 ⟨v6, rfl, ho, hb⟩
  have HBo := Aside0.mk HB.out
  have n1_ := Aside0.mk (below_step HB.out hb)
  clear HB hb
  have HB := n1_
  clear n1_
  have JC0 := Aside0.mk (Kd.R_lower ho (below_size HBo.out))
  clear ho
  obtain ⟨AJC, cJC, rfl, hcJC, hCJC⟩ := Kd.R_reads JC0.out
  have JCC := Aside0.mk hCJC
  have JCc := Aside0.mk hcJC
  clear hCJC hcJC JC0
  clear HBo
  go_wp2_with fail
  ((with_reducible refine (join_calls _ _ _ _ _ _ _ ?side1 ca ?side2 cd ?side3 ?side4).mono ?_))
  case side1 => repeat (first | exact (Kd.C_below HA.out HB.out) | (with_reducible refine Kd.C_alloc ?_ _) | (with_reducible refine Kd.C_drewN ?_ _) | (with_reducible refine Kd.C_drew ?_))
  case side2 => repeat (first | exact (Kd.C_below HD.out HB.out) | (with_reducible refine Kd.C_alloc ?_ _) | (with_reducible refine Kd.C_drewN ?_ _) | (with_reducible refine Kd.C_drew ?_))
  case side3 => omega
  case side4 => omega
  rintro e w7 ⟨v7, rfl, ho, hb⟩
  have n_ := Aside0.mk (Kd.C_below JCC.out hb)
  clear JCC
  have JCC := n_
  clear n_
  have HBo := Aside0.mk HB.out
  have n1_ := Aside0.mk (below_step HB.out hb)
  clear HB hb
  have HB := n1_
  clear n1_
  have JD0 := Aside0.mk (Kd.R_lower ho (below_size HBo.out))
  clear ho
  obtain ⟨AJD, cJD, rfl, hcJD, hCJD⟩ := Kd.R_reads JD0.out
  have JDC := Aside0.mk hCJD
  have JDc := Aside0.mk hcJD
  clear hCJD hcJD JD0
  clear HBo
  go_wp2_with fail
  ((with_reducible refine (of_callsN _ _ (a ++ c) _ _ (a ++ d) _ _ _ ?side1 JCc.out ?side2 JDc.out ?sideN ?sideM ?side3 ?side4).mono ?_))
  case side1 => exact JCC.out
  case side2 => exact JDC.out
  case sideN => (try simp only [List.length_append])
  case sideM => (try simp only [List.length_append])
  case side3 => (try simp only [List.length_append]); omega
  case side4 => (try simp only [List.length_append]); omega
  rintro e w8 ⟨rfl, hb⟩
  have n_ := Aside0.mk (Kd.C_below JCC.out hb)
  clear JCC
  have JCC := n_
  clear n_
  have n_ := Aside0.mk (Kd.C_below JDC.out hb)
  clear JDC
  have JDC := n_
  clear n_
  have HBo := Aside0.mk HB.out
  have n1_ := Aside0.mk (below_step HB.out hb)
  clear HB hb
  have HB := n1_
  clear n1_
  clear HBo
  clear JCC JCc
  clear JDC JDc
  go_wp2_with fail
  ((with_reducible refine (of_callsN _ _ c _ _ d _ _ _ ?side1 cc ?side2 cd ?sideN ?sideM ?side3 ?side4).mono ?_))
  case side1 => repeat (first | exact (Kd.C_below HCc.out HB.out) | (with_reducible refine Kd.C_alloc ?_ _) | (with_reducible refine Kd.C_drewN ?_ _) | (with_reducible refine Kd.C_drew ?_))
  case side2 => repeat (first | exact (Kd.C_below HD.out HB.out) | (with_reducible refine Kd.C_alloc ?_ _) | (with_reducible refine Kd.C_drewN ?_ _) | (with_reducible refine Kd.C_drew ?_))
  case sideN => (try simp only [List.length_append])
  case sideM => (try simp only [List.length_append])
  case side3 => (try simp only [List.length_append]); omega
  case side4 => (try simp only [List.length_append]); omega
  rintro e w9 ⟨rfl, hb⟩
  have HBo := Aside0.mk HB.out
  have n1_ := Aside0.mk (below_step HB.out hb)
  clear HB hb
  have HB := n1_
  clear n1_
  clear HBo
  go_wp2_with fail
  ((with_reducible refine (join_calls _ _ _ _ _ _ _ ?side1 ca ?side2 cc ?side3 ?side4).mono ?_))
  case side1 => repeat (first | exact (Kd.C_below HA.out HB.out) | (with_reducible refine Kd.C_alloc ?_ _) | (with_reducible refine Kd.C_drewN ?_ _) | (with_reducible refine Kd.C_drew ?_))
  case side2 => repeat (first | exact (Kd.C_below HCc.out HB.out) | (with_reducible refine Kd.C_alloc ?_ _) | (with_reducible refine Kd.C_drewN ?_ _) | (with_reducible refine Kd.C_drew ?_))
  case side3 => omega
  case side4 => omega
  rintro e w10 ⟨v10, rfl, ho, hb⟩
  have HBo := Aside0.mk HB.out
  have n1_ := Aside0.mk (below_step HB.out hb)
  clear HB hb
  have HB := n1_
  clear n1_
  have JE0 := Aside0.mk (Kd.R_lower ho (below_size HBo.out))
  clear ho
  obtain ⟨AJE, cJE, rfl, hcJE, hCJE⟩ := Kd.R_reads JE0.out
  have JEC := Aside0.mk hCJE
  have JEc := Aside0.mk hcJE
  clear hCJE hcJE JE0
  clear HBo
  go_wp2_with fail
  ((with_reducible refine (join_calls _ _ _ _ _ _ _ ?side1 cb ?side2 cc ?side3 ?side4).mono ?_))
  case side1 => repeat (first | exact (Kd.C_below HBb.out HB.out) | (with_reducible refine Kd.C_alloc ?_ _) | (with_reducible refine Kd.C_drewN ?_ _) | (with_reducible refine Kd.C_drew ?_))
  case side2 => repeat (first | exact (Kd.C_below HCc.out HB.out) | (with_reducible refine Kd.C_alloc ?_ _) | (with_reducible refine Kd.C_drewN ?_ _) | (with_reducible refine Kd.C_drew ?_))
  case side3 => omega
  case side4 => omega
  rintro e w11 ⟨v11, rfl, ho, hb⟩
  have n_ := Aside0.mk (Kd.C_below JEC.out hb)
  clear JEC
  have JEC := n_
  clear n_
  have HBo := Aside0.mk HB.out
  have n1_ := Aside0.mk (below_step HB.out hb)
  clear HB hb
  have HB := n1_
  clear n1_
  have JF0 := Aside0.mk (Kd.R_lower ho (below_size HBo.out))
  clear ho
  obtain ⟨AJF, cJF, rfl, hcJF, hCJF⟩ := Kd.R_reads JF0.out
  have JFC := Aside0.mk hCJF
  have JFc := Aside0.mk hcJF
  clear hCJF hcJF JF0
  clear HBo
  go_wp2_with fail
  ((with_reducible refine (of_callsN _ _ (a ++ c) _ _ (b ++ c) _ _ _ ?side1 JEc.out ?side2 JFc.out ?sideN ?sideM ?side3 ?side4).mono ?_))
  case side1 => exact JEC.out
  case side2 => exact JFC.out
  case sideN => (try simp only [List.length_append])
  case sideM => (try simp only [List.length_append])
  case side3 => (try simp only [List.length_append]); omega
  case side4 => (try simp only [List.length_append]); omega
  rintro e w12 ⟨rfl, hb⟩
  have n_ := Aside0.mk (Kd.C_below JEC.out hb)
  clear JEC
  have JEC := n_
  clear n_
  have n_ := Aside0.mk (Kd.C_below JFC.out hb)
  clear JFC
  have JFC := n_
  clear n_
  have HBo := Aside0.mk HB.out
  have n1_ := Aside0.mk (below_step HB.out hb)
  clear HB hb
  have HB := n1_
  clear n1_
  clear HBo
  clear JEC JEc
  clear JFC JFc
  go_wp2_with fail
  ((with_reducible refine (of_callsN _ _ a _ _ b _ _ _ ?side1 ca ?side2 cb ?sideN ?sideM ?side3 ?side4).mono ?_))
  case side1 => repeat (first | exact (Kd.C_below HA.out HB.out) | (with_reducible refine Kd.C_alloc ?_ _) | (with_reducible refine Kd.C_drewN ?_ _) | (with_reducible refine Kd.C_drew ?_))
  case side2 => repeat (first | exact (Kd.C_below HBb.out HB.out) | (with_reducible refine Kd.C_alloc ?_ _) | (with_reducible refine Kd.C_drewN ?_ _) | (with_reducible refine Kd.C_drew ?_))
  case sideN => (try simp only [List.length_append])
  case sideM => (try simp only [List.length_append])
  case side3 => (try simp only [List.length_append]); omega
  case side4 => (try simp only [List.length_append]); omega
  rintro e w13 ⟨rfl, hb⟩
  have HBo := Aside0.mk HB.out
  have n1_ := Aside0.mk (below_step HB.out hb)
  clear HB hb
  have HB := n1_
  clear n1_
  clear HBo
  go_wp2_with fail
  go_ret
  exact ⟨rfl, HB.out⟩
set_option maxHeartbeats 1000000 in
theorem parts_long (A0 : Option Addr) (c0 : Nat) (a : Nat) (A1 : Option Addr) (c1 : Nat) (b : Nat) (A2 : Option Addr) (c2 : Nat) (c : Nat) (A3 : Option Addr) (c3 : Nat) (d : Nat) (w : World) (h : 30 < a ∨ 30 < b ∨ 30 < c ∨ 30 < d) :
    Calls Try.prog 6 #[.slice A0 a c0, .slice A1 b c1, .slice A2 c c2, .slice A3 d c3] w fun e w' => e = .returned (.bool true) ∧ Below w.heap.size w w' := by
  have g0 := mx4_gt h
  clear h
  go_enter Try.func6, Try.ntmps6
  go_wp2_with fail
  refine (redpenlaw08_Awake.calls 200 true _ (awake_eq 200 (by omega))).mono ?_
  rintro e w0 ⟨rfl, hb⟩
  have HB := Aside0.mk hb
  clear hb
  go_wp2_with fail
  go_ret
  exact ⟨rfl, HB.out⟩
end Go.Proofs.Ytmpgfpndhhegiaa.DB
namespace Go.Proofs.Ytmpgfpndhhegiaa.Wk.DistParts
open Go.RowKit Go.Proofs.YtmpgfpndhhegiaaW.PrintWords Go.Proofs.YtmpgfpndhhegiaaW.Opn Go.Proofs.Ytmpgfpndhhegiaa.DB
/-- A list of runes. -/
theorem op22 : Opens Try.prog 22 (Kd.slice 21 (Kd.int .i32)) (fun _ => True) :=
  Opens.imp (Opens.slice (B := 4) (Opens.int Try.underlying21) Try.underlying22 (by kernel_rfl) (by kernel_rfl)) (fun _ _ => trivial)
theorem walk (A0 : Option Addr) (c0 : Nat) (a : List Int) (A1 : Option Addr) (c1 : Nat) (b : List Int) (A2 : Option Addr) (c2 : Nat) (c : List Int) (A3 : Option Addr) (c3 : Nat) (d : List Int) (w : World)
    (ha : Kd.C (Kd.int .i32) w A0 a.length a) (ca : a.length ≤ c0) (_ : True) (hb : Kd.C (Kd.int .i32) w A1 b.length b) (cb : b.length ≤ c1) (_ : True) (hc : Kd.C (Kd.int .i32) w A2 c.length c) (cc : c.length ≤ c2) (_ : True) (hd : Kd.C (Kd.int .i32) w A3 d.length d) (cd : d.length ≤ c3) (_ : True) :
    Calls Try.prog 6 #[.slice A0 a.length c0, .slice A1 b.length c1, .slice A2 c.length c2, .slice A3 d.length c3] w fun e w' => e = .returned (.bool true) ∧ Below w.heap.size w w' := by
  by_cases h : 30 < a.length ∨ 30 < b.length ∨ 30 < c.length ∨ 30 < d.length
  · exact parts_long A0 c0 _ A1 c1 _ A2 c2 _ A3 c3 _ w h
  · exact parts_short A0 c0 a A1 c1 b A2 c2 c A3 c3 d w ha ca hb cb hc cc hd cd (by omega) (by omega) (by omega) (by omega)
end Go.Proofs.Ytmpgfpndhhegiaa.Wk.DistParts
