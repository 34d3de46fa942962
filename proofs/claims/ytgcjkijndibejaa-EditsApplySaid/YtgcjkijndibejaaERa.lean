/- The reference's Apply, walked: it answers what the program's Apply makes. Conditions: as each lemma says. -/
import Derived.Test.YtgcjkijndibejaaECv
set_option linter.unusedVariables false
set_option linter.unusedSimpArgs false
namespace Go.Proofs.Ytgcjkijndibejaa.Srt
open Go.Lib hiding bytesOf bytesOf_length
open Go.Shelf Go.RowKit Go.Proofs.YtgcjkijndibejaaW.PrintWords Go.Proofs.YtgcjkijndibejaaW.PrintLast

theorem ObLit (w0 W : World) (xs : List Int) (h : Below w0.heap.size w0 W) (hm : xs.length ≤ 9) : Ob w0 (W.alloc (.cells (nums .u8 xs).toArray 5)) (.slice (some ⟨W.heap.size, 0, none⟩) xs.length xs.length) xs :=
  ⟨own_lit W _ _ _ xs h.size (by omega), below_alloc h _⟩
theorem apl_shift (b : List Int) (R : List Ed) (a e : Nat) (h : Ap b.length 0 e R) (hae : a ≤ e) (he : e ≤ b.length) : apl b a R = (b.drop a).take (e - a) ++ apl b e R := by
  cases R with
  | nil =>
    show b.drop a = (b.drop a).take (e - a) ++ b.drop e
    have : b.drop e = (b.drop a).drop (e - a) := by rw [List.drop_drop]; congr 1; omega
    rw [this, List.take_append_drop]
  | cons y r =>
    have hy := h.head
    show (b.drop a).take (y.1.toNat - a) ++ bytesOf y.2.2 ++ apl b (y.1.toNat + y.2.1.toNat) r = (b.drop a).take (e - a) ++ ((b.drop e).take (y.1.toNat - e) ++ bytesOf y.2.2 ++ apl b (y.1.toNat + y.2.1.toNat) r)
    have h1 : y.1.toNat - a = (e - a) + (y.1.toNat - e) := by omega
    have h2 : b.drop e = (b.drop a).drop (e - a) := by rw [List.drop_drop]; congr 1; omega
    rw [h1, List.take_add, h2]
    simp only [List.append_assoc]
theorem Ap.tailN {n : Nat} {x : Ed} {r : List Ed} (h : Ap n 0 0 (x :: r)) : Ap n 0 ((x.1.toNat + x.2.1.toNat : Nat) : Int) r := by
  have hx := h.head
  have e1 : ((x.1.toNat + x.2.1.toNat : Nat) : Int) = x.1 + x.2.1 := by omega
  rw [e1]
  exact h.tail (by omega)
theorem apl_step (b : List Int) (x : Ed) (R : List Ed) (h : Ap b.length 0 0 (x :: R)) : x.1.toNat + x.2.1.toNat ≤ (apl b 0 R).length ∧ (apl b 0 R).take x.1.toNat ++ bytesOf x.2.2 ++ (apl b 0 R).drop (x.1.toNat + x.2.1.toNat) = apl b 0 (x :: R) := by
  have hx := h.head
  have hs := apl_shift b R 0 (x.1.toNat + x.2.1.toNat) h.tailN (by omega) (by omega)
  have hl : ((b.drop 0).take (x.1.toNat + x.2.1.toNat - 0)).length = x.1.toNat + x.2.1.toNat := by rw [List.length_take, List.length_drop]; omega
  constructor
  · rw [hs, List.length_append, hl]
    omega
  · rw [hs]
    show _ = (b.drop 0).take (x.1.toNat - 0) ++ bytesOf x.2.2 ++ apl b (x.1.toNat + x.2.1.toNat) R
    have h1 : ((b.drop 0).take (x.1.toNat + x.2.1.toNat - 0) ++ apl b (x.1.toNat + x.2.1.toNat) R).drop (x.1.toNat + x.2.1.toNat) = apl b (x.1.toNat + x.2.1.toNat) R := by
      conv => lhs; arg 1; rw [← hl]
      rw [List.drop_left]
    rw [h1, List.take_append_of_le_length (by rw [hl]; omega), List.take_take]
    congr 3
    omega
theorem Ap.drop {n : Nat} {S : List Ed} (h : Ap n 0 0 S) (k : Nat) : Ap n 0 0 (S.drop k) := ⟨fun e he => h.rng e (List.mem_of_mem_drop he), h.seq.sublist (List.drop_sublist _ _)⟩
set_option maxRecDepth 100000 in
set_option maxHeartbeats 8000000 in
theorem refApply_any (A : Option Addr) (c : Nat) (b : List Int) (v : Value) (S : List Ed) (W : World) (hC : Kd.C (Kd.int .u8) W A b.length b) (hc : b.length ≤ c) (hE : EdR W v S) (hb : b.length ≤ 100000) (hn : S.length ≤ 500) (ht : ∀ e ∈ S, e.2.2.size ≤ 1000) (hA : Ap b.length 0 0 S) :
    Calls Try.prog 17 #[.slice A b.length c, v] W fun e w' => ∃ v', e = .returned v' ∧ Ob W w' v' (apl b 0 S) := by
  have HC := Lib.hid (And.intro hC hc)
  obtain ⟨A1, c1, rfl, hc1, hR⟩ := hE.form
  have HR := Lib.hid hR
  have HA := Lib.hid hA
  have HT := Lib.hid ht
  have hl0 := ObLit W W [] (Below.refl _ _) (by simp)
  obtain ⟨v2, w2, hr2, ho2, _⟩ := hl0.append A b.length c b (Kd.C_below hC (below_alloc (Below.refl _ _) _)) (by simp; omega) 22
  rw [List.nil_append] at ho2
  obtain ⟨A2', c2', rfl, hc2', _⟩ := ho2.form
  have HO2 := Lib.hid ho2
  clear hC hc hE hR hA ht hl0 ho2
  go_enter Try.func17, Try.ntmps17
  go_upto_region 2 with (at_builtin; refine Lib.wpList_append_run_sl _ rfl _ _ 22 rfl (.slice (some ⟨W.heap.size, 0, none⟩) 0 0) (.slice A b.length c) rfl rfl hr2 ?_)
  clear hr2
  go_upto_block 0 with fail
  go_wp2_with fail
  go_loopg [5, 6] S.length (fun gn ov iv wr => ∃ (j : Nat) (z : Int), iv = .int .i64 z ∧ j ≤ S.length ∧ z = (j : Int) - 1 ∧ Hid (Ob W wr ov (apl b 0 (S.drop j)) ∧ gn = j))
  case atStart => exact ⟨S.length, _, rfl, Nat.le_refl _, rfl, by rw [List.drop_length]; exact HO2.out, rfl⟩
  case round =>
  obtain ⟨j, z, rfl, hj, hz, HQ⟩ := hrel
  have hlen := apl_len b 1000 (S.drop j) 0 (HA.out.drop j) (by omega) (fun e he => HT.out e (List.mem_of_mem_drop he))
  rw [List.length_drop] at hlen
  have hlen : (apl b 0 (S.drop j)).length ≤ 600000 := by
    have : (S.length - j) * 1000 ≤ 500 * 1000 := Nat.mul_le_mul_right _ (by omega)
    omega
  obtain ⟨A7, c7, rfl, hc7, hC7⟩ := HQ.out.1.form
  by_cases hj0 : 0 < j
  · obtain ⟨h, hh⟩ : ∃ h : Nat, z = (h : Int) := ⟨j - 1, by omega⟩
    have hhl : h < S.length := by omega
    have hst := apl_step b (S.getD h dE) (S.drop (h + 1)) (by rw [← drop_getD S h hhl]; exact HA.out.drop h)
    rw [← drop_getD S h hhl, show h + 1 = j by omega] at hst
    have hrg := HA.out.rng _ (getD_memE S h hhl)
    have hts := HT.out _ (getD_memE S h hhl)
    obtain ⟨gs, os, rfl, hgs, hcell⟩ := HR.out (by omega)
    have kp : ∀ t, t < 3 → W.cell? ⟨gs, os + (h * 3 + t), none⟩ = (encE (S.getD h dE))[t]? := fun t ht => hcell h t hhl ht
    obtain ⟨x, hx⟩ : ∃ x, S.getD h dE = x := ⟨_, rfl⟩
    have k0 := kp 0 (by omega)
    have k1 := kp 1 (by omega)
    have k2 := kp 2 (by omega)
    rw [hx] at hst hrg hts k0 k1 k2
    obtain ⟨a0, l0, t0⟩ := x
    obtain ⟨q1, q2, q3⟩ := hrg
    have q1 : 0 ≤ a0 := q1
    have q2 : 0 ≤ l0 := q2
    have q3 : a0 + l0 ≤ (b.length : Int) := q3
    have hts : t0.size ≤ 1000 := hts
    obtain ⟨p, rfl⟩ : ∃ p : Nat, a0 = p := ⟨a0.toNat, by omega⟩
    obtain ⟨q, rfl⟩ : ∃ q : Nat, l0 = q := ⟨l0.toNat, by omega⟩
    have HK := Lib.hid (show ∀ w' : World, Below W.heap.size W w' → w'.cell? ⟨gs, os + h * 3, none⟩ = some (.int .i64 p) ∧ w'.cell? ⟨gs, os + h * 3 + 1, none⟩ = some (.int .i64 q) ∧ w'.cell? ⟨gs, os + h * 3 + 2, none⟩ = some (.string t0) from fun w' h' => ⟨(h'.cell (p := ⟨gs, os + h * 3, none⟩) hgs).trans k0, (h'.cell (p := ⟨gs, os + h * 3 + 1, none⟩) hgs).trans k1, (h'.cell (p := ⟨gs, os + h * 3 + 2, none⟩) hgs).trans k2⟩)
    have hst : p + q ≤ (apl b 0 (S.drop j)).length ∧ (apl b 0 (S.drop j)).take p ++ bytesOf t0 ++ (apl b 0 (S.drop j)).drop (p + q) = apl b 0 (S.drop h) := hst
    have HSt := Lib.hid hst.2
    have hpqO := hst.1
    clear kp hx hcell hgs hst k0 k1 k2 q1 q2
    obtain ⟨r, hr⟩ : ∃ r : Nat, (p : Int) + (q : Int) = (r : Int) := ⟨p + q, by omega⟩
    have rr : IntKind.i64.wrap (r : Int) = (r : Int) := by rw [IntKind.wrap_i64]; omega
    have hpr : p + q = r := by omega
    rw [hpr] at HSt hpqO
    generalize apl b 0 (S.drop j) = O at *
    subst hh
    have hd0 : decide ((0 : Int) ≤ (h : Int)) = true := by simp
    obtain ⟨k0, k1, _⟩ := HK.out _ HQ.out.1.bel
    have HZ := Lib.hid (And.intro hz hpr)
    clear hz hpr
    go_upto_region 6 with fail
    clear k0 k1
    have hbl := below_alloc (Below.refl wr.heap.size wr) (.cells #[.int .i64 p, .int .i64 q] 44)
    have hbx := blk_new wr (.cells #[.int .i64 p, .int .i64 q] 44)
    have HOw := Lib.hid (HQ.out.1.below hbl)
    have HG := Lib.hid HQ.out.2
    have HX := Lib.hid hbx
    clear hbl hbx HQ
    generalize wr.alloc (.cells #[.int .i64 p, .int .i64 q] 44) = w3 at *
    generalize wr.heap.size = bx at *
    have hO3 := HOw.out.form
    obtain ⟨A8, c8, he8, hc8, hCo⟩ := hO3
    injection he8 with hA8 _ hc78
    subst hA8
    subst hc78
    have hb3 : Below w3.heap.size w3 w3.drew := below_drew1 (Below.refl _ _)
    have hct1 := cut_to_b A7 O.length c7 p (by omega) hc7
    have hct2 := cut_from_b A7 O.length c7 r hpqO hc7
    have hl1 := ObLit w3 w3.drew [] hb3 (by simp)
    obtain ⟨v4, w4, hr4, ho4, _⟩ := hl1.append A7 p c7 (O.take p) (C_take (Kd.C_below hCo hl1.bel) p (by omega)) (by simp; omega) 22
    rw [List.nil_append] at ho4
    have htl : (O.take p).length = p := by rw [List.length_take]; omega
    obtain ⟨v5, w5, hr5, ho5, _⟩ := ho4.appendS t0 (by rw [htl]; omega) 22
    have hCd := Kd.C_drop (Kd.C_below hCo ho5.bel) hpqO hc7
    rw [List.length_drop] at hCd
    have hCd : Kd.C (Kd.int .u8) w5 (if c7 = r then A7 else A7.map (·.add (r * 1))) (O.length - r) (O.drop r) := hCd
    generalize (if c7 = r then A7 else A7.map (·.add (r * 1))) = A9 at *
    obtain ⟨v6, w6, hr6, ho6, _⟩ := ho5.append A9 (O.length - r) (c7 - r) (O.drop r) hCd (by rw [List.length_append, htl, bytesOf_length]; omega) 22
    have HF := Lib.hid (show Ob W w6 v6 (apl b 0 (S.drop h)) from by rw [← HSt.out]; exact ho6.weak HOw.out.bel)
    have HSS := Lib.hid (show ∀ w' : World, Below w3.heap.size w3 w' → w'.cell? ⟨bx, 0, none⟩ = some (.int .i64 p) ∧ w'.cell? ⟨bx, 1, none⟩ = some (.int .i64 q) ∧ w'.cell? ⟨gs, os + h * 3 + 2, none⟩ = some (.string t0) from
      fun w' h' => ⟨(blk_cell (blk_below HX.out h') 0).trans rfl, (blk_cell (blk_below HX.out h') 1).trans rfl, (HK.out w' (below_step HOw.out.bel h')).2.2⟩)
    have HS0 := Lib.hid (HSS.out _ hb3)
    have HS1 := Lib.hid (HSS.out _ hl1.bel)
    have HS2 := Lib.hid (HSS.out _ ho4.bel)
    have HS3 := Lib.hid (HSS.out _ ho5.bel)
    have HS4 := Lib.hid (HSS.out _ ho6.bel)
    clear hCo hb3 hl1 ho4 htl ho5 hCd ho6 HSS HX HOw HSt HK HO2
    refine start_ (n := 21) (S := (fun W' => W'.cell? ⟨bx, 0, none⟩ = some (.int .i64 p) ∧ W'.cell? ⟨bx, 1, none⟩ = some (.int .i64 q) ∧ W'.cell? ⟨gs, os + h * 3 + 2, none⟩ = some (.string t0))) (ds := []) #[false, false, false, false, false, false, false, false, false, false, false, false, false, false, false, false, false, false, false, false, false] (by kernel_rfl) rfl rfl (HS0.out) (fun hHeld => ?_)
    refine pure_ (i := 1) (N := (some 24)) (v := ?_) (a' := ?_) #[false, true, false, false, false, false, false, false, false, false, false, false, false, false, false, false, false, false, false, false, false] rfl rfl (by kernel_rfl) (fun _ _ _ h => h) (Or.inl ⟨by rfl, ?_⟩) ?_ ?_
    rotate_left
    · intro w'
      go_simp
      try with_reducible rfl
    rotate_left
    · simp only [Act.put, List.setIfInBounds_toArray, List.set_cons_zero, List.set_cons_succ]
      rfl
    refine pure_ (i := 2) (N := (some 25)) (v := ?_) (a' := ?_) #[false, true, true, false, false, false, false, false, false, false, false, false, false, false, false, false, false, false, false, false, false] rfl rfl (by kernel_rfl) (fun _ _ _ h => h) (Or.inl ⟨by rfl, ?_⟩) ?_ ?_
    rotate_left
    · intro w'
      go_simp
      try with_reducible rfl
    rotate_left
    · simp only [Act.put, List.setIfInBounds_toArray, List.set_cons_zero, List.set_cons_succ]
      rfl
    refine take_ (i := 3) (N := (some 26)) (v := ?_) (a' := ?_) #[false, true, true, true, false, false, false, false, false, false, false, false, false, false, false, false, false, false, false, false, false] rfl rfl (by kernel_rfl) (fun _ _ _ h => h) (Or.inl ⟨by rfl, ?_⟩) hHeld ?_ ?_
    rotate_left
    · intro w' ⟨s0, s1, s2⟩
      go_simp
      try with_reducible rfl
    rotate_left
    · simp only [Act.put, List.setIfInBounds_toArray, List.set_cons_zero, List.set_cons_succ]
      rfl
    refine pure_ (i := 4) (N := (some 27)) (v := ?_) (a' := ?_) #[false, true, true, true, true, false, false, false, false, false, false, false, false, false, false, false, false, false, false, false, false] rfl rfl (by kernel_rfl) (fun _ _ _ h => h) (Or.inl ⟨by rfl, ?_⟩) ?_ ?_
    rotate_left
    · intro w'
      go_simp
      try with_reducible rfl
    rotate_left
    · simp only [Act.put, List.setIfInBounds_toArray, List.set_cons_zero, List.set_cons_succ]
      rfl
    refine pure_ (i := 6) (N := (some 29)) (v := ?_) (a' := ?_) #[false, true, true, true, true, false, true, false, false, false, false, false, false, false, false, false, false, false, false, false, false] rfl rfl (by kernel_rfl) (fun _ _ _ h => h) (Or.inl ⟨by rfl, ?_⟩) ?_ ?_
    rotate_left
    · intro w'
      go_simp
      try with_reducible rfl
    rotate_left
    · simp only [Act.put, List.setIfInBounds_toArray, List.set_cons_zero, List.set_cons_succ]
      rfl
    refine pure_ (i := 7) (N := (some 30)) (v := ?_) (a' := ?_) #[false, true, true, true, true, false, true, true, false, false, false, false, false, false, false, false, false, false, false, false, false] rfl rfl (by kernel_rfl) (fun _ _ _ h => h) (Or.inl ⟨by rfl, ?_⟩) ?_ ?_
    rotate_left
    · intro w'
      go_simp
      try with_reducible rfl
    rotate_left
    · simp only [Act.put, List.setIfInBounds_toArray, List.set_cons_zero, List.set_cons_succ]
      rfl
    refine pure_ (i := 8) (N := (some 31)) (v := ?_) (a' := ?_) #[false, true, true, true, true, false, true, true, true, false, false, false, false, false, false, false, false, false, false, false, false] rfl rfl (by kernel_rfl) (fun _ _ _ h => h) (Or.inl ⟨by rfl, ?_⟩) ?_ ?_
    rotate_left
    · intro w'
      go_simp
      try with_reducible rfl
    rotate_left
    · simp only [Act.put, List.setIfInBounds_toArray, List.set_cons_zero, List.set_cons_succ]
      rfl
    refine pure_ (i := 9) (N := (some 32)) (v := ?_) (a' := ?_) #[false, true, true, true, true, false, true, true, true, true, false, false, false, false, false, false, false, false, false, false, false] rfl rfl (by kernel_rfl) (fun _ _ _ h => h) (Or.inl ⟨by rfl, ?_⟩) ?_ ?_
    rotate_left
    · intro w'
      go_simp
      try with_reducible rfl
    rotate_left
    · simp only [Act.put, List.setIfInBounds_toArray, List.set_cons_zero, List.set_cons_succ]
      rfl
    refine take_ (i := 10) (N := (some 33)) (v := ?_) (a' := ?_) #[false, true, true, true, true, false, true, true, true, true, true, false, false, false, false, false, false, false, false, false, false] rfl rfl (by kernel_rfl) (fun _ _ _ h => h) (Or.inl ⟨by rfl, ?_⟩) hHeld ?_ ?_
    rotate_left
    · intro w' ⟨s0, s1, s2⟩
      go_simp
      try with_reducible rfl
    rotate_left
    · simp only [Act.put, List.setIfInBounds_toArray, List.set_cons_zero, List.set_cons_succ]
      rfl
    refine pure_ (i := 12) (N := (some 35)) (v := ?_) (a' := ?_) #[false, true, true, true, true, false, true, true, true, true, true, false, true, false, false, false, false, false, false, false, false] rfl rfl (by kernel_rfl) (fun _ _ _ h => h) (Or.inl ⟨by rfl, ?_⟩) ?_ ?_
    rotate_left
    · intro w'
      go_simp
      try with_reducible rfl
    rotate_left
    · simp only [Act.put, List.setIfInBounds_toArray, List.set_cons_zero, List.set_cons_succ]
      rfl
    refine pure_ (i := 13) (N := (some 36)) (v := ?_) (a' := ?_) #[false, true, true, true, true, false, true, true, true, true, true, false, true, true, false, false, false, false, false, false, false] rfl rfl (by kernel_rfl) (fun _ _ _ h => h) (Or.inl ⟨by rfl, ?_⟩) ?_ ?_
    rotate_left
    · intro w'
      go_simp
      try with_reducible rfl
    rotate_left
    · simp only [Act.put, List.setIfInBounds_toArray, List.set_cons_zero, List.set_cons_succ]
      rfl
    refine take_ (i := 14) (N := (some 37)) (v := ?_) (a' := ?_) #[false, true, true, true, true, false, true, true, true, true, true, false, true, true, true, false, false, false, false, false, false] rfl rfl (by kernel_rfl) (fun _ _ _ h => h) (Or.inl ⟨by rfl, ?_⟩) hHeld ?_ ?_
    rotate_left
    · intro w' ⟨s0, s1, s2⟩
      go_simp
      try with_reducible rfl
    rotate_left
    · simp only [Act.put, List.setIfInBounds_toArray, List.set_cons_zero, List.set_cons_succ]
      rfl
    refine pure_ (i := 15) (N := (some 38)) (v := ?_) (a' := ?_) #[false, true, true, true, true, false, true, true, true, true, true, false, true, true, true, true, false, false, false, false, false] rfl rfl (by kernel_rfl) (fun _ _ _ h => h) (Or.inl ⟨by rfl, ?_⟩) ?_ ?_
    rotate_left
    · intro w'
      go_simp
      try with_reducible rfl
    rotate_left
    · simp only [Act.put, List.setIfInBounds_toArray, List.set_cons_zero, List.set_cons_succ]
      rfl
    refine take_ (i := 16) (N := (some 39)) (v := ?_) (a' := ?_) #[false, true, true, true, true, false, true, true, true, true, true, false, true, true, true, true, true, false, false, false, false] rfl rfl (by kernel_rfl) (fun _ _ _ h => h) (Or.inl ⟨by rfl, ?_⟩) hHeld ?_ ?_
    rotate_left
    · intro w' ⟨s0, s1, s2⟩
      go_simp
      try with_reducible rfl
    rotate_left
    · simp only [Act.put, List.setIfInBounds_toArray, List.set_cons_zero, List.set_cons_succ]
      rfl
    refine pure_ (i := 17) (N := (some 40)) (v := ?_) (a' := ?_) #[false, true, true, true, true, false, true, true, true, true, true, false, true, true, true, true, true, true, false, false, false] rfl rfl (by kernel_rfl) (fun _ _ _ h => h) (Or.inl ⟨by rfl, ?_⟩) ?_ ?_
    rotate_left
    · intro w'
      go_simp
      try with_reducible rfl
    rotate_left
    · simp only [Act.put, List.setIfInBounds_toArray, List.set_cons_zero, List.set_cons_succ]
      rfl
    refine pure_ (i := 18) (N := (some 41)) (v := ?_) (a' := ?_) #[false, true, true, true, true, false, true, true, true, true, true, false, true, true, true, true, true, true, true, false, false] rfl rfl (by kernel_rfl) (fun _ _ _ h => h) (Or.inl ⟨by rfl, ?_⟩) ?_ ?_
    rotate_left
    · intro w'
      go_simp
      try with_reducible rfl
    rotate_left
    · simp only [Act.put, List.setIfInBounds_toArray, List.set_cons_zero, List.set_cons_succ]
      rfl
    refine one_ (i := 0) (N := (some 23)) #[true, true, true, true, true, false, true, true, true, true, true, false, true, true, true, true, true, true, true, false, false] rfl rfl (by kernel_rfl) (by decide) (fun K hK => ?_)
    rw [if_pos (by rfl)]
    go_simp
    refine hK.out _ _ HS1.out (fun hHeld => ?_)
    clear hK K
    refine one_ (i := 5) (N := (some 28)) #[true, true, true, true, true, true, true, true, true, true, true, false, true, true, true, true, true, true, true, false, false] rfl rfl (by kernel_rfl) (by decide) (fun K hK => ?_)
    refine app_ _ _ 22 22 rfl (by rfl) rfl _ _ rfl rfl hr4 ?_
    refine hK.out _ _ HS2.out (fun hHeld => ?_)
    clear hK K
    refine norm_ (a' := ?_) ?_ ?_
    rotate_left
    · show Act.put _ (some 28) _ = _
      simp only [Act.put, List.setIfInBounds_toArray, List.set_cons_zero, List.set_cons_succ]
      rfl
    refine one_ (i := 11) (N := (some 34)) #[true, true, true, true, true, true, true, true, true, true, true, true, true, true, true, true, true, true, true, false, false] rfl rfl (by kernel_rfl) (by decide) (fun K hK => ?_)
    refine app_ _ _ 22 9 rfl (by rfl) rfl _ _ rfl rfl hr5 ?_
    refine hK.out _ _ HS3.out (fun hHeld => ?_)
    clear hK K
    refine norm_ (a' := ?_) ?_ ?_
    rotate_left
    · show Act.put _ (some 34) _ = _
      simp only [Act.put, List.setIfInBounds_toArray, List.set_cons_zero, List.set_cons_succ]
      rfl
    refine one_ (i := 19) (N := (some 42)) #[true, true, true, true, true, true, true, true, true, true, true, true, true, true, true, true, true, true, true, true, false] rfl rfl (by kernel_rfl) (by decide) (fun K hK => ?_)
    refine app_ _ _ 22 22 rfl (by rfl) rfl _ _ rfl rfl hr6 ?_
    refine hK.out _ _ HS4.out (fun hHeld => ?_)
    clear hK K
    refine norm_ (a' := ?_) ?_ ?_
    rotate_left
    · show Act.put _ (some 42) _ = _
      simp only [Act.put, List.setIfInBounds_toArray, List.set_cons_zero, List.set_cons_succ]
      rfl
    refine pure_ (i := 20) (N := (some 5)) (v := ?_) (a' := ?_) #[true, true, true, true, true, true, true, true, true, true, true, true, true, true, true, true, true, true, true, true, true] rfl rfl (by kernel_rfl) (fun _ _ _ h => h) (Or.inl ⟨by rfl, ?_⟩) ?_ ?_
    rotate_left
    · intro w'
      go_simp
      try with_reducible rfl
    rotate_left
    · simp only [Act.put, List.setIfInBounds_toArray, List.set_cons_zero, List.set_cons_succ]
      rfl
    refine done_ (by kernel_rfl) ?_
    clear hHeld HS0 HS1 HS2 HS3 HS4 hr4 hr5 hr6 hct1 hct2
    go_wp2_with fail
    go_roundg h
    case measure => have := HG.out; have := HZ.out.1; omega
    case rel => exact ⟨h, _, rfl, by omega, rfl, HF.out, rfl⟩
  · obtain rfl : j = 0 := by omega
    have hd0 : decide ((0 : Int) ≤ z) = false := decide_eq_false (by omega)
    clear hz
    go_wp2_with fail
    go_ret
    exact ⟨_, rfl, HQ.out.1⟩
end Go.Proofs.Ytgcjkijndibejaa.Srt
