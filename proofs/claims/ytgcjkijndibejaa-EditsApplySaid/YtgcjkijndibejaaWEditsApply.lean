/- The law EditsApply, walked: it answers true. Conditions: none. -/
import Derived.Test.YtgcjkijndibejaaESome
import Derived.Test.YtgcjkijndibejaaERt
import Derived.Test.YtgcjkijndibejaaERa
import Derived.Test.YtgcjkijndibejaaERp
set_option linter.unusedVariables false
set_option linter.unusedSimpArgs false
namespace Go.Proofs.Ytgcjkijndibejaa.Srt
open Go.Lib hiding bytesOf bytesOf_length
open Go.Shelf Go.RowKit Go.Proofs.YtgcjkijndibejaaW.PrintWords Go.Proofs.YtgcjkijndibejaaW.PrintLast

set_option maxRecDepth 100000 in
set_option maxHeartbeats 8000000 in
theorem editsApply_any (A : Option Addr) (c : Nat) (b : List Int) (A1 : Option Addr) (c1 : Nat) (es : List Ed) (r0 : Nat) (t0 : Int) (w : World) (hC : Kd.C (Kd.int .u8) w A b.length b) (hc : b.length ≤ c) (hm : b.length ≤ 140737488351232) (hE : Kd.C kE w A1 es.length es) (hc1 : es.length ≤ c1) (hl : es.length ≤ 140737488351232) (hr : r0 < 256) (ht : -9223372036854775808 ≤ t0 ∧ t0 ≤ 9223372036854775807) :
    Calls Try.prog 4 #[.slice A b.length c, .slice A1 es.length c1, .int .u8 r0, .int .i64 t0] w fun e w' => e = .returned (.bool true) ∧ Below w.heap.size w w' := by
  have HC := Lib.hid (And.intro hC hc)
  have HE := Lib.hid (And.intro hE hc1)
  clear hC hc hE hc1
  go_enter Try.func4, Try.ntmps4
  go_wp2_with fail
  refine (awake_any _).mono ?_
  rintro e w1 ⟨rfl, hb1⟩
  have HW := Lib.hid hb1
  clear hb1
  by_cases g1 : 500 < b.length
  · have h3 : decide ((500 : Int) < (b.length : Int)) = true := by simp; omega
    go_wp2_with fail
    go_ret
    exact ⟨rfl, HW.out⟩
  have h3 : decide ((500 : Int) < (b.length : Int)) = false := by simp; omega
  go_wp2_with fail
  refine (some_any A c b A1 c1 es r0 _ (Kd.C_below HC.out.1 HW.out) HC.out.2 (Kd.C_below HE.out.1 HW.out) HE.out.2 (by omega) hl hr).mono ?_
  rintro e w2 ⟨v2, S, rfl, hO, hS, hsz⟩
  have HW2 := Lib.hid (below_step HW.out hO.bel)
  have HES := Lib.hid (EdR.own hO.own)
  have HSz := Lib.hid hsz
  clear hO HW HE hsz
  obtain ⟨z, hz⟩ : ∃ z : Nat, (r0 : Int) % 3 = (z : Int) := ⟨r0 % 3, by omega⟩
  go_upto_if 26 with fail
  go_cut [3] (fun v wc => ∃ t : Int, v = .int .i64 t ∧ wc = w2 ∧ -9223372036854775808 ≤ t ∧ t ≤ 9223372036854775807)
  case first =>
    by_cases hz0 : 0 < z
    · have hd0 : decide ((0 : Int) < (z : Int)) = true := by simp; omega
      obtain ⟨p, hp, hpn⟩ : ∃ p : Nat, (IntKind.u64.wrap t0).tmod ((b.length : Int) + 1) = (p : Int) ∧ p ≤ b.length := umod t0 b.length
      go_wp2_with fail
      go_meet
      exact ⟨p, rfl, rfl, by omega, by omega⟩
    · have hd0 : decide ((0 : Int) < (z : Int)) = false := by simp; omega
      go_wp2_with fail
      go_meet
      exact ⟨t0, rfl, rfl, ht.1, ht.2⟩
  case rest =>
  obtain ⟨t, rfl, hwc, ht1, ht2⟩ := hcut
  subst hwc
  clear hz
  have hkl := kept_len b S
  have hsl := srtE_length (kept b S)
  have HAR := Lib.hid (show applyR b S = if (tidy b S).1 = 0 then applyL b (tidy b S).2 else [] from rfl)
  have HPL := Lib.hid (show place b S t = if (tidy b S).1 = 0 then (if t < 0 ∨ (b.length : Int) < t then (0, 2) else (plc t (tidy b S).2 0, 0)) else (0, (tidy b S).1) from rfl)
  have HOK := Lib.hid (fun h => tidy_ok (b := b) (es := S) h)
  go_wp2_with fail
  refine (refTidy_any A c b _ S _ (Kd.C_below HC.out.1 HW2.out) HC.out.2 HES.out (by omega) (by omega)).mono ?_
  rintro e w3 ⟨v3, rfl, ho3⟩
  have HW3 := Lib.hid (And.intro (EdR.own ho3.own) ho3.bel)
  clear ho3
  go_wp2_with fail
  refine (apply_any A c b _ S _ (Kd.C_below HC.out.1 (below_step HW2.out HW3.out.2)) HC.out.2 (EdR.below HES.out HW3.out.2) (by omega) (by omega) (fun e he => by have := HSz.out e he; omega)).mono ?_
  rintro e w4 ⟨v4, rfl, ho4⟩
  have HT4 := Lib.hid (And.intro (EdR.below HW3.out.1 ho4.bel) (And.intro (EdR.below HES.out (below_step HW3.out.2 ho4.bel)) (below_step HW2.out (below_step HW3.out.2 ho4.bel))))
  have HO4 := Lib.hid ho4
  clear ho4 HW3
  go_wp2_with fail
  refine (place_any A c b _ S t _ (Kd.C_below HC.out.1 HT4.out.2.2) HC.out.2 HT4.out.2.1 (by omega) (by omega) (fun e he => by have := HSz.out e he; omega)).mono ?_
  rintro e w5 ⟨rfl, hb5⟩
  have HO5 := Lib.hid (HO4.out.below hb5)
  have HT5 := Lib.hid (And.intro (EdR.below HT4.out.1 hb5) (below_step HT4.out.2.2 hb5))
  clear hb5 HO4 HT4 HES
  generalize (tidy b S).2 = T at *
  generalize hk : (tidy b S).1 = k at *
  have HK := Lib.hid hk
  clear hk
  by_cases hk0 : k = 0
  · subst hk0
    obtain ⟨hOK, hT1, _, _⟩ := HOK.out rfl
    have hAp := Ap.of_ok hOK
    rw [← hT1] at hsl
    have hTl : T.length ≤ 30 := by omega
    have hTs : ∀ e ∈ T, e.2.2.size ≤ 20 := fun e he => HSz.out e (List.mem_filter.1 (srtE_mem _ _ (hT1 ▸ he))).1
    have hAR : applyR b S = apl b 0 T := by rw [HAR.out, if_pos rfl, applyL_apl]
    have HXl := Lib.hid (apl_len b 20 T 0 hAp (by omega) hTs)
    have HAp := Lib.hid hAp
    have HTs := Lib.hid hTs
    have HPL2 := Lib.hid (show place b S t = if t < 0 ∨ (b.length : Int) < t then (0, 2) else (plc t T 0, 0) from by rw [HPL.out, if_pos rfl])
    rw [hAR] at HO5
    clear hOK hT1 hAp hTs hAR HOK HAR HPL hsl hkl HSz
    have HRA := Lib.hid (fun (w' : World) (h : Below w5.heap.size w5 w') => refApply_any A c b v3 T w' (Kd.C_below HC.out.1 (below_step HT5.out.2 h)) HC.out.2 (EdR.below HT5.out.1 h) (by omega) (by omega) (fun e he => by have := HTs.out e he; omega) HAp.out)
    have HRP := Lib.hid (fun h0 h1 (w' : World) (h : Below w5.heap.size w5 w') => refPlace_any v3 T t b.length w' (EdR.below HT5.out.1 h) (by omega) h0 h1 HAp.out (by omega) (fun e he => by have := HTs.out e he; omega))
    have hXs := HXl.out
    have hXs : (apl b 0 T).length ≤ 100000 := by
      have : T.length * 20 ≤ 600 := by omega
      omega
    obtain ⟨A5, c5, rfl, hc5, hC5⟩ := HO5.out.form
    have HC5 := Lib.hid hC5
    clear hC5 HO5 HXl HAp HTs
    generalize apl b 0 T = X at *
    by_cases g2 : t < 0
    · have hd2 : decide (t < 0) = true := decide_eq_true g2
      have hP : place b S t = (0, 2) := by rw [HPL2.out, if_pos (.inl g2)]
      rw [hP]
      clear hP HPL2 HRP
      have HSt := Lib.hid (show ∀ W : World, Below w5.heap.size w5 W → ((convert 22 9 (.slice A5 X.length c5)).run Try.prog W = .ok (.string (strOfNums X)) W ∧ Hid (Below w5.heap.size w5 W)) from fun W h => ⟨conv_C (c := c5) (Kd.C_below HC5.out h), Lib.hid h⟩)
      have HT0 := Lib.hid (HSt.out _ (below_drew1 (Below.refl w5.heap.size w5)))
      go_upto_region 14 with fail
      refine start_ (n := 20) (S := (fun W => (convert 22 9 (.slice A5 X.length c5)).run Try.prog W = .ok (.string (strOfNums X)) W ∧ Hid (Below w5.heap.size w5 W))) (ds := []) #[false, false, false, false, false, false, false, false, false, false, false, false, false, false, false, false, false, false, false, false] (by kernel_rfl) rfl rfl (HT0.out) (fun hHeld => ?_)
      refine pure_ (i := 0) (N := (some 81)) (v := ?_) (a' := ?_) #[true, false, false, false, false, false, false, false, false, false, false, false, false, false, false, false, false, false, false, false] rfl rfl (by kernel_rfl) (fun _ _ _ h => h) (Or.inl ⟨by rfl, ?_⟩) ?_ ?_
      rotate_left
      · intro w'
        go_simp
        try with_reducible rfl
      rotate_left
      · simp only [Act.put, List.setIfInBounds_toArray, List.set_cons_zero, List.set_cons_succ]
        rfl
      refine pure_ (i := 1) (N := (some 82)) (v := ?_) (a' := ?_) #[true, true, false, false, false, false, false, false, false, false, false, false, false, false, false, false, false, false, false, false] rfl rfl (by kernel_rfl) (fun _ _ _ h => h) (Or.inl ⟨by rfl, ?_⟩) ?_ ?_
      rotate_left
      · intro w'
        go_simp
        try with_reducible rfl
      rotate_left
      · simp only [Act.put, List.setIfInBounds_toArray, List.set_cons_zero, List.set_cons_succ]
        rfl
      refine pure_ (i := 2) (N := (some 83)) (v := ?_) (a' := ?_) #[true, true, true, false, false, false, false, false, false, false, false, false, false, false, false, false, false, false, false, false] rfl rfl (by kernel_rfl) (fun _ _ _ h => h) (Or.inl ⟨by rfl, ?_⟩) ?_ ?_
      rotate_left
      · intro w'
        go_simp
        try with_reducible rfl
      rotate_left
      · simp only [Act.put, List.setIfInBounds_toArray, List.set_cons_zero, List.set_cons_succ]
        rfl
      refine pure_ (i := 3) (N := (some 84)) (v := ?_) (a' := ?_) #[true, true, true, true, false, false, false, false, false, false, false, false, false, false, false, false, false, false, false, false] rfl rfl (by kernel_rfl) (fun _ _ _ h => h) (Or.inl ⟨by rfl, ?_⟩) ?_ ?_
      rotate_left
      · intro w'
        go_simp
        try with_reducible rfl
      rotate_left
      · simp only [Act.put, List.setIfInBounds_toArray, List.set_cons_zero, List.set_cons_succ]
        rfl
      refine pure_ (i := 4) (N := (some 85)) (v := ?_) (a' := ?_) #[true, true, true, true, true, false, false, false, false, false, false, false, false, false, false, false, false, false, false, false] rfl rfl (by kernel_rfl) (fun _ _ _ h => h) (Or.inl ⟨by rfl, ?_⟩) ?_ ?_
      rotate_left
      · intro w'
        go_simp
        try with_reducible rfl
      rotate_left
      · simp only [Act.put, List.setIfInBounds_toArray, List.set_cons_zero, List.set_cons_succ]
        rfl
      refine pure_ (i := 5) (N := (some 86)) (v := ?_) (a' := ?_) #[true, true, true, true, true, true, false, false, false, false, false, false, false, false, false, false, false, false, false, false] rfl rfl (by kernel_rfl) (fun _ _ _ h => h) (Or.inl ⟨by rfl, ?_⟩) ?_ ?_
      rotate_left
      · intro w'
        go_simp
        try with_reducible rfl
      rotate_left
      · simp only [Act.put, List.setIfInBounds_toArray, List.set_cons_zero, List.set_cons_succ]
        rfl
      refine pure_ (i := 6) (N := (some 87)) (v := ?_) (a' := ?_) #[true, true, true, true, true, true, true, false, false, false, false, false, false, false, false, false, false, false, false, false] rfl rfl (by kernel_rfl) (fun _ _ _ h => h) (Or.inl ⟨by rfl, ?_⟩) ?_ ?_
      rotate_left
      · intro w'
        go_simp
        try with_reducible rfl
      rotate_left
      · simp only [Act.put, List.setIfInBounds_toArray, List.set_cons_zero, List.set_cons_succ]
        rfl
      refine pure_ (i := 7) (N := (some 88)) (v := ?_) (a' := ?_) #[true, true, true, true, true, true, true, true, false, false, false, false, false, false, false, false, false, false, false, false] rfl rfl (by kernel_rfl) (fun _ _ _ h => h) (Or.inl ⟨by rfl, ?_⟩) ?_ ?_
      rotate_left
      · intro w'
        go_simp
        try with_reducible rfl
      rotate_left
      · simp only [Act.put, List.setIfInBounds_toArray, List.set_cons_zero, List.set_cons_succ]
        rfl
      refine pure_ (i := 8) (N := (some 89)) (v := ?_) (a' := ?_) #[true, true, true, true, true, true, true, true, true, false, false, false, false, false, false, false, false, false, false, false] rfl rfl (by kernel_rfl) (fun _ _ _ h => h) (Or.inl ⟨by rfl, ?_⟩) ?_ ?_
      rotate_left
      · intro w'
        go_simp
        try with_reducible rfl
      rotate_left
      · simp only [Act.put, List.setIfInBounds_toArray, List.set_cons_zero, List.set_cons_succ]
        rfl
      refine pure_ (i := 9) (N := (some 90)) (v := ?_) (a' := ?_) #[true, true, true, true, true, true, true, true, true, true, false, false, false, false, false, false, false, false, false, false] rfl rfl (by kernel_rfl) (fun _ _ _ h => h) (Or.inl ⟨by rfl, ?_⟩) ?_ ?_
      rotate_left
      · intro w'
        go_simp
        try with_reducible rfl
      rotate_left
      · simp only [Act.put, List.setIfInBounds_toArray, List.set_cons_zero, List.set_cons_succ]
        rfl
      refine pure_ (i := 10) (N := (some 91)) (v := ?_) (a' := ?_) #[true, true, true, true, true, true, true, true, true, true, true, false, false, false, false, false, false, false, false, false] rfl rfl (by kernel_rfl) (fun _ _ _ h => h) (Or.inl ⟨by rfl, ?_⟩) ?_ ?_
      rotate_left
      · intro w'
        go_simp
        try with_reducible rfl
      rotate_left
      · simp only [Act.put, List.setIfInBounds_toArray, List.set_cons_zero, List.set_cons_succ]
        rfl
      refine pure_ (i := 11) (N := (some 92)) (v := ?_) (a' := ?_) #[true, true, true, true, true, true, true, true, true, true, true, true, false, false, false, false, false, false, false, false] rfl rfl (by kernel_rfl) (fun _ _ _ h => h) (Or.inl ⟨by rfl, ?_⟩) ?_ ?_
      rotate_left
      · intro w'
        go_simp
        try with_reducible rfl
      rotate_left
      · simp only [Act.put, List.setIfInBounds_toArray, List.set_cons_zero, List.set_cons_succ]
        rfl
      refine take_ (i := 12) (N := (some 93)) (v := ?_) (a' := ?_) #[true, true, true, true, true, true, true, true, true, true, true, true, true, false, false, false, false, false, false, false] rfl rfl (by kernel_rfl) (fun _ _ _ h => h) (Or.inl ⟨by rfl, ?_⟩) hHeld ?_ ?_
      rotate_left
      · intro w' ⟨s0, s1⟩
        go_simp
        try with_reducible rfl
      rotate_left
      · simp only [Act.put, List.setIfInBounds_toArray, List.set_cons_zero, List.set_cons_succ]
        rfl
      refine pure_ (i := 13) (N := (some 94)) (v := ?_) (a' := ?_) #[true, true, true, true, true, true, true, true, true, true, true, true, true, true, false, false, false, false, false, false] rfl rfl (by kernel_rfl) (fun _ _ _ h => h) (Or.inl ⟨by rfl, ?_⟩) ?_ ?_
      rotate_left
      · intro w'
        go_simp
        try with_reducible rfl
      rotate_left
      · simp only [Act.put, List.setIfInBounds_toArray, List.set_cons_zero, List.set_cons_succ]
        rfl
      refine pure_ (i := 14) (N := (some 95)) (v := ?_) (a' := ?_) #[true, true, true, true, true, true, true, true, true, true, true, true, true, true, true, false, false, false, false, false] rfl rfl (by kernel_rfl) (fun _ _ _ h => h) (Or.inl ⟨by rfl, ?_⟩) ?_ ?_
      rotate_left
      · intro w'
        go_simp
        try with_reducible rfl
      rotate_left
      · simp only [Act.put, List.setIfInBounds_toArray, List.set_cons_zero, List.set_cons_succ]
        rfl
      refine one_ (i := 15) (N := (some 96)) #[true, true, true, true, true, true, true, true, true, true, true, true, true, true, true, true, false, false, false, false] rfl rfl (by kernel_rfl) (by decide) (fun K hK => ?_)
      refine goes_ Try.func17 (by kernel_rfl) rfl #[.slice A b.length c, v3] (by rfl) rfl rfl (by (try simp only [List.map_toArray, List.map_cons, List.map_nil]); first | done | rfl) ?_
      refine (HRA.out _ hHeld.2.out).mono ?_
      rintro e w8 ⟨v8, rfl, ho8⟩
      obtain ⟨A8, c8, rfl, _, hC8⟩ := ho8.form
      have HC8 := Lib.hid hC8
      have HB8 := Lib.hid (below_step hHeld.2.out ho8.bel)
      clear ho8 hC8
      refine ⟨_, rfl, hK.out _ _ (HSt.out _ HB8.out) (fun hHeld => ?_)⟩
      clear hK K
      refine norm_ (a' := ?_) ?_ ?_
      rotate_left
      · show Act.put _ (some 96) _ = _
        simp only [Act.put, List.setIfInBounds_toArray, List.set_cons_zero, List.set_cons_succ]
        rfl
      refine one_ (i := 16) (N := (some 97)) #[true, true, true, true, true, true, true, true, true, true, true, true, true, true, true, true, true, false, false, false] rfl rfl (by kernel_rfl) (by decide) (fun K hK => ?_)
      have hcv8 := conv_C (c := c8) HC8.out
      rw [if_pos (by rfl)]
      go_simp
      refine hK.out _ _ hHeld (fun hHeld => ?_)
      clear hK K
      refine pure_ (i := 17) (N := (some 98)) (v := ?_) (a' := ?_) #[true, true, true, true, true, true, true, true, true, true, true, true, true, true, true, true, true, true, false, false] rfl rfl (by kernel_rfl) (fun _ _ _ h => h) (Or.inl ⟨by rfl, ?_⟩) ?_ ?_
      rotate_left
      · intro w'
        go_simp
        try with_reducible rfl
      rotate_left
      · simp only [Act.put, List.setIfInBounds_toArray, List.set_cons_zero, List.set_cons_succ]
        rfl
      refine pure_ (i := 18) (N := (some 99)) (v := ?_) (a' := ?_) #[true, true, true, true, true, true, true, true, true, true, true, true, true, true, true, true, true, true, true, false] rfl rfl (by kernel_rfl) (fun _ _ _ h => h) (Or.inl ⟨by rfl, ?_⟩) ?_ ?_
      rotate_left
      · intro w'
        go_simp
        try with_reducible rfl
      rotate_left
      · simp only [Act.put, List.setIfInBounds_toArray, List.set_cons_zero, List.set_cons_succ]
        rfl
      refine pure_ (i := 19) (N := (some 8)) (v := ?_) (a' := ?_) #[true, true, true, true, true, true, true, true, true, true, true, true, true, true, true, true, true, true, true, true] rfl rfl (by kernel_rfl) (fun _ _ _ h => h) (Or.inl ⟨by rfl, ?_⟩) ?_ ?_
      rotate_left
      · intro w'
        go_simp
        try with_reducible rfl
      rotate_left
      · simp only [Act.put, List.setIfInBounds_toArray, List.set_cons_zero, List.set_cons_succ]
        rfl
      refine done_ (by kernel_rfl) ?_
      have HF := Lib.hid HB8.out
      clear hHeld HSt HT0 HRA HC8 HB8
      go_wp2_with fail
      go_ret
      exact ⟨rfl, below_step HT5.out.2 HF.out⟩
    · have hd2 : decide (t < 0) = false := decide_eq_false g2
      by_cases g3 : (b.length : Int) < t
      · have hd3 : decide ((b.length : Int) < t) = true := decide_eq_true g3
        have hP : place b S t = (0, 2) := by rw [HPL2.out, if_pos (.inr g3)]
        rw [hP]
        clear hP HPL2 HRP
        have HSt := Lib.hid (show ∀ W : World, Below w5.heap.size w5 W → ((convert 22 9 (.slice A5 X.length c5)).run Try.prog W = .ok (.string (strOfNums X)) W ∧ Hid (Below w5.heap.size w5 W)) from fun W h => ⟨conv_C (c := c5) (Kd.C_below HC5.out h), Lib.hid h⟩)
        have HT0 := Lib.hid (HSt.out _ (below_drew1 (Below.refl w5.heap.size w5)))
        go_upto_region 14 with fail
        refine start_ (n := 20) (S := (fun W => (convert 22 9 (.slice A5 X.length c5)).run Try.prog W = .ok (.string (strOfNums X)) W ∧ Hid (Below w5.heap.size w5 W))) (ds := []) #[false, false, false, false, false, false, false, false, false, false, false, false, false, false, false, false, false, false, false, false] (by kernel_rfl) rfl rfl (HT0.out) (fun hHeld => ?_)
        refine pure_ (i := 0) (N := (some 81)) (v := ?_) (a' := ?_) #[true, false, false, false, false, false, false, false, false, false, false, false, false, false, false, false, false, false, false, false] rfl rfl (by kernel_rfl) (fun _ _ _ h => h) (Or.inl ⟨by rfl, ?_⟩) ?_ ?_
        rotate_left
        · intro w'
          go_simp
          try with_reducible rfl
        rotate_left
        · simp only [Act.put, List.setIfInBounds_toArray, List.set_cons_zero, List.set_cons_succ]
          rfl
        refine pure_ (i := 1) (N := (some 82)) (v := ?_) (a' := ?_) #[true, true, false, false, false, false, false, false, false, false, false, false, false, false, false, false, false, false, false, false] rfl rfl (by kernel_rfl) (fun _ _ _ h => h) (Or.inl ⟨by rfl, ?_⟩) ?_ ?_
        rotate_left
        · intro w'
          go_simp
          try with_reducible rfl
        rotate_left
        · simp only [Act.put, List.setIfInBounds_toArray, List.set_cons_zero, List.set_cons_succ]
          rfl
        refine pure_ (i := 2) (N := (some 83)) (v := ?_) (a' := ?_) #[true, true, true, false, false, false, false, false, false, false, false, false, false, false, false, false, false, false, false, false] rfl rfl (by kernel_rfl) (fun _ _ _ h => h) (Or.inl ⟨by rfl, ?_⟩) ?_ ?_
        rotate_left
        · intro w'
          go_simp
          try with_reducible rfl
        rotate_left
        · simp only [Act.put, List.setIfInBounds_toArray, List.set_cons_zero, List.set_cons_succ]
          rfl
        refine pure_ (i := 3) (N := (some 84)) (v := ?_) (a' := ?_) #[true, true, true, true, false, false, false, false, false, false, false, false, false, false, false, false, false, false, false, false] rfl rfl (by kernel_rfl) (fun _ _ _ h => h) (Or.inl ⟨by rfl, ?_⟩) ?_ ?_
        rotate_left
        · intro w'
          go_simp
          try with_reducible rfl
        rotate_left
        · simp only [Act.put, List.setIfInBounds_toArray, List.set_cons_zero, List.set_cons_succ]
          rfl
        refine pure_ (i := 4) (N := (some 85)) (v := ?_) (a' := ?_) #[true, true, true, true, true, false, false, false, false, false, false, false, false, false, false, false, false, false, false, false] rfl rfl (by kernel_rfl) (fun _ _ _ h => h) (Or.inl ⟨by rfl, ?_⟩) ?_ ?_
        rotate_left
        · intro w'
          go_simp
          try with_reducible rfl
        rotate_left
        · simp only [Act.put, List.setIfInBounds_toArray, List.set_cons_zero, List.set_cons_succ]
          rfl
        refine pure_ (i := 5) (N := (some 86)) (v := ?_) (a' := ?_) #[true, true, true, true, true, true, false, false, false, false, false, false, false, false, false, false, false, false, false, false] rfl rfl (by kernel_rfl) (fun _ _ _ h => h) (Or.inl ⟨by rfl, ?_⟩) ?_ ?_
        rotate_left
        · intro w'
          go_simp
          try with_reducible rfl
        rotate_left
        · simp only [Act.put, List.setIfInBounds_toArray, List.set_cons_zero, List.set_cons_succ]
          rfl
        refine pure_ (i := 6) (N := (some 87)) (v := ?_) (a' := ?_) #[true, true, true, true, true, true, true, false, false, false, false, false, false, false, false, false, false, false, false, false] rfl rfl (by kernel_rfl) (fun _ _ _ h => h) (Or.inl ⟨by rfl, ?_⟩) ?_ ?_
        rotate_left
        · intro w'
          go_simp
          try with_reducible rfl
        rotate_left
        · simp only [Act.put, List.setIfInBounds_toArray, List.set_cons_zero, List.set_cons_succ]
          rfl
        refine pure_ (i := 7) (N := (some 88)) (v := ?_) (a' := ?_) #[true, true, true, true, true, true, true, true, false, false, false, false, false, false, false, false, false, false, false, false] rfl rfl (by kernel_rfl) (fun _ _ _ h => h) (Or.inl ⟨by rfl, ?_⟩) ?_ ?_
        rotate_left
        · intro w'
          go_simp
          try with_reducible rfl
        rotate_left
        · simp only [Act.put, List.setIfInBounds_toArray, List.set_cons_zero, List.set_cons_succ]
          rfl
        refine pure_ (i := 8) (N := (some 89)) (v := ?_) (a' := ?_) #[true, true, true, true, true, true, true, true, true, false, false, false, false, false, false, false, false, false, false, false] rfl rfl (by kernel_rfl) (fun _ _ _ h => h) (Or.inl ⟨by rfl, ?_⟩) ?_ ?_
        rotate_left
        · intro w'
          go_simp
          try with_reducible rfl
        rotate_left
        · simp only [Act.put, List.setIfInBounds_toArray, List.set_cons_zero, List.set_cons_succ]
          rfl
        refine pure_ (i := 9) (N := (some 90)) (v := ?_) (a' := ?_) #[true, true, true, true, true, true, true, true, true, true, false, false, false, false, false, false, false, false, false, false] rfl rfl (by kernel_rfl) (fun _ _ _ h => h) (Or.inl ⟨by rfl, ?_⟩) ?_ ?_
        rotate_left
        · intro w'
          go_simp
          try with_reducible rfl
        rotate_left
        · simp only [Act.put, List.setIfInBounds_toArray, List.set_cons_zero, List.set_cons_succ]
          rfl
        refine pure_ (i := 10) (N := (some 91)) (v := ?_) (a' := ?_) #[true, true, true, true, true, true, true, true, true, true, true, false, false, false, false, false, false, false, false, false] rfl rfl (by kernel_rfl) (fun _ _ _ h => h) (Or.inl ⟨by rfl, ?_⟩) ?_ ?_
        rotate_left
        · intro w'
          go_simp
          try with_reducible rfl
        rotate_left
        · simp only [Act.put, List.setIfInBounds_toArray, List.set_cons_zero, List.set_cons_succ]
          rfl
        refine pure_ (i := 11) (N := (some 92)) (v := ?_) (a' := ?_) #[true, true, true, true, true, true, true, true, true, true, true, true, false, false, false, false, false, false, false, false] rfl rfl (by kernel_rfl) (fun _ _ _ h => h) (Or.inl ⟨by rfl, ?_⟩) ?_ ?_
        rotate_left
        · intro w'
          go_simp
          try with_reducible rfl
        rotate_left
        · simp only [Act.put, List.setIfInBounds_toArray, List.set_cons_zero, List.set_cons_succ]
          rfl
        refine take_ (i := 12) (N := (some 93)) (v := ?_) (a' := ?_) #[true, true, true, true, true, true, true, true, true, true, true, true, true, false, false, false, false, false, false, false] rfl rfl (by kernel_rfl) (fun _ _ _ h => h) (Or.inl ⟨by rfl, ?_⟩) hHeld ?_ ?_
        rotate_left
        · intro w' ⟨s0, s1⟩
          go_simp
          try with_reducible rfl
        rotate_left
        · simp only [Act.put, List.setIfInBounds_toArray, List.set_cons_zero, List.set_cons_succ]
          rfl
        refine pure_ (i := 13) (N := (some 94)) (v := ?_) (a' := ?_) #[true, true, true, true, true, true, true, true, true, true, true, true, true, true, false, false, false, false, false, false] rfl rfl (by kernel_rfl) (fun _ _ _ h => h) (Or.inl ⟨by rfl, ?_⟩) ?_ ?_
        rotate_left
        · intro w'
          go_simp
          try with_reducible rfl
        rotate_left
        · simp only [Act.put, List.setIfInBounds_toArray, List.set_cons_zero, List.set_cons_succ]
          rfl
        refine pure_ (i := 14) (N := (some 95)) (v := ?_) (a' := ?_) #[true, true, true, true, true, true, true, true, true, true, true, true, true, true, true, false, false, false, false, false] rfl rfl (by kernel_rfl) (fun _ _ _ h => h) (Or.inl ⟨by rfl, ?_⟩) ?_ ?_
        rotate_left
        · intro w'
          go_simp
          try with_reducible rfl
        rotate_left
        · simp only [Act.put, List.setIfInBounds_toArray, List.set_cons_zero, List.set_cons_succ]
          rfl
        refine one_ (i := 15) (N := (some 96)) #[true, true, true, true, true, true, true, true, true, true, true, true, true, true, true, true, false, false, false, false] rfl rfl (by kernel_rfl) (by decide) (fun K hK => ?_)
        refine goes_ Try.func17 (by kernel_rfl) rfl #[.slice A b.length c, v3] (by rfl) rfl rfl (by (try simp only [List.map_toArray, List.map_cons, List.map_nil]); first | done | rfl) ?_
        refine (HRA.out _ hHeld.2.out).mono ?_
        rintro e w8 ⟨v8, rfl, ho8⟩
        obtain ⟨A8, c8, rfl, _, hC8⟩ := ho8.form
        have HC8 := Lib.hid hC8
        have HB8 := Lib.hid (below_step hHeld.2.out ho8.bel)
        clear ho8 hC8
        refine ⟨_, rfl, hK.out _ _ (HSt.out _ HB8.out) (fun hHeld => ?_)⟩
        clear hK K
        refine norm_ (a' := ?_) ?_ ?_
        rotate_left
        · show Act.put _ (some 96) _ = _
          simp only [Act.put, List.setIfInBounds_toArray, List.set_cons_zero, List.set_cons_succ]
          rfl
        refine one_ (i := 16) (N := (some 97)) #[true, true, true, true, true, true, true, true, true, true, true, true, true, true, true, true, true, false, false, false] rfl rfl (by kernel_rfl) (by decide) (fun K hK => ?_)
        have hcv8 := conv_C (c := c8) HC8.out
        rw [if_pos (by rfl)]
        go_simp
        refine hK.out _ _ hHeld (fun hHeld => ?_)
        clear hK K
        refine pure_ (i := 17) (N := (some 98)) (v := ?_) (a' := ?_) #[true, true, true, true, true, true, true, true, true, true, true, true, true, true, true, true, true, true, false, false] rfl rfl (by kernel_rfl) (fun _ _ _ h => h) (Or.inl ⟨by rfl, ?_⟩) ?_ ?_
        rotate_left
        · intro w'
          go_simp
          try with_reducible rfl
        rotate_left
        · simp only [Act.put, List.setIfInBounds_toArray, List.set_cons_zero, List.set_cons_succ]
          rfl
        refine pure_ (i := 18) (N := (some 99)) (v := ?_) (a' := ?_) #[true, true, true, true, true, true, true, true, true, true, true, true, true, true, true, true, true, true, true, false] rfl rfl (by kernel_rfl) (fun _ _ _ h => h) (Or.inl ⟨by rfl, ?_⟩) ?_ ?_
        rotate_left
        · intro w'
          go_simp
          try with_reducible rfl
        rotate_left
        · simp only [Act.put, List.setIfInBounds_toArray, List.set_cons_zero, List.set_cons_succ]
          rfl
        refine pure_ (i := 19) (N := (some 8)) (v := ?_) (a' := ?_) #[true, true, true, true, true, true, true, true, true, true, true, true, true, true, true, true, true, true, true, true] rfl rfl (by kernel_rfl) (fun _ _ _ h => h) (Or.inl ⟨by rfl, ?_⟩) ?_ ?_
        rotate_left
        · intro w'
          go_simp
          try with_reducible rfl
        rotate_left
        · simp only [Act.put, List.setIfInBounds_toArray, List.set_cons_zero, List.set_cons_succ]
          rfl
        refine done_ (by kernel_rfl) ?_
        have HF := Lib.hid HB8.out
        clear hHeld HSt HT0 HRA HC8 HB8
        go_wp2_with fail
        go_ret
        exact ⟨rfl, below_step HT5.out.2 HF.out⟩
      · have hd3 : decide ((b.length : Int) < t) = false := decide_eq_false g3
        have hP : place b S t = (plc t T 0, 0) := by rw [HPL2.out, if_neg (by omega)]
        rw [hP]
        have HRP := Lib.hid (HRP.out (by omega) (by omega))
        clear hP HPL2
        generalize plc t T 0 = y at *
        have HSt := Lib.hid (show ∀ W : World, Below w5.heap.size w5 W → ((convert 22 9 (.slice A5 X.length c5)).run Try.prog W = .ok (.string (strOfNums X)) W ∧ Hid (Below w5.heap.size w5 W)) from fun W h => ⟨conv_C (c := c5) (Kd.C_below HC5.out h), Lib.hid h⟩)
        have HT0 := Lib.hid (HSt.out _ (below_drew1 (Below.refl w5.heap.size w5)))
        go_upto_region 15 with fail
        refine start_ (n := 23) (S := (fun W => (convert 22 9 (.slice A5 X.length c5)).run Try.prog W = .ok (.string (strOfNums X)) W ∧ Hid (Below w5.heap.size w5 W))) (ds := []) #[false, false, false, false, false, false, false, false, false, false, false, false, false, false, false, false, false, false, false, false, false, false, false] (by kernel_rfl) rfl rfl (HT0.out) (fun hHeld => ?_)
        refine pure_ (i := 0) (N := (some 100)) (v := ?_) (a' := ?_) #[true, false, false, false, false, false, false, false, false, false, false, false, false, false, false, false, false, false, false, false, false, false, false] rfl rfl (by kernel_rfl) (fun _ _ _ h => h) (Or.inl ⟨by rfl, ?_⟩) ?_ ?_
        rotate_left
        · intro w'
          go_simp
          try with_reducible rfl
        rotate_left
        · simp only [Act.put, List.setIfInBounds_toArray, List.set_cons_zero, List.set_cons_succ]
          rfl
        refine pure_ (i := 1) (N := (some 101)) (v := ?_) (a' := ?_) #[true, true, false, false, false, false, false, false, false, false, false, false, false, false, false, false, false, false, false, false, false, false, false] rfl rfl (by kernel_rfl) (fun _ _ _ h => h) (Or.inl ⟨by rfl, ?_⟩) ?_ ?_
        rotate_left
        · intro w'
          go_simp
          try with_reducible rfl
        rotate_left
        · simp only [Act.put, List.setIfInBounds_toArray, List.set_cons_zero, List.set_cons_succ]
          rfl
        refine pure_ (i := 2) (N := (some 102)) (v := ?_) (a' := ?_) #[true, true, true, false, false, false, false, false, false, false, false, false, false, false, false, false, false, false, false, false, false, false, false] rfl rfl (by kernel_rfl) (fun _ _ _ h => h) (Or.inl ⟨by rfl, ?_⟩) ?_ ?_
        rotate_left
        · intro w'
          go_simp
          try with_reducible rfl
        rotate_left
        · simp only [Act.put, List.setIfInBounds_toArray, List.set_cons_zero, List.set_cons_succ]
          rfl
        refine pure_ (i := 3) (N := (some 103)) (v := ?_) (a' := ?_) #[true, true, true, true, false, false, false, false, false, false, false, false, false, false, false, false, false, false, false, false, false, false, false] rfl rfl (by kernel_rfl) (fun _ _ _ h => h) (Or.inl ⟨by rfl, ?_⟩) ?_ ?_
        rotate_left
        · intro w'
          go_simp
          try with_reducible rfl
        rotate_left
        · simp only [Act.put, List.setIfInBounds_toArray, List.set_cons_zero, List.set_cons_succ]
          rfl
        refine pure_ (i := 4) (N := (some 104)) (v := ?_) (a' := ?_) #[true, true, true, true, true, false, false, false, false, false, false, false, false, false, false, false, false, false, false, false, false, false, false] rfl rfl (by kernel_rfl) (fun _ _ _ h => h) (Or.inl ⟨by rfl, ?_⟩) ?_ ?_
        rotate_left
        · intro w'
          go_simp
          try with_reducible rfl
        rotate_left
        · simp only [Act.put, List.setIfInBounds_toArray, List.set_cons_zero, List.set_cons_succ]
          rfl
        refine pure_ (i := 5) (N := (some 105)) (v := ?_) (a' := ?_) #[true, true, true, true, true, true, false, false, false, false, false, false, false, false, false, false, false, false, false, false, false, false, false] rfl rfl (by kernel_rfl) (fun _ _ _ h => h) (Or.inl ⟨by rfl, ?_⟩) ?_ ?_
        rotate_left
        · intro w'
          go_simp
          try with_reducible rfl
        rotate_left
        · simp only [Act.put, List.setIfInBounds_toArray, List.set_cons_zero, List.set_cons_succ]
          rfl
        refine pure_ (i := 6) (N := (some 106)) (v := ?_) (a' := ?_) #[true, true, true, true, true, true, true, false, false, false, false, false, false, false, false, false, false, false, false, false, false, false, false] rfl rfl (by kernel_rfl) (fun _ _ _ h => h) (Or.inl ⟨by rfl, ?_⟩) ?_ ?_
        rotate_left
        · intro w'
          go_simp
          try with_reducible rfl
        rotate_left
        · simp only [Act.put, List.setIfInBounds_toArray, List.set_cons_zero, List.set_cons_succ]
          rfl
        refine pure_ (i := 7) (N := (some 107)) (v := ?_) (a' := ?_) #[true, true, true, true, true, true, true, true, false, false, false, false, false, false, false, false, false, false, false, false, false, false, false] rfl rfl (by kernel_rfl) (fun _ _ _ h => h) (Or.inl ⟨by rfl, ?_⟩) ?_ ?_
        rotate_left
        · intro w'
          go_simp
          try with_reducible rfl
        rotate_left
        · simp only [Act.put, List.setIfInBounds_toArray, List.set_cons_zero, List.set_cons_succ]
          rfl
        refine take_ (i := 8) (N := (some 108)) (v := ?_) (a' := ?_) #[true, true, true, true, true, true, true, true, true, false, false, false, false, false, false, false, false, false, false, false, false, false, false] rfl rfl (by kernel_rfl) (fun _ _ _ h => h) (Or.inl ⟨by rfl, ?_⟩) hHeld ?_ ?_
        rotate_left
        · intro w' ⟨s0, s1⟩
          go_simp
          try with_reducible rfl
        rotate_left
        · simp only [Act.put, List.setIfInBounds_toArray, List.set_cons_zero, List.set_cons_succ]
          rfl
        refine pure_ (i := 9) (N := (some 109)) (v := ?_) (a' := ?_) #[true, true, true, true, true, true, true, true, true, true, false, false, false, false, false, false, false, false, false, false, false, false, false] rfl rfl (by kernel_rfl) (fun _ _ _ h => h) (Or.inl ⟨by rfl, ?_⟩) ?_ ?_
        rotate_left
        · intro w'
          go_simp
          try with_reducible rfl
        rotate_left
        · simp only [Act.put, List.setIfInBounds_toArray, List.set_cons_zero, List.set_cons_succ]
          rfl
        refine pure_ (i := 10) (N := (some 110)) (v := ?_) (a' := ?_) #[true, true, true, true, true, true, true, true, true, true, true, false, false, false, false, false, false, false, false, false, false, false, false] rfl rfl (by kernel_rfl) (fun _ _ _ h => h) (Or.inl ⟨by rfl, ?_⟩) ?_ ?_
        rotate_left
        · intro w'
          go_simp
          try with_reducible rfl
        rotate_left
        · simp only [Act.put, List.setIfInBounds_toArray, List.set_cons_zero, List.set_cons_succ]
          rfl
        refine one_ (i := 11) (N := (some 111)) #[true, true, true, true, true, true, true, true, true, true, true, true, false, false, false, false, false, false, false, false, false, false, false] rfl rfl (by kernel_rfl) (by decide) (fun K hK => ?_)
        refine goes_ Try.func17 (by kernel_rfl) rfl #[.slice A b.length c, v3] (by rfl) rfl rfl (by (try simp only [List.map_toArray, List.map_cons, List.map_nil]); first | done | rfl) ?_
        refine (HRA.out _ hHeld.2.out).mono ?_
        rintro e w8 ⟨v8, rfl, ho8⟩
        obtain ⟨A8, c8, rfl, _, hC8⟩ := ho8.form
        have HC8 := Lib.hid hC8
        have HB8 := Lib.hid (below_step hHeld.2.out ho8.bel)
        clear ho8 hC8
        refine ⟨_, rfl, hK.out _ _ (HSt.out _ HB8.out) (fun hHeld => ?_)⟩
        clear hK K
        refine norm_ (a' := ?_) ?_ ?_
        rotate_left
        · show Act.put _ (some 111) _ = _
          simp only [Act.put, List.setIfInBounds_toArray, List.set_cons_zero, List.set_cons_succ]
          rfl
        refine one_ (i := 12) (N := (some 112)) #[true, true, true, true, true, true, true, true, true, true, true, true, true, false, false, false, false, false, false, false, false, false, false] rfl rfl (by kernel_rfl) (by decide) (fun K hK => ?_)
        have hcv8 := conv_C (c := c8) HC8.out
        rw [if_pos (by rfl)]
        go_simp
        refine hK.out _ _ hHeld (fun hHeld => ?_)
        clear hK K
        refine pure_ (i := 13) (N := (some 113)) (v := ?_) (a' := ?_) #[true, true, true, true, true, true, true, true, true, true, true, true, true, true, false, false, false, false, false, false, false, false, false] rfl rfl (by kernel_rfl) (fun _ _ _ h => h) (Or.inl ⟨by rfl, ?_⟩) ?_ ?_
        rotate_left
        · intro w'
          go_simp
          try with_reducible rfl
        rotate_left
        · simp only [Act.put, List.setIfInBounds_toArray, List.set_cons_zero, List.set_cons_succ]
          rfl
        refine pure_ (i := 14) (N := (some 114)) (v := ?_) (a' := ?_) #[true, true, true, true, true, true, true, true, true, true, true, true, true, true, true, false, false, false, false, false, false, false, false] rfl rfl (by kernel_rfl) (fun _ _ _ h => h) (Or.inl ⟨by rfl, ?_⟩) ?_ ?_
        rotate_left
        · intro w'
          go_simp
          try with_reducible rfl
        rotate_left
        · simp only [Act.put, List.setIfInBounds_toArray, List.set_cons_zero, List.set_cons_succ]
          rfl
        refine pure_ (i := 15) (N := (some 115)) (v := ?_) (a' := ?_) #[true, true, true, true, true, true, true, true, true, true, true, true, true, true, true, true, false, false, false, false, false, false, false] rfl rfl (by kernel_rfl) (fun _ _ _ h => h) (Or.inl ⟨by rfl, ?_⟩) ?_ ?_
        rotate_left
        · intro w'
          go_simp
          try with_reducible rfl
        rotate_left
        · simp only [Act.put, List.setIfInBounds_toArray, List.set_cons_zero, List.set_cons_succ]
          rfl
        refine pure_ (i := 16) (N := (some 116)) (v := ?_) (a' := ?_) #[true, true, true, true, true, true, true, true, true, true, true, true, true, true, true, true, true, false, false, false, false, false, false] rfl rfl (by kernel_rfl) (fun _ _ _ h => h) (Or.inl ⟨by rfl, ?_⟩) ?_ ?_
        rotate_left
        · intro w'
          go_simp
          try with_reducible rfl
        rotate_left
        · simp only [Act.put, List.setIfInBounds_toArray, List.set_cons_zero, List.set_cons_succ]
          rfl
        refine pure_ (i := 17) (N := (some 117)) (v := ?_) (a' := ?_) #[true, true, true, true, true, true, true, true, true, true, true, true, true, true, true, true, true, true, false, false, false, false, false] rfl rfl (by kernel_rfl) (fun _ _ _ h => h) (Or.inl ⟨by rfl, ?_⟩) ?_ ?_
        rotate_left
        · intro w'
          go_simp
          try with_reducible rfl
        rotate_left
        · simp only [Act.put, List.setIfInBounds_toArray, List.set_cons_zero, List.set_cons_succ]
          rfl
        refine pure_ (i := 18) (N := (some 118)) (v := ?_) (a' := ?_) #[true, true, true, true, true, true, true, true, true, true, true, true, true, true, true, true, true, true, true, false, false, false, false] rfl rfl (by kernel_rfl) (fun _ _ _ h => h) (Or.inl ⟨by rfl, ?_⟩) ?_ ?_
        rotate_left
        · intro w'
          go_simp
          try with_reducible rfl
        rotate_left
        · simp only [Act.put, List.setIfInBounds_toArray, List.set_cons_zero, List.set_cons_succ]
          rfl
        refine one_ (i := 19) (N := (some 119)) #[true, true, true, true, true, true, true, true, true, true, true, true, true, true, true, true, true, true, true, true, false, false, false] rfl rfl (by kernel_rfl) (by decide) (fun K hK => ?_)
        refine goes_ Try.func18 (by kernel_rfl) rfl #[v3, .int .i64 t] (by rfl) rfl rfl (by (try simp only [List.map_toArray, List.map_cons, List.map_nil]); first | done | rfl) ?_
        refine (HRP.out _ hHeld.2.out).mono ?_
        rintro e w9 ⟨rfl, hb9⟩
        have HB9 := Lib.hid (below_step hHeld.2.out hb9)
        clear hb9
        refine ⟨_, rfl, hK.out _ _ (HSt.out _ HB9.out) (fun hHeld => ?_)⟩
        clear hK K
        refine norm_ (a' := ?_) ?_ ?_
        rotate_left
        · show Act.put _ (some 119) _ = _
          simp only [Act.put, List.setIfInBounds_toArray, List.set_cons_zero, List.set_cons_succ]
          rfl
        refine pure_ (i := 20) (N := (some 120)) (v := ?_) (a' := ?_) #[true, true, true, true, true, true, true, true, true, true, true, true, true, true, true, true, true, true, true, true, true, false, false] rfl rfl (by kernel_rfl) (fun _ _ _ h => h) (Or.inl ⟨by rfl, ?_⟩) ?_ ?_
        rotate_left
        · intro w'
          go_simp
          try with_reducible rfl
        rotate_left
        · simp only [Act.put, List.setIfInBounds_toArray, List.set_cons_zero, List.set_cons_succ]
          rfl
        refine pure_ (i := 21) (N := (some 121)) (v := ?_) (a' := ?_) #[true, true, true, true, true, true, true, true, true, true, true, true, true, true, true, true, true, true, true, true, true, true, false] rfl rfl (by kernel_rfl) (fun _ _ _ h => h) (Or.inl ⟨by rfl, ?_⟩) ?_ ?_
        rotate_left
        · intro w'
          go_simp
          try with_reducible rfl
        rotate_left
        · simp only [Act.put, List.setIfInBounds_toArray, List.set_cons_zero, List.set_cons_succ]
          rfl
        refine pure_ (i := 22) (N := (some 8)) (v := ?_) (a' := ?_) #[true, true, true, true, true, true, true, true, true, true, true, true, true, true, true, true, true, true, true, true, true, true, true] rfl rfl (by kernel_rfl) (fun _ _ _ h => h) (Or.inl ⟨by rfl, ?_⟩) ?_ ?_
        rotate_left
        · intro w'
          go_simp
          try with_reducible rfl
        rotate_left
        · simp only [Act.put, List.setIfInBounds_toArray, List.set_cons_zero, List.set_cons_succ]
          rfl
        refine done_ (by kernel_rfl) ?_
        have HF := Lib.hid HB9.out
        clear hHeld HSt HT0 HRA HRP HC8 HB8 HB9
        go_wp2_with fail
        go_ret
        exact ⟨rfl, below_step HT5.out.2 HF.out⟩
  · have hk1 : (k != 0) = true := by rw [bne_iff_ne]; exact hk0
    have HX := Lib.hid (show applyR b S = [] from by rw [HAR.out, if_neg hk0])
    have HPv := Lib.hid (show place b S t = (0, k) from by rw [HPL.out, if_neg hk0])
    rw [HX.out] at HO5
    rw [HPv.out]
    obtain ⟨A5, c5, rfl, _, _⟩ := HO5.out.form
    clear HAR HPL HOK HX HPv HO5
    go_upto_region 12 with fail
    go_wp2_with fail
    go_ret
    exact ⟨rfl, HT5.out.2⟩
end Go.Proofs.Ytgcjkijndibejaa.Srt
namespace Go.Proofs.Ytgcjkijndibejaa.Wk.EditsApply
open Go.RowKit Go.Proofs.YtgcjkijndibejaaW.PrintWords Go.Proofs.Ytgcjkijndibejaa.Srt
theorem walk (A : Option Addr) (c : Nat) (b : List Int) (A1 : Option Addr) (c1 : Nat) (es : List Ed) (r t : Int) (w : World) (hC : Kd.C (Kd.int .u8) w A b.length b) (hc : b.length ≤ c) (hg : Bys b ∧ b.length ≤ 140737488351232) (hE : Kd.C kE w A1 es.length es) (hc1 : es.length ≤ c1) (hl : es.length ≤ 140737488351232) (hr : (Lit.int .u8 r).wf = true) (ht : (Lit.int .i64 t).wf = true) :
    Calls Try.prog 4 #[.slice A b.length c, .slice A1 es.length c1, .int .u8 r, .int .i64 t] w fun e w' => e = .returned (.bool true) ∧ Below w.heap.size w w' := by
  obtain ⟨r, rfl, hr2⟩ := u8_of hr
  simp only [Lit.wf, Bool.and_eq_true, decide_eq_true_eq] at ht
  have e1 : IntKind.i64.min = -9223372036854775808 := rfl
  have e2 : IntKind.i64.max = 9223372036854775807 := rfl
  exact editsApply_any A c b A1 c1 es r t w hC hc hg.2 hE hc1 hl hr2 (by omega)
end Go.Proofs.Ytgcjkijndibejaa.Wk.EditsApply
