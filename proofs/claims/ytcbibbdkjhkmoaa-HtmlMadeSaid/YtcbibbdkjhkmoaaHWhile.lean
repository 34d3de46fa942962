/- while, walked once for each function that it is handed. Conditions: as each lemma says. -/
import Derived.Test.YtcbibbdkjhkmoaaHScan
set_option linter.unusedVariables false
set_option linter.unusedSimpArgs false
namespace Go.Proofs.Ytcbibbdkjhkmoaa.H
open Go.RowKit Go.Proofs.YtcbibbdkjhkmoaaW.PrintWords Go.Proofs.Ytcbibbdkjhkmoaa.L Go.Proofs.Ytcbibbdkjhkmoaa.S Go.Proofs.Ytcbibbdkjhkmoaa.Htm

set_option maxRecDepth 100000 in
set_option maxHeartbeats 2000000 in
theorem while_name (w0 : World) (s : Nat) (A : Option Addr) (c : Nat) (b : List Int) (P : Int → Bool) (I : World → Prop) (hI : ∀ W W', I W → W.grownBy W' (some s) → I W')
    (hk : ∀ (x : Int) (W : World), 0 ≤ x → x < 256 → I W → Calls Try.prog 41 #[.int .u8 x] W fun e w' => e = .returned (.bool (P x)) ∧ ∃ n, w' = W.drewN n)
    (p : Nat) (W : World) (h : Sc w0 W s A c b p) (hi : I W) :
    Calls Try.prog 40 #[.pointer (some ⟨s, 0, none⟩), .func (.func 41) #[] #[]] W fun e w' => (∃ A', e = .returned (.slice A' (whl P b p - p) (c - p)) ∧ Kd.C (Kd.int .u8) w0 A' (whl P b p - p) ((b.drop p).take (whl P b p - p))) ∧ Sc w0 w' s A c b (whl P b p) ∧ W.grownBy w' (some s) := by
  have HS := Lib.hid h
  have HI := Lib.hid hi
  have HII := Lib.hid hI
  have HK := Lib.hid hk
  have a0 := h.c0
  have a1 := h.c1
  clear h hi hI hk
  go_enter Try.func40, Try.ntmps40
  go_wp2_with fail
  go_loopg [] (b.length - p) (fun gn wr => ∃ q : Nat, q ≤ b.length ∧ Hid (Sc w0 wr s A c b q ∧ I wr ∧ W.grownBy wr (some s) ∧ whl P b q = whl P b p ∧ gn = b.length - q))
  case atStart => exact ⟨p, HS.out.lp, HS.out, HI.out, grown_drewN W 0 _, rfl, rfl⟩
  case round =>
    obtain ⟨q, hq, HQ⟩ := hrel
    clear a0 a1
    have b0 := HQ.out.1.c0
    have b1 := HQ.out.1.c1
    by_cases hlt : q < b.length
    · have hd : decide ((q : Int) < (b.length : Int)) = true := by simp; omega
      obtain ⟨ad, rfl, hcell⟩ := HQ.out.1.at_ hlt
      have hx := HQ.out.1.bys _ (show b.getD q 0 ∈ b from by rw [List.getD_eq_getElem?_getD, List.getElem?_eq_getElem hlt]; exact List.getElem_mem _)
      generalize hxx : b.getD q 0 = x at *
      have HX := Lib.hid hxx
      clear hxx
      have HK1 := Lib.hid (HK.out x wr.drew hx.1 hx.2 (HII.out _ _ HQ.out.2.1 (grown_drew _ _)))
      go_wp2_with fail
      go_region_held3 (fun w' => w'.cell? ⟨s, 0, none⟩ = some (.slice (some ad) b.length c) ∧ w'.cell? ⟨s, 1, none⟩ = some (.int .i64 q) ∧ w'.cell? (ad.add q) = some (.int .u8 x))
        (first | exact ⟨b0, b1, hcell⟩ | go_keep)
        (first | (go_at_call 41; refine HK1.out.mono ?_; rintro e w2 ⟨rfl, n2, rfl⟩))
      have hf1 := HQ.out.1.f1
      cases hP : P x with
      | true =>
        go_wp2_with fail
        go_roundg (b.length - (q + 1))
        case measure => have := HQ.out.2.2.2.2; omega
        case rel =>
          have hw : wrap64 ((q : Int) + 1) = ((q + 1 : Nat) : Int) := by have := HQ.out.1.max; unfold wrap64; omega
          rw [hw]
          refine ⟨q + 1, hlt, (HQ.out.1.drewN _).move (q + 1) hlt, HII.out _ _ (HII.out _ _ HQ.out.2.1 (grown_drewN _ _ _)) (grown_set _ _ _ _), grown_trans (grown_trans HQ.out.2.2.1 (grown_drewN _ _ _)) (grown_set _ _ _ _), ?_, rfl⟩
          rw [← HQ.out.2.2.2.1, whl_yes P b q hlt (by rw [HX.out]; exact hP)]
      | false =>
        have hq1 := HQ.out.2.2.2.1
        rw [whl_no P b q hlt (by rw [HX.out]; exact hP)] at hq1
        have hct := cut_b (some ad) b.length c p q (by have := whl_ge P b p; omega) hq HQ.out.1.lc
        have HCm := Lib.hid (C_mid HQ.out.1.C HQ.out.1.lc p q (by have := whl_ge P b p; omega) hq)
        have HQ1 := Lib.hid hq1
        clear hq1
        generalize (if c = p then some ad else Option.map (fun x => x.add (p * 1)) (some ad)) = A2 at *
        go_wp2_with fail
        go_region_held3 (fun w' => w'.cell? ⟨s, 0, none⟩ = some (.slice (some ad) b.length c) ∧ w'.cell? ⟨s, 1, none⟩ = some (.int .i64 q))
          (first | exact ⟨b0, b1⟩ | go_keep)
          (fail)
        go_wp2_with fail
        go_ret
        rw [← HQ1.out]
        exact ⟨⟨_, rfl, HCm.out⟩, (HQ.out.1.drewN _).drew, grown_trans (grown_trans HQ.out.2.2.1 (grown_drewN _ _ _)) (grown_drew _ _)⟩
    · obtain rfl : q = b.length := by omega
      have hd : decide ((b.length : Int) < (b.length : Int)) = false := by simp
      have hq1 := HQ.out.2.2.2.1
      rw [whl_end] at hq1
      have hct := cut_b A b.length c p b.length (by have := whl_ge P b p; omega) hq HQ.out.1.lc
      have HCm := Lib.hid (C_mid HQ.out.1.C HQ.out.1.lc p b.length (by have := whl_ge P b p; omega) hq)
      have HQ1 := Lib.hid hq1
      clear hq1
      generalize (if c = p then A else Option.map (fun x => x.add (p * 1)) A) = A2 at *
      go_wp2_with fail
      go_quiet (fail)
      go_wp2_with fail
      go_quiet (fail)
      go_wp2_with fail
      go_ret
      rw [← HQ1.out]
      exact ⟨⟨_, rfl, HCm.out⟩, (HQ.out.1.drewN _).drewN _, grown_trans (grown_trans HQ.out.2.2.1 (grown_drewN _ _ _)) (grown_drewN _ _ _)⟩

set_option maxRecDepth 100000 in
set_option maxHeartbeats 2000000 in
theorem while_blank (w0 : World) (s : Nat) (A : Option Addr) (c : Nat) (b : List Int) (P : Int → Bool) (I : World → Prop) (hI : ∀ W W', I W → W.grownBy W' (some s) → I W')
    (hk : ∀ (x : Int) (W : World), 0 ≤ x → x < 256 → I W → Calls Try.prog 43 #[.int .u8 x] W fun e w' => e = .returned (.bool (P x)) ∧ ∃ n, w' = W.drewN n)
    (p : Nat) (W : World) (h : Sc w0 W s A c b p) (hi : I W) :
    Calls Try.prog 40 #[.pointer (some ⟨s, 0, none⟩), .func (.func 43) #[] #[]] W fun e w' => (∃ A', e = .returned (.slice A' (whl P b p - p) (c - p)) ∧ Kd.C (Kd.int .u8) w0 A' (whl P b p - p) ((b.drop p).take (whl P b p - p))) ∧ Sc w0 w' s A c b (whl P b p) ∧ W.grownBy w' (some s) := by
  have HS := Lib.hid h
  have HI := Lib.hid hi
  have HII := Lib.hid hI
  have HK := Lib.hid hk
  have a0 := h.c0
  have a1 := h.c1
  clear h hi hI hk
  go_enter Try.func40, Try.ntmps40
  go_wp2_with fail
  go_loopg [] (b.length - p) (fun gn wr => ∃ q : Nat, q ≤ b.length ∧ Hid (Sc w0 wr s A c b q ∧ I wr ∧ W.grownBy wr (some s) ∧ whl P b q = whl P b p ∧ gn = b.length - q))
  case atStart => exact ⟨p, HS.out.lp, HS.out, HI.out, grown_drewN W 0 _, rfl, rfl⟩
  case round =>
    obtain ⟨q, hq, HQ⟩ := hrel
    clear a0 a1
    have b0 := HQ.out.1.c0
    have b1 := HQ.out.1.c1
    by_cases hlt : q < b.length
    · have hd : decide ((q : Int) < (b.length : Int)) = true := by simp; omega
      obtain ⟨ad, rfl, hcell⟩ := HQ.out.1.at_ hlt
      have hx := HQ.out.1.bys _ (show b.getD q 0 ∈ b from by rw [List.getD_eq_getElem?_getD, List.getElem?_eq_getElem hlt]; exact List.getElem_mem _)
      generalize hxx : b.getD q 0 = x at *
      have HX := Lib.hid hxx
      clear hxx
      have HK1 := Lib.hid (HK.out x wr.drew hx.1 hx.2 (HII.out _ _ HQ.out.2.1 (grown_drew _ _)))
      go_wp2_with fail
      go_region_held3 (fun w' => w'.cell? ⟨s, 0, none⟩ = some (.slice (some ad) b.length c) ∧ w'.cell? ⟨s, 1, none⟩ = some (.int .i64 q) ∧ w'.cell? (ad.add q) = some (.int .u8 x))
        (first | exact ⟨b0, b1, hcell⟩ | go_keep)
        (first | (go_at_call 43; refine HK1.out.mono ?_; rintro e w2 ⟨rfl, n2, rfl⟩))
      have hf1 := HQ.out.1.f1
      cases hP : P x with
      | true =>
        go_wp2_with fail
        go_roundg (b.length - (q + 1))
        case measure => have := HQ.out.2.2.2.2; omega
        case rel =>
          have hw : wrap64 ((q : Int) + 1) = ((q + 1 : Nat) : Int) := by have := HQ.out.1.max; unfold wrap64; omega
          rw [hw]
          refine ⟨q + 1, hlt, (HQ.out.1.drewN _).move (q + 1) hlt, HII.out _ _ (HII.out _ _ HQ.out.2.1 (grown_drewN _ _ _)) (grown_set _ _ _ _), grown_trans (grown_trans HQ.out.2.2.1 (grown_drewN _ _ _)) (grown_set _ _ _ _), ?_, rfl⟩
          rw [← HQ.out.2.2.2.1, whl_yes P b q hlt (by rw [HX.out]; exact hP)]
      | false =>
        have hq1 := HQ.out.2.2.2.1
        rw [whl_no P b q hlt (by rw [HX.out]; exact hP)] at hq1
        have hct := cut_b (some ad) b.length c p q (by have := whl_ge P b p; omega) hq HQ.out.1.lc
        have HCm := Lib.hid (C_mid HQ.out.1.C HQ.out.1.lc p q (by have := whl_ge P b p; omega) hq)
        have HQ1 := Lib.hid hq1
        clear hq1
        generalize (if c = p then some ad else Option.map (fun x => x.add (p * 1)) (some ad)) = A2 at *
        go_wp2_with fail
        go_region_held3 (fun w' => w'.cell? ⟨s, 0, none⟩ = some (.slice (some ad) b.length c) ∧ w'.cell? ⟨s, 1, none⟩ = some (.int .i64 q))
          (first | exact ⟨b0, b1⟩ | go_keep)
          (fail)
        go_wp2_with fail
        go_ret
        rw [← HQ1.out]
        exact ⟨⟨_, rfl, HCm.out⟩, (HQ.out.1.drewN _).drew, grown_trans (grown_trans HQ.out.2.2.1 (grown_drewN _ _ _)) (grown_drew _ _)⟩
    · obtain rfl : q = b.length := by omega
      have hd : decide ((b.length : Int) < (b.length : Int)) = false := by simp
      have hq1 := HQ.out.2.2.2.1
      rw [whl_end] at hq1
      have hct := cut_b A b.length c p b.length (by have := whl_ge P b p; omega) hq HQ.out.1.lc
      have HCm := Lib.hid (C_mid HQ.out.1.C HQ.out.1.lc p b.length (by have := whl_ge P b p; omega) hq)
      have HQ1 := Lib.hid hq1
      clear hq1
      generalize (if c = p then A else Option.map (fun x => x.add (p * 1)) A) = A2 at *
      go_wp2_with fail
      go_quiet (fail)
      go_wp2_with fail
      go_quiet (fail)
      go_wp2_with fail
      go_ret
      rw [← HQ1.out]
      exact ⟨⟨_, rfl, HCm.out⟩, (HQ.out.1.drewN _).drewN _, grown_trans (grown_trans HQ.out.2.2.1 (grown_drewN _ _ _)) (grown_drewN _ _ _)⟩

set_option maxRecDepth 100000 in
set_option maxHeartbeats 2000000 in
theorem while_gap (w0 : World) (s : Nat) (A : Option Addr) (c : Nat) (b : List Int) (P : Int → Bool) (I : World → Prop) (hI : ∀ W W', I W → W.grownBy W' (some s) → I W')
    (hk : ∀ (x : Int) (W : World), 0 ≤ x → x < 256 → I W → Calls Try.prog 42 #[.int .u8 x] W fun e w' => e = .returned (.bool (P x)) ∧ ∃ n, w' = W.drewN n)
    (p : Nat) (W : World) (h : Sc w0 W s A c b p) (hi : I W) :
    Calls Try.prog 40 #[.pointer (some ⟨s, 0, none⟩), .func (.func 42) #[] #[]] W fun e w' => (∃ A', e = .returned (.slice A' (whl P b p - p) (c - p)) ∧ Kd.C (Kd.int .u8) w0 A' (whl P b p - p) ((b.drop p).take (whl P b p - p))) ∧ Sc w0 w' s A c b (whl P b p) ∧ W.grownBy w' (some s) := by
  have HS := Lib.hid h
  have HI := Lib.hid hi
  have HII := Lib.hid hI
  have HK := Lib.hid hk
  have a0 := h.c0
  have a1 := h.c1
  clear h hi hI hk
  go_enter Try.func40, Try.ntmps40
  go_wp2_with fail
  go_loopg [] (b.length - p) (fun gn wr => ∃ q : Nat, q ≤ b.length ∧ Hid (Sc w0 wr s A c b q ∧ I wr ∧ W.grownBy wr (some s) ∧ whl P b q = whl P b p ∧ gn = b.length - q))
  case atStart => exact ⟨p, HS.out.lp, HS.out, HI.out, grown_drewN W 0 _, rfl, rfl⟩
  case round =>
    obtain ⟨q, hq, HQ⟩ := hrel
    clear a0 a1
    have b0 := HQ.out.1.c0
    have b1 := HQ.out.1.c1
    by_cases hlt : q < b.length
    · have hd : decide ((q : Int) < (b.length : Int)) = true := by simp; omega
      obtain ⟨ad, rfl, hcell⟩ := HQ.out.1.at_ hlt
      have hx := HQ.out.1.bys _ (show b.getD q 0 ∈ b from by rw [List.getD_eq_getElem?_getD, List.getElem?_eq_getElem hlt]; exact List.getElem_mem _)
      generalize hxx : b.getD q 0 = x at *
      have HX := Lib.hid hxx
      clear hxx
      have HK1 := Lib.hid (HK.out x wr.drew hx.1 hx.2 (HII.out _ _ HQ.out.2.1 (grown_drew _ _)))
      go_wp2_with fail
      go_region_held3 (fun w' => w'.cell? ⟨s, 0, none⟩ = some (.slice (some ad) b.length c) ∧ w'.cell? ⟨s, 1, none⟩ = some (.int .i64 q) ∧ w'.cell? (ad.add q) = some (.int .u8 x))
        (first | exact ⟨b0, b1, hcell⟩ | go_keep)
        (first | (go_at_call 42; refine HK1.out.mono ?_; rintro e w2 ⟨rfl, n2, rfl⟩))
      have hf1 := HQ.out.1.f1
      cases hP : P x with
      | true =>
        go_wp2_with fail
        go_roundg (b.length - (q + 1))
        case measure => have := HQ.out.2.2.2.2; omega
        case rel =>
          have hw : wrap64 ((q : Int) + 1) = ((q + 1 : Nat) : Int) := by have := HQ.out.1.max; unfold wrap64; omega
          rw [hw]
          refine ⟨q + 1, hlt, (HQ.out.1.drewN _).move (q + 1) hlt, HII.out _ _ (HII.out _ _ HQ.out.2.1 (grown_drewN _ _ _)) (grown_set _ _ _ _), grown_trans (grown_trans HQ.out.2.2.1 (grown_drewN _ _ _)) (grown_set _ _ _ _), ?_, rfl⟩
          rw [← HQ.out.2.2.2.1, whl_yes P b q hlt (by rw [HX.out]; exact hP)]
      | false =>
        have hq1 := HQ.out.2.2.2.1
        rw [whl_no P b q hlt (by rw [HX.out]; exact hP)] at hq1
        have hct := cut_b (some ad) b.length c p q (by have := whl_ge P b p; omega) hq HQ.out.1.lc
        have HCm := Lib.hid (C_mid HQ.out.1.C HQ.out.1.lc p q (by have := whl_ge P b p; omega) hq)
        have HQ1 := Lib.hid hq1
        clear hq1
        generalize (if c = p then some ad else Option.map (fun x => x.add (p * 1)) (some ad)) = A2 at *
        go_wp2_with fail
        go_region_held3 (fun w' => w'.cell? ⟨s, 0, none⟩ = some (.slice (some ad) b.length c) ∧ w'.cell? ⟨s, 1, none⟩ = some (.int .i64 q))
          (first | exact ⟨b0, b1⟩ | go_keep)
          (fail)
        go_wp2_with fail
        go_ret
        rw [← HQ1.out]
        exact ⟨⟨_, rfl, HCm.out⟩, (HQ.out.1.drewN _).drew, grown_trans (grown_trans HQ.out.2.2.1 (grown_drewN _ _ _)) (grown_drew _ _)⟩
    · obtain rfl : q = b.length := by omega
      have hd : decide ((b.length : Int) < (b.length : Int)) = false := by simp
      have hq1 := HQ.out.2.2.2.1
      rw [whl_end] at hq1
      have hct := cut_b A b.length c p b.length (by have := whl_ge P b p; omega) hq HQ.out.1.lc
      have HCm := Lib.hid (C_mid HQ.out.1.C HQ.out.1.lc p b.length (by have := whl_ge P b p; omega) hq)
      have HQ1 := Lib.hid hq1
      clear hq1
      generalize (if c = p then A else Option.map (fun x => x.add (p * 1)) A) = A2 at *
      go_wp2_with fail
      go_quiet (fail)
      go_wp2_with fail
      go_quiet (fail)
      go_wp2_with fail
      go_ret
      rw [← HQ1.out]
      exact ⟨⟨_, rfl, HCm.out⟩, (HQ.out.1.drewN _).drewN _, grown_trans (grown_trans HQ.out.2.2.1 (grown_drewN _ _ _)) (grown_drewN _ _ _)⟩

set_option maxRecDepth 100000 in
set_option maxHeartbeats 2000000 in
theorem while_key (w0 : World) (s : Nat) (A : Option Addr) (c : Nat) (b : List Int) (P : Int → Bool) (I : World → Prop) (hI : ∀ W W', I W → W.grownBy W' (some s) → I W')
    (hk : ∀ (x : Int) (W : World), 0 ≤ x → x < 256 → I W → Calls Try.prog 50 #[.int .u8 x] W fun e w' => e = .returned (.bool (P x)) ∧ ∃ n, w' = W.drewN n)
    (p : Nat) (W : World) (h : Sc w0 W s A c b p) (hi : I W) :
    Calls Try.prog 40 #[.pointer (some ⟨s, 0, none⟩), .func (.func 50) #[] #[]] W fun e w' => (∃ A', e = .returned (.slice A' (whl P b p - p) (c - p)) ∧ Kd.C (Kd.int .u8) w0 A' (whl P b p - p) ((b.drop p).take (whl P b p - p))) ∧ Sc w0 w' s A c b (whl P b p) ∧ W.grownBy w' (some s) := by
  have HS := Lib.hid h
  have HI := Lib.hid hi
  have HII := Lib.hid hI
  have HK := Lib.hid hk
  have a0 := h.c0
  have a1 := h.c1
  clear h hi hI hk
  go_enter Try.func40, Try.ntmps40
  go_wp2_with fail
  go_loopg [] (b.length - p) (fun gn wr => ∃ q : Nat, q ≤ b.length ∧ Hid (Sc w0 wr s A c b q ∧ I wr ∧ W.grownBy wr (some s) ∧ whl P b q = whl P b p ∧ gn = b.length - q))
  case atStart => exact ⟨p, HS.out.lp, HS.out, HI.out, grown_drewN W 0 _, rfl, rfl⟩
  case round =>
    obtain ⟨q, hq, HQ⟩ := hrel
    clear a0 a1
    have b0 := HQ.out.1.c0
    have b1 := HQ.out.1.c1
    by_cases hlt : q < b.length
    · have hd : decide ((q : Int) < (b.length : Int)) = true := by simp; omega
      obtain ⟨ad, rfl, hcell⟩ := HQ.out.1.at_ hlt
      have hx := HQ.out.1.bys _ (show b.getD q 0 ∈ b from by rw [List.getD_eq_getElem?_getD, List.getElem?_eq_getElem hlt]; exact List.getElem_mem _)
      generalize hxx : b.getD q 0 = x at *
      have HX := Lib.hid hxx
      clear hxx
      have HK1 := Lib.hid (HK.out x wr.drew hx.1 hx.2 (HII.out _ _ HQ.out.2.1 (grown_drew _ _)))
      go_wp2_with fail
      go_region_held3 (fun w' => w'.cell? ⟨s, 0, none⟩ = some (.slice (some ad) b.length c) ∧ w'.cell? ⟨s, 1, none⟩ = some (.int .i64 q) ∧ w'.cell? (ad.add q) = some (.int .u8 x))
        (first | exact ⟨b0, b1, hcell⟩ | go_keep)
        (first | (go_at_call 50; refine HK1.out.mono ?_; rintro e w2 ⟨rfl, n2, rfl⟩))
      have hf1 := HQ.out.1.f1
      cases hP : P x with
      | true =>
        go_wp2_with fail
        go_roundg (b.length - (q + 1))
        case measure => have := HQ.out.2.2.2.2; omega
        case rel =>
          have hw : wrap64 ((q : Int) + 1) = ((q + 1 : Nat) : Int) := by have := HQ.out.1.max; unfold wrap64; omega
          rw [hw]
          refine ⟨q + 1, hlt, (HQ.out.1.drewN _).move (q + 1) hlt, HII.out _ _ (HII.out _ _ HQ.out.2.1 (grown_drewN _ _ _)) (grown_set _ _ _ _), grown_trans (grown_trans HQ.out.2.2.1 (grown_drewN _ _ _)) (grown_set _ _ _ _), ?_, rfl⟩
          rw [← HQ.out.2.2.2.1, whl_yes P b q hlt (by rw [HX.out]; exact hP)]
      | false =>
        have hq1 := HQ.out.2.2.2.1
        rw [whl_no P b q hlt (by rw [HX.out]; exact hP)] at hq1
        have hct := cut_b (some ad) b.length c p q (by have := whl_ge P b p; omega) hq HQ.out.1.lc
        have HCm := Lib.hid (C_mid HQ.out.1.C HQ.out.1.lc p q (by have := whl_ge P b p; omega) hq)
        have HQ1 := Lib.hid hq1
        clear hq1
        generalize (if c = p then some ad else Option.map (fun x => x.add (p * 1)) (some ad)) = A2 at *
        go_wp2_with fail
        go_region_held3 (fun w' => w'.cell? ⟨s, 0, none⟩ = some (.slice (some ad) b.length c) ∧ w'.cell? ⟨s, 1, none⟩ = some (.int .i64 q))
          (first | exact ⟨b0, b1⟩ | go_keep)
          (fail)
        go_wp2_with fail
        go_ret
        rw [← HQ1.out]
        exact ⟨⟨_, rfl, HCm.out⟩, (HQ.out.1.drewN _).drew, grown_trans (grown_trans HQ.out.2.2.1 (grown_drewN _ _ _)) (grown_drew _ _)⟩
    · obtain rfl : q = b.length := by omega
      have hd : decide ((b.length : Int) < (b.length : Int)) = false := by simp
      have hq1 := HQ.out.2.2.2.1
      rw [whl_end] at hq1
      have hct := cut_b A b.length c p b.length (by have := whl_ge P b p; omega) hq HQ.out.1.lc
      have HCm := Lib.hid (C_mid HQ.out.1.C HQ.out.1.lc p b.length (by have := whl_ge P b p; omega) hq)
      have HQ1 := Lib.hid hq1
      clear hq1
      generalize (if c = p then A else Option.map (fun x => x.add (p * 1)) A) = A2 at *
      go_wp2_with fail
      go_quiet (fail)
      go_wp2_with fail
      go_quiet (fail)
      go_wp2_with fail
      go_ret
      rw [← HQ1.out]
      exact ⟨⟨_, rfl, HCm.out⟩, (HQ.out.1.drewN _).drewN _, grown_trans (grown_trans HQ.out.2.2.1 (grown_drewN _ _ _)) (grown_drewN _ _ _)⟩

set_option maxRecDepth 100000 in
set_option maxHeartbeats 2000000 in
theorem while_bare (w0 : World) (s : Nat) (A : Option Addr) (c : Nat) (b : List Int) (P : Int → Bool) (I : World → Prop) (hI : ∀ W W', I W → W.grownBy W' (some s) → I W')
    (hk : ∀ (x : Int) (W : World), 0 ≤ x → x < 256 → I W → Calls Try.prog 51 #[.int .u8 x] W fun e w' => e = .returned (.bool (P x)) ∧ ∃ n, w' = W.drewN n)
    (p : Nat) (W : World) (h : Sc w0 W s A c b p) (hi : I W) :
    Calls Try.prog 40 #[.pointer (some ⟨s, 0, none⟩), .func (.func 51) #[] #[]] W fun e w' => (∃ A', e = .returned (.slice A' (whl P b p - p) (c - p)) ∧ Kd.C (Kd.int .u8) w0 A' (whl P b p - p) ((b.drop p).take (whl P b p - p))) ∧ Sc w0 w' s A c b (whl P b p) ∧ W.grownBy w' (some s) := by
  have HS := Lib.hid h
  have HI := Lib.hid hi
  have HII := Lib.hid hI
  have HK := Lib.hid hk
  have a0 := h.c0
  have a1 := h.c1
  clear h hi hI hk
  go_enter Try.func40, Try.ntmps40
  go_wp2_with fail
  go_loopg [] (b.length - p) (fun gn wr => ∃ q : Nat, q ≤ b.length ∧ Hid (Sc w0 wr s A c b q ∧ I wr ∧ W.grownBy wr (some s) ∧ whl P b q = whl P b p ∧ gn = b.length - q))
  case atStart => exact ⟨p, HS.out.lp, HS.out, HI.out, grown_drewN W 0 _, rfl, rfl⟩
  case round =>
    obtain ⟨q, hq, HQ⟩ := hrel
    clear a0 a1
    have b0 := HQ.out.1.c0
    have b1 := HQ.out.1.c1
    by_cases hlt : q < b.length
    · have hd : decide ((q : Int) < (b.length : Int)) = true := by simp; omega
      obtain ⟨ad, rfl, hcell⟩ := HQ.out.1.at_ hlt
      have hx := HQ.out.1.bys _ (show b.getD q 0 ∈ b from by rw [List.getD_eq_getElem?_getD, List.getElem?_eq_getElem hlt]; exact List.getElem_mem _)
      generalize hxx : b.getD q 0 = x at *
      have HX := Lib.hid hxx
      clear hxx
      have HK1 := Lib.hid (HK.out x wr.drew hx.1 hx.2 (HII.out _ _ HQ.out.2.1 (grown_drew _ _)))
      go_wp2_with fail
      go_region_held3 (fun w' => w'.cell? ⟨s, 0, none⟩ = some (.slice (some ad) b.length c) ∧ w'.cell? ⟨s, 1, none⟩ = some (.int .i64 q) ∧ w'.cell? (ad.add q) = some (.int .u8 x))
        (first | exact ⟨b0, b1, hcell⟩ | go_keep)
        (first | (go_at_call 51; refine HK1.out.mono ?_; rintro e w2 ⟨rfl, n2, rfl⟩))
      have hf1 := HQ.out.1.f1
      cases hP : P x with
      | true =>
        go_wp2_with fail
        go_roundg (b.length - (q + 1))
        case measure => have := HQ.out.2.2.2.2; omega
        case rel =>
          have hw : wrap64 ((q : Int) + 1) = ((q + 1 : Nat) : Int) := by have := HQ.out.1.max; unfold wrap64; omega
          rw [hw]
          refine ⟨q + 1, hlt, (HQ.out.1.drewN _).move (q + 1) hlt, HII.out _ _ (HII.out _ _ HQ.out.2.1 (grown_drewN _ _ _)) (grown_set _ _ _ _), grown_trans (grown_trans HQ.out.2.2.1 (grown_drewN _ _ _)) (grown_set _ _ _ _), ?_, rfl⟩
          rw [← HQ.out.2.2.2.1, whl_yes P b q hlt (by rw [HX.out]; exact hP)]
      | false =>
        have hq1 := HQ.out.2.2.2.1
        rw [whl_no P b q hlt (by rw [HX.out]; exact hP)] at hq1
        have hct := cut_b (some ad) b.length c p q (by have := whl_ge P b p; omega) hq HQ.out.1.lc
        have HCm := Lib.hid (C_mid HQ.out.1.C HQ.out.1.lc p q (by have := whl_ge P b p; omega) hq)
        have HQ1 := Lib.hid hq1
        clear hq1
        generalize (if c = p then some ad else Option.map (fun x => x.add (p * 1)) (some ad)) = A2 at *
        go_wp2_with fail
        go_region_held3 (fun w' => w'.cell? ⟨s, 0, none⟩ = some (.slice (some ad) b.length c) ∧ w'.cell? ⟨s, 1, none⟩ = some (.int .i64 q))
          (first | exact ⟨b0, b1⟩ | go_keep)
          (fail)
        go_wp2_with fail
        go_ret
        rw [← HQ1.out]
        exact ⟨⟨_, rfl, HCm.out⟩, (HQ.out.1.drewN _).drew, grown_trans (grown_trans HQ.out.2.2.1 (grown_drewN _ _ _)) (grown_drew _ _)⟩
    · obtain rfl : q = b.length := by omega
      have hd : decide ((b.length : Int) < (b.length : Int)) = false := by simp
      have hq1 := HQ.out.2.2.2.1
      rw [whl_end] at hq1
      have hct := cut_b A b.length c p b.length (by have := whl_ge P b p; omega) hq HQ.out.1.lc
      have HCm := Lib.hid (C_mid HQ.out.1.C HQ.out.1.lc p b.length (by have := whl_ge P b p; omega) hq)
      have HQ1 := Lib.hid hq1
      clear hq1
      generalize (if c = p then A else Option.map (fun x => x.add (p * 1)) A) = A2 at *
      go_wp2_with fail
      go_quiet (fail)
      go_wp2_with fail
      go_quiet (fail)
      go_wp2_with fail
      go_ret
      rw [← HQ1.out]
      exact ⟨⟨_, rfl, HCm.out⟩, (HQ.out.1.drewN _).drewN _, grown_trans (grown_trans HQ.out.2.2.1 (grown_drewN _ _ _)) (grown_drewN _ _ _)⟩

set_option maxRecDepth 100000 in
set_option maxHeartbeats 2000000 in
theorem while_quote (w0 : World) (s : Nat) (A : Option Addr) (c : Nat) (b : List Int) (qb : Nat) (P : Int → Bool) (I : World → Prop) (hI : ∀ W W', I W → W.grownBy W' (some s) → I W')
    (hk : ∀ (x : Int) (W : World), 0 ≤ x → x < 256 → I W → Calls Try.prog 52 #[.int .u8 x, .pointer (some ⟨qb, 0, none⟩)] W fun e w' => e = .returned (.bool (P x)) ∧ ∃ n, w' = W.drewN n)
    (p : Nat) (W : World) (h : Sc w0 W s A c b p) (hi : I W) :
    Calls Try.prog 40 #[.pointer (some ⟨s, 0, none⟩), .func (.func 52) #[] #[.pointer (some ⟨qb, 0, none⟩)]] W fun e w' => (∃ A', e = .returned (.slice A' (whl P b p - p) (c - p)) ∧ Kd.C (Kd.int .u8) w0 A' (whl P b p - p) ((b.drop p).take (whl P b p - p))) ∧ Sc w0 w' s A c b (whl P b p) ∧ W.grownBy w' (some s) := by
  have HS := Lib.hid h
  have HI := Lib.hid hi
  have HII := Lib.hid hI
  have HK := Lib.hid hk
  have a0 := h.c0
  have a1 := h.c1
  clear h hi hI hk
  go_enter Try.func40, Try.ntmps40
  go_wp2_with fail
  go_loopg [] (b.length - p) (fun gn wr => ∃ q : Nat, q ≤ b.length ∧ Hid (Sc w0 wr s A c b q ∧ I wr ∧ W.grownBy wr (some s) ∧ whl P b q = whl P b p ∧ gn = b.length - q))
  case atStart => exact ⟨p, HS.out.lp, HS.out, HI.out, grown_drewN W 0 _, rfl, rfl⟩
  case round =>
    obtain ⟨q, hq, HQ⟩ := hrel
    clear a0 a1
    have b0 := HQ.out.1.c0
    have b1 := HQ.out.1.c1
    by_cases hlt : q < b.length
    · have hd : decide ((q : Int) < (b.length : Int)) = true := by simp; omega
      obtain ⟨ad, rfl, hcell⟩ := HQ.out.1.at_ hlt
      have hx := HQ.out.1.bys _ (show b.getD q 0 ∈ b from by rw [List.getD_eq_getElem?_getD, List.getElem?_eq_getElem hlt]; exact List.getElem_mem _)
      generalize hxx : b.getD q 0 = x at *
      have HX := Lib.hid hxx
      clear hxx
      have HK1 := Lib.hid (HK.out x wr.drew hx.1 hx.2 (HII.out _ _ HQ.out.2.1 (grown_drew _ _)))
      go_wp2_with fail
      go_region_held3 (fun w' => w'.cell? ⟨s, 0, none⟩ = some (.slice (some ad) b.length c) ∧ w'.cell? ⟨s, 1, none⟩ = some (.int .i64 q) ∧ w'.cell? (ad.add q) = some (.int .u8 x))
        (first | exact ⟨b0, b1, hcell⟩ | go_keep)
        (first | (go_at_call 52; refine HK1.out.mono ?_; rintro e w2 ⟨rfl, n2, rfl⟩))
      have hf1 := HQ.out.1.f1
      cases hP : P x with
      | true =>
        go_wp2_with fail
        go_roundg (b.length - (q + 1))
        case measure => have := HQ.out.2.2.2.2; omega
        case rel =>
          have hw : wrap64 ((q : Int) + 1) = ((q + 1 : Nat) : Int) := by have := HQ.out.1.max; unfold wrap64; omega
          rw [hw]
          refine ⟨q + 1, hlt, (HQ.out.1.drewN _).move (q + 1) hlt, HII.out _ _ (HII.out _ _ HQ.out.2.1 (grown_drewN _ _ _)) (grown_set _ _ _ _), grown_trans (grown_trans HQ.out.2.2.1 (grown_drewN _ _ _)) (grown_set _ _ _ _), ?_, rfl⟩
          rw [← HQ.out.2.2.2.1, whl_yes P b q hlt (by rw [HX.out]; exact hP)]
      | false =>
        have hq1 := HQ.out.2.2.2.1
        rw [whl_no P b q hlt (by rw [HX.out]; exact hP)] at hq1
        have hct := cut_b (some ad) b.length c p q (by have := whl_ge P b p; omega) hq HQ.out.1.lc
        have HCm := Lib.hid (C_mid HQ.out.1.C HQ.out.1.lc p q (by have := whl_ge P b p; omega) hq)
        have HQ1 := Lib.hid hq1
        clear hq1
        generalize (if c = p then some ad else Option.map (fun x => x.add (p * 1)) (some ad)) = A2 at *
        go_wp2_with fail
        go_region_held3 (fun w' => w'.cell? ⟨s, 0, none⟩ = some (.slice (some ad) b.length c) ∧ w'.cell? ⟨s, 1, none⟩ = some (.int .i64 q))
          (first | exact ⟨b0, b1⟩ | go_keep)
          (fail)
        go_wp2_with fail
        go_ret
        rw [← HQ1.out]
        exact ⟨⟨_, rfl, HCm.out⟩, (HQ.out.1.drewN _).drew, grown_trans (grown_trans HQ.out.2.2.1 (grown_drewN _ _ _)) (grown_drew _ _)⟩
    · obtain rfl : q = b.length := by omega
      have hd : decide ((b.length : Int) < (b.length : Int)) = false := by simp
      have hq1 := HQ.out.2.2.2.1
      rw [whl_end] at hq1
      have hct := cut_b A b.length c p b.length (by have := whl_ge P b p; omega) hq HQ.out.1.lc
      have HCm := Lib.hid (C_mid HQ.out.1.C HQ.out.1.lc p b.length (by have := whl_ge P b p; omega) hq)
      have HQ1 := Lib.hid hq1
      clear hq1
      generalize (if c = p then A else Option.map (fun x => x.add (p * 1)) A) = A2 at *
      go_wp2_with fail
      go_quiet (fail)
      go_wp2_with fail
      go_quiet (fail)
      go_wp2_with fail
      go_ret
      rw [← HQ1.out]
      exact ⟨⟨_, rfl, HCm.out⟩, (HQ.out.1.drewN _).drewN _, grown_trans (grown_trans HQ.out.2.2.1 (grown_drewN _ _ _)) (grown_drewN _ _ _)⟩

end Go.Proofs.Ytcbibbdkjhkmoaa.H
