/- The law LabelPlays, walked: it answers true. Conditions: none. -/
import Derived.Test.YtecpmgbahknneaaLAw
import Derived.Test.YtecpmgbahknneaaLPlay
import Derived.Test.YtecpmgbahknneaaLAct
import Derived.Test.YtecpmgbahknneaaOpn
import Derived.Outline
import Derived.IntWalk
import Derived.Deep.DeepCutAuto
import Derived.Deep.CutBlock
import Derived.Deep.RegionHeld3
set_option linter.unusedVariables false
set_option linter.unusedSimpArgs false
namespace Go.Proofs.Ytecpmgbahknneaa.L
open Go.RowKit Go.Proofs.YtecpmgbahknneaaW.PrintWords Go.Proofs.YtecpmgbahknneaaW.PrintMore

set_option maxRecDepth 100000 in
set_option maxHeartbeats 2000000 in
theorem labelPlays_any (n : Nat) (A : Option Addr) (c : Nat) (acts : List Ac) (w : World) (hn : n < 65536) (hA : Kd.C kAct w A acts.length acts) (hok : ∀ x ∈ acts, AcOk x) (hlen : acts.length ≤ 9223372036854775807) :
    Calls Try.prog 5 #[.int .u16 n, .slice A acts.length c] w fun e w' => e = .returned (.bool true) ∧ Below w.heap.size w w' := by
  have HA := Lib.hid hA
  have HOK := Lib.hid hok
  clear hA hok
  go_enter Try.func5, Try.ntmps5
  go_wp2_with fail
  refine (awake_any _).mono ?_
  rintro e w1 ⟨rfl, hb⟩
  have HW := Lib.hid hb
  clear hb
  go_wp2_with fail
  generalize hz : (n : Int) % 300 = z at *
  obtain ⟨sz, rfl⟩ : ∃ t : Nat, z = t := ⟨z.toNat, by omega⟩
  have hsz : sz < 300 := by omega
  clear hz
  refine (new_yes sz _ (by omega)).mono ?_
  rintro e w2 ⟨g, k, rfl, hs, hb, hg, hk⟩
  have HS := Lib.hid hs
  have HW2 := Lib.hid (below_step HW.out hb)
  have hk0 : w.heap.size ≤ k := by have := HW.out.size; omega
  have hg0 : w.heap.size ≤ g := by have := HW.out.size; omega
  clear hs hb HW hg hk
  go_wp2_with fail
  refine (all_any sz 1 _ (by omega)).mono ?_
  rintro e w3 ⟨km, rfl, hm, hb, hkm⟩
  have HM := Lib.hid hm
  have HS3 := Lib.hid (HS.out.below hb)
  have HW3 := Lib.hid (below_step HW2.out hb)
  have hkm0 : w.heap.size ≤ km := by have := HW2.out.size; omega
  have hkk : k ≠ km := by have := HS.out.lt; omega
  have hgk : g ≠ km := by have := HS.out.lt; omega
  have h43 := blk_new w3 (.cells #[.slice (some ⟨km, 0, none⟩) sz sz] 43)
  have hpw : w.heap.size ≤ w3.heap.size := HW3.out.size
  have hkp : k ≠ w3.heap.size := by have := HS3.out.lt; omega
  have hmp : km ≠ w3.heap.size := by have := blk_lt HM.out; omega
  have HI0 := Lib.hid (show Pl w (w3.alloc (.cells #[.slice (some ⟨km, 0, none⟩) sz sz] 43 (0, 0))) g k km w3.heap.size sz (List.replicate sz 1) from ⟨HS3.out.alloc _, blk_alloc HM.out _, h43, below_alloc HW3.out _⟩)
  clear hm hb HS HW2 hkm h43
  generalize hp0 : w3.heap.size = p at *
  go_upto_block 0 with fail
  go_cut [4] (fun _ wc => ∃ L : List Int, L.length = sz ∧ Hid (Pl w wc g k km p sz L))
  case first =>
    go_wp2_with fail
    go_loopg [34] acts.length (fun gn i wr => ∃ (j : Nat) (L : List Int), j ≤ acts.length ∧ gn = acts.length - j ∧ i = .int .i64 j ∧ L.length = sz ∧ Hid (Pl w wr g k km p sz L))
    case atStart => exact ⟨0, _, Nat.zero_le _, rfl, rfl, List.length_replicate, HI0.out⟩
    case round =>
      obtain ⟨j, L, hj, hgn, rfl, hL, HI⟩ := hrel
      have HG := Lib.hid hgn
      clear hgn
      by_cases hlt : j < acts.length
      · obtain ⟨ad, rfl, h0, h1, h2, h3, h4⟩ := at_act2 (Kd.C_below HA.out HI.out.2.2.2) j hlt
        have hb1 := HOK.out _ (show acts.getD j (0, 0, 0, 0, 0) ∈ acts from by rw [List.getD_eq_getElem?_getD, List.getElem?_eq_getElem hlt]; exact List.getElem_mem _)
        generalize acts.getD j (0, 0, 0, 0, 0) = a at *
        obtain ⟨a0, a1, a2, a3, a4⟩ := a
        obtain ⟨b0, b1, b2, b3, b4⟩ := hb1
        simp only at h0 h1 h2 h3 h4 b0 b1 b2 b3 b4
        obtain ⟨a0, rfl, _⟩ := u8_of b0
        obtain ⟨a1, rfl, _⟩ := u8_of b1
        obtain ⟨a4, rfl, _⟩ := u8_of b4
        have hu46 := Try.underlying46
        have HBX := Lib.hid (blk_new wr (.cells #[.int .u8 a0, .int .u8 a1, .int .i64 a2, .int .i64 a3, .int .u8 a4] 46 (0, 0)))
        have HIA := Lib.hid (HI.out.alloc (.cells #[.int .u8 a0, .int .u8 a1, .int .i64 a2, .int .i64 a3, .int .u8 a4] 46 (0, 0)))
        have hkb : k ≠ wr.heap.size := by have := HI.out.1.lt; omega
        have hmb : km ≠ wr.heap.size := by have := blk_lt HI.out.2.1; omega
        by_cases hj40 : 40 < j
        · go_wp2_with fail
          go_meet
          exact ⟨L, hL, HI.out.alloc _⟩
        · go_upto_block 2 with fail
          generalize hbx : wr.heap.size = bx at *
          go_cut [12] (fun _ wx => ∃ L2 : List Int, L2.length = sz ∧ Hid (Pl w wx g k km p sz L2))
          case first =>
            by_cases hk2 : a0 % 4 = 2
            · have hm2 : ((a0 : Int) % 4 == 2) = true := by simp; omega
              go_wp2_with fail
              refine (set_any g k L _ _ _ _ HIA.out.1).mono ?_
              rintro e w5 ⟨rfl, hs5, hg5⟩
              have HB5 := Lib.hid (blk_grown HBX.out hg5 (by intro e; injection e with e; exact hkb e.symm))
              have d2 := (blk_cell HB5.out 2).trans (show _ = some (Value.int .i64 a2) from rfl)
              have d3 := (blk_cell HB5.out 3).trans (show _ = some (Value.int .i64 a3) from rfl)
              have HG5 := Lib.hid (And.intro hs5 hg5)
              have HM5 := Lib.hid (And.intro (blk_grown HIA.out.2.1 hg5 (by intro e; injection e with e; exact hkk e.symm)) (blk_grown HIA.out.2.2.1 hg5 (by intro e; injection e with e; exact hkp e.symm)))
              clear hs5 hg5
              go_wp2_with fail
              refine (put_any p km sz L a1 a2 a3 w5 hL (by omega) 43 (by decide) HM5.out.2 HM5.out.1).mono ?_
              rintro e w6 ⟨rfl, hm6, hg6⟩
              have HP6 := Lib.hid (HIA.out.both HG5.out.1 HG5.out.2 hm6 hg6 hk0 hkm0 hgk hkk hkp hmp)
              have hL6 : (setL L a1 a2 a3).length = sz := (setL_length _ _ _ _).trans hL
              clear hm6 hg6 HG5 HM5 HB5 d2 d3 HIA HBX HI
              go_wp2_with fail
              go_meet
              exact ⟨_, hL6, HP6.out⟩
            · by_cases hk3 : a0 % 4 = 3
              · have hm2 : ((a0 : Int) % 4 == 2) = false := by simp; omega
                have hm3 : ((a0 : Int) % 4 == 3) = true := by simp; omega
                clear hk2 hk3
                go_wp2_with fail
                refine (new_yes a4 _ (by omega)).mono ?_
                rintro e w5 ⟨g2, k2, rfl, hs5, hb5, hg2, hkk2⟩
                have HP5 := Lib.hid (HIA.out.below hb5)
                have HB5 := Lib.hid (blk_below HBX.out hb5)
                have HS5 := Lib.hid hs5
                have n1 : k2 ≠ bx := by have := blk_lt HBX.out; omega
                have n2 : k2 ≠ km := by have := blk_lt HIA.out.2.1; omega
                have n3 : k2 ≠ p := by have := blk_lt HIA.out.2.2.1; omega
                have n4 : k2 ≠ g := by have := HIA.out.1.lt; omega
                have n5 : k2 ≠ k := by have := HIA.out.1.lt; omega
                have n6 : g2 ≠ k := by have := HIA.out.1.lt; omega
                have n7 : w.heap.size ≤ k2 := by have := HIA.out.2.2.2.size; omega
                have d4 := (blk_cell HB5.out 4).trans (show _ = some (Value.int .u8 a4) from rfl)
                clear hs5 hb5 hg2 hkk2 HIA HBX HI
                go_wp2_with fail
                refine (set_any g2 k2 _ _ _ _ _ HS5.out).mono ?_
                rintro e w6 ⟨rfl, hs6, hg6⟩
                have HP6 := Lib.hid (HP5.out.other hg6 n4 n5 n2 n3 n7)
                have HB6 := Lib.hid (blk_grown HB5.out hg6 (by intro e; injection e with e; exact n1 e.symm))
                have HS6 := Lib.hid hs6
                have d2 := (blk_cell HB6.out 2).trans (show _ = some (Value.int .i64 a2) from rfl)
                have ht := tmod_in a2
                clear hs6 hg6 HP5 HB5 HS5 d4
                go_wp2_with fail
                generalize a2.tmod 70000 = t at *
                obtain ⟨ht1, ht2⟩ := ht
                by_cases hfar : t < -65536 ∨ 65536 < t
                · refine (lay_far _ t _ _ hfar).mono ?_
                  rintro e w' ⟨rfl, rfl⟩
                  rcases hfar with hf | hf
                  · have hf1 : decide (t < -65536) = true := by simp [hf]
                    go_wp2_with fail
                    go_meet
                    exact ⟨L, hL, HP6.out⟩
                  · have hf1 : decide (t < -65536) = false := by simp; omega
                    have hf2 : decide (65536 < t) = true := by simp [hf]
                    go_wp2_with fail
                    go_meet
                    exact ⟨L, hL, HP6.out⟩
                · refine (lay_any g k L g2 k2 _ t _ HP6.out.1 HS6.out (by omega) (by omega)).mono ?_
                  rintro e w7 ⟨rfl, hs7, hg7⟩
                  have HB7 := Lib.hid (blk_grown HB6.out hg7 (by intro e; injection e with e; exact hkb e.symm))
                  have d4 := (blk_cell HB7.out 4).trans (show _ = some (Value.int .u8 a4) from rfl)
                  have HM7 := Lib.hid (And.intro (blk_grown HP6.out.2.1 hg7 (by intro e; injection e with e; exact hkk e.symm)) (blk_grown HP6.out.2.2.1 hg7 (by intro e; injection e with e; exact hkp e.symm)))
                  have HG7 := Lib.hid (And.intro hs7 hg7)
                  have hf1 : decide (t < -65536) = false := by simp; omega
                  have hf2 : decide (65536 < t) = false := by simp; omega
                  have HF := Lib.hid hfar
                  clear hs7 hg7 hfar d2 HB6 HS6
                  go_wp2_with fail
                  refine (put_any p km sz L 1 t (t + a4) w7 hL (by omega) 43 (by decide) HM7.out.2 HM7.out.1).mono ?_
                  rintro e w8 ⟨rfl, hm8, hg8⟩
                  have HB8 := Lib.hid (blk_grown HB7.out hg8 (by intro e; injection e with e; exact hmb e.symm))
                  have d48 := (blk_cell HB8.out 4).trans (show _ = some (Value.int .u8 a4) from rfl)
                  have HM8 := Lib.hid (And.intro hm8 (blk_grown HM7.out.2 hg8 (by intro e; injection e with e; exact hmp e.symm)))
                  have HG8 := Lib.hid hg8
                  clear hm8 hg8 HM7 HB7 d4
                  go_wp2_with fail
                  refine (put_any p km sz _ a1 (t + (a4 : Int) / 3) (t + (a4 : Int) / 2) w8 ((setL_length _ _ _ _).trans hL) (by omega) 43 (by decide) HM8.out.2 HM8.out.1).mono ?_
                  rintro e w9 ⟨rfl, hm9, hg9⟩
                  rw [← lay_put2] at hm9
                  have HP9 := Lib.hid (HP6.out.both HG7.out.1 HG7.out.2 hm9 (grown_trans HG8.out hg9) hk0 hkm0 hgk hkk hkp hmp)
                  clear hm9 hg9 HG7 HM8 HB8 HG8 d48
                  go_wp2_with fail
                  go_meet
                  exact ⟨_, (by unfold layL; rw [layTo_length]; exact hL), HP9.out⟩
              · have hm2 : ((a0 : Int) % 4 == 2) = false := by simp; omega
                have hm3 : ((a0 : Int) % 4 == 3) = false := by simp; omega
                have d2 := (blk_cell HBX.out 2).trans (show _ = some (Value.int .i64 a2) from rfl)
                have d3 := (blk_cell HBX.out 3).trans (show _ = some (Value.int .i64 a3) from rfl)
                clear hk2 hk3 h2 h3
                go_wp2_with fail
                go_quiet (fail)
                go_wp2_with fail
                clear d2 d3
                refine (set_any g k L _ _ _ _ (HIA.out.1.drewN nq)).mono ?_
                rintro e w5 ⟨rfl, hs5, hg50⟩
                have hg5 := grown_trans (grown_drewN _ nq (some k)) hg50
                have HG5 := Lib.hid (And.intro hs5 hg5)
                have HM5 := Lib.hid (And.intro (blk_grown HIA.out.2.1 hg5 (by intro e; injection e with e; exact hkk e.symm)) (blk_grown HIA.out.2.2.1 hg5 (by intro e; injection e with e; exact hkp e.symm)))
                clear hs5 hg5 hg50
                go_wp2_with fail
                refine (put_any p km sz L a1 _ _ w5 hL (by omega) 43 (by decide) HM5.out.2 HM5.out.1).mono ?_
                rintro e w6 ⟨rfl, hm6, hg6⟩
                have HP6 := Lib.hid (HIA.out.both HG5.out.1 HG5.out.2 hm6 hg6 hk0 hkm0 hgk hkk hkp hmp)
                clear hm6 hg6 HG5 HM5 HIA HBX HI
                go_wp2_with fail
                go_meet
                exact ⟨_, (setL_length _ _ _ _).trans hL, HP6.out⟩
          case rest =>
            obtain ⟨L6, hL6, HP6⟩ := hcut
            clear HI HIA HBX h0 h1 h2 h3 h4
            rename_i wc
            have hseg := (segsTo_ok L6 L6.length).1
            have hseg2 : (segsOf L6).length ≤ 1000000 := by unfold segsOf; omega
            have hc0 := (blk_cell HP6.out.2.2.1 0).trans (show _ = some (Value.slice (some ⟨km, 0, none⟩) sz sz) from rfl)
            have HSb := Lib.hid (show ∀ W W' : World, (W.cell? ⟨p, 0, none⟩ = some (.slice (some ⟨km, 0, none⟩) sz sz) ∧ Hid (Pl w W g k km p sz L6)) → Below W.heap.size W W' → (W'.cell? ⟨p, 0, none⟩ = some (.slice (some ⟨km, 0, none⟩) sz sz) ∧ Hid (Pl w W' g k km p sz L6)) from
              fun W W' h hb => ⟨(blk_cell (h.2.out.below hb).2.2.1 0).trans rfl, h.2.out.below hb⟩)
            have HSd := Lib.hid (show ∀ W : World, (W.cell? ⟨p, 0, none⟩ = some (.slice (some ⟨km, 0, none⟩) sz sz) ∧ Hid (Pl w W g k km p sz L6)) → (W.drew.cell? ⟨p, 0, none⟩ = some (.slice (some ⟨km, 0, none⟩) sz sz) ∧ Hid (Pl w W.drew g k km p sz L6)) from
              fun W h => ⟨h.1, ⟨h.2.out.1, h.2.out.2.1, h.2.out.2.2.1, below_drew1 h.2.out.2.2.2⟩⟩)
            have HSn := Lib.hid (show ∀ (W : World) (q : Nat), (W.cell? ⟨p, 0, none⟩ = some (.slice (some ⟨km, 0, none⟩) sz sz) ∧ Hid (Pl w W g k km p sz L6)) → ((W.drewN q).cell? ⟨p, 0, none⟩ = some (.slice (some ⟨km, 0, none⟩) sz sz) ∧ Hid (Pl w (W.drewN q) g k km p sz L6)) from
              fun W q h => ⟨h.1, ⟨h.2.out.1, h.2.out.2.1, h.2.out.2.2.1, pw_below_drewN h.2.out.2.2.2 q⟩⟩)
            have HT := Lib.hid (HSd.out _ ⟨hc0, HP6⟩)
            have HPl := Lib.hid (show ∀ W : World, (W.cell? ⟨p, 0, none⟩ = some (.slice (some ⟨km, 0, none⟩) sz sz) ∧ Hid (Pl w W g k km p sz L6)) → Hid (Pl w W g k km p sz L6) from fun W h => h.2)
            have HL6 := Lib.hid hL6
            clear hc0 hseg hL6
            go_wp2_with fail
            go_region_held3 (fun W => W.cell? ⟨p, 0, none⟩ = some (.slice (some ⟨km, 0, none⟩) sz sz) ∧ Hid (Pl w W g k km p sz L6))
              (first | exact HSb.out _ _ (by assumption) hb | exact HSd.out _ (by assumption) | exact HSn.out _ _ (by assumption) | exact HT.out | go_keep)
              (first
                | (go_at_call 10; refine (segs_any g k L6 _ (HPl.out _ (by assumption)).out.1).mono ?_; rintro e w7 ⟨v, rfl, ho, hb⟩; obtain ⟨A1, cp1, rfl, hc1, hC1⟩ := own_Q ho; have HC1 := Lib.hid hC1; clear hC1 ho; rw [List.length_map])
                | (go_at_call 18; refine (refSegs_anyP km sz sz L6 _ (HPl.out _ (by assumption)).out.2.1 (Nat.le_refl _) (by omega) HL6.out).mono ?_; rintro e w8 ⟨A2, cp2, rfl, hc2, hC2, hb⟩; have HC1b := Lib.hid (Kd.C_below HC1.out hb); have HC2 := Lib.hid hC2; clear hC2)
                | (go_at_call 17; refine (same_anyP A1 A2 cp1 cp2 _ _ hseg2 HC1b.out HC2.out hc1 hc2).mono ?_; rintro e w9 ⟨rfl, nq, rfl⟩))
            have HF := Lib.hid (HPl.out _ (by assumption)).out
            clear HC1 HC1b HC2 HSb HSd HSn HT HPl
            go_wp2_with fail
            go_roundg (acts.length - (j + 1))
            case measure => rw [HG.out]; omega
            case rel => exact ⟨j + 1, L6, by omega, rfl, by go_num, HL6.out, HF.out⟩
      · have : j = acts.length := by omega
        subst this
        go_wp2_with fail
        go_meet
        exact ⟨L, hL, HI.out⟩
  case rest =>
    obtain ⟨L, hL, HI⟩ := hcut
    clear HI0 HM HS3
    have hc0 := (blk_cell HI.out.2.2.1 0).trans (show _ = some (Value.slice (some ⟨km, 0, none⟩) sz sz) from rfl)
    go_wp2_with fail
    clear hc0
    go_loopg [143] sz (fun gn i wr => ∃ j : Nat, j ≤ sz ∧ gn = sz - j ∧ i = .int .i64 j ∧ Hid (Pl w wr g k km p sz L))
    case atStart => exact ⟨0, Nat.zero_le _, rfl, rfl, HI⟩
    case round =>
      obtain ⟨j, hj, hgn, rfl, HJ⟩ := hrel
      have HG := Lib.hid hgn
      have hc0 := (blk_cell HJ.out.2.2.1 0).trans (show _ = some (Value.slice (some ⟨km, 0, none⟩) sz sz) from rfl)
      clear hgn
      by_cases hlt : j < sz
      · have hx : L[j]? = some (L.getD j 0) := by rw [List.getD_eq_getElem?_getD, List.getElem?_eq_getElem (by omega)]; rfl
        have hc1 : wr.cell? ⟨km, j, none⟩ = some (.int .u8 (L.getD j 0)) := by rw [blk_cell HJ.out.2.1, cellsL_get, hx]; rfl
        have HX := Lib.hid hx
        clear hx
        generalize L.getD j 0 = x at *
        have hj0 : (0 : Int) ≤ (j : Int) := by omega
        have hj1 : (j : Int) < (sz : Int) := by omega
        go_wp2_with fail
        go_quiet ((refine (at_in g k L j x _ (HJ.out.1.drewN _) HX.out).mono ?_; rintro e w' ⟨rfl, rfl⟩; exact ⟨rfl, _, rfl⟩))
        go_wp2_with fail
        go_roundg (sz - (j + 1))
        case measure => rw [HG.out]; omega
        case rel => exact ⟨j + 1, by omega, rfl, by go_num, HJ.out.1.drewN _, HJ.out.2.1, HJ.out.2.2.1, pw_below_drewN HJ.out.2.2.2 _⟩
      · have : j = sz := by omega
        subst this
        have hlen := len_any g k L wr HJ.out.1
        rw [hL] at hlen
        have HLen := Lib.hid hlen
        have HL := Lib.hid hL
        clear hlen hL hc0
        go_wp2_with (first
          | (go_at_call 11; refine HLen.out.mono ?_; rintro e w' ⟨rfl, rfl⟩)
          | (go_at_call 12; refine (at_out g k L _ _ HJ.out.1 (by have := HL.out; omega)).mono ?_; rintro e w' ⟨rfl, rfl⟩))
        go_ret
        exact ⟨rfl, HJ.out.2.2.2⟩
end Go.Proofs.Ytecpmgbahknneaa.L
namespace Go.Proofs.Ytecpmgbahknneaa.Wk.LabelPlays
open Go.RowKit Go.Proofs.YtecpmgbahknneaaW.PrintWords Go.Proofs.Ytecpmgbahknneaa.L
theorem walk (a0 : Int) (A1 : Option Addr) (c1 : Nat) (acts : List Ac) (w : World) (h0 : (Lit.int .u16 a0).wf = true) (hr : Kd.C kAct w A1 acts.length acts) (_ : acts.length ≤ c1) (hg : ∀ x ∈ acts, AcOk x) :
    Calls Try.prog 5 #[.int .u16 a0, .slice A1 acts.length c1] w fun e w' => e = .returned (.bool true) ∧ Below w.heap.size w w' := by
  obtain ⟨n, rfl, hn⟩ : ∃ n : Nat, a0 = n ∧ n < 65536 := by
    simp only [Lit.wf, Bool.and_eq_true, decide_eq_true_eq] at h0
    have e1 : IntKind.u16.min = 0 := rfl
    have e2 : IntKind.u16.max = 65535 := rfl
    exact ⟨a0.toNat, by omega, by omega⟩
  exact labelPlays_any n A1 c1 acts w hn hr hg hr.2.1
end Go.Proofs.Ytecpmgbahknneaa.Wk.LabelPlays
