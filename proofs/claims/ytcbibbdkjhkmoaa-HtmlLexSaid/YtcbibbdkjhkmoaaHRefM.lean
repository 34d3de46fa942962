/- Several texts in one: HRef. Conditions: as each lemma says. -/
import Derived.Test.YtcbibbdkjhkmoaaHRefQ
set_option linter.unusedVariables false
set_option linter.unusedSimpArgs false
namespace Go.Proofs.Ytcbibbdkjhkmoaa.H
open Go.RowKit Go.Proofs.YtcbibbdkjhkmoaaW.PrintWords Go.Proofs.Ytcbibbdkjhkmoaa.L Go.Proofs.Ytcbibbdkjhkmoaa.S Go.Proofs.Ytcbibbdkjhkmoaa.Htm

set_option maxRecDepth 100000 in
set_option maxHeartbeats 8000000 in
theorem rread_in (s : ByteArray) (p : Nat) (W : World) (hs : s.size ≤ 65536) (hp : p < s.size) :
    Calls Try.prog 18 #[.string s, .int .i64 p] W fun e w' => Below W.heap.size W w' ∧
      ((Htm.read (bytesOf s) p = none ∧ e = .returned (.tuple #[noTag, .bool false])) ∨
       ∃ T v, Htm.read (bytesOf s) p = some T ∧ e = .returned (.tuple #[.agg #[.int .i64 T.fin, .string (strOfNums T.name), .bool T.closes, v], .bool true]) ∧ w'.ownsRow W.heap.size 54 2 v T.prose.length (spC T.prose)) := by
  have hsz := bytesOf_length s
  have HBy := Lib.hid (Bys.of s)
  have hix := ix_at s p hp
  generalize hb : bytesOf s = b at *
  replace hsz := hsz.symm
  have hpl : p < b.length := by omega
  have HX := Lib.hid (getD_some b p hpl)
  generalize b.getD p 0 = x at *
  have hd : decide ((p : Int) < 0) = false := by simp
  have hd2 : decide ((b.length : Int) ≤ (p : Int)) = false := by simp; omega
  go_enter Try.func18, Try.ntmps18
  go_upto_region 2 with fail
  have HR := Lib.hid (show Rf W ((W.alloc (tfC 0 ⟨#[]⟩ false (.slice none 0 0))).alloc (tfC 0 ⟨#[]⟩ false (.slice none 0 0))) (W.heap.size + 1) W.heap.size [] false (.slice none 0 0) [] from by
    have e1 : (W.alloc (tfC 0 ⟨#[]⟩ false (.slice none 0 0))).heap.size = W.heap.size + 1 := by simp
    refine ⟨?_, blk_alloc (blk_new W _) _, World.ownsRow_nil _ _ _ _, below_alloc (below_alloc (Below.refl _ _) _) _, by omega, Nat.le_refl _, by omega⟩
    have := blk_new (W.alloc (tfC 0 ⟨#[]⟩ false (.slice none 0 0))) (tfC 0 ⟨#[]⟩ false (.slice none 0 0))
    rw [e1] at this
    exact this)
  generalize hr : W.heap.size = r at *
  generalize ht : r + 1 = t at *
  generalize hw2 : (W.alloc (tfC 0 ⟨#[]⟩ false (.slice none 0 0))).alloc (tfC 0 ⟨#[]⟩ false (.slice none 0 0)) = w2 at *
  clear hw2
  by_cases hx : x = 60
  · subst hx
    go_upto_region 5 with fail
    clear hix
    go_upto_if 29 with (go_at_call 32; refine (rat_any s ⟨#[47]⟩ (p + 1) _ (by omega) (by omega) (by decide) (by decide)).mono ?_; rintro e w4 ⟨rfl, n4, rfl⟩; rw [show bytesOf ⟨#[47]⟩ = [47] from rfl, hb, pfx_one])
    have HR4 := Lib.hid (HR.out.drewN n4)
    clear HR
    generalize hw4 : w2.drewN n4 = w4 at *
    clear hw4
    obtain ⟨q0, hq⟩ : ∃ q0, q0 = opens b p := ⟨_, rfl⟩
    obtain ⟨cl, hcl⟩ : ∃ cl, cl = isAt b (p + 1) 47 := ⟨_, rfl⟩
    have HO := Lib.hid (And.intro hq hcl)
    go_cut [1] (fun v wx => v = .int .i64 q0 ∧ Hid (Rf W wx t r [] cl (.slice none 0 0) []))
    case first =>
      cases h47 : isAt b (p + 1) 47 with
      | false =>
        obtain rfl : q0 = p + 1 := by rw [hq, opens_in, h47]; rfl
        obtain rfl : cl = false := by rw [hcl, h47]
        clear hq hcl HO
        go_wp2_with fail
        go_meet
        exact ⟨by go_num, HR4⟩
      | true =>
        obtain rfl : q0 = p + 2 := by rw [hq, opens_in, h47]; rfl
        obtain rfl : cl = true := by rw [hcl, h47]
        clear hq hcl HO
        have t2 := HR4.out.c2
        have u2 := HR4.out.fz 2
        go_wp2_with fail
        go_meet
        exact ⟨by go_num, HR4.out.tcl true⟩
    case rest =>
      obtain ⟨rfl, HR5⟩ := hcut
      clear HR4
      have hq0n : q0 ≤ b.length := by
        have := opens_in b p
        rw [hq, this]
        split
        · rename_i h; have := isAt_lt h; omega
        · omega
      clear hq hcl
      go_upto_if 36 with (go_at_call 35; refine (rletter_any s q0 _).mono ?_; rintro e w5 ⟨rfl, n5, rfl⟩; rw [hb])
      have HR6 := Lib.hid (HR5.out.drewN n5)
      clear HR5
      generalize hw5 : wc.drewN n5 = w5 at *
      clear hw5
      cases hl : isLetter b q0 with
      | false =>
        have HN := Lib.hid (read_no b p (by rw [← HO.out.1]; exact hl))
        clear hl
        as_aux_lemma =>
          obtain ⟨k0, k1, k2, k3⟩ := tf_cells HR6.out.rb
          have g0 := HR6.out.fr 0
          have g1 := HR6.out.fr 1
          have g2 := HR6.out.fr 2
          have g3 := HR6.out.fr 3
          go_wp2_with fail
          have HE := Lib.hid (fput_ HR6.out.rb HR6.out.bel HR6.out.lr HR6.out.own 0 ⟨#[]⟩ false (.slice none 0 0))
          clear k0 k1 k2 k3 g0 g1 g2 g3
          generalize (((w5.setCell ⟨r, 0, none⟩ (.int .i64 0)).setCell ⟨r, 1, none⟩ (.string ⟨#[]⟩)).setCell ⟨r, 2, none⟩ (.bool false)).setCell ⟨r, 3, none⟩ (.slice none 0 0) = w6 at *
          obtain ⟨k0, k1, k2, k3⟩ := tf_cells HE.out.1
          (try simp only [Exit.inBlock, Exit.then])
          refine bodyPost_ret (v := .tuple #[noTag, .bool false]) ?_ rfl ?_
          · simp [results, Try.results18, go_sem, k0, k1, k2, k3]
            try rfl
          exact ⟨hr ▸ HE.out.2.1, Or.inl ⟨HN.out, rfl⟩⟩
      | true =>
        have HLt := Lib.hid hl
        clear hl
        go_wp2_with fail
        go_loopg [1] (b.length - q0) (fun gn pv wr => ∃ q : Nat, pv = .int .i64 q ∧ q ≤ b.length ∧ q0 ≤ q ∧ Hid (Rf W wr t r [] cl (.slice none 0 0) [] ∧ whl nameB b q = whl nameB b q0 ∧ gn = b.length - q))
        case atStart => exact ⟨q0, rfl, by omega, Nat.le_refl _, HR6.out, rfl, rfl⟩
        case round =>
          obtain ⟨q, rfl, hqn, hq0, HQ⟩ := hrel
          clear HR6
          go_upto_region 11 with fail
          go_cut [65] (fun v wx => v = .bool (cnd nameB b q) ∧ Hid (Rf W wx t r [] cl (.slice none 0 0) []))
          case first =>
            as_aux_lemma =>
              by_cases hlt : q < b.length
              · have hd : decide ((q : Int) < (b.length : Int)) = true := by simp; omega
                have hix := ix_at s q (by omega)
                rw [hb] at hix
                have HC := Lib.hid (cnd_in nameB b q hlt)
                have hil := isLetter_in b q hlt
                generalize b.getD q 0 = x at *
                cases hl : letterB x with
                | true =>
                  go_wp2_with (go_at_call 35; refine (rletter_any s q _).mono ?_; rintro e w3 ⟨rfl, n3, rfl⟩; rw [hb, hil, hl])
                  go_meet
                  exact ⟨by rw [HC.out]; unfold nameB; rw [hl]; rfl, HQ.out.1.drewN _⟩
                | false =>
                  by_cases h1 : 48 ≤ x
                  · have e1 : decide ((48 : Int) ≤ x) = true := decide_eq_true h1
                    by_cases h2 : x ≤ 57
                    · have e2 : decide (x ≤ (57 : Int)) = true := decide_eq_true h2
                      go_wp2_with (go_at_call 35; refine (rletter_any s q _).mono ?_; rintro e w3 ⟨rfl, n3, rfl⟩; rw [hb, hil, hl])
                      go_meet
                      exact ⟨by rw [HC.out]; unfold nameB; rw [hl, decide_eq_true (show 48 ≤ x ∧ x ≤ 57 from ⟨h1, h2⟩)]; rfl, HQ.out.1.drewN _⟩
                    · have e2 : decide (x ≤ (57 : Int)) = false := decide_eq_false h2
                      go_wp2_with (go_at_call 35; refine (rletter_any s q _).mono ?_; rintro e w3 ⟨rfl, n3, rfl⟩; rw [hb, hil, hl])
                      go_meet
                      exact ⟨by rw [HC.out]; unfold nameB; rw [hl, decide_eq_false (show ¬ (48 ≤ x ∧ x ≤ 57) by omega)]; rfl, HQ.out.1.drewN _⟩
                  · have e1 : decide ((48 : Int) ≤ x) = false := decide_eq_false h1
                    go_wp2_with (go_at_call 35; refine (rletter_any s q _).mono ?_; rintro e w3 ⟨rfl, n3, rfl⟩; rw [hb, hil, hl])
                    go_meet
                    exact ⟨by rw [HC.out]; unfold nameB; rw [hl, decide_eq_false (show ¬ (48 ≤ x ∧ x ≤ 57) by omega)]; rfl, HQ.out.1.drewN _⟩
              · have hd : decide ((q : Int) < (b.length : Int)) = false := by simp; omega
                have HC := Lib.hid (cnd_out nameB b q hlt)
                go_wp2_with fail
                go_meet
                exact ⟨by rw [HC.out], HQ.out.1.drewN 0⟩
          case rest =>
            obtain ⟨rfl, HRx⟩ := hcut
            cases hc : cnd nameB b q with
            | true =>
              obtain ⟨hlt, hw⟩ := cnd_yes hc
              have HWl := Lib.hid hw
              clear hw hc
              go_wp2_with fail
              go_roundg (b.length - (q + 1))
              case measure => have := HQ.out.2.2; omega
              case rel => exact ⟨q + 1, by go_num, hlt, by omega, HRx.out, by rw [← HWl.out]; exact HQ.out.2.1, rfl⟩
            | false =>
              have hw := HQ.out.2.1
              rw [cnd_no hc hqn] at hw
              have HQW := Lib.hid hw.symm
              clear hc HQ hw
              as_aux_lemma =>
                obtain ⟨p1, hp1⟩ : ∃ p1, p1 = q := ⟨_, rfl⟩
                subst hp1
                go_wp2_with fail
                refine (low_any (s.extract q0 p1) _ (Nat.le_trans (size_ext s q0 p1) hs)).mono ?_
                rintro e w7 ⟨rfl, hb7⟩
                rw [bytesOf_ext, hb]
                have HR8 := Lib.hid (HRx.out.below hb7)
                clear hb7 HRx
                generalize hnm : (b.drop q0).take (p1 - q0) = nm at *
                generalize hnn : nm.map sm = nn at *
                have t1 := HR8.out.c1
                have u1 := HR8.out.fz 1
                go_wp2_with fail
                have HR9 := Lib.hid (HR8.out.tnm nn)
                clear HR8 t1 u1
                generalize w7.setCell ⟨t, 1, none⟩ (.string (strOfNums nn)) = w9 at *
                have HRY := Lib.hid (read_yes b p q0 p1 nm nn cl HX.out HO.out.1 HLt.out HO.out.2 HQW.out hnm hnn)
                clear hnm hnn HX HLt HQW
                go_loopg [1] (b.length + 2 - p1) (fun gn pv wr => ∃ (i : Nat) (v : Value) (S : List (Nat × Nat)) (m : Nat), pv = .int .i64 i ∧ i ≤ b.length + 1 ∧ Hid (Rf W wr t r nn cl v S ∧ attrs b m (min i b.length) S = attrs b (b.length + 1) p1 [] ∧ S.length ≤ i ∧ b.length < min i b.length + m ∧ gn = b.length + 2 - i))
                case atStart => exact ⟨p1, _, [], b.length + 1, rfl, by omega, HR9.out, by rw [Nat.min_eq_left hqn], Nat.zero_le _, by omega, rfl⟩
                case round =>
                  obtain ⟨i, v, S, m, rfl, hi, HK⟩ := hrel
                  clear HR9
                  by_cases hlt : i < b.length
                  · have hd3 : decide ((i : Int) < (b.length : Int)) = true := by simp; omega
                    have hix := ix_at s i (by omega)
                    rw [hb] at hix
                    have hil := isBlank_in b i hlt
                    have hmi : min i b.length = i := Nat.min_eq_left (by omega)
                    obtain ⟨m, rfl⟩ : ∃ m', m = m' + 1 := ⟨m - 1, by have := HK.out.2.2.2.1; omega⟩
                    have HA := Lib.hid (HK.out.2.1)
                    rw [hmi] at HA
                    have hgap := attrs_gap b (m + 1) i S hlt
                    have hgo := attrs_go b m i S hlt
                    have hgt := attr_ok b i hlt
                    have HAT := Lib.hid hgt
                    have HM := Lib.hid HK.out.2.2
                    have HR10 := Lib.hid HK.out.1
                    clear hgt hmi
                    generalize hxx : b.getD i 0 = x at *
                    have HGap := Lib.hid (And.intro hgap hgo)
                    clear hgap hgo
                    go_upto_region 15 with fail
                    go_cut [78] (fun v_ wx => v_ = .bool (gapB x) ∧ Hid (Rf W wx t r nn cl v S))
                    case first =>
                      cases hl : blankB x with
                      | true =>
                        go_wp2_with (go_at_call 46; refine (rblank_any s i _).mono ?_; rintro e w3 ⟨rfl, n3, rfl⟩; rw [hb, hil, hl])
                        go_meet
                        exact ⟨by unfold gapB; rw [hl]; rfl, HR10.out.drewN _⟩
                      | false =>
                        go_wp2_with (go_at_call 46; refine (rblank_any s i _).mono ?_; rintro e w3 ⟨rfl, n3, rfl⟩; rw [hb, hil, hl])
                        go_meet
                        exact ⟨by unfold gapB; rw [hl]; rfl, HR10.out.drewN _⟩
                    case rest =>
                      obtain ⟨rfl, HR11⟩ := hcut
                      clear HR10 hil
                      cases hgp : gapB x with
                      | true =>
                        have HE := Lib.hid ((HGap.out.1 hgp).symm.trans HA.out)
                        clear hgp
                        go_wp2_with fail
                        go_roundg (b.length + 2 - (i + 1))
                        case measure => have := HM.out.2.2; omega
                        case rel => exact ⟨i + 1, v, S, m + 1, by go_num, by omega, HR11.out, by rw [Nat.min_eq_left (by omega)]; exact HE.out, by have := HM.out.1; omega, by have := HM.out.2.1; omega, rfl⟩
                      | false =>
                        have HG2 := Lib.hid ((HGap.out.2 hgp).symm.trans HA.out)
                        clear hgp HGap HA
                        obtain ⟨A1, c1, rfl⟩ := own_form HR11.out.own
                        by_cases h62 : x = 62
                        · have hx62 : (x == 62) = true := by simp [h62]
                          have HN := Lib.hid (show Htm.read b p = some ⟨i + 1, nn, cl, S⟩ from by
                            have := HG2.out
                            rw [if_pos h62] at this
                            rw [HRY.out, ← this]; rfl)
                          have t0 := HR11.out.c0
                          have u0 := HR11.out.fz 0
                          go_upto_region 19 with fail
                          have HF := Lib.hid (HR11.out.fin ((i : Int) + 1))
                          clear HR11 t0 u0
                          generalize wc.setCell ⟨t, 0, none⟩ (.int .i64 ((i : Int) + 1)) = w12 at *
                          obtain ⟨t0, t1, t2, t3⟩ := tf_cells HF.out.1
                          obtain ⟨k0, k1, k2, k3⟩ := tf_cells HF.out.2.1
                          have g0 := blk_frozen HF.out.2.1 0
                          have g1 := blk_frozen HF.out.2.1 1
                          have g2 := blk_frozen HF.out.2.1 2
                          have g3 := blk_frozen HF.out.2.1 3
                          go_wp2_with fail
                          have HE := Lib.hid (fput_ HF.out.2.1 HF.out.2.2.1 (show W.heap.size ≤ r from Nat.le_of_eq hr) HF.out.2.2.2 ((i : Int) + 1) (strOfNums nn) cl (.slice A1 S.length c1))
                          clear k0 k1 k2 k3 g0 g1 g2 g3 t0 t1 t2 t3
                          generalize (((w12.setCell ⟨r, 0, none⟩ (.int .i64 ((i : Int) + 1))).setCell ⟨r, 1, none⟩ (.string (strOfNums nn))).setCell ⟨r, 2, none⟩ (.bool cl)).setCell ⟨r, 3, none⟩ (.slice A1 S.length c1) = w13 at *
                          obtain ⟨k0, k1, k2, k3⟩ := tf_cells HE.out.1
                          (try simp only [Exit.inBlock, Exit.then])
                          refine bodyPost_ret (v := .tuple #[.agg #[.int .i64 ((i : Int) + 1), .string (strOfNums nn), .bool cl, .slice A1 S.length c1], .bool true]) ?_ rfl ?_
                          · simp [results, Try.results18, go_sem, k0, k1, k2, k3]
                            try rfl
                          exact ⟨hr ▸ HE.out.2.1, Or.inr ⟨_, _, HN.out, rfl, HE.out.2.2⟩⟩
                        · have hx62 : (x == 62) = false := by simp [h62]
                          have hA3 := HG2.out
                          rw [if_neg h62] at hA3
                          have HA4 := Lib.hid hA3
                          clear hA3 HG2
                          go_wp2_with fail
                          go_loopg [1] (b.length - (i + 1)) (fun gn pv wr => ∃ q : Nat, pv = .int .i64 q ∧ q ≤ b.length ∧ (i + 1) ≤ q ∧ Hid (Rf W wr t r nn cl (.slice A1 S.length c1) S ∧ whl keyB b q = whl keyB b (i + 1) ∧ gn = b.length - q))
                          case atStart => exact ⟨(i + 1), rfl, by omega, Nat.le_refl _, HR11.out, rfl, rfl⟩
                          case round =>
                            obtain ⟨q, rfl, hqn, hq0, HQ⟩ := hrel
                            clear HR11
                            go_upto_region 22 with fail
                            go_cut [129] (fun v wx => v = .bool (cnd keyB b q) ∧ Hid (Rf W wx t r nn cl (.slice A1 S.length c1) S))
                            case first =>
                              as_aux_lemma =>
                                by_cases hlt : q < b.length
                                · have hd : decide ((q : Int) < (b.length : Int)) = true := by simp; omega
                                  have hix := ix_at s q (by omega)
                                  rw [hb] at hix
                                  have HC := Lib.hid (cnd_in keyB b q hlt)
                                  have hil := isBlank_in b q hlt
                                  generalize b.getD q 0 = x at *
                                  cases hl : blankB x with
                                  | true =>
                                    go_wp2_with (go_at_call 46; refine (rblank_any s q _).mono ?_; rintro e w3 ⟨rfl, n3, rfl⟩; rw [hb, hil, hl])
                                    go_meet
                                    exact ⟨by rw [HC.out]; unfold keyB; rw [hl]; rfl, HQ.out.1.drewN _⟩
                                  | false =>
                                    cases h2 : (x != 47) with
                                    | false =>
                                      go_wp2_with (go_at_call 46; refine (rblank_any s q _).mono ?_; rintro e w3 ⟨rfl, n3, rfl⟩; rw [hb, hil, hl])
                                      go_meet
                                      exact ⟨by rw [HC.out]; unfold keyB; rw [hl, h2]; rfl, HQ.out.1.drewN _⟩
                                    | true =>
                                      cases h3 : (x != 62) with
                                      | false =>
                                        go_wp2_with (go_at_call 46; refine (rblank_any s q _).mono ?_; rintro e w3 ⟨rfl, n3, rfl⟩; rw [hb, hil, hl])
                                        go_meet
                                        exact ⟨by rw [HC.out]; unfold keyB; rw [hl, h2, h3]; rfl, HQ.out.1.drewN _⟩
                                      | true =>
                                        go_wp2_with (go_at_call 46; refine (rblank_any s q _).mono ?_; rintro e w3 ⟨rfl, n3, rfl⟩; rw [hb, hil, hl])
                                        go_meet
                                        exact ⟨by rw [HC.out]; unfold keyB; rw [hl, h2, h3]; rfl, HQ.out.1.drewN _⟩
                                · have hd : decide ((q : Int) < (b.length : Int)) = false := by simp; omega
                                  have HC := Lib.hid (cnd_out keyB b q hlt)
                                  go_wp2_with fail
                                  go_meet
                                  exact ⟨by rw [HC.out], HQ.out.1.drewN 0⟩
                            case rest =>
                              obtain ⟨rfl, HRx⟩ := hcut
                              cases hc : cnd keyB b q with
                              | true =>
                                obtain ⟨hlt, hw⟩ := cnd_yes hc
                                have HWl := Lib.hid hw
                                clear hw hc
                                go_wp2_with fail
                                go_roundg (b.length - (q + 1))
                                case measure => have := HQ.out.2.2; omega
                                case rel => exact ⟨q + 1, by go_num, hlt, by omega, HRx.out, by rw [← HWl.out]; exact HQ.out.2.1, rfl⟩
                              | false =>
                                have hw := HQ.out.2.1
                                rw [cnd_no hc hqn] at hw
                                have HQW := Lib.hid hw.symm
                                clear hc HQ hw
                                as_aux_lemma =>
                                  obtain ⟨e1, he1⟩ : ∃ e1, e1 = q := ⟨_, rfl⟩
                                  subst he1
                                  have HW_e1 := Lib.hid HQW.out
                                  have HR_e1 := Lib.hid HRx.out
                                  clear HQW HRx
                                  have hie : i ≤ e1 := by omega
                                  go_wp2_with fail
                                  refine (low_any (s.extract i e1) _ (Nat.le_trans (size_ext s i e1) hs)).mono ?_
                                  rintro e w7 ⟨rfl, hb7⟩
                                  rw [bytesOf_ext, hb]
                                  have HRk := Lib.hid (HR_e1.out.below hb7)
                                  clear hb7 HR_e1
                                  generalize hkk : ((b.drop i).take (e1 - i)).map sm = kk at *
                                  have HKK := Lib.hid hkk
                                  clear hkk
                                  go_wp2_with fail
                                  go_loopg [1] (b.length - e1) (fun gn pv wr => ∃ q : Nat, pv = .int .i64 q ∧ q ≤ b.length ∧ e1 ≤ q ∧ Hid (Rf W wr t r nn cl (.slice A1 S.length c1) S ∧ whl blankB b q = whl blankB b e1 ∧ gn = b.length - q))
                                  case atStart => exact ⟨e1, rfl, by omega, Nat.le_refl _, HRk.out, rfl, rfl⟩
                                  case round =>
                                    obtain ⟨q, rfl, hqn, hq0, HQ⟩ := hrel
                                    clear HRk
                                    go_upto_region 25 with fail
                                    go_cut [139] (fun v wx => v = .bool (cnd blankB b q) ∧ Hid (Rf W wx t r nn cl (.slice A1 S.length c1) S))
                                    case first =>
                                      as_aux_lemma =>
                                        have HC := Lib.hid (cnd_blank b q)
                                        go_wp2_with (go_at_call 46; refine (rblank_any s q _).mono ?_; rintro e w3 ⟨rfl, n3, rfl⟩; rw [hb])
                                        go_meet
                                        exact ⟨by rw [HC.out], HQ.out.1.drewN _⟩
                                    case rest =>
                                      obtain ⟨rfl, HRx⟩ := hcut
                                      cases hc : cnd blankB b q with
                                      | true =>
                                        obtain ⟨hlt, hw⟩ := cnd_yes hc
                                        have HWl := Lib.hid hw
                                        clear hw hc
                                        go_wp2_with fail
                                        go_roundg (b.length - (q + 1))
                                        case measure => have := HQ.out.2.2; omega
                                        case rel => exact ⟨q + 1, by go_num, hlt, by omega, HRx.out, by rw [← HWl.out]; exact HQ.out.2.1, rfl⟩
                                      | false =>
                                        have hw := HQ.out.2.1
                                        rw [cnd_no hc hqn] at hw
                                        have HQW := Lib.hid hw.symm
                                        clear hc HQ hw
                                        as_aux_lemma =>
                                          obtain ⟨e2, he2⟩ : ∃ e2, e2 = q := ⟨_, rfl⟩
                                          subst he2
                                          have HW_e2 := Lib.hid HQW.out
                                          have HR_e2 := Lib.hid HRx.out
                                          clear HQW HRx
                                          go_upto_if 145 with (go_at_call 32; refine (rat_any s ⟨#[61]⟩ e2 _ (by omega) (by omega) (by decide) (by decide)).mono ?_; rintro e wA ⟨rfl, nA, rfl⟩; rw [show bytesOf ⟨#[61]⟩ = [61] from rfl, hb, pfx_one])
                                          have HR12 := Lib.hid (HR_e2.out.drewN nA)
                                          clear HR_e2
                                          generalize hwA : wc.drewN nA = w12 at *
                                          clear hwA
                                          cases h61 : isAt b e2 61 with
                                          | false =>
                                            have hE := attr_no b i e1 e2 HW_e1.out HW_e2.out h61
                                            have hA5 := HA4.out
                                            rw [hE, Option.toList_none, List.append_nil] at hA5
                                            have hb1 := HAT.out.1
                                            have hb2 := HAT.out.2.1
                                            rw [hE] at hb1 hb2
                                            have HA5 := Lib.hid hA5
                                            have hb3 : i < e2 := hb1
                                            have hb4 : e2 ≤ b.length := hb2
                                            clear hE hA5 hb1 hb2
                                            go_wp2_with fail
                                            go_roundg (b.length + 2 - (e2))
                                            case measure => have := HM.out.2.2; omega
                                            case rel => exact ⟨e2, _, S, m, by go_num, by omega, HR12.out, by
                                              rw [Nat.min_eq_left hb4]; exact HA5.out, by have := HM.out.1; omega, by have := HM.out.2.1; omega, rfl⟩
                                          | true =>
                                            have he2 := isAt_lt h61
                                            go_wp2_with fail
                                            go_loopg [1] (b.length - (e2 + 1)) (fun gn pv wr => ∃ q : Nat, pv = .int .i64 q ∧ q ≤ b.length ∧ (e2 + 1) ≤ q ∧ Hid (Rf W wr t r nn cl (.slice A1 S.length c1) S ∧ whl blankB b q = whl blankB b (e2 + 1) ∧ gn = b.length - q))
                                            case atStart => exact ⟨(e2 + 1), rfl, by omega, Nat.le_refl _, HR12.out, rfl, rfl⟩
                                            case round =>
                                              obtain ⟨q, rfl, hqn, hq0, HQ⟩ := hrel
                                              clear HR12
                                              go_upto_region 29 with fail
                                              go_cut [150] (fun v wx => v = .bool (cnd blankB b q) ∧ Hid (Rf W wx t r nn cl (.slice A1 S.length c1) S))
                                              case first =>
                                                as_aux_lemma =>
                                                  have HC := Lib.hid (cnd_blank b q)
                                                  go_wp2_with (go_at_call 46; refine (rblank_any s q _).mono ?_; rintro e w3 ⟨rfl, n3, rfl⟩; rw [hb])
                                                  go_meet
                                                  exact ⟨by rw [HC.out], HQ.out.1.drewN _⟩
                                              case rest =>
                                                obtain ⟨rfl, HRx⟩ := hcut
                                                cases hc : cnd blankB b q with
                                                | true =>
                                                  obtain ⟨hlt, hw⟩ := cnd_yes hc
                                                  have HWl := Lib.hid hw
                                                  clear hw hc
                                                  go_wp2_with fail
                                                  go_roundg (b.length - (q + 1))
                                                  case measure => have := HQ.out.2.2; omega
                                                  case rel => exact ⟨q + 1, by go_num, hlt, by omega, HRx.out, by rw [← HWl.out]; exact HQ.out.2.1, rfl⟩
                                                | false =>
                                                  have hw := HQ.out.2.1
                                                  rw [cnd_no hc hqn] at hw
                                                  have HQW := Lib.hid hw.symm
                                                  clear hc HQ hw
                                                  as_aux_lemma =>
                                                    obtain ⟨e3, he3⟩ : ∃ e3, e3 = q := ⟨_, rfl⟩
                                                    subst he3
                                                    have HW_e3 := Lib.hid HQW.out
                                                    have HR_e3 := Lib.hid HRx.out
                                                    clear HQW HRx
                                                    go_upto_region 31 with fail
                                                    obtain ⟨B, hB⟩ : ∃ B : Bool, B = (isAt b e3 34 || isAt b e3 39) := ⟨_, rfl⟩
                                                    have HB := Lib.hid hB
                                                    clear hB
                                                    go_cut [160] (fun v_ wx => v_ = .bool B ∧ Hid (Rf W wx t r nn cl (.slice A1 S.length c1) S))
                                                    case first =>
                                                      cases h34 : isAt b e3 34 with
                                                      | true =>
                                                        obtain rfl : B = true := by rw [HB.out, h34]; rfl
                                                        go_wp2_with (go_at_call 32; refine (rat_any s ⟨#[34]⟩ e3 _ (by omega) (by omega) (by decide) (by decide)).mono ?_; rintro e wA ⟨rfl, nA, rfl⟩; rw [show bytesOf ⟨#[34]⟩ = [34] from rfl, hb, pfx_one, h34])
                                                        go_meet
                                                        exact ⟨rfl, HR_e3.out.drewN _⟩
                                                      | false =>
                                                        obtain rfl : B = isAt b e3 39 := by rw [HB.out, h34]; rfl
                                                        go_wp2_with fail
                                                        refine (rat_any s ⟨#[34]⟩ e3 _ (by omega) (by omega) (by decide) (by decide)).mono ?_
                                                        rintro e wA ⟨rfl, nA, rfl⟩
                                                        rw [show bytesOf ⟨#[34]⟩ = [34] from rfl, hb, pfx_one, h34]
                                                        go_wp2_with fail
                                                        refine (rat_any s ⟨#[39]⟩ e3 _ (by omega) (by omega) (by decide) (by decide)).mono ?_
                                                        rintro e wB ⟨rfl, nB, rfl⟩
                                                        rw [show bytesOf ⟨#[39]⟩ = [39] from rfl, hb, pfx_one]
                                                        go_wp2_with fail
                                                        go_meet
                                                        exact ⟨rfl, HR_e3.out.drewN _⟩
                                                    case rest =>
                                                      obtain ⟨rfl, HR14⟩ := hcut
                                                      clear HR_e3
                                                      cases B with
                                                      | true =>
                                                        have he3 : e3 < b.length := by
                                                          have := HB.out
                                                          cases h : isAt b e3 34 with
                                                          | true => exact isAt_lt h
                                                          | false => rw [h, Bool.false_or] at this; exact isAt_lt this.symm
                                                        have hq34 : isAt b e3 34 = true ∨ isAt b e3 39 = true := by
                                                          have := HB.out
                                                          cases h : isAt b e3 34 with
                                                          | true => exact .inl rfl
                                                          | false => rw [h, Bool.false_or] at this; exact .inr this.symm
                                                        have HQ34 := Lib.hid hq34
                                                        clear hq34
                                                        have hix3 := ix_at s e3 (by omega)
                                                        rw [hb] at hix3
                                                        obtain ⟨yq, hyq⟩ : ∃ yq, b.getD e3 0 = yq := ⟨_, rfl⟩
                                                        rw [hyq] at hix3
                                                        have HYq : Hid (b.getD e3 0 = yq) := Lib.hid hyq
                                                        clear hyq
                                                        go_wp2_with fail
                                                        go_loopg [1] (b.length - (e3 + 1)) (fun gn pv wr => ∃ q : Nat, pv = .int .i64 q ∧ q ≤ b.length ∧ (e3 + 1) ≤ q ∧ Hid (Rf W wr t r nn cl (.slice A1 S.length c1) S ∧ whl (fun c => c != yq) b q = whl (fun c => c != yq) b (e3 + 1) ∧ gn = b.length - q))
                                                        case atStart => exact ⟨(e3 + 1), rfl, by omega, Nat.le_refl _, HR14.out, rfl, rfl⟩
                                                        case round =>
                                                          obtain ⟨q, rfl, hqn, hq0, HQ⟩ := hrel
                                                          clear HR14
                                                          go_upto_region 35 with fail
                                                          go_cut [177] (fun v wx => v = .bool (cnd (fun c => c != yq) b q) ∧ Hid (Rf W wx t r nn cl (.slice A1 S.length c1) S))
                                                          case first =>
                                                            as_aux_lemma =>
                                                              by_cases hlt : q < b.length
                                                              · have hd : decide ((q : Int) < (b.length : Int)) = true := by simp; omega
                                                                have hix := ix_at s q (by omega)
                                                                rw [hb] at hix
                                                                have HC := Lib.hid (cnd_in (fun c => c != yq) b q hlt)
                                                                generalize b.getD q 0 = x at *
                                                                go_wp2_with fail
                                                                go_meet
                                                                exact ⟨by rw [HC.out], HQ.out.1.drewN 0⟩
                                                              · have hd : decide ((q : Int) < (b.length : Int)) = false := by simp; omega
                                                                have HC := Lib.hid (cnd_out (fun c => c != yq) b q hlt)
                                                                go_wp2_with fail
                                                                go_meet
                                                                exact ⟨by rw [HC.out], HQ.out.1.drewN 0⟩
                                                          case rest =>
                                                            obtain ⟨rfl, HRx⟩ := hcut
                                                            cases hc : cnd (fun c => c != yq) b q with
                                                            | true =>
                                                              obtain ⟨hlt, hw⟩ := cnd_yes hc
                                                              have HWl := Lib.hid hw
                                                              clear hw hc
                                                              go_wp2_with fail
                                                              go_roundg (b.length - (q + 1))
                                                              case measure => have := HQ.out.2.2; omega
                                                              case rel => exact ⟨q + 1, by go_num, hlt, by omega, HRx.out, by rw [← HWl.out]; exact HQ.out.2.1, rfl⟩
                                                            | false =>
                                                              have hw := HQ.out.2.1
                                                              rw [cnd_no hc hqn] at hw
                                                              have HQW := Lib.hid hw.symm
                                                              clear hc HQ hw
                                                              as_aux_lemma =>
                                                                obtain ⟨e5, he5⟩ : ∃ e5, e5 = q := ⟨_, rfl⟩
                                                                subst he5
                                                                have HW_e5 := Lib.hid HQW.out
                                                                have HR_e5 := Lib.hid HRx.out
                                                                clear HQW HRx
                                                                obtain ⟨k1, hk1⟩ : ∃ k1, ((strOfNums kk).toList == ([97, 108, 116] : List UInt8)) = k1 := ⟨_, rfl⟩
                                                                obtain ⟨k2, hk2⟩ : ∃ k2, ((strOfNums kk).toList == ([116, 105, 116, 108, 101] : List UInt8)) = k2 := ⟨_, rfl⟩
                                                                obtain ⟨k3, hk3⟩ : ∃ k3, decide ((e3 : Int) + 1 < (e5 : Int)) = k3 := ⟨_, rfl⟩
                                                                obtain ⟨e6, he6⟩ : ∃ e6, e6 = if e5 < b.length then e5 + 1 else e5 := ⟨_, rfl⟩
                                                                have hmin : min (e5 + 1) b.length = e6 := by rw [he6]; split <;> omega
                                                                have HE := Lib.hid (And.intro (attr_quote b i e1 e2 e3 e5 e6 yq kk k1 k2 k3 HW_e1.out HW_e2.out HW_e3.out h61 HQ34.out HYq.out HW_e5.out he6 HKK.out (by rw [← HKK.out]; exact bys_sm' ((HBy.out.drop i).take (e1 - i))) hk1 hk2 hk3) hmin)
                                                                have HK3 := Lib.hid hk3
                                                                clear he6 hmin
                                                                go_upto_region 37 with fail
                                                                go_cut [190] (fun v_ wx => v_ = .bool ((k1 || k2) && k3) ∧ Hid (Rf W wx t r nn cl (.slice A1 S.length c1) S))
                                                                case first =>
                                                                  cases k3 with
                                                                  | false =>
                                                                    go_wp2_with fail
                                                                    go_meet
                                                                    exact ⟨by simp, HR_e5.out.drewN 0⟩
                                                                  | true =>
                                                                    cases k1 with
                                                                    | true =>
                                                                      go_wp2_with fail
                                                                      go_meet
                                                                      exact ⟨rfl, HR_e5.out.drewN 0⟩
                                                                    | false =>
                                                                      cases k2 with
                                                                      | true =>
                                                                        go_wp2_with fail
                                                                        go_meet
                                                                        exact ⟨rfl, HR_e5.out.drewN 0⟩
                                                                      | false =>
                                                                        go_wp2_with fail
                                                                        go_meet
                                                                        exact ⟨rfl, HR_e5.out.drewN 0⟩
                                                                case rest =>
                                                                  obtain ⟨rfl, HR20⟩ := hcut
                                                                  clear HR_e5 hk1 hk2 hk3
                                                                  cases hKK : ((k1 || k2) && k3) with
                                                                  | false =>
                                                                    have hA5 := HA4.out
                                                                    rw [HE.out.1, hKK] at hA5
                                                                    have HA5 := Lib.hid (show attrs b m e6 S = attrs b (b.length + 1) p1 [] from by simpa using hA5)
                                                                    clear hA5
                                                                    go_wp2_with fail
                                                                    go_roundg (b.length + 2 - (e5 + 1))
                                                                    case measure => have := HM.out.2.2; omega
                                                                    case rel => exact ⟨e5 + 1, _, S, m, by go_num, by omega, HR20.out, by
                                                                      rw [HE.out.2]; exact HA5.out, by have := HM.out.1; omega, by have := HM.out.2.1; omega, rfl⟩
                                                                  | true =>
                                                                    have hA5 := HA4.out
                                                                    rw [HE.out.1, hKK] at hA5
                                                                    have HA5 := Lib.hid (show attrs b m e6 (S ++ [(e3 + 1, e5 - (e3 + 1))]) = attrs b (b.length + 1) p1 [] from by simpa using hA5)
                                                                    have hlt5 : e3 + 1 < e5 := by
                                                                      have := HK3.out
                                                                      cases k3 with
                                                                      | true => have := of_decide_eq_true this; omega
                                                                      | false => simp at hKK
                                                                    clear hA5
                                                                    have hcast : ((e5 : Int) - ((e3 : Int) + 1)) = ((e5 - (e3 + 1) : Nat) : Int) := by omega
                                                                    have HCast := Lib.hid hcast
                                                                    clear hcast hKK
                                                                    have t3 := HR20.out.c3
                                                                    have hbase : W.heap.size ≤ wc.heap.size := HR20.out.bel.size
                                                                    go_upto_region 38 with fail
                                                                    go_wp2_with (at_builtin; refine print_append_cells (w0 := W) W.heap.size rfl _ _ 41 54 (.agg #[.int .i64 0, .int .i64 0]) 2 16 rfl Try.underlying41 infoSpan rfl (by decide) (by decide) (.slice A1 S.length c1) S.length (spC S) [.int .i64 ((e3 : Int) + 1), .int .i64 ((e5 : Int) - ((e3 : Int) + 1))] rfl rfl rfl (by simp [Value.oneCell']) HR20.out.own HR20.out.bel hbase (by have := HM.out; omega) ?_; intro vv w14 hown hb14 hg14 _; obtain ⟨A2, c2, rfl⟩ := own_form hown; rw [HCast.out] at hown; obtain ⟨u3, t4, hr14⟩ := HR20.out.app (u := e3 + 1) (y := e5 - (e3 + 1)) hown hb14 hg14; have HR14' := Lib.hid hr14; clear hown hb14 hg14 hr14)
                                                                    go_roundg (b.length + 2 - (e5 + 1))
                                                                    case measure => have := HM.out.2.2; omega
                                                                    case rel => exact ⟨e5 + 1, _, S ++ [(e3 + 1, e5 - (e3 + 1))], m, by go_num, by omega, HR14'.out, by
                                                                      rw [HE.out.2]; exact HA5.out, by have := HM.out.1; rw [List.length_append, List.length_singleton]; omega, by have := HM.out.2.1; omega, rfl⟩
                                                      | false =>
                                                        go_wp2_with fail
                                                        go_loopg [1] (b.length - e3) (fun gn pv wr => ∃ q : Nat, pv = .int .i64 q ∧ q ≤ b.length ∧ e3 ≤ q ∧ Hid (Rf W wr t r nn cl (.slice A1 S.length c1) S ∧ whl bareB b q = whl bareB b e3 ∧ gn = b.length - q))
                                                        case atStart => exact ⟨e3, rfl, by omega, Nat.le_refl _, HR14.out, rfl, rfl⟩
                                                        case round =>
                                                          obtain ⟨q, rfl, hqn, hq0, HQ⟩ := hrel
                                                          clear HR14
                                                          go_upto_region 40 with fail
                                                          go_cut [218] (fun v wx => v = .bool (cnd bareB b q) ∧ Hid (Rf W wx t r nn cl (.slice A1 S.length c1) S))
                                                          case first =>
                                                            as_aux_lemma =>
                                                              by_cases hlt : q < b.length
                                                              · have hd : decide ((q : Int) < (b.length : Int)) = true := by simp; omega
                                                                have hix := ix_at s q (by omega)
                                                                rw [hb] at hix
                                                                have HC := Lib.hid (cnd_in bareB b q hlt)
                                                                have hil := isBlank_in b q hlt
                                                                generalize b.getD q 0 = x at *
                                                                cases hl : blankB x with
                                                                | true =>
                                                                  go_wp2_with (go_at_call 46; refine (rblank_any s q _).mono ?_; rintro e w3 ⟨rfl, n3, rfl⟩; rw [hb, hil, hl])
                                                                  go_meet
                                                                  exact ⟨by rw [HC.out]; unfold bareB; rw [hl]; rfl, HQ.out.1.drewN _⟩
                                                                | false =>
                                                                  go_wp2_with (go_at_call 46; refine (rblank_any s q _).mono ?_; rintro e w3 ⟨rfl, n3, rfl⟩; rw [hb, hil, hl])
                                                                  go_meet
                                                                  exact ⟨by rw [HC.out]; unfold bareB; rw [hl]; rfl, HQ.out.1.drewN _⟩
                                                              · have hd : decide ((q : Int) < (b.length : Int)) = false := by simp; omega
                                                                have HC := Lib.hid (cnd_out bareB b q hlt)
                                                                go_wp2_with fail
                                                                go_meet
                                                                exact ⟨by rw [HC.out], HQ.out.1.drewN 0⟩
                                                          case rest =>
                                                            obtain ⟨rfl, HRx⟩ := hcut
                                                            cases hc : cnd bareB b q with
                                                            | true =>
                                                              obtain ⟨hlt, hw⟩ := cnd_yes hc
                                                              have HWl := Lib.hid hw
                                                              clear hw hc
                                                              go_wp2_with fail
                                                              go_roundg (b.length - (q + 1))
                                                              case measure => have := HQ.out.2.2; omega
                                                              case rel => exact ⟨q + 1, by go_num, hlt, by omega, HRx.out, by rw [← HWl.out]; exact HQ.out.2.1, rfl⟩
                                                            | false =>
                                                              have hw := HQ.out.2.1
                                                              rw [cnd_no hc hqn] at hw
                                                              have HQW := Lib.hid hw.symm
                                                              clear hc HQ hw
                                                              as_aux_lemma =>
                                                                obtain ⟨e4, he4⟩ : ∃ e4, e4 = q := ⟨_, rfl⟩
                                                                subst he4
                                                                have HW_e4 := Lib.hid HQW.out
                                                                have HR_e4 := Lib.hid HRx.out
                                                                clear HQW HRx
                                                                have hE := attr_bare b i e1 e2 e3 HW_e1.out HW_e2.out HW_e3.out h61 (by have := HB.out; cases h : isAt b e3 34 with | false => rfl | true => rw [h] at this; simp at this) (by have := HB.out; cases h : isAt b e3 39 with | false => rfl | true => rw [h] at this; simp at this)
                                                                rw [HW_e4.out] at hE
                                                                have hA5 := HA4.out
                                                                rw [hE, Option.toList_none, List.append_nil] at hA5
                                                                have hb1 := HAT.out.1
                                                                have hb2 := HAT.out.2.1
                                                                rw [hE] at hb1 hb2
                                                                have HA5 := Lib.hid hA5
                                                                have hb3 : i < e4 := hb1
                                                                have hb4 : e4 ≤ b.length := hb2
                                                                clear hE hA5 hb1 hb2
                                                                go_wp2_with fail
                                                                go_roundg (b.length + 2 - (e4))
                                                                case measure => have := HM.out.2.2; omega
                                                                case rel => exact ⟨e4, _, S, m, by go_num, by omega, HR_e4.out, by
                                                                  rw [Nat.min_eq_left hb4]; exact HA5.out, by have := HM.out.1; omega, by have := HM.out.2.1; omega, rfl⟩
                  · have hd3 : decide ((i : Int) < (b.length : Int)) = false := by simp; omega
                    have HN := Lib.hid (show Htm.read b p = none from by
                      have := HK.out.2.1
                      rw [Nat.min_eq_right (by omega), attrs_end] at this
                      rw [HRY.out, ← this]; rfl)
                    have HR10 := Lib.hid HK.out.1
                    clear HK
                    as_aux_lemma =>
                      obtain ⟨k0, k1, k2, k3⟩ := tf_cells HR10.out.rb
                      have g0 := HR10.out.fr 0
                      have g1 := HR10.out.fr 1
                      have g2 := HR10.out.fr 2
                      have g3 := HR10.out.fr 3
                      go_wp2_with fail
                      have HE := Lib.hid (fput_ HR10.out.rb HR10.out.bel HR10.out.lr HR10.out.own 0 ⟨#[]⟩ false (.slice none 0 0))
                      clear k0 k1 k2 k3 g0 g1 g2 g3
                      generalize (((wr.setCell ⟨r, 0, none⟩ (.int .i64 0)).setCell ⟨r, 1, none⟩ (.string ⟨#[]⟩)).setCell ⟨r, 2, none⟩ (.bool false)).setCell ⟨r, 3, none⟩ (.slice none 0 0) = w6 at *
                      obtain ⟨k0, k1, k2, k3⟩ := tf_cells HE.out.1
                      (try simp only [Exit.inBlock, Exit.then])
                      refine bodyPost_ret (v := .tuple #[noTag, .bool false]) ?_ rfl ?_
                      · simp [results, Try.results18, go_sem, k0, k1, k2, k3]
                        try rfl
                      exact ⟨hr ▸ HE.out.2.1, Or.inl ⟨HN.out, rfl⟩⟩
  · have HN := Lib.hid (show Htm.read b p = none from by
      unfold Htm.read
      rw [if_neg (by rw [HX.out]; simp [hx])])
    have hx1 : (x != 60) = true := by simp [hx]
    as_aux_lemma =>
      obtain ⟨k0, k1, k2, k3⟩ := tf_cells HR.out.rb
      have g0 := HR.out.fr 0
      have g1 := HR.out.fr 1
      have g2 := HR.out.fr 2
      have g3 := HR.out.fr 3
      obtain ⟨t0, t1, t2, t3⟩ := tf_cells HR.out.tb
      go_wp2_with fail
      have HE := Lib.hid (fput_ HR.out.rb HR.out.bel HR.out.lr HR.out.own 0 (strOfNums []) false (.slice none 0 0))
      clear k0 k1 k2 k3 g0 g1 g2 g3 t0 t1 t2 t3
      generalize (((w2.setCell ⟨r, 0, none⟩ (.int .i64 0)).setCell ⟨r, 1, none⟩ (.string (strOfNums []))).setCell ⟨r, 2, none⟩ (.bool false)).setCell ⟨r, 3, none⟩ (.slice none 0 0) = w6 at *
      obtain ⟨k0, k1, k2, k3⟩ := tf_cells HE.out.1
      (try simp only [Exit.inBlock, Exit.then])
      refine bodyPost_ret (v := .tuple #[noTag, .bool false]) ?_ rfl ?_
      · simp [results, Try.results18, go_sem, k0, k1, k2, k3]
        try rfl
      exact ⟨hr ▸ HE.out.2.1, Or.inl ⟨HN.out, rfl⟩⟩
end Go.Proofs.Ytcbibbdkjhkmoaa.H
