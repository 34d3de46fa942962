/- sign, walked. Conditions: as each lemma says. -/
import Derived.Test.YtkicpaodcmepmaaDoorTUtf
set_option linter.unusedVariables false
set_option linter.unusedSimpArgs false
namespace Go.Proofs.YtkicpaodcmepmaaDoor.T
open Go.RowKit Go.Proofs.YtkicpaodcmepmaaDoorW.PrintWords Go.Proofs.YtkicpaodcmepmaaDoor.L Go.Proofs.YtkicpaodcmepmaaDoor.S Go.Proofs.YtkicpaodcmepmaaDoor.Tex

theorem sgn_end (b : List Int) (p : Nat) (L : List Int) (h : p + 1 = b.length) : sgn b p L = (p + 1, setL L 2 (p : Int) ((p + 1 : Nat) : Int)) := by unfold sgn; rw [if_pos h]
theorem sgn_par (b : List Int) (p : Nat) (L : List Int) (h : p + 1 < b.length) (h2 : b.getD (p + 1) 0 = 40) : sgn b p L = (untl [92, 41] b (p + 2), setL L 4 (p : Int) (untl [92, 41] b (p + 2) : Int)) := by unfold sgn; rw [if_neg (by omega), if_pos h2]
theorem sgn_squ (b : List Int) (p : Nat) (L : List Int) (h : p + 1 < b.length) (h2 : b.getD (p + 1) 0 = 91) : sgn b p L = (untl [92, 93] b (p + 2), setL L 4 (p : Int) (untl [92, 93] b (p + 2) : Int)) := by unfold sgn; rw [if_neg (by omega), if_neg (by omega), if_pos h2]
theorem sgn_els (b : List Int) (p : Nat) (L : List Int) (h : p + 1 < b.length) (h2 : b.getD (p + 1) 0 ≠ 40) (h3 : b.getD (p + 1) 0 ≠ 91) : sgn b p L = (p + 1 + wid (b.drop (p + 1)), setL L 2 (p : Int) ((p + 1 + wid (b.drop (p + 1)) : Nat) : Int)) := by unfold sgn; rw [if_neg (by omega), if_neg h2, if_neg h3]
set_option maxHeartbeats 2000000 in
theorem sign_any (E : Env) (W : World) (L : List Int) (p : Nat) (h : E.In W L) (hp : p < E.b.length) :
    Calls Tryd.prog 39 #[.pointer (some ⟨E.d, 0, none⟩), .int .i64 p] W fun e w' => e = .returned (.int .i64 ((sgn E.b p L).1 : Nat)) ∧ E.In w' (sgn E.b p L).2 := by
  have hmax := h.ok.max
  have hcap := h.ok.cap
  have c1 := h.c1
  have HH := Lib.hid h
  have HY := Lib.hid h.ok.bys
  clear h
  go_enter Tryd.func39, Tryd.ntmps39
  by_cases hlt : p + 1 < E.b.length
  · have hd : ((p : Int) + 1 == (E.b.length : Int)) = false := by rw [beq_eq_false_iff_ne]; omega
    have k0 := HH.out.at_ (p + 1) hlt
    have HE1 := Lib.hid (sgn_par E.b p L hlt)
    have HE2 := Lib.hid (sgn_squ E.b p L hlt)
    have HE3 := Lib.hid (sgn_els E.b p L hlt)
    generalize E.b.getD (p + 1) 0 = x at *
    by_cases h40 : x = 40
    · subst h40
      have HE := Lib.hid (HE1.out rfl)
      clear HE1 HE2 HE3
      go_wp2_with fail
      refine (until_any E _ L (p + 2) ⟨#[92, 41]⟩ HH.out (by omega) (by decide) (by decide)).mono ?_
      rw [show bytesOf ⟨#[92, 41]⟩ = [92, 41] from by decide]
      rintro e w1 ⟨rfl, hb1⟩
      have H1 := Lib.hid (HH.out.below hb1)
      clear hb1
      generalize untl [92, 41] E.b (p + 2) = q at *
      go_wp2_with fail
      refine (dset_any E _ L 4 _ _ H1.out).mono ?_
      rintro e w2 ⟨rfl, h2⟩
      have H2 := Lib.hid h2
      clear h2
      go_wp2_with fail
      go_ret
      exact ⟨by rw [HE.out]; rfl, by rw [HE.out]; exact H2.out⟩
    · have hb1 : (x == 40) = false := by simp [h40]
      by_cases h91 : x = 91
      · subst h91
        have HE := Lib.hid (HE2.out rfl)
        clear HE1 HE2 HE3
        go_wp2_with fail
        refine (until_any E _ L (p + 2) ⟨#[92, 93]⟩ HH.out (by omega) (by decide) (by decide)).mono ?_
        rw [show bytesOf ⟨#[92, 93]⟩ = [92, 93] from by decide]
        rintro e w1 ⟨rfl, hb1⟩
        have H1 := Lib.hid (HH.out.below hb1)
        clear hb1
        generalize untl [92, 93] E.b (p + 2) = q at *
        go_wp2_with fail
        refine (dset_any E _ L 4 _ _ H1.out).mono ?_
        rintro e w2 ⟨rfl, h2⟩
        have H2 := Lib.hid h2
        clear h2
        go_wp2_with fail
        go_ret
        exact ⟨by rw [HE.out]; rfl, by rw [HE.out]; exact H2.out⟩
      · have hb2 : (x == 91) = false := by simp [h91]
        have HE := Lib.hid (HE3.out h40 h91)
        clear HE1 HE2 HE3 h40 h91
        obtain ⟨i0, hi0, _, hsz, _⟩ := info_parts S.info5
        have hct := cut_from (P := Tryd.prog) 22 5 .i64 Tryd.underlying22 hi0 1 hsz (some (⟨E.bl, E.of, none⟩ : Addr)) E.b.length E.c ((p + 1 : Nat) : Int) (by omega) (by omega)
        simp only [Int.toNat_natCast, Option.map_some] at hct
        rw [show (((p + 1 : Nat)) : Int) = (p : Int) + 1 from by omega] at hct
        generalize hA2 : (if E.c = p + 1 then some (⟨E.bl, E.of, none⟩ : Addr) else some ((⟨E.bl, E.of, none⟩ : Addr).add ((p + 1) * 1))) = A2 at hct
        have HC := Lib.hid (HH.out.from_ (p + 1) (by omega) A2 hA2)
        have HBy := Lib.hid (HY.out.drop (p + 1))
        have hln : (E.b.drop (p + 1)).length = E.b.length - (p + 1) := List.length_drop ..
        have hw := wid_le (E.b.drop (p + 1))
        have HUN := Lib.hid (show ∀ X : World, Kd.C (Kd.int .u8) X A2 (E.b.length - (p + 1)) (E.b.drop (p + 1)) → Calls Tryd.prog 49 #[.slice A2 (E.b.length - (p + 1)) (E.c - (p + 1))] X fun e w' => (∃ r : Int, e = .returned (.tuple #[.int .i32 r, .int .i64 (wid (E.b.drop (p + 1)) : Nat)])) ∧ Below X.heap.size X w' from fun X hC => by
          have h := unext_any A2 (E.c - (p + 1)) (E.b.drop (p + 1)) X (by rw [hln]; exact hC) (by rw [hln]; omega) HBy.out (by rw [hln]; omega)
          rwa [hln] at h)
        rw [hln] at hw
        clear hi0 hsz hA2 hln
        generalize wid (E.b.drop (p + 1)) = m at *
        have hm4 := hw.2.2
        clear hw
        go_wp2_with fail
        refine (HUN.out _ HC.out).mono ?_
        rintro e w1 ⟨⟨r, rfl⟩, hb⟩
        have H1 := Lib.hid (HH.out.below hb)
        clear hb HUN HC
        go_wp2_with fail
        refine (dset_any E _ L 2 _ _ H1.out).mono ?_
        rintro e w2 ⟨rfl, h2⟩
        have H2 := Lib.hid h2
        clear h2
        go_wp2_with fail
        go_ret
        exact ⟨by rw [HE.out]; rfl, by rw [HE.out]; exact H2.out⟩
  · have hd : ((p : Int) + 1 == (E.b.length : Int)) = true := by rw [beq_iff_eq]; omega
    have HE := Lib.hid (sgn_end E.b p L (by omega))
    go_wp2_with fail
    refine (dset_any E _ L 2 _ _ HH.out).mono ?_
    rintro e w2 ⟨rfl, h2⟩
    have H2 := Lib.hid h2
    clear h2
    go_wp2_with fail
    go_ret
    exact ⟨by rw [HE.out]; rfl, by rw [HE.out]; exact H2.out⟩
end Go.Proofs.YtkicpaodcmepmaaDoor.T
