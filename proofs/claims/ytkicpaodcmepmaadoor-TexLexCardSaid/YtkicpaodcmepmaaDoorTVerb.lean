/- verb, walked. Conditions: as each lemma says. -/
import Derived.Test.YtkicpaodcmepmaaDoorTDoc
import Derived.Laws.BitsLemmas
set_option linter.unusedVariables false
set_option linter.unusedSimpArgs false
namespace Go.Proofs.YtkicpaodcmepmaaDoor.T
open Go.RowKit Go.Proofs.YtkicpaodcmepmaaDoorW.PrintWords Go.Proofs.YtkicpaodcmepmaaDoorW.PrintMore Go.Proofs.YtkicpaodcmepmaaDoorW.PrintLast Go.Proofs.YtkicpaodcmepmaaDoor.L Go.Proofs.YtkicpaodcmepmaaDoor.S Go.Proofs.YtkicpaodcmepmaaDoor.Tex

theorem getD_at (b : List Int) (p : Nat) (h : p < b.length) : b[p]? = some (b.getD p 0) := by
  rw [List.getD_eq_getElem?_getD, List.getElem?_eq_getElem h]; rfl
theorem verbB_end (b : List Int) (p : Nat) (L : List Int) (h : b.length ≤ p) : verbB b p L = (p, L) := by unfold verbB; rw [if_pos (.inl h)]
theorem verbB_nl (b : List Int) (p : Nat) (L : List Int) (h : b.getD p 0 = 10) : verbB b p L = (p, L) := by unfold verbB; rw [if_pos (.inr h)]
theorem verbB_in (b : List Int) (p : Nat) (L : List Int) (h : p < b.length) (h2 : b.getD p 0 ≠ 10) : verbB b p L = (verbE b p, setL L 4 (p : Int) (verbE b p : Int)) := by unfold verbB; rw [if_neg (by rintro (e | e); omega; exact h2 e)]
theorem mid_run (A : Addr) (n c lo hi : Nat) (h1 : lo ≤ hi) (h2 : hi ≤ n) (hc : n ≤ c) : ∀ W : World, (Instr.slice 22 (.slice (some A) n c) (some (.int .i64 (lo : Int))) (some (.int .i64 (hi : Int))) none).run Tryd.prog W = .ok (.slice (if c = lo then some A else some (A.add (lo * 1))) (hi - lo) (c - lo)) W := by
  obtain ⟨i0, hi0, _, hsz, _⟩ := info_parts S.info5
  have := cut_mid (P := Tryd.prog) 22 5 .i64 .i64 Tryd.underlying22 hi0 1 hsz (some A) n c (lo : Int) (hi : Int) (by omega) (by omega) (by omega) hc
  simpa using this
theorem Env.In.mid_ {E : Env} {W : World} {L : List Int} (h : E.In W L) (lo hi : Nat) (h1 : lo ≤ hi) (h2 : hi ≤ E.b.length) (A2 : Option Addr) (hA : (if E.c = lo then some (⟨E.bl, E.of, none⟩ : Addr) else some ((⟨E.bl, E.of, none⟩ : Addr).add (lo * 1))) = A2) : Kd.C (Kd.int .u8) W A2 (hi - lo) ((E.b.take hi).drop lo) := by
  have := Kd.C_mid h.bytes h1 h2 h.ok.cap
  have hl : ((E.b.take hi).drop lo).length = hi - lo := by rw [List.length_drop, List.length_take]; omega
  rw [hl] at this
  rw [← hA]
  refine (show (if E.c = lo then some (⟨E.bl, E.of, none⟩ : Addr) else Option.map (fun x => x.add (lo * 1)) (some (⟨E.bl, E.of, none⟩ : Addr))) = (if E.c = lo then some (⟨E.bl, E.of, none⟩ : Addr) else some ((⟨E.bl, E.of, none⟩ : Addr).add (lo * 1))) from rfl) ▸ this
set_option maxHeartbeats 2000000 in
theorem verb_any (E : Env) (W : World) (L : List Int) (p : Nat) (h : E.In W L) (hp : p ≤ E.b.length) :
    Calls Tryd.prog 40 #[.pointer (some ⟨E.d, 0, none⟩), .int .i64 p] W fun e w' => e = .returned (.int .i64 ((verbS E.b p L).1 : Nat)) ∧ E.In w' (verbS E.b p L).2 := by
  have hmax := h.ok.max
  have hcap := h.ok.cap
  have c1 := h.c1
  have HH := Lib.hid h
  have HY := Lib.hid h.ok.bys
  have HG : Hid (∀ X, (E.b[p]? == some 42) = X → verbS E.b p L = if X = true then verbB E.b (p + 1) (setL L 2 (p : Int) ((p + 1 : Nat) : Int)) else verbB E.b p L) := Lib.hid (by
    rintro X rfl
    unfold verbS
    by_cases h : E.b[p]? = some 42
    · rw [if_pos h, if_pos (by rw [h]; rfl)]
    · rw [if_neg h, if_neg (by simpa using h)])
  clear h
  go_enter Tryd.func40, Tryd.ntmps40
  go_upto_region 1 with fail
  obtain ⟨X, hX⟩ : ∃ X, (E.b[p]? == some 42) = X := ⟨_, rfl⟩
  have HG2 := Lib.hid (HG.out X hX)
  have HX := Lib.hid hX
  clear HG hX
  go_cut [23] (fun v wx => v = .bool X ∧ Hid (E.In wx L))
  case first =>
    by_cases hlt : p < E.b.length
    · have hd : decide ((p : Int) < (E.b.length : Int)) = true := by simp; omega
      have k0 := HH.out.at_ p hlt
      have HX2 := Lib.hid (show (E.b.getD p 0 == 42) = X from by have := HX.out; rwa [getD_at E.b p hlt] at this)
      generalize E.b.getD p 0 = x at *
      go_wp2_with fail
      go_meet
      exact ⟨by rw [HX2.out], HH.out⟩
    · have hd : decide ((p : Int) < (E.b.length : Int)) = false := by simp; omega
      have HX2 := Lib.hid (show false = X from by have := HX.out; rwa [List.getElem?_eq_none (by omega)] at this)
      go_wp2_with fail
      go_meet
      exact ⟨by rw [← HX2.out], HH.out⟩
  case rest =>
  obtain ⟨rfl, HW⟩ := hcut
  clear c1 HH
  have hXlt : X = true → p < E.b.length := fun e => by
    have := HX.out
    rw [e] at this
    exact (List.getElem?_eq_some_iff.1 (eq_of_beq this)).1
  go_upto_if 23 with fail
  go_cut [1] (fun v wx => ∃ (q : Nat) (L1 : List Int), v = .int .i64 q ∧ Hid (E.In wx L1 ∧ q ≤ E.b.length ∧ verbS E.b p L = verbB E.b q L1))
  case first =>
    cases X with
    | true =>
      have hG := HG2.out
      rw [if_pos rfl] at hG
      have HG3 := Lib.hid hG
      have hp2 := hXlt rfl
      clear hG HG2 HX hXlt
      go_wp2_with fail
      refine (dset_any E _ L 2 _ _ HW.out).mono ?_
      rintro e w1 ⟨rfl, h1⟩
      have H1 := Lib.hid h1
      clear h1
      go_wp2_with fail
      go_meet
      exact ⟨p + 1, _, by go_num, H1.out, by omega, HG3.out⟩
    | false =>
      have hG := HG2.out
      rw [if_neg (by simp)] at hG
      have HG3 := Lib.hid hG
      clear hG HG2 HX hXlt
      go_wp2_with fail
      go_meet
      exact ⟨p, _, rfl, HW.out, hp, HG3.out⟩
  case rest =>
  obtain ⟨q, L1, rfl, HQ⟩ := hcut
  have HI := Lib.hid HQ.out.1
  have hq := HQ.out.2.1
  have HV := Lib.hid HQ.out.2.2
  clear HQ HW HG2 HX hXlt
  have c1 := HI.out.c1
  by_cases hlt : q < E.b.length
  · have hd : decide ((E.b.length : Int) ≤ (q : Int)) = false := by simp; omega
    have hd2 : decide (E.b.length ≤ q) = false := by simp; omega
    have k0 := HI.out.at_ q hlt
    have hx := HI.out.byte q hlt
    obtain ⟨x, hgx⟩ : ∃ x, E.b.getD q 0 = x := ⟨_, rfl⟩
    have HGx := Lib.hid hgx
    have HE := Lib.hid (verbB_in E.b q L1 hlt)
    have HN := Lib.hid (verbB_nl E.b q L1)
    have HVE := Lib.hid (show verbE E.b q = if ((E.b.take (lineE E.b q)).drop (q + 1)).findIdx (· == E.b.getD q 0) < lineE E.b q - (q + 1) then q + ((E.b.take (lineE E.b q)).drop (q + 1)).findIdx (· == E.b.getD q 0) + 2 else lineE E.b q from rfl)
    rw [hgx] at k0 hx HE HN HVE
    clear hgx
    by_cases h10 : x = 10
    · subst h10
      have HN2 := Lib.hid (HN.out rfl)
      go_wp2_with fail
      go_ret
      exact ⟨by rw [HV.out, HN2.out]; rfl, by rw [HV.out, HN2.out]; exact HI.out⟩
    · have hb : (x == 10) = false := by simp [h10]
      have HE2 := Lib.hid (HE.out h10)
      clear HE HN h10
      go_wp2_with fail
      refine (line_any E _ L1 q HI.out (by omega)).mono ?_
      rintro e w1 ⟨rfl, rfl⟩
      have hl1 := lineE_lt E.b q hlt
      have hl2 := (lineE_le E.b q (by omega)).2
      generalize lineE E.b q = tt at *
      have hct := mid_run ⟨E.bl, E.of, none⟩ E.b.length E.c (q + 1) tt (by omega) hl2 hcap
      rw [show (((q + 1 : Nat)) : Int) = (q : Int) + 1 from by omega] at hct
      generalize hA2 : (if E.c = q + 1 then some (⟨E.bl, E.of, none⟩ : Addr) else some ((⟨E.bl, E.of, none⟩ : Addr).add ((q + 1) * 1))) = A2 at hct
      have HC := Lib.hid (HI.out.mid_ (q + 1) tt (by omega) hl2 A2 hA2)
      have HBy := Lib.hid ((HY.out.take tt).drop (q + 1))
      have hlen : ((E.b.take tt).drop (q + 1)).length = tt - (q + 1) := by rw [List.length_drop, List.length_take]; omega
      have hidx : idx ((E.b.take tt).drop (q + 1)) x = if ((E.b.take tt).drop (q + 1)).findIdx (· == x) < tt - (q + 1) then (((E.b.take tt).drop (q + 1)).findIdx (· == x) : Int) else -1 := by unfold idx; rw [hlen]
      have hfl := List.findIdx_le_length (p := fun z : Int => z == x) (xs := (E.b.take tt).drop (q + 1))
      rw [hlen] at hfl
      have HX := Lib.hid hidx
      have HA := Lib.hid hA2
      clear hidx hlen hA2
      generalize ((E.b.take tt).drop (q + 1)).findIdx (· == x) = f at *
      obtain ⟨r, hr⟩ : ∃ r : Int, (if f < tt - (q + 1) then (f : Int) else -1) = r := ⟨_, rfl⟩
      rw [hr] at HX
      have HR := Lib.hid hr
      clear hr
      have HSt := Lib.hid (show ∀ X : World, E.In X L1 → (X.cell? ⟨E.d, 1, none⟩ = some (.slice (some ⟨E.bl, E.of, none⟩) E.b.length E.c) ∧ X.cell? ⟨E.bl, E.of + q, none⟩ = some (.int .u8 x) ∧ Hid (E.In X L1)) from fun X h => ⟨h.c1, by rw [h.at_ q hlt, HGx.out], Lib.hid h⟩)
      have HSn := Lib.hid (show ∀ (X : World) (n : Nat), (X.cell? ⟨E.d, 1, none⟩ = some (.slice (some ⟨E.bl, E.of, none⟩) E.b.length E.c) ∧ X.cell? ⟨E.bl, E.of + q, none⟩ = some (.int .u8 x) ∧ Hid (E.In X L1)) → ((X.drewN n).cell? ⟨E.d, 1, none⟩ = some (.slice (some ⟨E.bl, E.of, none⟩) E.b.length E.c) ∧ (X.drewN n).cell? ⟨E.bl, E.of + q, none⟩ = some (.int .u8 x) ∧ Hid (E.In (X.drewN n) L1)) from fun X n h => HSt.out _ (h.2.2.out.drewN n))
      go_upto_region 6 with fail
      have HT0 := Lib.hid (HSt.out _ HI.out.drew)
      have HIF := Lib.hid (show ∀ X : World, (X.cell? ⟨E.d, 1, none⟩ = some (.slice (some ⟨E.bl, E.of, none⟩) E.b.length E.c) ∧ X.cell? ⟨E.bl, E.of + q, none⟩ = some (.int .u8 x) ∧ Hid (E.In X L1)) → Calls Tryd.prog 37 #[.slice A2 (tt - (q + 1)) (E.c - (q + 1)), .int .u8 x] X fun e w' => e = .returned (.int .i64 r) ∧ X = w' from fun X h => by
        rw [← HX.out]
        exact index_any A2 _ _ _ x X (h.2.2.out.mid_ (q + 1) tt (by omega) hl2 A2 HA.out) HBy.out hx)
      have hwr : IntKind.i64.wrap ((q : Int) + 1) = (q : Int) + 1 := by rw [IntKind.wrap_i64]; omega
      have hs0 : (0 : Int) ≤ (q : Int) + 1 := by omega
      have hs1 : (q : Int) + 1 ≤ (tt : Int) := by omega
      have hs2 : (tt : Int) ≤ (E.c : Int) := by omega
      have hs3 : (0 : Int) ≤ (tt : Int) := by omega
      have hs4 : (tt : Int) ≤ (E.b.length : Int) := by omega
      have hs5 : ¬ ((tt : Int) < (q : Int) + 1) := by omega
      have hs6 : ¬ ((E.c : Int) < (tt : Int)) := by omega
      have hs7 : ¬ (E.c < tt) := by omega
      have hs8 : ¬ (tt < q + 1) := by omega
      go_region_held3 (fun X => (X.cell? ⟨E.d, 1, none⟩ = some (.slice (some ⟨E.bl, E.of, none⟩) E.b.length E.c) ∧ X.cell? ⟨E.bl, E.of + q, none⟩ = some (.int .u8 x) ∧ Hid (E.In X L1)))
        (first | exact HSn.out _ _ (by assumption) | exact HT0.out | go_keep)
        (first | (go_at_call 37; refine (HIF.out _ (by assumption)).mono ?_; rintro e8 w8 ⟨rfl, rfl⟩))
      have HF := Lib.hid (by assumption : _ ∧ _ ∧ Hid (E.In _ L1)).2.2.out
      clear HSt HSn HT0 HIF
      by_cases hf : f < tt - (q + 1)
      · have HE3 := Lib.hid (show verbE E.b q = q + f + 2 from by rw [HVE.out, if_pos hf])
        obtain rfl : r = (f : Int) := by rw [← HR.out, if_pos hf]
        clear HVE HX HR
        go_wp2_with fail
        refine (dset_any E _ L1 4 _ _ HF.out).mono ?_
        rintro e w1 ⟨rfl, h1⟩
        have H1 := Lib.hid h1
        clear h1
        go_wp2_with fail
        go_ret
        exact ⟨by rw [HV.out, HE2.out, HE3.out]; rfl, by rw [HV.out, HE2.out, HE3.out]; exact H1.out⟩
      · have HE3 := Lib.hid (show verbE E.b q = tt from by rw [HVE.out, if_neg hf])
        obtain rfl : r = -1 := by rw [← HR.out, if_neg hf]
        clear HVE HX HR
        go_wp2_with fail
        refine (dset_any E _ L1 4 _ _ HF.out).mono ?_
        rintro e w1 ⟨rfl, h1⟩
        have H1 := Lib.hid h1
        clear h1
        go_wp2_with fail
        go_ret
        exact ⟨by rw [HV.out, HE2.out, HE3.out]; rfl, by rw [HV.out, HE2.out, HE3.out]; exact H1.out⟩
  · have hd : decide ((E.b.length : Int) ≤ (q : Int)) = true := by simp; omega
    have hd2 : decide (E.b.length ≤ q) = true := by simp; omega
    have HN2 := Lib.hid (verbB_end E.b q L1 (by omega))
    go_wp2_with fail
    go_ret
    exact ⟨by rw [HV.out, HN2.out]; rfl, by rw [HV.out, HN2.out]; exact HI.out⟩
end Go.Proofs.YtkicpaodcmepmaaDoor.T
