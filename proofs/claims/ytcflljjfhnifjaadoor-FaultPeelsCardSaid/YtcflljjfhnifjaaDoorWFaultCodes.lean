/- The law FaultCodes, walked: it answers true. Conditions: none. -/
import Derived.Test.YtcflljjfhnifjaaDoorFMade
set_option linter.unusedVariables false
set_option linter.unusedSimpArgs false
namespace Go.Proofs.YtcflljjfhnifjaaDoor.F
open Go.RowKit Go.Extern.Stop Go.Stop Go.Extern Go.Proofs.YtcflljjfhnifjaaDoorW.PrintWords Go.Proofs.YtcflljjfhnifjaaDoorW.Opn

theorem made_zero (ps : List Pl) : madeE 0 ps = none := by
  induction ps with
  | nil => rfl
  | cons p ps ih =>
    show stepE p (madeE 0 ps) = none
    rw [ih]
    unfold stepE newE
    simp
theorem made_some (n : Int) (hn : n ≠ 0) (ps : List Pl) : ∃ e, madeE n ps = some e ∧ codeOf e = some n := by
  induction ps with
  | nil => exact ⟨.code n, by unfold madeE ofE; simp [hn], rfl⟩
  | cons p ps ih =>
    obtain ⟨e, h1, h2⟩ := ih
    show ∃ e, stepE p (madeE n ps) = some e ∧ _
    rw [h1]
    unfold stepE
    split
    · exact ⟨.other e, rfl, h2⟩
    · exact ⟨.at_ p.l p.k e, rfl, h2⟩
theorem opPl : Opens Tryd.prog 30 kPl (fun p => p.l.size ≤ 140737488351232 ∧ (Lit.int .i64 p.k).wf = true) :=
  Opens.imp (Opens.iso (fun x : ByteArray × (Int × Bool) => (⟨x.1, x.2.1, x.2.2⟩ : Pl)) (fun _ => rfl) (Opens.struct (OpensL.cons (Opens.string Tryd.underlying9) (by kernel_rfl) (by kernel_rfl)
    (OpensL.cons (Opens.int Tryd.underlying3) (by kernel_rfl) (by kernel_rfl)
      (OpensL.last (Opens.bool Tryd.underlying4) (by kernel_rfl) (by kernel_rfl)))) Tryd.underlying30 (by kernel_rfl))) (fun p h => ⟨h.1, h.2.1⟩)
theorem opPls : Opens Tryd.prog 22 (Kd.slice 30 kPl) (fun xs => True) :=
  Opens.imp (Opens.slice (B := 32) opPl Tryd.underlying22 (by kernel_rfl) (by kernel_rfl)) (fun _ _ => trivial)
set_option maxHeartbeats 2000000 in
theorem faultCodes_any (code n : Int) (A : Option Addr) (c : Nat) (ps : List Pl) (W : World) (hg : Hx W) (hC : Kd.C kPl W A ps.length ps) :
    Calls Tryd.prog 5 #[.int .i64 code, .int .i64 n, .slice A ps.length c] W fun e w' => e = .returned (.bool true) ∧ Below W.heap.size W w' := by
  have HC := Lib.hid (And.intro hC hg)
  clear hC hg
  go_enter Tryd.func5, Tryd.ntmps5
  go_wp2_with fail
  refine (awake_any _ HC.out.2).mono ?_
  rintro e w1 ⟨rfl, hb1⟩
  have H1 := Lib.hid hb1
  clear hb1
  by_cases h40 : 40 < ps.length
  · have h3 : decide (40 < (ps.length : Int)) = true := by simp; omega
    go_wp2_with fail
    go_ret
    exact ⟨rfl, H1.out⟩
  have h3 : decide (40 < (ps.length : Int)) = false := by simp; omega
  go_wp2_with fail
  refine (made_any code A c ps _ (Kd.C_below HC.out.1 H1.out) (by omega)).mono ?_
  rintro e w2 ⟨v, rfl, hv, hb2⟩
  have H2 := Lib.hid (And.intro (HC.out.2.below (n := 0) (below_step H1.out hb2)) (And.intro hv (below_step H1.out hb2)))
  clear hv hb2
  by_cases hc : code = 0
  · subst hc
    obtain rfl : v = .nilIface := by
      have := H2.out.2.1
      rw [made_zero] at this
      exact this
    cases hn : (n == 0) with
    | true =>
      have hn2 : (n != 0) = false := by simp [bne, hn]
      go_wp2_with fail
      refine (code_any none _ _ H2.out.1 rfl).mono ?_
      rintro e3 w3 ⟨rfl, hb3⟩
      have H3 := Lib.hid (And.intro (H2.out.1.below (n := 0) hb3) (And.intro hb3 (below_step H2.out.2.2 hb3)))
      clear hb3
      rw [show codeE none = 0 from rfl]
      have H4 := Lib.hid H3.out
      go_wp2_with fail
      refine (fis_any none n _ _ rfl).mono ?_
      rintro e5 w5 ⟨rfl, hb5⟩
      have H5 := Lib.hid (And.intro (H4.out.1.below (n := 0) hb5) (below_step H4.out.2.2 hb5))
      clear hb5
      rw [show isE n none = false from rfl]
      go_wp2_with fail
      refine (code_any (some .none_) _ _ H5.out.1 rfl).mono ?_
      rintro e6 w6 ⟨rfl, hb6⟩
      have H6 := Lib.hid (below_step H5.out.2 hb6)
      clear hb6
      rw [show codeE (some .none_) = 11 from rfl]
      go_wp2_with fail
      go_ret
      exact ⟨rfl, H6.out⟩
    | false =>
      go_wp2_with fail
      refine (code_any none _ _ H2.out.1 rfl).mono ?_
      rintro e3 w3 ⟨rfl, hb3⟩
      have H3 := Lib.hid (And.intro (H2.out.1.below (n := 0) hb3) (And.intro hb3 (below_step H2.out.2.2 hb3)))
      clear hb3
      rw [show codeE none = 0 from rfl]
      have H4 := Lib.hid H3.out
      go_wp2_with fail
      refine (fis_any none n _ _ rfl).mono ?_
      rintro e5 w5 ⟨rfl, hb5⟩
      have H5 := Lib.hid (And.intro (H4.out.1.below (n := 0) hb5) (below_step H4.out.2.2 hb5))
      clear hb5
      rw [show isE n none = false from rfl]
      go_wp2_with fail
      refine (code_any (some .none_) _ _ H5.out.1 rfl).mono ?_
      rintro e6 w6 ⟨rfl, hb6⟩
      have H6 := Lib.hid (below_step H5.out.2 hb6)
      clear hb6
      rw [show codeE (some .none_) = 11 from rfl]
      go_wp2_with fail
      go_ret
      exact ⟨rfl, H6.out⟩
  · have hc1 : (code == 0) = false := by simp [hc]
    obtain ⟨e, he, hco⟩ := made_some code hc ps
    rw [he] at H2
    have hev : ErV w2 e v := H2.out.2.1
    obtain ⟨T, x, rfl⟩ := hev.form
    have HCd := Lib.hid (show codeE (some e) = code ∧ isE code (some e) = true from ⟨by show (codeOf e).getD 11 = code; rw [hco]; rfl, by show (codeOf e == some code) = true; rw [hco]; simp⟩)
    have HI := Lib.hid (show isE n (some e) = (n == code) from by
      show (codeOf e == some n) = _
      rw [hco]
      by_cases h : n = code
      · subst h; simp
      · have h2 : (n == code) = false := by simp [h]
        have h3 : (some code == some n) = (code == n) := rfl
        rw [h2, h3]
        simp
        exact fun e => h e.symm)
    clear hev hco he
    cases hn : (n == code) with
    | true =>
      have hn0 : (n != 0) = true := by rw [eq_of_beq hn]; simp [hc]
      rw [hn] at HI
      clear hc
      go_wp2_with fail
      refine (code_any (some e) _ _ H2.out.1 H2.out.2.1).mono ?_
      rintro e3 w3 ⟨rfl, hb3⟩
      have H3 := Lib.hid (And.intro (H2.out.1.below (n := 0) hb3) (And.intro hb3 (below_step H2.out.2.2 hb3)))
      clear hb3
      rw [HCd.out.1]
      go_wp2_with fail
      refine (fis_any (some e) code _ _ (H2.out.2.1.below H3.out.2.1)).mono ?_
      rintro e4 w4 ⟨rfl, hb4⟩
      have H4 := Lib.hid (And.intro (H3.out.1.below (n := 0) hb4) (And.intro (below_step H3.out.2.1 hb4) (below_step H3.out.2.2 hb4)))
      clear hb4
      rw [HCd.out.2]
      go_wp2_with fail
      refine (fis_any (some e) n _ _ (H2.out.2.1.below H4.out.2.1)).mono ?_
      rintro e5 w5 ⟨rfl, hb5⟩
      have H5 := Lib.hid (And.intro (H4.out.1.below (n := 0) hb5) (below_step H4.out.2.2 hb5))
      clear hb5
      rw [HI.out]
      go_wp2_with fail
      refine (code_any (some .none_) _ _ H5.out.1 rfl).mono ?_
      rintro e6 w6 ⟨rfl, hb6⟩
      have H6 := Lib.hid (below_step H5.out.2 hb6)
      clear hb6
      rw [show codeE (some .none_) = 11 from rfl]
      go_wp2_with fail
      go_ret
      exact ⟨rfl, H6.out⟩
    | false =>
      rw [hn] at HI
      clear hc
      go_wp2_with fail
      refine (code_any (some e) _ _ H2.out.1 H2.out.2.1).mono ?_
      rintro e3 w3 ⟨rfl, hb3⟩
      have H3 := Lib.hid (And.intro (H2.out.1.below (n := 0) hb3) (And.intro hb3 (below_step H2.out.2.2 hb3)))
      clear hb3
      rw [HCd.out.1]
      go_wp2_with fail
      refine (fis_any (some e) code _ _ (H2.out.2.1.below H3.out.2.1)).mono ?_
      rintro e4 w4 ⟨rfl, hb4⟩
      have H4 := Lib.hid (And.intro (H3.out.1.below (n := 0) hb4) (And.intro (below_step H3.out.2.1 hb4) (below_step H3.out.2.2 hb4)))
      clear hb4
      rw [HCd.out.2]
      go_wp2_with fail
      refine (fis_any (some e) n _ _ (H2.out.2.1.below H4.out.2.1)).mono ?_
      rintro e5 w5 ⟨rfl, hb5⟩
      have H5 := Lib.hid (And.intro (H4.out.1.below (n := 0) hb5) (below_step H4.out.2.2 hb5))
      clear hb5
      rw [HI.out]
      go_wp2_with fail
      refine (code_any (some .none_) _ _ H5.out.1 rfl).mono ?_
      rintro e6 w6 ⟨rfl, hb6⟩
      have H6 := Lib.hid (below_step H5.out.2 hb6)
      clear hb6
      rw [show codeE (some .none_) = 11 from rfl]
      go_wp2_with fail
      go_ret
      exact ⟨rfl, H6.out⟩
end Go.Proofs.YtcflljjfhnifjaaDoor.F
namespace Go.Proofs.YtcflljjfhnifjaaDoor.Wk.FaultCodes
open Go.RowKit Go.Proofs.YtcflljjfhnifjaaDoorW.PrintWords Go.Proofs.YtcflljjfhnifjaaDoor.F
theorem walk (a0 a1 : Int) (A2 : Option Addr) (c2 : Nat) (l2 : List Pl) (w : World) (hg : Hx w) (h0 : (Lit.int .i64 a0).wf = true) (h1 : (Lit.int .i64 a1).wf = true) (hr2 : Kd.C kPl w A2 l2.length l2) (hc2 : l2.length ≤ c2) (hg2 : True) :
    Calls Tryd.prog 5 #[.int .i64 a0, .int .i64 a1, .slice A2 l2.length c2] w fun e w' => e = .returned (.bool true) ∧ Below w.heap.size w w' :=
  faultCodes_any a0 a1 A2 c2 l2 w hg hr2
end Go.Proofs.YtcflljjfhnifjaaDoor.Wk.FaultCodes
