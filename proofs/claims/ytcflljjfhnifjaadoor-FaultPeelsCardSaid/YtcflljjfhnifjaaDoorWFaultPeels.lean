/- The law FaultPeels, walked: it answers true. Conditions: none. -/
import Derived.Test.YtcflljjfhnifjaaDoorFPl
set_option linter.unusedVariables false
set_option linter.unusedSimpArgs false
namespace Go.Proofs.YtcflljjfhnifjaaDoor.F
open Go.RowKit Go.Extern.Stop Go.Stop Go.Extern Go.Proofs.YtcflljjfhnifjaaDoorW.PrintWords Go.Proofs.YtcflljjfhnifjaaDoorW.Opn

/-- An error that tells of the places left what they tell. -/
def Rel (code : Int) (o : Option Er) (qs : List Pl) : Prop := outE o = outE (madeE code qs) ∧ ∃ e, o = some e ∧ codeOf e = some code
theorem rel_other {code : Int} (hc : code ≠ 0) {o : Option Er} {p : Pl} {qs : List Pl} (h : Rel code o (p :: qs)) (hp : p.o = true) : Rel code o qs := by
  obtain ⟨e, h1, h2⟩ := made_some code hc qs
  refine ⟨?_, h.2⟩
  rw [h.1, show madeE code (p :: qs) = stepE p (madeE code qs) from rfl, h1, show stepE p (some e) = some (.other e) from by unfold stepE; rw [if_pos ⟨hp, rfl⟩]; rfl]
  rfl
theorem rel_say {code : Int} (hc : code ≠ 0) {o : Option Er} {p : Pl} {qs : List Pl} (h : Rel code o (p :: qs)) (hp : p.o = false) :
    whereV (outE o) = .tuple #[.string p.l, .int .i64 p.k, .bool true] ∧ Rel code (innerE o) qs := by
  obtain ⟨e, h1, h2⟩ := made_some code hc qs
  have hx : outE o = some (p.l, p.k, e) := by
    rw [h.1, show madeE code (p :: qs) = stepE p (madeE code qs) from rfl, h1, show stepE p (some e) = some (.at_ p.l p.k e) from by unfold stepE; rw [if_neg (by rw [hp]; simp)]; rfl]
    rfl
  refine ⟨by rw [hx]; rfl, ?_⟩
  unfold innerE
  rw [hx]
  exact ⟨by rw [h1], e, rfl, h2⟩
theorem rel_end {code : Int} (hc : code ≠ 0) {o : Option Er} (h : Rel code o []) : whereV (outE o) = .tuple #[.string ⟨#[]⟩, .int .i64 0, .bool false] := by
  rw [h.1, show madeE code [] = ofE code from rfl]
  unfold ofE
  rw [if_neg hc]
  rfl
theorem drop_at {ps : List Pl} {j : Nat} {p : Pl} (h : ps[j]? = some p) : ps.drop j = p :: ps.drop (j + 1) := by
  have hi := (List.getElem?_eq_some_iff.1 h).1
  rw [List.drop_eq_getElem_cons hi]
  congr 1
  exact Option.some.inj ((List.getElem?_eq_getElem hi).symm.trans h)
set_option maxHeartbeats 4000000 in
theorem faultPeels_any (code : Int) (A : Option Addr) (c : Nat) (ps : List Pl) (W : World) (hg : Hx W) (hC : Kd.C kPl W A ps.length ps) :
    Calls Tryd.prog 6 #[.int .i64 code, .slice A ps.length c] W fun e w' => e = .returned (.bool true) ∧ Below W.heap.size W w' := by
  have HC := Lib.hid (And.intro hC hg)
  clear hC hg
  go_enter Tryd.func6, Tryd.ntmps6
  go_wp2_with fail
  refine (awake_any _ HC.out.2).mono ?_
  rintro e w1 ⟨rfl, hb1⟩
  have H1 := Lib.hid hb1
  clear hb1
  by_cases h40 : 40 < ps.length
  · have h3 : decide (40 < (ps.length : Int)) = true := by simp; omega
    go_wp2_with fail
    go_ret
    exact ⟨rfl, H1.out⟩
  have h3 : decide (40 < (ps.length : Int)) = false := by simp; omega
  by_cases hc : code = 0
  · have hc1 : (code == 0) = true := by simp [hc]
    have HZ := Lib.hid hc
    clear hc
    go_wp2_with fail
    go_ret
    exact ⟨rfl, H1.out⟩
  have hc1 : (code == 0) = false := by simp [hc]
  have HZ := Lib.hid hc
  clear hc
  go_wp2_with fail
  refine (made_any code A c ps _ (Kd.C_below HC.out.1 H1.out) (by omega)).mono ?_
  rintro e w2 ⟨v, rfl, hv, hb2⟩
  have H2 := Lib.hid (show EV w2 (madeE code ps) v ∧ Rel code (madeE code ps) ps ∧ Hx w2 ∧ Below W.heap.size W w2 from ⟨hv, ⟨rfl, made_some code HZ.out ps⟩, HC.out.2.below (n := 0) (below_step H1.out hb2), below_step H1.out hb2⟩)
  clear hv hb2 H1
  go_upto_block 0 with fail
  go_wp2_with fail
  go_loopg [5, 28] ps.length (fun gn ev iv wr => ∃ (j : Nat) (o : Option Er), iv = .int .i64 j ∧ j ≤ ps.length ∧ Hid (EV wr o ev ∧ Rel code o (ps.drop j) ∧ Hx wr ∧ Below W.heap.size W wr ∧ gn = ps.length - j))
  case atStart => exact ⟨0, madeE code ps, rfl, Nat.zero_le _, H2.out.1, H2.out.2.1, H2.out.2.2.1, H2.out.2.2.2, rfl⟩
  case round =>
    obtain ⟨j, o, rfl, hj, HQ⟩ := hrel
    clear H2
    by_cases hlt : j < ps.length
    · have hd : decide ((j : Int) < (ps.length : Int)) = true := by simp; omega
      obtain ⟨ad, p, rfl, hp, h0, h1, h2⟩ := pl_at (Kd.C_below HC.out.1 HQ.out.2.2.2.1) j hlt
      have HR := Lib.hid (show Rel code o (p :: ps.drop (j + 1)) from by rw [← drop_at hp]; exact HQ.out.2.1)
      clear hp
      obtain ⟨l, k, b⟩ := p
      simp only at h0 h1 h2
      go_upto_region 9 with fail
      have hbp := below_alloc (Below.refl wr.heap.size wr) (.cells #[.string l, .int .i64 k, .bool b] 30 (0, 0))
      have q0 : (wr.alloc (.cells #[.string l, .int .i64 k, .bool b] 30 (0, 0))).heap[wr.heap.size]? = some (plC ⟨l, k, b⟩) := heap_alloc_new wr _
      have HW := Lib.hid (And.intro (HQ.out.1.below hbp) (And.intro (HQ.out.2.2.1.below (n := 0) hbp) (And.intro (below_step HQ.out.2.2.2.1 hbp) q0)))
      have HG := Lib.hid HQ.out.2.2.2.2
      obtain ⟨g0, g1, g2, gf⟩ := pl_cells q0
      clear hbp h0 h1 h2 HQ q0 gf
      generalize wr.alloc (.cells #[.string l, .int .i64 k, .bool b] 30 (0, 0)) = w5 at *
      generalize hpb : wr.heap.size = pb at *
      cases b with
      | true =>
        go_wp2_with fail
        go_roundg (ps.length - (j + 1))
        case measure => rw [HG.out]; omega
        case rel => exact ⟨j + 1, o, by go_num, by omega, HW.out.1, rel_other HZ.out HR.out rfl, HW.out.2.1, HW.out.2.2.1, rfl⟩
      | false =>
        obtain ⟨hs1, hs2⟩ := rel_say HZ.out HR.out rfl
        have HS2 := Lib.hid hs2
        have HWE := Lib.hid hs1
        clear hs2 hs1 HR
        go_wp2_with fail
        refine (where_any _ _ _ HW.out.2.1 HW.out.1).mono ?_
        rintro e w6 ⟨rfl, hb6⟩
        rw [HWE.out]
        have q0 := blk_below HW.out.2.2.2 hb6
        have H6 := Lib.hid (And.intro (HW.out.1.below hb6) (And.intro (HW.out.2.1.below (n := 0) hb6) (below_step HW.out.2.2.1 hb6)))
        obtain ⟨k0, k1, k2, kf⟩ := pl_cells q0
        clear hb6 q0 HW HWE kf g0 g1 g2
        go_wp2_with fail
        refine (inner_any _ _ _ H6.out.2.1 H6.out.1).mono ?_
        rintro e w7 ⟨v7, rfl, hv7, hb7⟩
        have H7 := Lib.hid (And.intro hv7 (And.intro (H6.out.2.1.below (n := 0) hb7) (below_step H6.out.2.2 hb7)))
        clear hv7 hb7 H6
        go_wp2_with fail
        go_roundg (ps.length - (j + 1))
        case measure => rw [HG.out]; omega
        case rel => exact ⟨j + 1, _, by go_num, by omega, H7.out.1, HS2.out, H7.out.2.1, H7.out.2.2, rfl⟩
    · obtain rfl : j = ps.length := by omega
      have hd : decide ((ps.length : Int) < (ps.length : Int)) = false := by simp
      rw [List.drop_length] at HQ
      have hs1 := rel_end HZ.out HQ.out.2.1
      have HWE := Lib.hid hs1
      obtain ⟨e0, rfl, hco⟩ := HQ.out.2.1.2
      have HCo := Lib.hid hco
      clear hs1 hco
      go_wp2_with fail
      refine (where_any _ _ _ HQ.out.2.2.1 HQ.out.1).mono ?_
      rintro e w6 ⟨rfl, hb6⟩
      rw [HWE.out]
      have H6 := Lib.hid (And.intro (EV.below HQ.out.1 hb6) (below_step HQ.out.2.2.2.1 hb6))
      clear hb6 HQ HWE
      go_wp2_with (go_at_call 18; refine (is_any e0 _ code _ H6.out.1).mono ?_; rintro ev w9 ⟨rfl, hb9⟩; rw [HCo.out]; have H9 := Lib.hid (below_step H6.out.2 hb9); clear hb9)
      go_ret
      exact ⟨by simp, H9.out⟩
end Go.Proofs.YtcflljjfhnifjaaDoor.F
namespace Go.Proofs.YtcflljjfhnifjaaDoor.Wk.FaultPeels
open Go.RowKit Go.Proofs.YtcflljjfhnifjaaDoorW.PrintWords Go.Proofs.YtcflljjfhnifjaaDoor.F Go.Proofs.YtcflljjfhnifjaaDoorW.Opn
theorem walk (a0 : Int) (A1 : Option Addr) (c1 : Nat) (l1 : List Pl) (w : World) (hg : Hx w) (h0 : (Lit.int .i64 a0).wf = true) (hr1 : Kd.C kPl w A1 l1.length l1) (hc1 : l1.length ≤ c1) (hg1 : True) :
    Calls Tryd.prog 6 #[.int .i64 a0, .slice A1 l1.length c1] w fun e w' => e = .returned (.bool true) ∧ Below w.heap.size w w' :=
  faultPeels_any a0 A1 c1 l1 w hg hr1
end Go.Proofs.YtcflljjfhnifjaaDoor.Wk.FaultPeels
