/- The law FaultMakes, walked: it answers true. Conditions: none. -/
import Derived.Test.YtcflljjfhnifjaaDoorFPl
set_option linter.unusedVariables false
set_option linter.unusedSimpArgs false
namespace Go.Proofs.YtcflljjfhnifjaaDoor.F
open Go.RowKit Go.Extern.Stop Go.Stop Go.Extern Go.Proofs.YtcflljjfhnifjaaDoorW.PrintWords Go.Proofs.YtcflljjfhnifjaaDoorW.Opn

theorem error_any (p : Value) (W : World) :
    Calls Tryd.prog 15 #[p] W fun e w' => e = .returned (.string ⟨#[97, 32, 108, 105, 115, 116, 39, 115, 32, 101, 114, 114, 111, 114]⟩) ∧ w' = W := by
  go_enter Tryd.func15, Tryd.ntmps15
  go_wp2
  go_ret
  exact ⟨rfl, rfl⟩
/-- What stands in memory when the made error is looked at. -/
def Sm (W0 : World) (tb g : Nat) (l : ByteArray) (k n : Int) (v1 : Value) (W : World) : Prop :=
  W.heap[tb]? = some (.cells #[.pointer (some ⟨g, 0, none⟩)] 37 (0, 0)) ∧ W.heap[g]? = some (atC l k v1) ∧ Hx W ∧ EV W (some (.code n)) v1 ∧ Below W0.heap.size W0 W
theorem Sm.below {W0 W W' : World} {tb g : Nat} {l : ByteArray} {k n : Int} {v1 : Value} (h : Sm W0 tb g l k n v1 W) (hb : Below W.heap.size W W') : Sm W0 tb g l k n v1 W' :=
  ⟨blk_below h.1 hb, blk_below h.2.1 hb, h.2.2.1.below (n := 0) hb, h.2.2.2.1.below hb, below_step h.2.2.2.2 hb⟩
def Cm (tb g : Nat) (l : ByteArray) (k : Int) (v1 : Value) (W : World) : Prop :=
  W.cell? ⟨tb, 0, none⟩ = some (.pointer (some ⟨g, 0, none⟩)) ∧ W.cell? ⟨g, 0, none⟩ = some (.string l) ∧ W.cell? ⟨g, 1, none⟩ = some (.int .i64 k) ∧ W.cell? ⟨g, 2, none⟩ = some v1
theorem Sm.cells {W0 W : World} {tb g : Nat} {l : ByteArray} {k n : Int} {v1 : Value} (h : Sm W0 tb g l k n v1 W) : Cm tb g l k v1 W :=
  ⟨(blk_cell h.1 0).trans rfl, at_cells h.2.1⟩
set_option maxHeartbeats 4000000 in
theorem faultMakes_any (l : ByteArray) (k code : Int) (W : World) (hg : Hx W) :
    Calls Tryd.prog 4 #[.string l, .int .i64 k, .int .i64 code] W fun e w' => e = .returned (.bool true) ∧ Below W.heap.size W w' := by
  have HC := Lib.hid hg
  clear hg
  go_enter Tryd.func4, Tryd.ntmps4
  go_wp2_with fail
  refine (awake_any _ HC.out).mono ?_
  rintro e w1 ⟨rfl, hb1⟩
  have H1 := Lib.hid hb1
  clear hb1
  go_wp2_with fail
  refine (of_any code _).mono ?_
  rintro e w2 ⟨v, rfl, hv, rfl⟩
  have HV := Lib.hid hv
  clear hv
  go_wp2_with fail
  refine (new_any l k _ v _ HV.out).mono ?_
  rintro e w2 ⟨v1, rfl, hv1, hb2⟩
  have H2 := Lib.hid (And.intro (HC.out.below (n := 0) (below_step H1.out hb2)) (And.intro hv1 (below_step H1.out hb2)))
  clear hv1 hb2 HV
  by_cases hc : code = 0
  · subst hc
    obtain rfl : v1 = .nilIface := H2.out.2.1
    go_wp2_with fail
    refine (new_any l k none .nilIface _ rfl).mono ?_
    rintro e w3 ⟨v3, rfl, hv3, hb3⟩
    obtain rfl : v3 = .nilIface := hv3
    have H3 := Lib.hid (And.intro (H2.out.1.below (n := 0) hb3) (below_step H2.out.2.2 hb3))
    clear hb3
    go_wp2_with fail
    refine (code_any none .nilIface _ H3.out.1 rfl).mono ?_
    rintro e w4 ⟨rfl, hb4⟩
    have H4 := Lib.hid (And.intro (H3.out.1.below (n := 0) hb4) (below_step H3.out.2 hb4))
    clear hb4
    rw [show codeE none = 0 from rfl]
    go_wp2_with fail
    refine (inner_any none .nilIface _ H4.out.1 rfl).mono ?_
    rintro e w5 ⟨v5, rfl, hv5, hb5⟩
    obtain rfl : v5 = .nilIface := hv5
    have H5 := Lib.hid (below_step H4.out.2 hb5)
    clear hb5
    go_wp2_with fail
    go_ret
    exact ⟨rfl, H5.out⟩
  · have hc1 : (code == 0) = false := by simp [hc]
    have hev : ErV w2 (.at_ l k (.code code)) v1 := by
      have h := H2.out.2.1
      unfold ofE at h
      rw [if_neg hc] at h
      exact h
    obtain ⟨T, x, rfl⟩ := hev.form
    have hb0 := below_alloc (Below.refl w2.heap.size w2) (.cells #[.pointer none] 37 (0, 0))
    have HE := Lib.hid (ErV.below hb0 _ _ hev)
    have HG := Lib.hid (H2.out.1.below (n := 0) hb0)
    have HB := Lib.hid (below_step H2.out.2.2 hb0)
    have HCc := Lib.hid (show (w2.alloc (.cells #[.pointer none] 37 (0, 0))).cell? ⟨w2.heap.size, 0, none⟩ = some (.pointer none) ∧ (w2.alloc (.cells #[.pointer none] 37 (0, 0))).frozen? ⟨w2.heap.size, 0, none⟩ = false ∧ (w2.alloc (.cells #[.pointer none] 37 (0, 0))).heap[w2.heap.size]? = some (.cells #[.pointer none] 37 (0, 0)) from ⟨by simp, by simp, heap_alloc_new w2 _⟩)
    have hWt : W.heap.size ≤ w2.heap.size := H2.out.2.2.size
    clear hev hb0 hc
    have hcalls := asAt_any _ _ ⟨w2.heap.size, 0, none⟩ _ _ HG.out HE.out HCc.out.1 HCc.out.2.1
    have HCalls := Lib.hid hcalls
    clear hcalls
    go_wp2_with fail
    refine HCalls.out.mono ?_
    rintro ev w9 (⟨h1, rfl, hb1⟩ | ⟨l', k', e1, g, v1, w10, h1, rfl, hb1, rfl, h2, h3⟩)
    · cases h1
    · obtain ⟨rfl, rfl, rfl⟩ : l = l' ∧ k = k' ∧ Er.code code = e1 := by
        have h : some (l, k, Er.code code) = some (l', k', e1) := h1
        injection h with h
        injection h with ha h
        injection h with hb h
        exact ⟨ha, hb, h⟩
      have htb := blk_below HCc.out.2.2 hb1
      have hgne : g ≠ w2.heap.size := by
        rintro rfl
        rw [h2] at htb
        simp at htb
      have HS := Lib.hid (show Sm W w2.heap.size g l k code v1 (w10.setCell ⟨w2.heap.size, 0, none⟩ (.pointer (some ⟨g, 0, none⟩))) from
        ⟨blk_set htb 0 (.pointer (some ⟨g, 0, none⟩)), (Below.heap_setCell w10 ⟨w2.heap.size, 0, none⟩ _ g hgne).trans h2, by
          have hx := HG.out.below (n := 0) hb1
          unfold Hx at hx ⊢
          rw [World.cell?_setCell_other _ _ _ _ (show (⟨w2.heap.size, 0, none⟩ : Addr) ≠ ⟨0, 0, none⟩ from fun e => by injection e with e; have := H2.out.1.lt; omega)]
          exact hx, h3, (below_step HB.out hb1).setCell (p := ⟨w2.heap.size, 0, none⟩) hWt _⟩)
      clear h1 h2 h3 hb1 htb HCc HG HE HB HCalls
      generalize w10.setCell ⟨w2.heap.size, 0, none⟩ (.pointer (some ⟨g, 0, none⟩)) = w11 at *
      generalize w2.heap.size = tb at *
      have HSt := Lib.hid (show ∀ X : World, Sm W tb g l k code v1 X → (X.cell? ⟨tb, 0, none⟩ = some (.pointer (some ⟨g, 0, none⟩)) ∧ X.cell? ⟨g, 0, none⟩ = some (.string l) ∧ X.cell? ⟨g, 1, none⟩ = some (.int .i64 k) ∧ X.cell? ⟨g, 2, none⟩ = some v1 ∧ Hid (Sm W tb g l k code v1 X)) from fun X h => ⟨h.cells.1, h.cells.2.1, h.cells.2.2.1, h.cells.2.2.2, Lib.hid h⟩)
      have HSb := Lib.hid (show ∀ X Y : World, (X.cell? ⟨tb, 0, none⟩ = some (.pointer (some ⟨g, 0, none⟩)) ∧ X.cell? ⟨g, 0, none⟩ = some (.string l) ∧ X.cell? ⟨g, 1, none⟩ = some (.int .i64 k) ∧ X.cell? ⟨g, 2, none⟩ = some v1 ∧ Hid (Sm W tb g l k code v1 X)) → Below X.heap.size X Y → (Y.cell? ⟨tb, 0, none⟩ = some (.pointer (some ⟨g, 0, none⟩)) ∧ Y.cell? ⟨g, 0, none⟩ = some (.string l) ∧ Y.cell? ⟨g, 1, none⟩ = some (.int .i64 k) ∧ Y.cell? ⟨g, 2, none⟩ = some v1 ∧ Hid (Sm W tb g l k code v1 Y)) from fun X Y h hb => HSt.out Y (h.2.2.2.2.out.below hb))
      have HSn := Lib.hid (show ∀ (X : World) (q : Nat), (X.cell? ⟨tb, 0, none⟩ = some (.pointer (some ⟨g, 0, none⟩)) ∧ X.cell? ⟨g, 0, none⟩ = some (.string l) ∧ X.cell? ⟨g, 1, none⟩ = some (.int .i64 k) ∧ X.cell? ⟨g, 2, none⟩ = some v1 ∧ Hid (Sm W tb g l k code v1 X)) → ((X.drewN q).cell? ⟨tb, 0, none⟩ = some (.pointer (some ⟨g, 0, none⟩)) ∧ (X.drewN q).cell? ⟨g, 0, none⟩ = some (.string l) ∧ (X.drewN q).cell? ⟨g, 1, none⟩ = some (.int .i64 k) ∧ (X.drewN q).cell? ⟨g, 2, none⟩ = some v1 ∧ Hid (Sm W tb g l k code v1 (X.drewN q))) from fun X q h => HSt.out _ (h.2.2.2.2.out.below (pw_below_drewN (Below.refl _ _) q)))
      have HPl := Lib.hid (show ∀ X : World, (X.cell? ⟨tb, 0, none⟩ = some (.pointer (some ⟨g, 0, none⟩)) ∧ X.cell? ⟨g, 0, none⟩ = some (.string l) ∧ X.cell? ⟨g, 1, none⟩ = some (.int .i64 k) ∧ X.cell? ⟨g, 2, none⟩ = some v1 ∧ Hid (Sm W tb g l k code v1 X)) → Hid (Sm W tb g l k code v1 X) from fun X h => h.2.2.2.2)
      have HCo := Lib.hid (show codeE (some (.code code)) = code from rfl)
      obtain ⟨k0, k1, k2, k3⟩ := HS.out.cells
      go_upto_region 9 with fail
      have HT0 := Lib.hid (HSt.out _ (HS.out.below (below_drew1 (Below.refl _ _))))
      clear k0 k1 k2 k3
      go_region_held3 (fun X => (X.cell? ⟨tb, 0, none⟩ = some (.pointer (some ⟨g, 0, none⟩)) ∧ X.cell? ⟨g, 0, none⟩ = some (.string l) ∧ X.cell? ⟨g, 1, none⟩ = some (.int .i64 k) ∧ X.cell? ⟨g, 2, none⟩ = some v1 ∧ Hid (Sm W tb g l k code v1 X)))
        (first | exact HSb.out _ _ (by assumption) hb | exact HSn.out _ _ (by assumption) | exact HT0.out | go_keep)
        (first
          | (go_at_call 15; refine (error_any _ _).mono ?_; rintro e7 w7 ⟨rfl, rfl⟩)
          | (go_at_call 16; refine (unwrap_at g l k v1 _ (HPl.out _ (by assumption)).out.2.1).mono ?_; rintro e7 w7 ⟨rfl, rfl⟩)
          | (go_at_call 11; refine (code_any (some (.code code)) v1 _ (HPl.out _ (by assumption)).out.2.2.1 (HPl.out _ (by assumption)).out.2.2.2.1).mono ?_; rintro e8 w8 ⟨rfl, hb⟩; rw [HCo.out]))
      have HF := Lib.hid (HPl.out _ (by assumption)).out.2.2.2.2
      clear HSb HSn HSt HPl HT0
      go_wp2_with fail
      go_ret
      exact ⟨rfl, HF.out⟩
end Go.Proofs.YtcflljjfhnifjaaDoor.F
namespace Go.Proofs.YtcflljjfhnifjaaDoor.Wk.FaultMakes
open Go.RowKit Go.Proofs.YtcflljjfhnifjaaDoorW.PrintWords Go.Proofs.YtcflljjfhnifjaaDoor.F
theorem walk (a0 : ByteArray) (a1 a2 : Int) (w : World) (hg : Hx w) (h0 : a0.size ≤ 140737488351232) (h1 : (Lit.int .i64 a1).wf = true) (h2 : (Lit.int .i64 a2).wf = true) :
    Calls Tryd.prog 4 #[.string a0, .int .i64 a1, .int .i64 a2] w fun e w' => e = .returned (.bool true) ∧ Below w.heap.size w w' :=
  faultMakes_any a0 a1 a2 w hg
end Go.Proofs.YtcflljjfhnifjaaDoor.Wk.FaultMakes
