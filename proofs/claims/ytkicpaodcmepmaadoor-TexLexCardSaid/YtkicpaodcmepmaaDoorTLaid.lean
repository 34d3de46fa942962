/- What the row's condition and the world's shape give a walk: the tables of names, the library's variable; a world that meets them. Conditions: as each lemma says. -/
import Derived.Test.YtkicpaodcmepmaaDoorRows
import Derived.Test.YtkicpaodcmepmaaDoorTDoc
import Derived.LaidLaws
import Derived.LaidMore
import Derived.JoinedOf
import Derived.ChangeVars
import Derived.Stop.Joined
import Derived.HandedShaped
set_option linter.unusedVariables false
namespace Go.Proofs.YtkicpaodcmepmaaDoor.T
open Go.ChangeShapes Go.WideShapes Go.RowKit Go.Proofs.YtkicpaodcmepmaaDoorW.PrintWords Go.Proofs.YtkicpaodcmepmaaDoor.L Go.Proofs.YtkicpaodcmepmaaDoor.S Go.Proofs.YtkicpaodcmepmaaDoor.Tex

abbrev laid2 : List (String × DataW Unit) := [("redpen/tex.bare", Rows.laid_redpen_tex_bare), ("redpen/tex.whole", Rows.laid_redpen_tex_whole)]
theorem gBare : Tryd.prog.globalNamed "redpen/tex.bare" = some 0 := by kernel_rfl
theorem gWhole : Tryd.prog.globalNamed "redpen/tex.whole" = some 1 := by kernel_rfl
theorem tBare : (Tryd.prog.globals[0]?).map (·.type) = some 32 := by kernel_rfl
theorem tWhole : (Tryd.prog.globals[1]?).map (·.type) = some 32 := by kernel_rfl
theorem cellsS : Tryd.prog.cellsOf 9 = 1 := by kernel_rfl
/-- The door's own heap meets the condition. -/
theorem door_met (os : Os) (args : Array Value) : laidMetH Tryd.prog laid2 ((World.doorLaid Tryd.prog 400 os).forCall (fun _ _ => 0) ⟨#[], args, []⟩).memory :=
  laidMetH_of_parts3 (fuel := 8) (laidMet_of_run' 8 (by kernel_rfl) (by kernel_rfl)) (by kernel_rfl) (by kernel_rfl)
theorem strs_of {W : World} {fuel : Nat} {cs : List Value} {p : List MemPlace} {base : Nat} {sp : Nat → Bool} {held : Bool} (L : List (List Int)) (hm : L.length ≤ 100) (hne : 0 < L.length) {enc : TypeId × Value → Unit}
    (h : DataW.trod enc Tryd.prog W base sp held fuel 32 cs = some (.slice (L.map fun l => .lit (.string (l.map fun x => UInt8.ofNat x.toNat))) [], p)) :
    ∃ a c, cs = [.slice (some a) L.length c] ∧ Kd.C Kd.string W (some a) L.length (L.map strOfNums) := by
  obtain ⟨a, cap, hcs, _, hel⟩ := open_row Tryd.underlying32 cellsS h
  refine ⟨a, cap, by rw [hcs, List.length_map], ?_⟩
  refine ⟨by simp, by omega, fun _ => ⟨a, rfl, fun j s hj => ?_⟩⟩
  rw [List.getElem?_map] at hj
  cases hl : L[j]? with
  | none => rw [hl] at hj; cases hj
  | some l =>
    rw [hl] at hj
    obtain rfl : strOfNums l = s := by simpa using hj
    obtain ⟨v, n, q, hc, hr⟩ := hel j _ (by rw [List.getElem?_map, hl]; rfl)
    obtain ⟨s, hv, hx, _⟩ := DataW.trod_string Tryd.underlying9 hr
    obtain rfl : v = .string s := by simpa using hv
    have hs : s = strOfNums l := by
      have hx2 : s.data.toList = l.map fun x => UInt8.ofNat x.toNat := by
        simp only [Prod.mk.injEq, DataW.lit.injEq, Lit.string.injEq] at hx
        exact hx.1.symm
      apply ByteArray.ext
      apply Array.ext'
      rw [hx2]
      unfold strOfNums
      simp
    subst hs
    refine ⟨[.string (strOfNums l)], rfl, rfl, fun i u hu => ?_⟩
    have hi : i = 0 := by
      have := (List.getElem?_eq_some_iff.1 hu).1
      simpa using this
    subst hi
    have hp : Value.string (strOfNums l) = u := by simpa using hu
    subst hp
    have hz : (Kd.string).sz = 1 := rfl
    rw [hz, Nat.mul_one, Nat.add_zero]
    exact hc
theorem Mx.of {W : World} (h : W.ShapedOpen Tryd.prog) : Mx W := by
  obtain ⟨m, hm⟩ := idxLays.s1_3 W h
  have hm : W.cell? ⟨2, 0, none⟩ = some (.int .i64 m) := hm
  refine ⟨?_, m, hm⟩
  rcases Nat.lt_or_ge 2 W.heap.size with h0 | h0
  · exact h0
  · exfalso
    unfold World.cell? at hm
    rw [Array.getElem?_eq_none (by omega)] at hm
    simp at hm
theorem tb_of {W : World} (h : laidMetH Tryd.prog laid2 W) (hs : W.ShapedOpen Tryd.prog) : ∃ a1 a2 c1 c2, Tb W a1 a2 c1 c2 := by
  rw [MakeChecks.laidMetH_plain _ _ _ (by kernel_rfl)] at h
  obtain ⟨ps, ⟨g0, t0, cs0, f0, p0, q0, hg0, ht0, hv0, hd0, ⟨g1, t1, cs1, f1, p1, q1, hg1, ht1, hv1, hd1, _, _⟩, _⟩, _, _⟩ := h
  obtain rfl := Option.some.inj (gBare.symm.trans hg0)
  obtain rfl := Option.some.inj (gWhole.symm.trans hg1)
  obtain rfl := Option.some.inj (tBare.symm.trans ht0)
  obtain rfl := Option.some.inj (tWhole.symm.trans ht1)
  obtain ⟨a1, c1, e1, r1⟩ := strs_of bareN (by decide) (by decide) hd0
  obtain ⟨a2, c2, e2, r2⟩ := strs_of wholeN (by decide) (by decide) hd1
  rw [show bareN.length = 13 from rfl] at e1 r1
  rw [show wholeN.length = 6 from rfl] at e2 r2
  have h1 := World.var?_cell hg0 hv0 0
  have h2 := World.var?_cell hg1 hv1 0
  rw [Array.eq_one_of_toList e1] at h1
  rw [Array.eq_one_of_toList e2] at h2
  exact ⟨some a1, some a2, c1, c2, by simpa using h1, r1, by simpa using h2, r2, Mx.of hs⟩
variable {H : Type} {enc : TypeId × Value → H}
/-- As the kit's wrap for listed variables, the world's shape handed on too. -/
theorem returns_laid_shaped {a : Assume} {C : Checked} {os : Os} {f : FuncId} {fn : Func} {s : ChangeSpec} {conds : List PathCond} {apart fresh handsOn again : Bool} {X : World → Array Value → Prop}
    (hX : ∀ (w w' : World) (args : Array Value), w.heap = w'.heap → X w args → X w' args)
    (own : ownKnob C.prog.godebug = none) (started : os.Started) (noInit : C.prog.inits.idxOf? f = none) (hfn : C.prog.funcs[f]? = some fn)
    (witness : ∃ (w : World) (tape : Tape) (i : Input), w.os = os ∧ (w.forCall tape i).Shaped C.prog ∧ i.vars = [] ∧ Input.okWide C.prog (w.forCall tape i) .any w.heap.size f i ∧
      ((s.pre enc C.prog fn conds apart (w.forCall tape i).memory i.args ∧ X (w.forCall tape i).memory i.args) ∧ sizedMet enc C.prog fn (OpenSpec.ofChange s) apart (w.forCall tape i).memory i.args) ∧ a.holds C.prog (lone (Frame.enter C.prog f i.args .normal) [] (w.forCall tape i)))
    (contract : ∀ (W : World) (base : Nat) (args : Array Value) (ds gs : List (DataW H)) (before : List MemPlace),
      (∀ (j : Nat) t v, fn.params[j]? = some t → args[j]? = some v → Value.okWide C.prog W .any base t v) →
      DataW.Whole enc C.prog fn.params.toList s.vars apart W args.toList ds gs before →
      conds.all (PathCond.test C.prog ⟨fn.params.toList, ds, s.plain.varTypes C.prog, gs⟩) = true →
      (DataW.weightsEach C.prog (fn.params.toList ++ s.plain.varTypes C.prog) (ds ++ gs)).all (· ≤ reachBytes) = true → X W args → W.ShapedOpen C.prog →
      a.holds C.prog (lone (Frame.enter C.prog f args .normal) [] W) →
      Calls C.prog f args W fun e W' => ∃ v, e = .returned v ∧ s.post enc C.prog fn apart fresh handsOn again W args v W') :
    ReturnsInHanded a C os f .any (fun w args => (s.pre enc C.prog fn conds apart w args ∧ X w args) ∧ sizedMet enc C.prog fn (OpenSpec.ofChange s) apart w args) (s.post enc C.prog fn apart fresh handsOn again) := by
  refine returnsInHanded_of_calls own started noInit witness ?_
  intro w tape i _ hsh _ hok hpre hholds
  obtain ⟨_, _, _, fn', hfn', _, _, _, _, hval⟩ := hok
  have e : fn' = fn := Option.some.inj (hfn'.symm.trans hfn)
  subst e
  obtain ⟨⟨⟨ds, gs, before, hw, hc⟩, hx⟩, hz⟩ := hpre
  have hw' := DataW.Whole.of_heap (w' := w.forCall tape i) (by rfl) hw
  refine (contract (w.forCall tape i) w.heap.size i.args ds gs before hval hw' hc (hz.weights hw) (hX _ _ _ (by rfl) hx) hsh hholds).mono fun e W' ⟨v, he, hp⟩ => ?_
  subst he
  exact ChangeSpec.post_blind hp
end Go.Proofs.YtkicpaodcmepmaaDoor.T
