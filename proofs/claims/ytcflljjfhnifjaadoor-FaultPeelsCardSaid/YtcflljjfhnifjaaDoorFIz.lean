/- errors.Is over an error of known make, walked; the functions of fault. Conditions: as each lemma says. -/
import Derived.Test.YtcflljjfhnifjaaDoorFIs
set_option linter.unusedVariables false
set_option linter.unusedSimpArgs false
namespace Go.Proofs.YtcflljjfhnifjaaDoor.F
open Go.RowKit Go.Extern.Stop Go.Stop Go.Extern Go.Proofs.YtcflljjfhnifjaaDoorW.PrintWords

theorem eqlC (m n : Int) (w : World) : (binOp .eql 25 (.iface 32 (.int .i64 m)) (.iface 32 (.int .i64 n))).run Tryd.prog w = .ok (.bool (m == n)) w := by
  obtain ⟨i, hi, hcmp⟩ := Option.map_eq_some_iff.1 (show (Tryd.prog.info? 32).map (·.comparable) = some true by kernel_rfl)
  have h : ∀ d : Nat, (Op.equalIn (d + 2) 25 (.iface 32 (.int .i64 m)) (.iface 32 (.int .i64 n))).run Tryd.prog w = .ok (m == n) w := fun d => by
    simp [Op.equalIn, run_underlying Tryd.underlying25, run_underlying Tryd.underlying32, typeInfo, hi, hcmp]
  simp only [binOp]
  simp [Op.equal, Op.maxDepth, h 9998]
set_option maxHeartbeats 4000000 in
theorem is_loop (e0 : Er) (v0 : Value) (n : Int) (W : World) (hv : ErV W e0 v0) :
    Calls Tryd.prog 24 #[v0, .iface 32 (.int .i64 n), .bool true] W
      fun e w' => e = .returned (.bool (codeOf e0 == some n)) ∧ Below W.heap.size W w' := by
  have HV := Lib.hid hv
  go_enter Tryd.func24, Tryd.ntmps24
  go_wp2_with fail
  go_loopg [0] (dep e0) (fun gn v wr => ∃ e, Hid (ErV wr e v ∧ codeOf e = codeOf e0 ∧ gn = dep e ∧ Below W.heap.size W wr))
  case atStart => exact ⟨e0, HV.out, rfl, rfl, Below.refl _ _⟩
  case round =>
    obtain ⟨e, HQ⟩ := hrel
    have HD := Lib.hid HQ.out.2.1
    have HG := Lib.hid HQ.out.2.2
    have hE := HQ.out.1
    clear HQ
    cases e with
    | code m =>
      obtain rfl : _ = Value.iface 32 (.int .i64 m) := hE
      have q0 := eqlC m n
      have nA := isC
      have uA := unC
      have sA := unsC
      cases hmn : (m == n) with
      | true =>
        rw [hmn] at q0
        have HM := Lib.hid hmn
        clear hmn
        go_wp2_with fail
        go_ret
        refine ⟨?_, HG.out.2⟩
        rw [← HD.out, show codeOf (Er.code m) = some m from rfl, eq_of_beq HM.out]
        simp
      | false =>
        rw [hmn] at q0
        have HM := Lib.hid hmn
        clear hmn
        go_wp2_with fail
        go_ret
        refine ⟨?_, HG.out.2⟩
        rw [← HD.out, show codeOf (Er.code m) = some m from rfl]
        have : (some m == some n) = (m == n) := rfl
        rw [this, HM.out]
        rfl
    | at_ l k e =>
      obtain ⟨g, v', rfl, hh, hv'⟩ := hE
      obtain ⟨T, x, rfl⟩ := hv'.form
      have q0 := run_eql_iface_types (P := Tryd.prog) 37 32 (.pointer (some ⟨g, 0, none⟩)) (.int .i64 n) Tryd.underlying25 (by decide)
      have nA := isA
      have uA := unA
      have mU := mUnA
      have HV' := Lib.hid hv'
      clear hv'
      go_wp2_with (go_at_call 16; refine (unwrap_at g l k _ _ hh).mono ?_; rintro e9 w9 ⟨rfl, rfl⟩)
      go_roundg (dep e)
      case measure => rw [HG.out.1]; exact Nat.lt_succ_self _
      case rel => exact ⟨e, HV'.out, HD.out, rfl, HG.out.2⟩
    | other e =>
      obtain ⟨v', rfl, hv'⟩ := hE
      obtain ⟨T, x, rfl⟩ := hv'.form
      have q0 := run_eql_iface_types (P := Tryd.prog) 47 32 (.agg #[.iface T x]) (.int .i64 n) Tryd.underlying25 (by decide)
      have nA := isO
      have uA := unO
      have mU := mUnO
      have HV' := Lib.hid hv'
      clear hv'
      go_wp2_with (go_at_call 46; refine (unwrap_other _ _).mono ?_; rintro e9 w9 ⟨rfl, hb9⟩; have HB9 := Lib.hid hb9; clear hb9)
      go_roundg (dep e)
      case measure => rw [HG.out.1]; exact Nat.lt_succ_self _
      case rel => exact ⟨e, ErV.below HB9.out e _ HV'.out, HD.out, rfl, below_step HG.out.2 HB9.out⟩
    | none_ =>
      obtain rfl : _ = Value.iface 47 (.agg #[.nilIface]) := hE
      have q0 := run_eql_iface_types (P := Tryd.prog) 47 32 (.agg #[.nilIface]) (.int .i64 n) Tryd.underlying25 (by decide)
      have nA := isO
      have uA := unO
      have mU := mUnO
      go_wp2_with (go_at_call 46; refine (unwrap_other _ _).mono ?_; rintro e9 w9 ⟨rfl, hb9⟩; have HB9 := Lib.hid hb9; clear hb9)
      go_ret
      rw [← HD.out]
      exact ⟨rfl, below_step HG.out.2 HB9.out⟩
theorem isComparable (w : World) : (callFunc 52 #[.agg #[.pointer (some ⟨1, 32, none⟩)]]).run Tryd.prog w = .ok (.value (.bool true)) w := by
  have h52 := @run_callFunc_extern Tryd.prog 52 _ (ReflectliteType.method fun t => do Rtype.noPackHeld "Comparable" t; pure (.bool (← typeInfo t).comparable)) Tryd.func52 (by kernel_rfl) (by kernel_rfl) (by kernel_rfl) (by kernel_rfl)
  have h : ((ReflectliteType.method fun t => do Rtype.noPackHeld "Comparable" t; pure (.bool (← typeInfo t).comparable)) #[.agg #[.pointer (some ⟨1, 32, none⟩)]]).run Tryd.prog w = .ok (.bool true) w := by kernel_rfl
  rw [h52, h]
  rfl
theorem is_any (e0 : Er) (v0 : Value) (n : Int) (W : World) (hv : ErV W e0 v0) :
    Calls Tryd.prog 18 #[v0, .iface 32 (.int .i64 n)] W
      fun e w' => e = .returned (.bool (codeOf e0 == some n)) ∧ Below W.heap.size W w' := by
  have h23 := @run_callFunc_extern Tryd.prog 23 _ (ReflectliteType.typeOf) Tryd.func23 (by kernel_rfl) (by kernel_rfl) (by kernel_rfl) (by kernel_rfl)
  have tO := typeOfC
  have cC := isComparable
  have mC := mComparable
  obtain ⟨T0, x0, rfl⟩ := hv.form
  have HV := Lib.hid hv
  clear hv
  go_enter Tryd.func18, Tryd.ntmps18
  go_wp2_with (go_at_call 24; refine (is_loop e0 _ n _ HV.out).mono ?_; rintro ev w9 ⟨rfl, hb1⟩)
  go_ret
  exact ⟨rfl, hb1⟩
theorem is_nil (n : Int) (W : World) :
    Calls Tryd.prog 18 #[.nilIface, .iface 32 (.int .i64 n)] W fun e w' => e = .returned (.bool false) ∧ w' = W := by
  have hn := run_eql_iface_nil_left (P := Tryd.prog) W 32 (.int .i64 n) Tryd.underlying25
  go_enter Tryd.func18, Tryd.ntmps18
  go_wp2
  go_ret
  exact ⟨rfl, rfl⟩
end Go.Proofs.YtcflljjfhnifjaaDoor.F
