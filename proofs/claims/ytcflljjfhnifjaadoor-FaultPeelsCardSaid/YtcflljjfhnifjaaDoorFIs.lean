/- errors.Is and errors.As over an error of known make, walked; the functions of fault. Conditions: as each lemma says. -/
import Derived.Test.YtcflljjfhnifjaaDoorFAt
set_option linter.unusedVariables false
set_option linter.unusedSimpArgs false
namespace Go.Proofs.YtcflljjfhnifjaaDoor.F
open Go.RowKit Go.Extern.Stop Go.Stop Go.Extern Go.Proofs.YtcflljjfhnifjaaDoorW.PrintWords

/-- The handle of the type 'error' lies in its variable. -/
def Hx (W : World) : Prop := W.cell? ⟨0, 0, none⟩ = some (.iface 66 (.agg #[.pointer (some ⟨1, 25, none⟩)]))
theorem Hx.lt {W : World} (h : Hx W) : 0 < W.heap.size := World.block_lt_of_cell? W _ h
theorem Hx.below {W W' : World} {n : Nat} (h : Hx W) (hb : Below W.heap.size W W') : Hx W' := (hb.cell (p := ⟨0, 0, none⟩) h.lt).trans h
set_option maxHeartbeats 4000000 in
theorem asCode_any (e0 : Er) (v0 : Value) (t : Addr) (old : Value) (W : World) (hg : Hx W) (hv : ErV W e0 v0) (ht : W.cell? t = some old) (hf : W.frozen? t = false) :
    Calls Tryd.prog 14 #[v0, .iface 50 (.pointer (some t))] W
      fun e w' => e = .returned (.bool (codeOf e0).isSome) ∧ ∃ w1, Below W.heap.size W w1 ∧ w' = putC w1 t (codeOf e0) := by
  have h19 := @run_callFunc_extern Tryd.prog 19 _ (fun args => ReflectliteValue.unpack (args.getD 0 (.tuple #[]))) Tryd.func19 (by kernel_rfl) (by kernel_rfl) (by kernel_rfl) (by kernel_rfl)
  have h20 := @run_callFunc_extern Tryd.prog 20 _ (ReflectliteValue.methodAny (ReflectliteValue.valueError "reflectlite.Value.Type" 0) (fun t _ _ _ => ReflectliteType.toType t)) Tryd.func20 (by kernel_rfl) (by kernel_rfl) (by kernel_rfl) (by kernel_rfl)
  have h21 := @run_callFunc_extern Tryd.prog 21 _ (ReflectliteValue.method (ReflectliteValue.valueError "reflectlite.Value.IsNil" 0) ReflectliteValue.isNil) Tryd.func21 (by kernel_rfl) (by kernel_rfl) (by kernel_rfl) (by kernel_rfl)
  have h41 := @run_callFunc_extern Tryd.prog 41 _ (ReflectliteType.abiMethod fun t => do pure (.int .u8 (← Rtype.kind t))) Tryd.func41 (by kernel_rfl) (by kernel_rfl) (by kernel_rfl) (by kernel_rfl)
  have h53 := @run_callFunc_extern Tryd.prog 53 _ (ReflectliteType.method ReflectliteType.elem) Tryd.func53 (by kernel_rfl) (by kernel_rfl) (by kernel_rfl) (by kernel_rfl)
  have h54 := @run_callFunc_extern Tryd.prog 54 _ (ReflectliteType.relation "Implements" ReflectliteType.implements_) Tryd.func54 (by kernel_rfl) (by kernel_rfl) (by kernel_rfl) (by kernel_rfl)
  have f6 := valueOfPC
  have f7 := typePC
  have mK := mKind
  have mE := mElem
  have mI := mImplements
  have k1 := kindPC
  have k2 := kindC
  have el := elemPC
  have im := implC
  have n8 := isNilPC ⟨W.heap.size, 0, none⟩ t ((W.alloc (.cells #[.pointer (some t)] 50)).alloc (.cells #[.pointer (some ⟨1, 50, none⟩), .pointer (some ⟨W.heap.size, 0, none⟩), .int .u64 150] 54)) (by simp)
  have hbb := below_alloc (below_alloc (Below.refl W.heap.size W) (.cells #[.pointer (some t)] 50 (0, 0))) (.cells #[.pointer (some ⟨1, 50, none⟩), .pointer (some ⟨W.heap.size, 0, none⟩), .int .u64 150] 54 (0, 0))
  have hg2 := (hbb.cell (p := ⟨0, 0, none⟩) hg.lt).trans hg
  have HV := Lib.hid (ErV.below hbb e0 v0 hv)
  have HT := Lib.hid ((hbb.cell (World.block_lt_of_cell? W t ht)).trans ht)
  have HF := Lib.hid ((hbb.frozen (World.block_lt_of_cell? W t ht)).trans hf)
  have HA := Lib.hid (show ((W.alloc (.cells #[.pointer (some t)] 50)).alloc (.cells #[.pointer (some ⟨1, 50, none⟩), .pointer (some ⟨W.heap.size, 0, none⟩), .int .u64 150] 54)).cell? ⟨W.heap.size, 0, none⟩ = some (.pointer (some t)) by simp)
  have HBB := Lib.hid hbb
  obtain ⟨T0, x0, rfl⟩ := hv.form
  clear hbb hv ht hf
  go_enter Tryd.func14, Tryd.ntmps14
  go_wp2_with (go_at_call 22; refine (as_code e0 _ _ t ⟨W.heap.size, 0, none⟩ old _ HV.out HA.out HT.out HF.out).mono ?_; rintro ev w9 ⟨rfl, w1, hb1, rfl⟩)
  go_ret
  exact ⟨rfl, w1, below_step HBB.out hb1, rfl⟩
set_option maxHeartbeats 4000000 in
theorem asAt_any (e0 : Er) (v0 : Value) (t : Addr) (old : Value) (W : World) (hg : Hx W) (hv : ErV W e0 v0) (ht : W.cell? t = some old) (hf : W.frozen? t = false) :
    Calls Tryd.prog 14 #[v0, .iface 39 (.pointer (some t))] W
      fun e w' => (outer e0 = none ∧ e = .returned (.bool false) ∧ Below W.heap.size W w') ∨ ∃ l k e1 g v1 w1, outer e0 = some (l, k, e1) ∧ e = .returned (.bool true) ∧ Below W.heap.size W w1 ∧ w' = w1.setCell t (.pointer (some ⟨g, 0, none⟩)) ∧ w1.heap[g]? = some (atC l k v1) ∧ ErV w1 e1 v1 := by
  have h19 := @run_callFunc_extern Tryd.prog 19 _ (fun args => ReflectliteValue.unpack (args.getD 0 (.tuple #[]))) Tryd.func19 (by kernel_rfl) (by kernel_rfl) (by kernel_rfl) (by kernel_rfl)
  have h20 := @run_callFunc_extern Tryd.prog 20 _ (ReflectliteValue.methodAny (ReflectliteValue.valueError "reflectlite.Value.Type" 0) (fun t _ _ _ => ReflectliteType.toType t)) Tryd.func20 (by kernel_rfl) (by kernel_rfl) (by kernel_rfl) (by kernel_rfl)
  have h21 := @run_callFunc_extern Tryd.prog 21 _ (ReflectliteValue.method (ReflectliteValue.valueError "reflectlite.Value.IsNil" 0) ReflectliteValue.isNil) Tryd.func21 (by kernel_rfl) (by kernel_rfl) (by kernel_rfl) (by kernel_rfl)
  have h41 := @run_callFunc_extern Tryd.prog 41 _ (ReflectliteType.abiMethod fun t => do pure (.int .u8 (← Rtype.kind t))) Tryd.func41 (by kernel_rfl) (by kernel_rfl) (by kernel_rfl) (by kernel_rfl)
  have h53 := @run_callFunc_extern Tryd.prog 53 _ (ReflectliteType.method ReflectliteType.elem) Tryd.func53 (by kernel_rfl) (by kernel_rfl) (by kernel_rfl) (by kernel_rfl)
  have h54 := @run_callFunc_extern Tryd.prog 54 _ (ReflectliteType.relation "Implements" ReflectliteType.implements_) Tryd.func54 (by kernel_rfl) (by kernel_rfl) (by kernel_rfl) (by kernel_rfl)
  have f6 := valueOfPA
  have f7 := typePA
  have mK := mKind
  have mE := mElem
  have mI := mImplements
  have k1 := kindPA
  have k2 := kindA
  have el := elemPA
  have im := implA
  have n8 := isNilPA ⟨W.heap.size, 0, none⟩ t ((W.alloc (.cells #[.pointer (some t)] 39)).alloc (.cells #[.pointer (some ⟨1, 39, none⟩), .pointer (some ⟨W.heap.size, 0, none⟩), .int .u64 150] 54)) (by simp)
  have hbb := below_alloc (below_alloc (Below.refl W.heap.size W) (.cells #[.pointer (some t)] 39 (0, 0))) (.cells #[.pointer (some ⟨1, 39, none⟩), .pointer (some ⟨W.heap.size, 0, none⟩), .int .u64 150] 54 (0, 0))
  have hg2 := (hbb.cell (p := ⟨0, 0, none⟩) hg.lt).trans hg
  have HV := Lib.hid (ErV.below hbb e0 v0 hv)
  have HT := Lib.hid ((hbb.cell (World.block_lt_of_cell? W t ht)).trans ht)
  have HF := Lib.hid ((hbb.frozen (World.block_lt_of_cell? W t ht)).trans hf)
  have HA := Lib.hid (show ((W.alloc (.cells #[.pointer (some t)] 39)).alloc (.cells #[.pointer (some ⟨1, 39, none⟩), .pointer (some ⟨W.heap.size, 0, none⟩), .int .u64 150] 54)).cell? ⟨W.heap.size, 0, none⟩ = some (.pointer (some t)) by simp)
  have HBB := Lib.hid hbb
  obtain ⟨T0, x0, rfl⟩ := hv.form
  clear hbb hv ht hf
  go_enter Tryd.func14, Tryd.ntmps14
  go_wp2_with (go_at_call 22; refine (as_at e0 _ _ t ⟨W.heap.size, 0, none⟩ old _ HV.out HA.out HT.out HF.out).mono ?_; rintro ev w9 (⟨h1, rfl, hb1⟩ | ⟨l, k, e1, g, v1, w1, h1, rfl, hb1, rfl, h2, h3⟩))
  · go_ret
    exact .inl ⟨h1, rfl, below_step HBB.out hb1⟩
  · go_ret
    exact .inr ⟨l, k, e1, g, v1, w1, h1, rfl, below_step HBB.out hb1, rfl, h2, h3⟩
theorem as_nil (t : Value) (w : World) :
    Calls Tryd.prog 14 #[.nilIface, t] w fun e w' => e = .returned (.bool false) ∧ w' = w := by
  go_enter Tryd.func14, Tryd.ntmps14
  go_wp2
  go_ret
  exact ⟨rfl, rfl⟩
end Go.Proofs.YtcflljjfhnifjaaDoor.F
