/- errors.as over an error of known make, the target a pointer to a list's error, walked. Conditions: as each lemma says. -/
import Derived.Test.YtcflljjfhnifjaaDoorFAs
set_option linter.unusedVariables false
set_option linter.unusedSimpArgs false
namespace Go.Proofs.YtcflljjfhnifjaaDoor.F
open Go.RowKit Go.Extern.Stop Go.Stop Go.Extern Go.Proofs.YtcflljjfhnifjaaDoorW.PrintWords

/-- The outermost that says of which list it is. -/
def outer : Er → Option (ByteArray × Int × Er)
  | .code _ => none
  | .at_ l k e => some (l, k, e)
  | .other e => outer e
  | .none_ => none
set_option maxHeartbeats 4000000 in
theorem as_at (e0 : Er) (v0 tv : Value) (t a : Addr) (old : Value) (W : World) (hv : ErV W e0 v0) (ha : W.cell? a = some (.pointer (some t))) (ht : W.cell? t = some old) (hf : W.frozen? t = false) :
    Calls Tryd.prog 22 #[v0, tv, .agg #[.pointer (some ⟨1, 39, none⟩), .pointer (some a), .int .u64 150], .iface 66 (.agg #[.pointer (some ⟨1, 37, none⟩)])] W
      fun e w' => (outer e0 = none ∧ e = .returned (.bool false) ∧ Below W.heap.size W w') ∨ ∃ l k e1 g v1 w1, outer e0 = some (l, k, e1) ∧ e = .returned (.bool true) ∧ Below W.heap.size W w1 ∧ w' = w1.setCell t (.pointer (some ⟨g, 0, none⟩)) ∧ w1.heap[g]? = some (atC l k v1) ∧ ErV w1 e1 v1 := by
  have h19 := @run_callFunc_extern Tryd.prog 19 _ (fun args => ReflectliteValue.unpack (args.getD 0 (.tuple #[]))) Tryd.func19 (by kernel_rfl) (by kernel_rfl) (by kernel_rfl) (by kernel_rfl)
  have h23 := @run_callFunc_extern Tryd.prog 23 _ (ReflectliteType.typeOf) Tryd.func23 (by kernel_rfl) (by kernel_rfl) (by kernel_rfl) (by kernel_rfl)
  have h51 := @run_callFunc_extern Tryd.prog 51 _ (ReflectliteType.relation "AssignableTo" ReflectliteType.assignableTo) Tryd.func51 (by kernel_rfl) (by kernel_rfl) (by kernel_rfl) (by kernel_rfl)
  have h25 := @run_callFunc_extern Tryd.prog 25 _ (ReflectliteValue.method (ReflectliteValue.valueError "reflectlite.Value.Elem" 0) ReflectliteValue.elem) Tryd.func25 (by kernel_rfl) (by kernel_rfl) (by kernel_rfl) (by kernel_rfl)
  have h26 := @run_callFunc_extern Tryd.prog 26 _ ReflectliteValue.set Tryd.func26 (by kernel_rfl) (by kernel_rfl) (by kernel_rfl) (by kernel_rfl)
  have mA := mAssignableTo
  have HV := Lib.hid hv
  go_enter Tryd.func22, Tryd.ntmps22
  go_upto_block 0 with fail
  have HB0 := Lib.hid (below_alloc (Below.refl W.heap.size W) (.cells #[.pointer (some ⟨1, 39, none⟩), .pointer (some a), .int .u64 150] 54 (0, 0)))
  have hbx : (W.alloc (.cells #[.pointer (some ⟨1, 39, none⟩), .pointer (some a), .int .u64 150] 54 (0, 0))).heap[W.heap.size]? = some (.cells #[.pointer (some ⟨1, 39, none⟩), .pointer (some a), .int .u64 150] 54 (0, 0)) := heap_alloc_new W _
  have HBX := Lib.hid hbx
  have HB0' := HB0.out
  clear hbx
  generalize W.alloc (.cells #[.pointer (some ⟨1, 39, none⟩), .pointer (some a), .int .u64 150] 54 (0, 0)) = w1 at *
  have HBS := Lib.hid (fun (x : World) (h : Below w1.heap.size w1 x) => below_step HB0' h)
  have HLt := Lib.hid (And.intro (World.block_lt_of_cell? W a ha) (World.block_lt_of_cell? W t ht))
  have HV1 := Lib.hid (ErV.below HB0' e0 v0 HV.out)
  clear HB0'
  generalize hbq : W.heap.size = bq at *
  go_wp2_with fail
  go_loopg [0] (dep e0) (fun gn v wr => ∃ e, Hid (ErV wr e v ∧ outer e = outer e0 ∧ gn = dep e ∧ Below w1.heap.size w1 wr))
  case atStart => exact ⟨e0, HV1.out, rfl, rfl, Below.refl _ _⟩
  case round =>
    obtain ⟨e, HQ⟩ := hrel
    have hbel : Below bq W wr := HBS.out wr HQ.out.2.2.2
    have hbk := (HQ.out.2.2.2.block bq (hsz_lt HBX.out)).trans HBX.out
    have b0 : wr.cell? ⟨bq, 0, none⟩ = some (.pointer (some ⟨1, 39, none⟩)) := by simp [World.cell?, hbk]
    have b1 : wr.cell? ⟨bq, 1, none⟩ = some (.pointer (some a)) := by simp [World.cell?, hbk]
    have b2 : wr.cell? ⟨bq, 2, none⟩ = some (.int .u64 150) := by simp [World.cell?, hbk]
    have hA : wr.cell? a = some (.pointer (some t)) := (hbel.cell HLt.out.1).trans ha
    have hT : wr.cell? t = some old := (hbel.cell HLt.out.2).trans ht
    have hF : wr.frozen? t = false := (hbel.frozen HLt.out.2).trans hf
    have htl : t.block < wr.heap.size := World.block_lt_of_cell? wr t hT
    have HBel := Lib.hid hbel
    have HD := Lib.hid HQ.out.2.1
    have HG := Lib.hid HQ.out.2.2
    have hE := HQ.out.1
    clear hbk hbel HQ
    cases e with
    | code n =>
      obtain rfl : _ = Value.iface 32 (.int .i64 n) := hE
      have tO := typeOfC
      have aS := asgCA
      have nA := asC
      have uA := unC
      have sA := unsC
      clear hA hT hF htl
      go_wp2_with fail
      go_ret
      subst hbq
      exact .inl ⟨HD.out.symm, rfl, HBel.out⟩
    | at_ l k e =>
      obtain ⟨g, v', rfl, hh, hv'⟩ := hE
      have tO := typeOfA
      have aS := asgAA
      have eV := elemVPA a t wr hA
      have vO := valueOfA ⟨g, 0, none⟩
      have sE := setA t ⟨wr.heap.size, 0, none⟩ ⟨g, 0, none⟩ old (wr.alloc (.cells #[.pointer (some ⟨g, 0, none⟩)] 37)) (by simp) (by rw [World.cell?_alloc_lt _ _ t htl]; exact hT) (by rw [World.frozen?_alloc_old _ _ t (Nat.ne_of_lt htl)]; exact hF)
      have HV' := Lib.hid (And.intro hh hv')
      clear hh hv' hA hT hF htl
      go_wp2_with fail
      go_ret
      subst hbq
      have hb := below_alloc (Below.refl wr.heap.size wr) (.cells #[.pointer (some ⟨g, 0, none⟩)] 37 (0, 0))
      exact .inr ⟨l, k, e, g, v', _, HD.out.symm, rfl, below_alloc HBel.out _, rfl, (hb.block g (hsz_lt HV'.out.1)).trans HV'.out.1, ErV.below hb e v' HV'.out.2⟩
    | other e =>
      obtain ⟨v', rfl, hv'⟩ := hE
      obtain ⟨T, x, rfl⟩ := hv'.form
      have tO := typeOfO
      have aS := asgOA
      have nA := asO
      have uA := unO
      have mU := mUnO
      have HV' := Lib.hid hv'
      clear hv' hA hT hF htl
      go_wp2_with (go_at_call 46; refine (unwrap_other _ _).mono ?_; rintro e9 w9 ⟨rfl, hb9⟩; have HB9 := Lib.hid hb9; clear hb9)
      go_roundg (dep e)
      case measure => rw [HG.out.1]; exact Nat.lt_succ_self _
      case rel => exact ⟨e, ErV.below HB9.out e _ HV'.out, HD.out, rfl, below_step HG.out.2 HB9.out⟩
    | none_ =>
      obtain rfl : _ = Value.iface 47 (.agg #[.nilIface]) := hE
      have tO := typeOfO
      have aS := asgOA
      have nA := asO
      have uA := unO
      have mU := mUnO
      clear hA hT hF htl
      go_wp2_with (go_at_call 46; refine (unwrap_other _ _).mono ?_; rintro e9 w9 ⟨rfl, hb9⟩; have HB9 := Lib.hid hb9; clear hb9)
      go_ret
      subst hbq
      exact .inl ⟨HD.out.symm, rfl, below_step HBel.out HB9.out⟩
end Go.Proofs.YtcflljjfhnifjaaDoor.F
