/- errors.as over an error of known make, walked. Conditions: as each lemma says. -/
import Derived.Test.YtcflljjfhnifjaaDoorFErr
import Derived.Test.YtcflljjfhnifjaaDoorWWords
import Derived.Below
import Derived.OwnWalk
import Derived.Lib.Hide
import Derived.Deep.LoopGhost
import Derived.Deep.QuietTactic
import Derived.BigQuiet
import Derived.Deep.DeepCutAuto
import Derived.Deep.CutBlock
import Derived.Deep.RegionHeld3
import Derived.Deep.Draws
set_option linter.unusedVariables false
set_option linter.unusedSimpArgs false
namespace Go.Proofs.YtcflljjfhnifjaaDoor.F
open Go.RowKit Go.Extern.Stop Go.Stop Go.Extern Go.Proofs.YtcflljjfhnifjaaDoorW.PrintWords

/-- An error: of a number; of a list and a line; one that says nothing; one around none. -/
inductive Er where
  | code (n : Int)
  | at_ (l : ByteArray) (k : Int) (e : Er)
  | other (e : Er)
  | none_
def codeOf : Er → Option Int
  | .code n => some n
  | .at_ _ _ e => codeOf e
  | .other e => codeOf e
  | .none_ => none
def dep : Er → Nat
  | .code _ => 0
  | .at_ _ _ e => dep e + 1
  | .other e => dep e + 1
  | .none_ => 0
abbrev atC (l : ByteArray) (k : Int) (v : Value) : Obj := .cells #[.string l, .int .i64 k, v] 41 (0, 0)
/-- An error in memory. -/
def ErV (W : World) : Er → Value → Prop
  | .code n, v => v = .iface 32 (.int .i64 n)
  | .at_ l k e, v => ∃ g v', v = .iface 37 (.pointer (some ⟨g, 0, none⟩)) ∧ W.heap[g]? = some (atC l k v') ∧ ErV W e v'
  | .other e, v => ∃ v', v = .iface 47 (.agg #[v']) ∧ ErV W e v'
  | .none_, v => v = .iface 47 (.agg #[.nilIface])
theorem hsz_lt {W : World} {g : Nat} {o : Obj} (h : W.heap[g]? = some o) : g < W.heap.size := (Array.getElem?_eq_some_iff.1 h).1
theorem ErV.below {W W' : World} (hb : Below W.heap.size W W') : ∀ (e : Er) (v : Value), ErV W e v → ErV W' e v
  | .code n, v, h => h
  | .at_ l k e, v, h => by
    obtain ⟨g, v', h1, h2, h3⟩ := h
    exact ⟨g, v', h1, (hb.block g (hsz_lt h2)).trans h2, ErV.below hb e v' h3⟩
  | .other e, v, h => by
    obtain ⟨v', h1, h3⟩ := h
    exact ⟨v', h1, ErV.below hb e v' h3⟩
  | .none_, v, h => h
theorem ErV.form {W : World} : ∀ {e : Er} {v : Value}, ErV W e v → ∃ T x, v = .iface T x
  | .code n, v, h => ⟨_, _, h⟩
  | .at_ l k e, v, h => by
    obtain ⟨g, v', h1, _⟩ := h
    exact ⟨_, _, h1⟩
  | .other e, v, h => by
    obtain ⟨v', h1, _⟩ := h
    exact ⟨_, _, h1⟩
  | .none_, v, h => ⟨_, _, h⟩
theorem at_cells {W : World} {g : Nat} {l : ByteArray} {k : Int} {v : Value} (h : W.heap[g]? = some (atC l k v)) :
    W.cell? ⟨g, 0, none⟩ = some (.string l) ∧ W.cell? ⟨g, 1, none⟩ = some (.int .i64 k) ∧ W.cell? ⟨g, 2, none⟩ = some v := by
  refine ⟨?_, ?_, ?_⟩ <;> simp [World.cell?, h]
theorem unwrap_at (g : Nat) (l : ByteArray) (k : Int) (v : Value) (W : World) (h : W.heap[g]? = some (atC l k v)) :
    Calls Tryd.prog 16 #[.pointer (some ⟨g, 0, none⟩)] W fun e w' => e = .returned v ∧ w' = W := by
  obtain ⟨k0, k1, k2⟩ := at_cells h
  go_enter Tryd.func16, Tryd.ntmps16
  go_wp2
  go_ret
  exact ⟨rfl, rfl⟩
theorem unwrap_other (v : Value) (W : World) :
    Calls Tryd.prog 46 #[.agg #[v]] W fun e w' => e = .returned v ∧ Below W.heap.size W w' := by
  go_enter Tryd.func46, Tryd.ntmps46
  go_wp2
  go_ret
  exact ⟨rfl, below_alloc (Below.refl _ _) _⟩
/-- What stands where the answer goes. -/
def putC (w1 : World) (t : Addr) : Option Int → World
  | some n => w1.setCell t (.int .i64 n)
  | none => w1
set_option maxHeartbeats 4000000 in
theorem as_code (e0 : Er) (v0 tv : Value) (t a : Addr) (old : Value) (W : World) (hv : ErV W e0 v0) (ha : W.cell? a = some (.pointer (some t))) (ht : W.cell? t = some old) (hf : W.frozen? t = false) :
    Calls Tryd.prog 22 #[v0, tv, .agg #[.pointer (some ⟨1, 50, none⟩), .pointer (some a), .int .u64 150], .iface 66 (.agg #[.pointer (some ⟨1, 32, none⟩)])] W
      fun e w' => e = .returned (.bool (codeOf e0).isSome) ∧ ∃ w1, Below W.heap.size W w1 ∧ w' = putC w1 t (codeOf e0) := by
  have h19 := @run_callFunc_extern Tryd.prog 19 _ (fun args => ReflectliteValue.unpack (args.getD 0 (.tuple #[]))) Tryd.func19 (by kernel_rfl) (by kernel_rfl) (by kernel_rfl) (by kernel_rfl)
  have h23 := @run_callFunc_extern Tryd.prog 23 _ (ReflectliteType.typeOf) Tryd.func23 (by kernel_rfl) (by kernel_rfl) (by kernel_rfl) (by kernel_rfl)
  have h51 := @run_callFunc_extern Tryd.prog 51 _ (ReflectliteType.relation "AssignableTo" ReflectliteType.assignableTo) Tryd.func51 (by kernel_rfl) (by kernel_rfl) (by kernel_rfl) (by kernel_rfl)
  have h25 := @run_callFunc_extern Tryd.prog 25 _ (ReflectliteValue.method (ReflectliteValue.valueError "reflectlite.Value.Elem" 0) ReflectliteValue.elem) Tryd.func25 (by kernel_rfl) (by kernel_rfl) (by kernel_rfl) (by kernel_rfl)
  have h26 := @run_callFunc_extern Tryd.prog 26 _ ReflectliteValue.set Tryd.func26 (by kernel_rfl) (by kernel_rfl) (by kernel_rfl) (by kernel_rfl)
  have mA := mAssignableTo
  have HV := Lib.hid hv
  go_enter Tryd.func22, Tryd.ntmps22
  go_upto_block 0 with fail
  have HB0 := Lib.hid (below_alloc (Below.refl W.heap.size W) (.cells #[.pointer (some ⟨1, 50, none⟩), .pointer (some a), .int .u64 150] 54 (0, 0)))
  have hbx : (W.alloc (.cells #[.pointer (some ⟨1, 50, none⟩), .pointer (some a), .int .u64 150] 54 (0, 0))).heap[W.heap.size]? = some (.cells #[.pointer (some ⟨1, 50, none⟩), .pointer (some a), .int .u64 150] 54 (0, 0)) := heap_alloc_new W _
  have HBX := Lib.hid hbx
  have HB0' := HB0.out
  clear hbx
  generalize W.alloc (.cells #[.pointer (some ⟨1, 50, none⟩), .pointer (some a), .int .u64 150] 54 (0, 0)) = w1 at *
  have HBS := Lib.hid (fun (x : World) (h : Below w1.heap.size w1 x) => below_step HB0' h)
  have HLt := Lib.hid (And.intro (World.block_lt_of_cell? W a ha) (World.block_lt_of_cell? W t ht))
  have HV1 := Lib.hid (ErV.below HB0' e0 v0 HV.out)
  clear HB0'
  generalize hbq : W.heap.size = bq at *
  go_wp2_with fail
  go_loopg [0] (dep e0) (fun gn v wr => ∃ e, Hid (ErV wr e v ∧ codeOf e = codeOf e0 ∧ gn = dep e ∧ Below w1.heap.size w1 wr))
  case atStart => exact ⟨e0, HV1.out, rfl, rfl, Below.refl _ _⟩
  case round =>
    obtain ⟨e, HQ⟩ := hrel
    have hbel : Below bq W wr := HBS.out wr HQ.out.2.2.2
    have hbk := (HQ.out.2.2.2.block bq (hsz_lt HBX.out)).trans HBX.out
    have b0 : wr.cell? ⟨bq, 0, none⟩ = some (.pointer (some ⟨1, 50, none⟩)) := by simp [World.cell?, hbk]
    have b1 : wr.cell? ⟨bq, 1, none⟩ = some (.pointer (some a)) := by simp [World.cell?, hbk]
    have b2 : wr.cell? ⟨bq, 2, none⟩ = some (.int .u64 150) := by simp [World.cell?, hbk]
    have hA : wr.cell? a = some (.pointer (some t)) := (hbel.cell HLt.out.1).trans ha
    have hT : wr.cell? t = some old := (hbel.cell HLt.out.2).trans ht
    have hF : wr.frozen? t = false := (hbel.frozen HLt.out.2).trans hf
    have htl : t.block < wr.heap.size := World.block_lt_of_cell? wr t hT
    have HBel := Lib.hid hbel
    have HD := Lib.hid HQ.out.2.1
    have HG := Lib.hid HQ.out.2.2
    have hE := HQ.out.1
    clear hbk hbel HQ
    cases e with
    | code n =>
      obtain rfl : _ = Value.iface 32 (.int .i64 n) := hE
      have tO := typeOfC
      have aS := asgCC
      have eV := elemVPC a t wr hA
      have vO := valueOfC n
      have sE := setC t ⟨wr.heap.size, 0, none⟩ n old (wr.alloc (.cells #[.int .i64 n] 32)) (by simp) (by rw [World.cell?_alloc_lt _ _ t htl]; exact hT) (by rw [World.frozen?_alloc_old _ _ t (Nat.ne_of_lt htl)]; exact hF)
      clear hA hT hF htl
      go_wp2_with fail
      go_ret
      rw [← HD.out]
      subst hbq
      exact ⟨rfl, _, below_alloc HBel.out _, rfl⟩
    | at_ l k e =>
      obtain ⟨g, v', rfl, hh, hv'⟩ := hE
      obtain ⟨T, x, rfl⟩ := hv'.form
      have tO := typeOfA
      have aS := asgAC
      have nA := asA
      have uA := unA
      have mU := mUnA
      have HV' := Lib.hid hv'
      clear hv' hA hT hF htl
      go_wp2_with (go_at_call 16; refine (unwrap_at g l k _ _ hh).mono ?_; rintro e9 w9 ⟨rfl, rfl⟩)
      go_roundg (dep e)
      case measure => rw [HG.out.1]; exact Nat.lt_succ_self _
      case rel => exact ⟨e, HV'.out, HD.out, rfl, HG.out.2⟩
    | other e =>
      obtain ⟨v', rfl, hv'⟩ := hE
      obtain ⟨T, x, rfl⟩ := hv'.form
      have tO := typeOfO
      have aS := asgOC
      have nA := asO
      have uA := unO
      have mU := mUnO
      have HV' := Lib.hid hv'
      clear hv' hA hT hF htl
      go_wp2_with (go_at_call 46; refine (unwrap_other _ _).mono ?_; rintro e9 w9 ⟨rfl, hb9⟩; have HB9 := Lib.hid hb9; clear hb9)
      go_roundg (dep e)
      case measure => rw [HG.out.1]; exact Nat.lt_succ_self _
      case rel => exact ⟨e, ErV.below HB9.out e _ HV'.out, HD.out, rfl, below_step HG.out.2 HB9.out⟩
    | none_ =>
      obtain rfl : _ = Value.iface 47 (.agg #[.nilIface]) := hE
      have tO := typeOfO
      have aS := asgOC
      have nA := asO
      have uA := unO
      have mU := mUnO
      clear hA hT hF htl
      go_wp2_with (go_at_call 46; refine (unwrap_other _ _).mono ?_; rintro e9 w9 ⟨rfl, hb9⟩; have HB9 := Lib.hid hb9; clear hb9)
      go_ret
      rw [← HD.out]
      subst hbq
      exact ⟨rfl, _, below_step HBel.out HB9.out, rfl⟩
end Go.Proofs.YtcflljjfhnifjaaDoor.F
