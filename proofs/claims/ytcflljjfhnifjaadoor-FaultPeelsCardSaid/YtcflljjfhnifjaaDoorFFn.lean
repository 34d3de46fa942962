/- The functions of fault, walked. Conditions: as each lemma says. -/
import Derived.Test.YtcflljjfhnifjaaDoorFIz
set_option linter.unusedVariables false
set_option linter.unusedSimpArgs false
namespace Go.Proofs.YtcflljjfhnifjaaDoor.F
open Go.RowKit Go.Extern.Stop Go.Stop Go.Extern Go.Proofs.YtcflljjfhnifjaaDoorW.PrintWords

/-- An error, or none, in memory. -/
def EV (W : World) : Option Er → Value → Prop
  | none, v => v = .nilIface
  | some e, v => ErV W e v
theorem EV.below {W W' : World} {o : Option Er} {v : Value} (h : EV W o v) (hb : Below W.heap.size W W') : EV W' o v := by
  cases o with
  | none => exact h
  | some e => exact ErV.below hb e v h
def ofE (n : Int) : Option Er := if n = 0 then none else some (.code n)
def newE (l : ByteArray) (k : Int) : Option Er → Option Er
  | none => none
  | some e => some (.at_ l k e)
def codeE : Option Er → Int
  | none => 0
  | some e => (codeOf e).getD 11
def isE (n : Int) : Option Er → Bool
  | none => false
  | some e => codeOf e == some n
def outE : Option Er → Option (ByteArray × Int × Er)
  | none => none
  | some e => outer e
def innerE (o : Option Er) : Option Er := match outE o with | some x => some x.2.2 | none => o
theorem of_any (n : Int) (W : World) :
    Calls Tryd.prog 13 #[.int .i64 n] W fun e w' => ∃ v, e = .returned v ∧ EV w' (ofE n) v ∧ w' = W := by
  unfold ofE
  by_cases h : n = 0
  · have h1 : (n == 0) = true := by simp [h]
    rw [if_pos h]
    go_enter Tryd.func13, Tryd.ntmps13
    go_wp2
    go_ret
    exact ⟨_, rfl, rfl, rfl⟩
  · have h1 : (n == 0) = false := by simp [h]
    rw [if_neg h]
    go_enter Tryd.func13, Tryd.ntmps13
    go_wp2
    go_ret
    exact ⟨_, rfl, rfl, rfl⟩
theorem new_any (l : ByteArray) (k : Int) (o : Option Er) (v : Value) (W : World) (h : EV W o v) :
    Calls Tryd.prog 12 #[.string l, .int .i64 k, v] W fun e w' => ∃ v1, e = .returned v1 ∧ EV w' (newE l k o) v1 ∧ Below W.heap.size W w' := by
  cases o with
  | none =>
    obtain rfl : v = .nilIface := h
    go_enter Tryd.func12, Tryd.ntmps12
    go_wp2
    go_ret
    exact ⟨_, rfl, rfl, Below.refl _ _⟩
  | some e =>
    have h' : ErV W e v := h
    obtain ⟨T, x, rfl⟩ := h'.form
    have HE := Lib.hid h'
    clear h h'
    go_enter Tryd.func12, Tryd.ntmps12
    go_wp2
    go_ret
    exact ⟨_, rfl, ⟨W.heap.size, _, rfl, heap_alloc_new W _, ErV.below (below_alloc (Below.refl _ _) _) e _ HE.out⟩, below_alloc (Below.refl _ _) _⟩
theorem put_cell {w : World} {t : Addr} {old v : Value} (h : w.cell? t = some old) : (w.setCell t v).cell? t = some v := World.cell?_setCell_same _ _ _ h
theorem code_any (o : Option Er) (v : Value) (W : World) (hg : Hx W) (h : EV W o v) :
    Calls Tryd.prog 11 #[v] W fun e w' => e = .returned (.int .i64 (codeE o)) ∧ Below W.heap.size W w' := by
  have hb0 := below_alloc (Below.refl W.heap.size W) (.cells #[.int .i64 0] 32 (0, 0))
  cases o with
  | none =>
    obtain rfl : v = .nilIface := h
    go_enter Tryd.func11, Tryd.ntmps11
    go_wp2
    go_ret
    exact ⟨rfl, hb0⟩
  | some e =>
    have h' : ErV W e v := h
    obtain ⟨T, x, rfl⟩ := h'.form
    have HE := Lib.hid (ErV.below hb0 e _ h')
    have HG := Lib.hid (hg.below (n := 0) hb0)
    have HB := Lib.hid hb0
    have HC := Lib.hid (show (W.alloc (.cells #[.int .i64 0] 32 (0, 0))).cell? ⟨W.heap.size, 0, none⟩ = some (.int .i64 0) ∧ (W.alloc (.cells #[.int .i64 0] 32 (0, 0))).frozen? ⟨W.heap.size, 0, none⟩ = false by simp)
    clear h h' hb0
    cases hc : codeOf e with
    | some n =>
      go_enter Tryd.func11, Tryd.ntmps11
      go_wp2_with (go_at_call 14; refine (asCode_any e _ ⟨W.heap.size, 0, none⟩ _ _ HG.out HE.out HC.out.1 HC.out.2).mono ?_; rintro ev w9 ⟨rfl, w1, hb1, rfl⟩; rw [hc]; have hcl := put_cell (v := .int .i64 n) ((hb1.cell (p := ⟨W.heap.size, 0, none⟩) (by simp)).trans HC.out.1); have HB1 := Lib.hid hb1; clear hb1; unfold putC)
      go_ret
      refine ⟨by rw [show codeE (some e) = n from by show (codeOf e).getD 11 = n; rw [hc]; rfl]; rfl, ?_⟩
      exact (below_step HB.out HB1.out).setCell (p := ⟨W.heap.size, 0, none⟩) (Nat.le_refl _) _
    | none =>
      go_enter Tryd.func11, Tryd.ntmps11
      go_wp2_with (go_at_call 14; refine (asCode_any e _ ⟨W.heap.size, 0, none⟩ _ _ HG.out HE.out HC.out.1 HC.out.2).mono ?_; rintro ev w9 ⟨rfl, w1, hb1, rfl⟩; rw [hc]; have HB1 := Lib.hid hb1; clear hb1; unfold putC)
      go_ret
      exact ⟨by rw [show codeE (some e) = 11 from by show (codeOf e).getD 11 = 11; rw [hc]; rfl]; rfl, below_step HB.out HB1.out⟩
theorem fis_any (o : Option Er) (n : Int) (v : Value) (W : World) (h : EV W o v) :
    Calls Tryd.prog 17 #[v, .int .i64 n] W fun e w' => e = .returned (.bool (isE n o)) ∧ Below W.heap.size W w' := by
  cases o with
  | none =>
    obtain rfl : v = .nilIface := h
    go_enter Tryd.func17, Tryd.ntmps17
    go_wp2_with (go_at_call 18; refine (is_nil n _).mono ?_; rintro ev w9 ⟨rfl, rfl⟩)
    go_ret
    exact ⟨rfl, Below.refl _ _⟩
  | some e =>
    have HE := Lib.hid (show ErV W e v from h)
    clear h
    go_enter Tryd.func17, Tryd.ntmps17
    go_wp2_with (go_at_call 18; refine (is_any e _ n _ HE.out).mono ?_; rintro ev w9 ⟨rfl, hb⟩)
    go_ret
    exact ⟨rfl, hb⟩
end Go.Proofs.YtcflljjfhnifjaaDoor.F
