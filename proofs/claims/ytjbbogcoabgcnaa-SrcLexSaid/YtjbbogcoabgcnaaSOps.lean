/- Rows of bytes that a law makes; openers of its arguments. Conditions: none. -/
import Derived.Test.YtjbbogcoabgcnaaSAw
import Derived.Test.YtjbbogcoabgcnaaOpn
set_option linter.unusedVariables false
set_option linter.unusedSimpArgs false
namespace Go.Proofs.Ytjbbogcoabgcnaa.S
open Go.RowKit Go.Proofs.YtjbbogcoabgcnaaW.PrintWords Go.Proofs.YtjbbogcoabgcnaaW.Opn Go.Proofs.Ytjbbogcoabgcnaa.L Go.Proofs.Ytjbbogcoabgcnaa.Src

theorem opBytes : Opens Try.prog 22 (Kd.slice 5 (Kd.int .u8)) (fun xs => Bys xs ∧ xs.length ≤ 140737488351232) :=
  Opens.imp (Opens.slice (B := 1) (Opens.int Try.underlying5) Try.underlying22 (by kernel_rfl) (by kernel_rfl)) (fun xs h => ⟨fun x hx => by
    have := h.2.2 x hx
    simp only [Lit.wf, Bool.and_eq_true, decide_eq_true_eq] at this
    have e1 : IntKind.u8.min = 0 := rfl
    have e2 : IntKind.u8.max = 255 := rfl
    omega, by have := h.2.1; omega⟩)
theorem u8_of {x : Int} (h : (Lit.int .u8 x).wf = true) : ∃ n : Nat, x = n ∧ n < 256 := by
  simp only [Lit.wf, Bool.and_eq_true, decide_eq_true_eq] at h
  have e1 : IntKind.u8.min = 0 := rfl
  have e2 : IntKind.u8.max = 255 := rfl
  exact ⟨x.toNat, by omega, by omega⟩
/-- A row of bytes of one's own. -/
structure Ob (w0 W : World) (v : Value) (xs : List Int) : Prop where
  own : W.ownsRow w0.heap.size 5 1 v xs.length (nums .u8 xs)
  bel : Below w0.heap.size w0 W
section
variable {w0 W W' : World} {v : Value} {xs : List Int}
theorem Ob.below (h : Ob w0 W v xs) (hb : Below W.heap.size W W') : Ob w0 W' v xs := ⟨pw_own_below h.own hb, below_step h.bel hb⟩
theorem Ob.alloc (h : Ob w0 W v xs) (o : Obj) : Ob w0 (W.alloc o) v xs := h.below (below_alloc (Below.refl _ _) o)
theorem Ob.form (h : Ob w0 W v xs) : ∃ A c, v = .slice A xs.length c ∧ xs.length ≤ c ∧ Kd.C (Kd.int .u8) W A xs.length xs := by
  obtain ⟨A, c, rfl, hr⟩ := own_reads h.own
  exact ⟨A, c, rfl, own_le h.own, Kd.C_of_reads (d := 0) (h1 := fun _ => rfl) hr⟩
theorem Ob.lit (w0 W : World) (xs : List Int) (h : Below w0.heap.size w0 W) (hm : xs.length ≤ 9) : Ob w0 (W.alloc (.cells (nums .u8 xs).toArray 5)) (.slice (some ⟨W.heap.size, 0, none⟩) xs.length xs.length) xs :=
  ⟨own_lit W _ _ _ xs h.size (by omega), below_alloc h _⟩
end
/-- A string's bytes in a row of their own. -/
theorem conv_C (W : World) (s : ByteArray) (hs : s.size ≤ 1000000) : Kd.C (Kd.int .u8) (Lib.bytesWorld W 5 s) (some ⟨W.heap.size, 0, none⟩) s.size (bytesOf s) :=
  Kd.C_of_reads (d := 0) (h1 := fun _ => rfl) (bytes_reads W 5 s (by omega))
theorem conv_run (s : ByteArray) : ∀ W : World, (convert 9 22 (.string s)).run Try.prog W = .ok (.slice (some ⟨W.heap.size, 0, none⟩) s.size (grownCap W s.size 0 5)) (Lib.bytesWorld W 5 s) :=
  fun W => print_bytes (P := Try.prog) 9 22 5 Try.underlying9 Try.underlying22 Try.underlying5 s W
def sel3 (a b c : Int) (r : Nat) : Int := if r = 0 then a else if r = 1 then b else c
theorem at3 (a b c : Int) (r : Nat) (h : r < 3) : (#[Value.int .u8 a, Value.int .u8 b, Value.int .u8 c] : Array Value)[r]? = some (.int .u8 (sel3 a b c r)) := by
  match r, h with
  | 0, _ => rfl
  | 1, _ => rfl
  | 2, _ => rfl
end Go.Proofs.Ytjbbogcoabgcnaa.S
