/- Rows of bytes that a law makes; openers of its arguments. Conditions: none. -/
import Derived.Test.YtjbbogcoabgcnaaSAw
import Derived.Test.YtjbbogcoabgcnaaOpn
set_option linter.unusedVariables false
set_option linter.unusedSimpArgs false
namespace Go.Proofs.Ytjbbogcoabgcnaa.S
open Go.RowKit Go.Proofs.YtjbbogcoabgcnaaW.PrintWords Go.Proofs.YtjbbogcoabgcnaaW.Opn Go.Proofs.Ytjbbogcoabgcnaa.L Go.Proofs.Ytjbbogcoabgcnaa.Src

theorem opBytes : Opens Try.prog 22 (Kd.slice 5 (Kd.int .u8)) (fun xs => Bys xs ∧ xs.length ≤ 140737488351232) :=
  Opens.imp (Opens.slice (B := 1) (Opens.int Try.underlying5) Try.underlying22 (by kernel_rfl) (by kernel_rfl)) (fun xs h => ⟨fun x hx => by
    have := h.2.2 x hx
    simp only [Lit.wf, Bool.and_eq_true, decide_eq_true_eq] at this
    have e1 : IntKind.u8.min = 0 := rfl
    have e2 : IntKind.u8.max = 255 := rfl
    omega, by have := h.2.1; omega⟩)
theorem u8_of {x : Int} (h : (Lit.int .u8 x).wf = true) : ∃ n : Nat, x = n ∧ n < 256 := by
  simp only [Lit.wf, Bool.and_eq_true, decide_eq_true_eq] at h
  have e1 : IntKind.u8.min = 0 := rfl
  have e2 : IntKind.u8.max = 255 := rfl
  exact ⟨x.toNat, by omega, by omega⟩
/-- A row of bytes of one's own. -/
structure Ob (w0 W : World) (v : Value) (xs : List Int) : Prop where
  own : W.ownsRow w0.heap.size 5 1 v xs.length (nums .u8 xs)
  bel : Below w0.heap.size w0 W
section
variable {w0 W W' : World} {v : Value} {xs : List Int}
theorem Ob.below (h : Ob w0 W v xs) (hb : Below W.heap.size W W') : Ob w0 W' v xs := ⟨pw_own_below h.own hb, below_step h.bel hb⟩
theorem Ob.alloc (h : Ob w0 W v xs) (o : Obj) : Ob w0 (W.alloc o) v xs := h.below (below_alloc (Below.refl _ _) o)
theorem Ob.form (h : Ob w0 W v xs) : ∃ A c, v = .slice A xs.length c ∧ xs.length ≤ c ∧ Kd.C (Kd.int .u8) W A xs.length xs := by
  obtain ⟨A, c, rfl, hr⟩ := own_reads h.own
  exact ⟨A, c, rfl, own_le h.own, Kd.C_of_reads (d := 0) (h1 := fun _ => rfl) hr⟩
theorem Ob.lit (w0 W : World) (xs : List Int) (h : Below w0.heap.size w0 W) (hm : xs.length ≤ 9) : Ob w0 (W.alloc (.cells (nums .u8 xs).toArray 5)) (.slice (some ⟨W.heap.size, 0, none⟩) xs.length xs.length) xs :=
  ⟨own_lit W _ _ _ xs h.size (by omega), below_alloc h _⟩
end
end Go.Proofs.Ytjbbogcoabgcnaa.S
