/- What a walk knows of the world, in one word: blocks that are known whole, and that nothing that was there ahead has turned. Conditions: none. -/
import Derived.Test.YtmpgfpndhhegiaaWWords
import Derived.Lib.Hide
namespace Go.Proofs.Ytmpgfpndhhegiaa.Hand
open Go.RowKit Go.Proofs.YtmpgfpndhhegiaaW.PrintWords

/-- The blocks of B are so; what was in w0 is as it was. -/
structure Fr (w0 : World) (B : List (Nat × Obj)) (W : World) : Prop where
  blk : ∀ p ∈ B, W.heap[p.1]? = some p.2
  bel : Below w0.heap.size w0 W
theorem Fr.below {w0 W W' : World} {B : List (Nat × Obj)} (h : Fr w0 B W) (hb : Below W.heap.size W W') : Fr w0 B W' :=
  ⟨fun p hp => blk_below (h.blk p hp) hb, below_step h.bel hb⟩
theorem Fr.alloc {w0 W : World} {B : List (Nat × Obj)} (h : Fr w0 B W) (o : Obj) : Fr w0 ((W.heap.size, o) :: B) (W.alloc o) :=
  ⟨fun p hp => by
    rcases List.mem_cons.1 hp with rfl | hp
    · exact blk_new _ _
    · exact blk_alloc (h.blk p hp) _, below_alloc h.bel _⟩
theorem Fr.drewN {w0 W : World} {B : List (Nat × Obj)} (h : Fr w0 B W) (k : Nat) : Fr w0 B (W.drewN k) := ⟨h.blk, pw_below_drewN h.bel k⟩
theorem Fr.drew {w0 W : World} {B : List (Nat × Obj)} (h : Fr w0 B W) : Fr w0 B W.drew := ⟨h.blk, below_drew1 h.bel⟩
theorem Fr.cell {w0 W : World} {B : List (Nat × Obj)} (h : Fr w0 B W) {g t : Nat} {cs : Array Value} (hm : (g, Obj.cells cs t (0, 0)) ∈ B) (i : Nat) : W.cell? ⟨g, i, none⟩ = cs[i]? := blk_cell (w := W) (g := g) (h.blk _ hm) i
theorem Fr.start (w : World) : Fr w [] w := ⟨fun p hp => by simp at hp, Below.refl _ _⟩
theorem Fr.lt {w0 W : World} {B : List (Nat × Obj)} (h : Fr w0 B W) {g : Nat} {o : Obj} (hm : (g, o) ∈ B) : g < W.heap.size := blk_lt (h.blk _ hm)
/-- Two cells of a block of two. -/
theorem Fr.two {w0 W : World} {B : List (Nat × Obj)} (h : Fr w0 B W) {g t : Nat} {x y : Value} (hm : (g, Obj.cells #[x, y] t (0, 0)) ∈ B) : W.cell? ⟨g, 0, none⟩ = some x ∧ W.cell? ⟨g, 1, none⟩ = some y := ⟨(h.cell hm 0).trans rfl, (h.cell hm 1).trans rfl⟩
end Go.Proofs.Ytmpgfpndhhegiaa.Hand
