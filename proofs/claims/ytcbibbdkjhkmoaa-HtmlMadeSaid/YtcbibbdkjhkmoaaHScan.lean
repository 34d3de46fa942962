/- A place in bytes, and how it goes on as long as bytes are so, walked. Conditions: as each lemma says. -/
import Derived.Test.YtcbibbdkjhkmoaaProg
import Derived.Test.YtcbibbdkjhkmoaaWWords
import Derived.Test.YtcbibbdkjhkmoaaLab
import Derived.Test.YtcbibbdkjhkmoaaSHas
import Derived.Test.YtcbibbdkjhkmoaaPnamex1
import Derived.Test.YtcbibbdkjhkmoaaPblankx1
import Derived.Test.YtcbibbdkjhkmoaaHtmPlain
import Derived.WalkKit
import Derived.OwnWalk
import Derived.Lib.Hide
import Derived.KernelRfl
import Derived.RowKit3
import Derived.Deep.LoopGhost
import Derived.Deep.RegionHeld3
import Derived.Deep.DeepCutAuto
import Derived.Deep.CutBlock
import Derived.Laws.Slices
set_option linter.unusedVariables false
set_option linter.unusedSimpArgs false
namespace Go.Proofs.Ytcbibbdkjhkmoaa.H
open Go.RowKit Go.Proofs.YtcbibbdkjhkmoaaW.PrintWords Go.Proofs.Ytcbibbdkjhkmoaa.L Go.Proofs.Ytcbibbdkjhkmoaa.S Go.Proofs.Ytcbibbdkjhkmoaa.Htm

/-- A place in bytes, in memory. -/
structure Sc (w0 W : World) (s : Nat) (A : Option Addr) (c : Nat) (b : List Int) (p : Nat) : Prop where
  blk : W.heap[s]? = some (.cells #[.slice A b.length c, .int .i64 p] 79 (0, 0))
  C : Kd.C (Kd.int .u8) w0 A b.length b
  bel : Below w0.heap.size w0 W
  ls : w0.heap.size ≤ s
  lc : b.length ≤ c
  lp : p ≤ b.length
  max : b.length ≤ 65536
  bys : Bys b
section
variable {w0 W W' : World} {s : Nat} {A : Option Addr} {c : Nat} {b : List Int} {p : Nat}
theorem Sc.c0 (h : Sc w0 W s A c b p) : W.cell? ⟨s, 0, none⟩ = some (.slice A b.length c) := (blk_cell h.blk 0).trans rfl
theorem Sc.c1 (h : Sc w0 W s A c b p) : W.cell? ⟨s, 1, none⟩ = some (.int .i64 p) := (blk_cell h.blk 1).trans rfl
theorem Sc.drewN (h : Sc w0 W s A c b p) (n : Nat) : Sc w0 (W.drewN n) s A c b p := ⟨h.blk, h.C, pw_below_drewN h.bel n, h.ls, h.lc, h.lp, h.max, h.bys⟩
theorem Sc.drew (h : Sc w0 W s A c b p) : Sc w0 W.drew s A c b p := ⟨h.blk, h.C, below_drew1 h.bel, h.ls, h.lc, h.lp, h.max, h.bys⟩
theorem Sc.below (h : Sc w0 W s A c b p) (hb : Below W.heap.size W W') : Sc w0 W' s A c b p := ⟨blk_below h.blk hb, h.C, below_step h.bel hb, h.ls, h.lc, h.lp, h.max, h.bys⟩
theorem Sc.move (h : Sc w0 W s A c b p) (q : Nat) (hq : q ≤ b.length) : Sc w0 (W.setCell ⟨s, 1, none⟩ (.int .i64 q)) s A c b q := by
  refine ⟨?_, h.C, below_grown h.bel h.ls (grown_set _ _ _ _), h.ls, h.lc, hq, h.max, h.bys⟩
  have := blk_set h.blk 1 (.int .i64 q)
  exact this
theorem Sc.f1 (h : Sc w0 W s A c b p) : W.frozen? ⟨s, 1, none⟩ = false := blk_frozen h.blk 1
theorem Sc.at_ (h : Sc w0 W s A c b p) (hp : p < b.length) : ∃ ad, A = some ad ∧ W.cell? (ad.add p) = some (.int .u8 (b.getD p 0)) := by
  obtain ⟨ad, e, hc⟩ := Kd.at_int (Kd.C_below h.C h.bel) (p : Int) (by omega) (by omega)
  exact ⟨ad, e, hc⟩
end

theorem C_take {α : Type} {k : Kd α} {w : World} {A : Option Addr} {n : Nat} {xs : List α} (h : Kd.C k w A n xs) (m : Nat) (hm : m ≤ n) : Kd.C k w A m (xs.take m) := by
  have hl := h.1
  refine ⟨by rw [List.length_take]; omega, Nat.le_trans hm h.2.1, fun h0 => ?_⟩
  obtain ⟨ad, e, hc⟩ := h.2.2 (by omega)
  refine ⟨ad, e, fun j p hj => hc j p ?_⟩
  rw [List.getElem?_take] at hj
  split at hj
  · exact hj
  · simp at hj
theorem C_mid {w : World} {A : Option Addr} {c : Nat} {b : List Int} (h : Kd.C (Kd.int .u8) w A b.length b) (hc : b.length ≤ c) (p q : Nat) (hp : p ≤ q) (hq : q ≤ b.length) : Kd.C (Kd.int .u8) w (if c = p then A else A.map (·.add (p * 1))) (q - p) ((b.drop p).take (q - p)) := by
  have h1 := Kd.C_drop h (show p ≤ b.length by omega) hc
  rw [List.length_drop] at h1
  exact C_take h1 (q - p) (by omega)
theorem info_u8 : (Try.prog.info? 5).map (fun i => (i.zero, i.size, i.bytes)) = some (some (.int .u8 0), 1, 1) := by kernel_rfl
theorem cut_b (A : Option Addr) (n c p q : Nat) (hp : p ≤ q) (hq : q ≤ n) (hc : n ≤ c) : ∀ W : World, (Instr.slice 22 (.slice A n c) (some (.int .i64 p)) (some (.int .i64 q)) none).run Try.prog W = .ok (.slice (if c = p then A else A.map (·.add (p * 1))) (q - p) (c - p)) W := by
  obtain ⟨i0, hi0, _, hsz, _⟩ := info_parts info_u8
  have := cut_mid (P := Try.prog) 22 5 .i64 .i64 Try.underlying22 hi0 1 hsz A n c (p : Int) (q : Int) (by omega) (by omega) (by omega) hc
  simpa using this
end Go.Proofs.Ytcbibbdkjhkmoaa.H
