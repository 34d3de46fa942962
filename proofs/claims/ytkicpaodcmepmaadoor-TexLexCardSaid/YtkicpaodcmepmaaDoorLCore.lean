/- Sheets in plain lists, and what the world says of one: its block (a slice in one cell) and its labels' block. Conditions: none. -/
import Derived.Test.YtkicpaodcmepmaaDoorProg
import Derived.Test.YtkicpaodcmepmaaDoorWWords
import Derived.WalkKit
import Derived.OwnWalk
import Derived.Lib.Hide
import Derived.Deep.QuietTactic
import Derived.BigQuiet
import Derived.Deep.LoopGhost
import Derived.KernelRfl
namespace Go.Proofs.YtkicpaodcmepmaaDoor.L
open Go.RowKit Go.Proofs.YtkicpaodcmepmaaDoorW.PrintWords

/-- The labels a to b (as far as there are such) are l. -/
def setL (L : List Int) (l : Int) (a b : Int) : List Int := L.mapIdx fun i x => if a ≤ (i : Int) ∧ (i : Int) < b then l else x
theorem setL_length (L : List Int) (l a b : Int) : (setL L l a b).length = L.length := by simp [setL]
theorem setL_get (L : List Int) (l a b : Int) (i : Nat) : (setL L l a b)[i]? = L[i]?.map fun x => if a ≤ (i : Int) ∧ (i : Int) < b then l else x := by simp [setL]
theorem setL_none (L : List Int) (l a b : Int) (h : b ≤ a ∨ b ≤ 0 ∨ (L.length : Int) ≤ a) : setL L l a b = L := by
  apply List.ext_getElem?
  intro i
  rw [setL_get]
  cases hx : L[i]? with
  | none => rfl
  | some x =>
    have hi := (List.getElem?_eq_some_iff.1 hx).1
    simp only [Option.map_some]
    rw [if_neg (by omega)]
theorem setL_congr {L : List Int} {l a b a' b' : Int} (h : ∀ i : Nat, i < L.length → ((a ≤ (i : Int) ∧ (i : Int) < b) ↔ (a' ≤ (i : Int) ∧ (i : Int) < b'))) : setL L l a b = setL L l a' b' := by
  apply List.ext_getElem?
  intro i
  rw [setL_get, setL_get]
  cases hx : L[i]? with
  | none => rfl
  | some x =>
    have hi := (List.getElem?_eq_some_iff.1 hx).1
    simp only [Option.map_some]
    by_cases hc : a ≤ (i : Int) ∧ (i : Int) < b
    · rw [if_pos hc, if_pos ((h i hi).1 hc)]
    · rw [if_neg hc, if_neg (fun h2 => hc ((h i hi).2 h2))]
theorem setL_clip (L : List Int) (l a b : Int) : setL L l (max a 0) (min b L.length) = setL L l a b := by
  apply List.ext_getElem?
  intro i
  rw [setL_get, setL_get]
  cases hx : L[i]? with
  | none => rfl
  | some x =>
    have hi := (List.getElem?_eq_some_iff.1 hx).1
    simp only [Option.map_some]
    by_cases h : a ≤ (i : Int) ∧ (i : Int) < b
    · rw [if_pos h, if_pos (by omega)]
    · rw [if_neg h, if_neg (by omega)]
theorem setL_step (L : List Int) (l : Int) (off i : Nat) : (setL L l off ((off : Int) + i)).set (off + i) l = setL L l off ((off : Int) + ((i + 1 : Nat) : Int)) := by
  apply List.ext_getElem?
  intro j
  rw [List.getElem?_set, setL_length, setL_get, setL_get]
  by_cases hj : off + i = j
  · subst hj
    rw [if_pos rfl]
    cases hx : L[off + i]? with
    | none =>
      have := List.getElem?_eq_none_iff.1 hx
      rw [if_neg (by omega)]
      rfl
    | some x =>
      have hi := (List.getElem?_eq_some_iff.1 hx).1
      rw [if_pos hi]
      simp only [Option.map_some]
      rw [if_pos (by omega)]
  · rw [if_neg hj]
    cases hx : L[j]? with
    | none => rfl
    | some x =>
      simp only [Option.map_some]
      by_cases h : (off : Int) ≤ (j : Int) ∧ (j : Int) < (off : Int) + i
      · rw [if_pos h, if_pos (by omega)]
      · rw [if_neg h, if_neg (by omega)]

/-- Labels as cells. -/
def cellsL (L : List Int) : Array Value := (L.map (Value.int .u8)).toArray
theorem cellsL_size (L : List Int) : (cellsL L).size = L.length := by simp [cellsL]
theorem cellsL_get (L : List Int) (i : Nat) : (cellsL L)[i]? = L[i]?.map (Value.int .u8) := by simp [cellsL]
theorem cellsL_set (L : List Int) (i : Nat) (l : Int) : (cellsL L).setIfInBounds i (.int .u8 l) = cellsL (L.set i l) := by simp [cellsL, List.map_set]
theorem setL_at (L : List Int) (l : Int) (off : Nat) : setL L l off off = L := setL_none _ _ _ _ (.inl (by omega))
attribute [irreducible] cellsL

/-- Of what was there nothing has turned but (it may be) the block of row. -/
theorem grown_trans {w w1 w2 : World} {row : Option Nat} (h : w.grownBy w1 row) (k : w1.grownBy w2 row) : w.grownBy w2 row :=
  ⟨k.os.trans h.os, k.tape.trans h.tape, k.output.trans h.output, Nat.le_trans h.size k.size, fun i hi hn => (k.block i (Nat.lt_of_lt_of_le hi h.size) hn).trans (h.block i hi hn)⟩
theorem grown_set (w : World) (k i : Nat) (u : Value) : w.grownBy (w.setCell ⟨k, i, none⟩ u) (some k) :=
  ⟨rfl, rfl, rfl, by simp [World.setCell], fun j hj hn => Below.heap_setCell w ⟨k, i, none⟩ u j (by intro h; exact hn (by rw [h]))⟩
theorem grown_drew (w : World) (row : Option Nat) : w.grownBy w.drew row := ⟨rfl, rfl, rfl, Nat.le_refl _, fun _ _ _ => rfl⟩
theorem grown_drewN (w : World) (n : Nat) (row : Option Nat) : w.grownBy (w.drewN n) row := ⟨rfl, rfl, rfl, Nat.le_refl _, fun _ _ _ => rfl⟩
theorem grown_below {w w1 : World} (h : Below w.heap.size w w1) (row : Option Nat) : w.grownBy w1 row := ⟨h.os, h.tape, h.output, h.size, fun i hi _ => h.block i hi⟩
theorem below_grown {w0 w w1 : World} {k : Nat} (h : Below w0.heap.size w0 w) (hk : w0.heap.size ≤ k) (hg : w.grownBy w1 (some k)) : Below w0.heap.size w0 w1 :=
  h.grown hg h.size (fun j hj => by cases hj; exact hk)

/-- A sheet at block g, its labels (L) in block k. -/
def Sheet (w : World) (g k : Nat) (L : List Int) : Prop :=
  w.heap[g]? = some (.cells #[.slice (some ⟨k, 0, none⟩) L.length L.length] 51 (0, 0)) ∧ w.heap[k]? = some (.cells (cellsL L) 28 (0, 0)) ∧ L.length ≤ 65536
theorem Sheet.ne {w : World} {g k : Nat} {L : List Int} (h : Sheet w g k L) : g ≠ k := blk_ne h.1 h.2.1 (by decide)
theorem Sheet.below {w w1 : World} {g k : Nat} {L : List Int} (h : Sheet w g k L) (hb : Below w.heap.size w w1) : Sheet w1 g k L := ⟨blk_below h.1 hb, blk_below h.2.1 hb, h.2.2⟩
theorem Sheet.alloc {w : World} {g k : Nat} {L : List Int} (h : Sheet w g k L) (o : Obj) : Sheet (w.alloc o) g k L := ⟨blk_alloc h.1 o, blk_alloc h.2.1 o, h.2.2⟩
theorem Sheet.drew {w : World} {g k : Nat} {L : List Int} (h : Sheet w g k L) : Sheet w.drew g k L := h
theorem Sheet.drewN {w : World} {g k : Nat} {L : List Int} (h : Sheet w g k L) (n : Nat) : Sheet (w.drewN n) g k L := h
theorem Sheet.lt {w : World} {g k : Nat} {L : List Int} (h : Sheet w g k L) : g < w.heap.size ∧ k < w.heap.size := ⟨blk_lt h.1, blk_lt h.2.1⟩
theorem Sheet.grown {w w1 : World} {g k : Nat} {L : List Int} {row : Option Nat} (h : Sheet w g k L) (hg : w.grownBy w1 row) (h1 : some g ≠ row) (h2 : some k ≠ row) : Sheet w1 g k L := ⟨blk_grown h.1 hg h1, blk_grown h.2.1 hg h2, h.2.2⟩
theorem Sheet.far {w : World} {g k : Nat} {L : List Int} (h : Sheet w g k L) {p : Addr} (h1 : g ≠ p.block) (h2 : k ≠ p.block) (u : Value) : Sheet (w.setCell p u) g k L := ⟨blk_far h.1 h1 u, blk_far h.2.1 h2 u, h.2.2⟩

/-! ### fill -/
set_option maxHeartbeats 400000 in
theorem fill_any (k off n c : Nat) (l : Int) (L : List Int) (w : World) (hk : w.heap[k]? = some (.cells (cellsL L) 28 (0, 0))) (hn : off + n ≤ L.length) (hL : L.length ≤ 65536) :
    Calls Tryd.prog 23 #[.slice (some ⟨k, off, none⟩) n c, .int .u8 l] w fun e w' => e = .returned (.tuple #[]) ∧ w'.heap[k]? = some (.cells (cellsL (setL L l off ((off : Int) + n))) 28 (0, 0)) ∧ w.grownBy w' (some k) := by
  have HK := Lib.hid hk
  clear hk
  go_enter Tryd.func23, Tryd.ntmps23
  go_wp2_with fail
  go_loopw [7] (fun i wr => ∃ j : Nat, j ≤ n ∧ i = .int .i64 j ∧ Hid (wr.heap[k]? = some (.cells (cellsL (setL L l off ((off : Int) + j))) 28 (0, 0)) ∧ w.grownBy wr (some k))) (fun i _ => n - (intOf i).toNat)
  case atStart => exact ⟨0, Nat.zero_le _, rfl, by rw [Int.natCast_zero, Int.add_zero, setL_at]; exact ⟨HK.out, World.grownBy.refl _ _⟩⟩
  case round =>
    obtain ⟨j, hj, rfl, HJ⟩ := hrel
    have hlim : n ≤ 65536 := by omega
    by_cases hlt : j < n
    · have hc : wr.cell? ⟨k, off + j, none⟩ = some (.int .u8 ((setL L l off ((off : Int) + j)).getD (off + j) 0)) := by
        rw [blk_cell HJ.out.1, cellsL_get, List.getD_eq_getElem?_getD]
        have : off + j < (setL L l off ((off : Int) + j)).length := by rw [setL_length]; omega
        rw [List.getElem?_eq_getElem this]
        rfl
      have hf := blk_frozen HJ.out.1 (off + j)
      have HW := Lib.hid (show (wr.setCell ⟨k, off + j, none⟩ (.int .u8 l)).heap[k]? = some (.cells (cellsL (setL L l off ((off : Int) + ((j + 1 : Nat) : Int)))) 28 (0, 0)) ∧ w.grownBy (wr.setCell ⟨k, off + j, none⟩ (.int .u8 l)) (some k) from
        ⟨blk_put HJ.out.1 _ _ (by rw [cellsL_set, setL_step]), grown_trans HJ.out.2 (grown_set _ _ _ _)⟩)
      clear HJ
      go_wp2
      go_roundw
      case rel => exact ⟨j + 1, by omega, by go_num, HW⟩
      case measure => simp [intOf]; omega
    · have : j = n := by omega
      subst this
      go_wp2
      go_end0
      exact ⟨rfl, HJ.out.1, HJ.out.2⟩
end Go.Proofs.YtkicpaodcmepmaaDoor.L
