/- What stands at a place of a program, walked. Conditions: none but those that stand there. -/
import Derived.Test.YtjbbogcoabgcnaaSTxt
set_option linter.unusedVariables false
set_option linter.unusedSimpArgs false
namespace Go.Proofs.Ytjbbogcoabgcnaa.S
open Go.RowKit Go.Proofs.YtjbbogcoabgcnaaW.PrintWords Go.Proofs.Ytjbbogcoabgcnaa.L Go.Proofs.Ytjbbogcoabgcnaa.Src

/-- The byte ahead. -/
def prv (b : List Int) (at_ : Nat) : Int := if at_ = 0 then -1 else b.getD (at_ - 1) 0
theorem gap_idx (x : Int) (h : 0 ≤ x) : decide (0 ≤ idx [32, 9, 13, 10, 59] x) = gap x := by
  unfold idx gap
  by_cases h1 : x = 32
  · subst h1; rfl
  by_cases h2 : x = 9
  · subst h2; rfl
  by_cases h3 : x = 13
  · subst h3; rfl
  by_cases h4 : x = 10
  · subst h4; rfl
  by_cases h5 : x = 59
  · subst h5; rfl
  have e1 : ((32 : Int) == x) = false := by simp; omega
  have e2 : ((9 : Int) == x) = false := by simp; omega
  have e3 : ((13 : Int) == x) = false := by simp; omega
  have e4 : ((10 : Int) == x) = false := by simp; omega
  have e5 : ((59 : Int) == x) = false := by simp; omega
  have e6 : (x == (-1 : Int)) = false := by simp; omega
  simp [List.findIdx_cons, e1, e2, e3, e4, e5, e6, h1, h2, h3, h4, h5]
theorem find_at {α : Type} (P : α → Bool) (l : List α) (d : α) (j : Nat) (hj : j < l.length) (h0 : ∀ q, q < j → P (l.getD q d) = false) (h1 : P (l.getD j d) = true) : l.find? P = some (l.getD j d) := by
  rw [List.find?_eq_some_iff_getElem]
  refine ⟨h1, j, hj, ?_, fun q hq => ?_⟩
  · rw [List.getD_eq_getElem?_getD, List.getElem?_eq_getElem hj]; rfl
  · have := h0 q hq
    rw [List.getD_eq_getElem?_getD, List.getElem?_eq_getElem (by omega)] at this
    simpa using this
theorem find_no {α : Type} (P : α → Bool) (l : List α) (d : α) (h0 : ∀ q, q < l.length → P (l.getD q d) = false) : l.find? P = none := by
  rw [List.find?_eq_none]
  intro x hx
  obtain ⟨q, hq, rfl⟩ := List.getElem_of_mem hx
  have := h0 q hq
  rw [List.getD_eq_getElem?_getD, List.getElem?_eq_getElem hq] at this
  simpa using this

def tst (E : Env) (at_ : Nat) (m : ByteArray) : Bool := beg (bytesOf m) (E.b.drop at_) && (!E.F.apart || gap (prv E.b at_))
def tst2 (E : Env) (at_ : Nat) (t : Tb) : Bool := beg (bytesOf t.f0) (E.b.drop at_)
def M_ (E : Env) (at_ : Nat) : List Int := stp E.F.fam (prv E.b at_) (E.b.drop at_)
section
variable {E : Env} {at_ : Nat}
theorem map_find {α β : Type} (f : α → β) (P : β → Bool) (l : List α) : (l.map f).find? P = (l.find? (fun x => P (f x))).map f := by
  rw [List.find?_map]; rfl
theorem line_find : E.F.fam.line.find? (fun m => beg m (E.b.drop at_) && (!E.F.fam.apart || gap (prv E.b at_))) = (E.F.line.find? (tst E at_)).map bytesOf := map_find _ _ _
theorem texts_find : E.F.fam.texts.find? (fun t => beg t.mark (E.b.drop at_)) = (E.F.texts.find? (tst2 E at_)).map txOf := map_find _ _ _
theorem M_line (j : Nat) (hj : j < E.F.line.length) (h0 : ∀ q, q < j → tst E at_ (E.F.line.getD q ByteArray.empty) = false) (h1 : tst E at_ (E.F.line.getD j ByteArray.empty) = true) :
    M_ E at_ = List.replicate (E.F.line.getD j ByteArray.empty).size 3 ++ List.replicate ((E.b.drop (at_ + (E.F.line.getD j ByteArray.empty).size)).findIdx (· == 10)) 1 := by
  unfold M_ stp
  rw [line_find, find_at (tst E at_) _ _ j hj h0 h1]
  simp only [Option.map_some]
  rw [bytesOf_length, List.drop_drop]
theorem M_blk (h0 : ∀ q, q < E.F.line.length → tst E at_ (E.F.line.getD q ByteArray.empty) = false) (h1 : beg (bytesOf E.F.opn) (E.b.drop at_) = true) : M_ E at_ = blkW E.F.fam 0 (E.b.drop at_) := by
  unfold M_ stp
  rw [line_find, find_no (tst E at_) _ _ h0]
  simp only [Option.map_none]
  have e : beg E.F.fam.opn (E.b.drop at_) = true := h1
  rw [if_pos e]
  rfl
theorem M_text (h0 : ∀ q, q < E.F.line.length → tst E at_ (E.F.line.getD q ByteArray.empty) = false) (h1 : beg (bytesOf E.F.opn) (E.b.drop at_) = false) (d : Tb) (j : Nat) (hj : j < E.F.texts.length) (h2 : ∀ q, q < j → tst2 E at_ (E.F.texts.getD q d) = false) (h3 : tst2 E at_ (E.F.texts.getD j d) = true) :
    M_ E at_ = List.replicate (E.F.texts.getD j d).f0.size 4 ++ txtW (txOf (E.F.texts.getD j d)) (E.b.drop (at_ + (E.F.texts.getD j d).f0.size)) := by
  unfold M_ stp
  rw [line_find, find_no (tst E at_) _ _ h0]
  simp only [Option.map_none]
  have e : beg E.F.fam.opn (E.b.drop at_) = false := h1
  rw [if_neg (by simp [e]), texts_find, find_at (tst2 E at_) _ d j hj h2 h3]
  simp only [Option.map_some]
  have hl : (txOf (E.F.texts.getD j d)).mark.length = (E.F.texts.getD j d).f0.size := bytesOf_length _
  rw [hl, List.drop_drop, txtW_fuel _ _ _ (by simp only [List.length_drop]; omega)]
theorem M_none (h0 : ∀ q, q < E.F.line.length → tst E at_ (E.F.line.getD q ByteArray.empty) = false) (h1 : beg (bytesOf E.F.opn) (E.b.drop at_) = false) (d : Tb) (h2 : ∀ q, q < E.F.texts.length → tst2 E at_ (E.F.texts.getD q d) = false) : M_ E at_ = [4] := by
  unfold M_ stp
  rw [line_find, find_no (tst E at_) _ _ h0]
  simp only [Option.map_none]
  have e : beg E.F.fam.opn (E.b.drop at_) = false := h1
  rw [if_neg (by simp [e]), texts_find, find_no (tst2 E at_) _ d h2]
  rfl
end
theorem lit_C (w : World) (t : TypeId) (fr : Nat × Nat) (l : List Int) (hl : l.length ≤ 9) : Kd.C (Kd.int .u8) (w.alloc (.cells (l.map (Value.int .u8)).toArray t fr)) (some ⟨w.heap.size, 0, none⟩) l.length l := by
  refine ⟨rfl, by omega, fun _ => ⟨_, rfl, fun j p hj => ⟨[.int .u8 p], rfl, rfl, fun i u hu => ?_⟩⟩⟩
  have hi : i = 0 := by
    have := (List.getElem?_eq_some_iff.1 hu).1
    simpa using this
  subst hi
  have hp : Value.int .u8 p = u := by simpa using hu
  subst hp
  have e : (⟨w.heap.size, 0, none⟩ : Addr).add (j * 1 + 0) = ⟨w.heap.size, j, none⟩ := by
    unfold Addr.add
    by_cases h0 : j = 0
    · subst h0; rfl
    · simp [h0]
  have hz : (Kd.int IntKind.u8).sz = 1 := rfl
  rw [hz, e, cell_of_row _ _ _ _ _ _ (blk_new w _)]
  simp [hj]
end Go.Proofs.Ytjbbogcoabgcnaa.S
