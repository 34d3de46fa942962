/- The methods of sheets, each by what it says of the labels. Conditions: none. -/
import Derived.Test.YtkicpaodcmepmaaDoorLCore
import Derived.Outline
namespace Go.Proofs.YtkicpaodcmepmaaDoor.L
open Go.RowKit Go.Proofs.YtkicpaodcmepmaaDoorW.PrintWords

theorem info27 : (Tryd.prog.info? 28).map (fun i => (i.zero, i.size, i.bytes)) = some (some (.int .u8 0), 1, 1) := by kernel_rfl

/-! ### New -/
theorem new_no (n : Int) (w : World) (h : n < 0 ∨ 65536 < n) :
    Calls Tryd.prog 18 #[.int .i64 n] w fun e w' => e = .returned (.tuple #[.pointer none, .int .i64 2]) ∧ w = w' := by
  by_cases h0 : n < 0
  · have h1 : decide (n < 0) = true := by simp [h0]
    go_enter Tryd.func18, Tryd.ntmps18
    go_wp2
    go_ret2
    exact ⟨rfl, rfl⟩
  · have h1 : decide (n < 0) = false := by simp [h0]
    have h2 : 65536 < n := by omega
    go_enter Tryd.func18, Tryd.ntmps18
    go_wp2
    go_ret2
    exact ⟨rfl, rfl⟩

theorem run_make27 (n : Nat) (h : n ≤ 65536) (W : World) :
    (Instr.makeSlice 39 (.int .i64 (n : Int)) (.int .i64 (n : Int))).run Tryd.prog W = .ok (.slice (some ⟨W.heap.size, 0, none⟩) n n) (W.alloc (.cells (cellsL (List.replicate n 0)) 28 (0, 0))) := by
  obtain ⟨i, hi, hz, hs, hb⟩ := info_parts info27
  have hr := run_make (P := Tryd.prog) W 39 28 i (.int .u8 0) Tryd.underlying39 hi hz .i64 .i64 n n (by omega) (by omega) (by rw [hb]; omega) (by omega)
  rw [Int.toNat_natCast, hs] at hr
  rw [hr]
  have e : madeCells (Value.int .u8 0).cells (n * 1) = cellsL (List.replicate n 0) := by
    apply Array.ext'
    rw [Nat.mul_one]
    unfold cellsL
    rw [show (Value.int IntKind.u8 0).cells = #[.int .u8 0] from rfl, toList_madeCells_one]
    simp
  rw [e]

theorem blk_alloc_at (w : World) (o o' : Obj) (g : Nat) (h : g = (w.alloc o).heap.size) : ((w.alloc o).alloc o').heap[g]? = some o' := by
  subst h
  exact blk_new _ _
theorem new_yes (n : Nat) (w : World) (h : n ≤ 65536) :
    Calls Tryd.prog 18 #[.int .i64 n] w fun e w' => ∃ g k, e = .returned (.tuple #[.pointer (some ⟨g, 0, none⟩), .int .i64 0]) ∧ Sheet w' g k (List.replicate n 1) ∧ Below w.heap.size w w' ∧ w.heap.size ≤ g ∧ w.heap.size ≤ k := by
  have h1 : decide ((n : Int) < 0) = false := by simp
  have hmk := run_make27 n h
  go_enter Tryd.func18, Tryd.ntmps18
  go_wp2_with fail
  clear hmk
  refine (fill_any w.heap.size 0 n n 1 (List.replicate n 0) _ ((blk_alloc (blk_new w _) _)) (by simp) (by simpa using h)).mono ?_
  rintro e w1 ⟨rfl, HK, hg⟩
  have HG := Lib.hid hg
  have HK1 := Lib.hid HK
  clear hg HK
  go_wp2
  go_ret2
  have e1 : setL (List.replicate n 0) 1 ((0 : Nat) : Int) (((0 : Nat) : Int) + n) = List.replicate n 1 := by
    apply List.ext_getElem?
    intro i
    rw [setL_get, List.getElem?_replicate, List.getElem?_replicate]
    by_cases h : i < n
    · simp [h]
    · simp [h]
  refine ⟨_, w.heap.size, rfl, ⟨?_, ?_, by simpa using h⟩, ?_, ?_, Nat.le_refl _⟩
  · refine blk_grown ?_ HG.out ?_
    · rw [List.length_replicate]
      exact blk_alloc_at _ _ _ _ (by simp)
    · simp
  · have := HK1.out
    rw [e1] at this
    exact this
  · exact below_grown (below_alloc (below_alloc (Below.refl _ _) _) _) (Nat.le_refl _) HG.out
  · simp

/-! ### At -/
theorem at_in (g k : Nat) (L : List Int) (i : Nat) (x : Int) (w : World) (hs : Sheet w g k L) (hi : L[i]? = some x) :
    Calls Tryd.prog 11 #[.pointer (some ⟨g, 0, none⟩), .int .i64 i] w fun e w' => e = .returned (.int .u8 x) ∧ w = w' := by
  have h1 : w.cell? ⟨g, 0, none⟩ = some (.slice (some ⟨k, 0, none⟩) L.length L.length) := (blk_cell hs.1 0).trans rfl
  have h2 : w.cell? ⟨k, i, none⟩ = some (.int .u8 x) := by rw [blk_cell hs.2.1, cellsL_get, hi]; rfl
  have hl : i < L.length := (List.getElem?_eq_some_iff.1 hi).1
  have hm := hs.2.2
  have h3 : decide ((i : Int) < 0) = false := by simp
  have h4 : decide (L.length ≤ i) = false := by simp; omega
  clear hs hi
  go_enter Tryd.func11, Tryd.ntmps11
  go_wp2
  go_ret
  exact ⟨rfl, rfl⟩

theorem at_out (g k : Nat) (L : List Int) (i : Int) (w : World) (hs : Sheet w g k L) (hi : i < 0 ∨ (L.length : Int) ≤ i) :
    Calls Tryd.prog 11 #[.pointer (some ⟨g, 0, none⟩), .int .i64 i] w fun e w' => e = .returned (.int .u8 0) ∧ w = w' := by
  have h1 : w.cell? ⟨g, 0, none⟩ = some (.slice (some ⟨k, 0, none⟩) L.length L.length) := (blk_cell hs.1 0).trans rfl
  have hm := hs.2.2
  clear hs
  by_cases h0 : i < 0
  · have h3 : decide (i < 0) = true := by simp [h0]
    go_enter Tryd.func11, Tryd.ntmps11
    go_wp2
    go_ret
    exact ⟨rfl, rfl⟩
  · have h3 : decide (i < 0) = false := by simp [h0]
    have h4 : decide ((L.length : Int) ≤ i) = true := by simp; omega
    go_enter Tryd.func11, Tryd.ntmps11
    go_wp2
    go_ret
    exact ⟨rfl, rfl⟩

theorem at_nil (i : Int) (w : World) :
    Calls Tryd.prog 11 #[.pointer none, .int .i64 i] w fun e w' => e = .returned (.int .u8 0) ∧ w = w' := by
  go_enter Tryd.func11, Tryd.ntmps11
  go_wp2
  go_ret
  exact ⟨rfl, rfl⟩

/-! ### Len -/
theorem len_any (g k : Nat) (L : List Int) (w : World) (hs : Sheet w g k L) :
    Calls Tryd.prog 20 #[.pointer (some ⟨g, 0, none⟩)] w fun e w' => e = .returned (.int .i64 (L.length : Int)) ∧ w = w' := by
  have h1 : w.cell? ⟨g, 0, none⟩ = some (.slice (some ⟨k, 0, none⟩) L.length L.length) := (blk_cell hs.1 0).trans rfl
  clear hs
  go_enter Tryd.func20, Tryd.ntmps20
  go_wp2
  go_ret
  exact ⟨rfl, rfl⟩
theorem len_nil (w : World) :
    Calls Tryd.prog 20 #[.pointer none] w fun e w' => e = .returned (.int .i64 0) ∧ w = w' := by
  go_enter Tryd.func20, Tryd.ntmps20
  go_wp2
  go_ret
  exact ⟨rfl, rfl⟩

/-! ### Set -/
theorem set_nil (l a b : Int) (w : World) :
    Calls Tryd.prog 36 #[.pointer none, .int .u8 l, .int .i64 a, .int .i64 b] w fun e w' => e = .returned (.tuple #[]) ∧ w = w' := by
  go_enter Tryd.func36, Tryd.ntmps36
  go_wp2
  (try simp only [Exit.inBlock, Exit.then])
  refine bodyPost_ret (results_none rfl _ _ _) rfl ?_
  exact ⟨rfl, rfl⟩
theorem set_any (g k : Nat) (L : List Int) (l a b : Int) (w : World) (hs : Sheet w g k L) :
    Calls Tryd.prog 36 #[.pointer (some ⟨g, 0, none⟩), .int .u8 l, .int .i64 a, .int .i64 b] w fun e w' => e = .returned (.tuple #[]) ∧ Sheet w' g k (setL L l a b) ∧ w.grownBy w' (some k) := by
  have h1 : w.cell? ⟨g, 0, none⟩ = some (.slice (some ⟨k, 0, none⟩) L.length L.length) := (blk_cell hs.1 0).trans rfl
  have HS := Lib.hid hs
  clear hs
  rcases Int.lt_or_le a 0 with ha | ha <;> rcases Int.lt_or_le (L.length : Int) b with hb | hb
  all_goals
    go_enter Tryd.func36, Tryd.ntmps36
    go_wp2_with fail
    go_quiet (fail)
    go_wp2_with fail
    all_goals first
    | (refine (fill_any _ _ _ _ _ L _ ?_ ?_ HS.out.2.2).mono ?_
       · exact HS.out.2.1
       · have := HS.out.2.2
         omega
       rintro e w1 ⟨rfl, HK, hg⟩
       have HG := Lib.hid (grown_trans (grown_drewN w nq (some k)) hg)
       have HK1 := Lib.hid HK
       clear hg HK
       go_wp2
       go_end0
       refine ⟨rfl, ?_, HG.out⟩
       have HL := HS.out.2.2
       refine ⟨?_, ?_, ?_⟩
       · rw [setL_length]
         refine blk_grown HS.out.1 HG.out ?_
         intro e
         exact HS.out.ne (by injection e)
       · refine HK1.out.trans (congrArg (fun X => some (Obj.cells (cellsL X) 28 (0, 0))) (setL_congr (fun i hi => ?_)))
         omega
       · rw [setL_length]
         exact HS.out.2.2)
    | (go_end0
       refine ⟨rfl, ?_, grown_drewN _ _ _⟩
       rw [setL_congr (a' := 0) (b' := 0) (fun i hi => by omega), setL_none _ _ _ _ (by omega)]
       exact HS.out)
end Go.Proofs.YtkicpaodcmepmaaDoor.L
