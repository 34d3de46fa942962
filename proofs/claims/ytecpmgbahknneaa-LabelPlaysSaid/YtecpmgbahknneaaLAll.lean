/- The reference's All; Segs of a nil sheet. Conditions: as each says. -/
import Derived.Test.YtecpmgbahknneaaLSeg
namespace Go.Proofs.Ytecpmgbahknneaa.L
open Go.RowKit Go.Proofs.YtecpmgbahknneaaW.PrintWords

theorem run_makeLs (n : Nat) (h : n ≤ 65536) (W : World) :
    (Instr.makeSlice 43 (.int .i64 (n : Int)) (.int .i64 (n : Int))).run Try.prog W = .ok (.slice (some ⟨W.heap.size, 0, none⟩) n n) (W.alloc (.cells (cellsL (List.replicate n 0)) 27 (0, 0))) := by
  obtain ⟨i, hi, hz, hs, hb⟩ := info_parts info27
  have hr := run_make (P := Try.prog) W 43 27 i (.int .u8 0) Try.underlying43 hi hz .i64 .i64 n n (by omega) (by omega) (by rw [hb]; omega) (by omega)
  rw [Int.toNat_natCast, hs] at hr
  rw [hr]
  have e : madeCells (Value.int .u8 0).cells (n * 1) = cellsL (List.replicate n 0) := by
    apply Array.ext'
    rw [Nat.mul_one]
    unfold cellsL
    rw [show (Value.int IntKind.u8 0).cells = #[.int .u8 0] from rfl, toList_madeCells_one]
    simp
  rw [e]

theorem all_any (n : Nat) (l : Int) (w : World) (h : n ≤ 65536) :
    Calls Try.prog 14 #[.int .i64 n, .int .u8 l] w fun e w' => ∃ g, e = .returned (.slice (some ⟨g, 0, none⟩) n n) ∧ w'.heap[g]? = some (.cells (cellsL (List.replicate n l)) 27 (0, 0)) ∧ Below w.heap.size w w' ∧ w.heap.size ≤ g := by
  have hmk := run_makeLs n h
  go_enter Try.func14, Try.ntmps14
  go_wp2_with fail
  clear hmk
  go_loopw [6] (fun i wr => ∃ j : Nat, j ≤ n ∧ i = .int .i64 j ∧ Hid (wr.heap[w.heap.size]? = some (.cells (cellsL (setL (List.replicate n 0) l 0 j)) 27 (0, 0)) ∧ Below w.heap.size w wr)) (fun i _ => n - (intOf i).toNat)
  case atStart =>
    refine ⟨0, Nat.zero_le _, rfl, ?_, below_alloc (Below.refl _ _) _⟩
    rw [setL_none _ _ _ _ (.inl (by omega))]
    exact blk_new _ _
  case round =>
    obtain ⟨j, hj, rfl, HJ⟩ := hrel
    by_cases hlt : j < n
    · have hc : wr.cell? ⟨w.heap.size, j, none⟩ = some (.int .u8 ((setL (List.replicate n 0) l 0 j).getD j 0)) := by
        rw [blk_cell HJ.out.1, cellsL_get, List.getD_eq_getElem?_getD]
        have : j < (setL (List.replicate n 0) l 0 j).length := by rw [setL_length]; simpa using hlt
        rw [List.getElem?_eq_getElem this]
        rfl
      have hf := blk_frozen HJ.out.1 j
      have hst := setL_step (List.replicate n 0) l 0 j
      rw [Nat.zero_add, Int.natCast_zero, Int.zero_add, Int.zero_add] at hst
      have HW := Lib.hid (show (wr.setCell ⟨w.heap.size, j, none⟩ (.int .u8 l)).heap[w.heap.size]? = some (.cells (cellsL (setL (List.replicate n 0) l 0 ((j + 1 : Nat) : Int))) 27 (0, 0)) ∧ Below w.heap.size w (wr.setCell ⟨w.heap.size, j, none⟩ (.int .u8 l)) from
        ⟨blk_put HJ.out.1 _ _ (by rw [cellsL_set, hst]), HJ.out.2.setCell (Nat.le_refl _) _⟩)
      clear HJ hst
      go_wp2
      go_roundw
      case rel => exact ⟨j + 1, by omega, by go_num, HW⟩
      case measure => simp [intOf]; omega
    · have : j = n := by omega
      subst this
      go_wp2
      go_ret
      refine ⟨_, rfl, ?_, HJ.out.2, Nat.le_refl _⟩
      have e : setL (List.replicate j 0) l 0 j = List.replicate j l := by
        apply List.ext_getElem?
        intro i
        rw [setL_get, List.getElem?_replicate, List.getElem?_replicate]
        by_cases h : i < j
        · simp [h]
        · simp [h]
      rw [← e]
      exact HJ.out.1

theorem segs_nil (w : World) :
    Calls Try.prog 10 #[.pointer none] w fun e w' => e = .returned (.slice none 0 0) ∧ w = w' := by
  go_enter Try.func10, Try.ntmps10
  go_wp2_with (go_at_call 11; refine (len_nil _).mono ?_; rintro e w' ⟨rfl, rfl⟩)
  go_loop [3, 8] (fun v i => v = .slice none 0 0 ∧ i = .int .i64 0) (fun _ _ => 0)
  case atStart => exact ⟨rfl, rfl⟩
  case round =>
    obtain ⟨rfl, rfl⟩ := hrel
    go_wp2
    go_ret
    exact ⟨rfl, rfl⟩
end Go.Proofs.Ytecpmgbahknneaa.L
