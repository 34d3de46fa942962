/- Lay: another sheet over this one's labels, walked. Conditions: none. -/
import Derived.Test.YtecpmgbahknneaaLab
import Derived.Laws.CopyOwn
import Derived.Outline
namespace Go.Proofs.Ytecpmgbahknneaa.L
open Go.RowKit Go.Proofs.YtecpmgbahknneaaW.PrintWords

def layTo (L M : List Int) (a : Int) : Nat → List Int
  | 0 => L
  | i + 1 => setL (layTo L M a i) (M.getD i 0) (a + i) (a + i + 1)
def layL (L M : List Int) (a : Int) : List Int := layTo L M a M.length
theorem layTo_length (L M : List Int) (a : Int) (n : Nat) : (layTo L M a n).length = L.length := by
  induction n with
  | zero => rfl
  | succ n ih => rw [layTo, setL_length, ih]
theorem layTo_get (L M : List Int) (a : Int) (n j : Nat) : (layTo L M a n)[j]? = L[j]?.map fun x => if a ≤ (j : Int) ∧ (j : Int) < a + n then M.getD ((j : Int) - a).toNat 0 else x := by
  induction n with
  | zero =>
    rw [layTo]
    cases hx : L[j]? with
    | none => rfl
    | some x =>
      simp only [Option.map_some]
      rw [if_neg (by omega)]
  | succ n ih =>
    rw [layTo, setL_get, ih]
    cases hx : L[j]? with
    | none => rfl
    | some x =>
      simp only [Option.map_some]
      by_cases h1 : a + n ≤ (j : Int) ∧ (j : Int) < a + n + 1
      · rw [if_pos h1, if_pos (by omega)]
        congr 2
        omega
      · rw [if_neg h1]
        by_cases h2 : a ≤ (j : Int) ∧ (j : Int) < a + n
        · rw [if_pos h2, if_pos (by omega)]
        · rw [if_neg h2, if_neg (by omega)]

theorem cellsL_eq (L : List Int) : cellsL L = (L.map (Value.int .u8)).toArray := by unfold cellsL; rfl

theorem lay_far (g : Value) (at_ : Int) (h : Value) (w : World) (ha : at_ < -65536 ∨ 65536 < at_) :
    Calls Try.prog 16 #[g, .int .i64 at_, h] w fun e w' => e = .returned (.tuple #[]) ∧ w = w' := by
  by_cases h0 : at_ < -65536
  · have h1 : decide (at_ < -65536) = true := by simp [h0]
    go_enter Try.func16, Try.ntmps16
    go_wp2
    (try simp only [Exit.inBlock, Exit.then])
    exact bodyPost_ret (results_none rfl _ _ _) rfl ⟨rfl, rfl⟩
  · have h1 : decide (at_ < -65536) = false := by simp [h0]
    have h2 : decide (65536 < at_) = true := by simp; omega
    go_enter Try.func16, Try.ntmps16
    go_wp2
    (try simp only [Exit.inBlock, Exit.then])
    exact bodyPost_ret (results_none rfl _ _ _) rfl ⟨rfl, rfl⟩
theorem lay_none (at_ : Int) (h : Option Addr) (w : World) (h0 : -65536 ≤ at_) (h1 : at_ ≤ 65536) :
    Calls Try.prog 16 #[.pointer none, .int .i64 at_, .pointer h] w fun e w' => e = .returned (.tuple #[]) ∧ w = w' := by
  have h2 : decide (at_ < -65536) = false := by simp; omega
  have h3 : decide (65536 < at_) = false := by simp; omega
  go_enter Try.func16, Try.ntmps16
  go_wp2
  (try simp only [Exit.inBlock, Exit.then])
  exact bodyPost_ret (results_none rfl _ _ _) rfl ⟨rfl, rfl⟩
theorem lay_nil (at_ : Int) (g : Addr) (w : World) (h0 : -65536 ≤ at_) (h1 : at_ ≤ 65536) :
    Calls Try.prog 16 #[.pointer (some g), .int .i64 at_, .pointer none] w fun e w' => e = .returned (.tuple #[]) ∧ w = w' := by
  have h2 : decide (at_ < -65536) = false := by simp; omega
  have h3 : decide (65536 < at_) = false := by simp; omega
  go_enter Try.func16, Try.ntmps16
  go_wp2
  (try simp only [Exit.inBlock, Exit.then])
  exact bodyPost_ret (results_none rfl _ _ _) rfl ⟨rfl, rfl⟩

set_option maxHeartbeats 1000000 in
theorem lay_any (g k : Nat) (L : List Int) (g2 k2 : Nat) (M : List Int) (a : Int) (w : World) (hs : Sheet w g k L) (hs2 : Sheet w g2 k2 M) (h0 : -65536 ≤ a) (h1 : a ≤ 65536) :
    Calls Try.prog 16 #[.pointer (some ⟨g, 0, none⟩), .int .i64 a, .pointer (some ⟨g2, 0, none⟩)] w fun e w' => e = .returned (.tuple #[]) ∧ Sheet w' g k (layL L M a) ∧ w.grownBy w' (some k) := by
  have h2 : decide (a < -65536) = false := by simp; omega
  have h3 : decide (65536 < a) = false := by simp; omega
  have hm := hs2.2.2
  have hmk := run_make27 M.length hs2.2.2
  have c1 : w.cell? ⟨g2, 0, none⟩ = some (.slice (some ⟨k2, 0, none⟩) M.length M.length) := (blk_cell hs2.1 0).trans rfl
  have c2 : (w.alloc (.cells (cellsL (List.replicate M.length 0)) 27 (0, 0))).cell? ⟨g2, 0, none⟩ = some (.slice (some ⟨k2, 0, none⟩) M.length M.length) := (blk_cell (blk_alloc hs2.1 _) 0).trans rfl
  have HS := Lib.hid hs
  have HS2 := Lib.hid hs2
  clear hs hs2
  go_enter Try.func16, Try.ntmps16
  go_wp2_with (with_reducible refine wpList_copy_splice rfl (.tmp 27) (.tmp 31) 42 42 rfl 27 Try.underlying42 (by kernel_rfl) (some ⟨w.heap.size, 0, none⟩) (some ⟨k2, 0, none⟩) M.length M.length M.length M.length rfl rfl w.heap.size 0 ((List.replicate M.length 0).map (Value.int .u8)) 27 ?_ (M.map (Value.int .u8)) ?_ ?_ ?_ ?_ w.heap.size w ?_ ?_ ?_)
  · rw [cellsL_eq]
    exact blk_new _ _
  · simp
  · intro _ j u hu
    rw [blk_cell (blk_alloc HS2.out.2.1 _), cellsL_get, hu]
    rfl
  · simp
  · intro v hv
    obtain ⟨x, _, rfl⟩ := List.mem_map.1 hv
    rfl
  · exact below_alloc (Below.refl _ _) _
  · exact Nat.le_refl _
  · intro w1 hg1 hb1
    have hsp : splice (List.replicate M.length (Value.int .u8 0)) 0 (M.map (Value.int .u8)) = M.map (Value.int .u8) := by simp [splice]
    rw [hsp, ← cellsL_eq] at hg1
    have HB := Lib.hid hb1
    clear hb1 hsp c1 c2 hmk
    have HI := Lib.hid (show Sheet w1 g k (layTo L M a 0) ∧ w1.heap[w.heap.size]? = some (.cells (cellsL M) 27 (0, 0)) ∧ w.grownBy w1 (some k) from ⟨HS.out.below HB.out, hg1.out, grown_below HB.out _⟩)
    clear hg1 HB
    go_wp2_with fail
    go_loopw [35] (fun i wr => ∃ j : Nat, j ≤ M.length ∧ i = .int .i64 j ∧ Hid (Sheet wr g k (layTo L M a j) ∧ wr.heap[w.heap.size]? = some (.cells (cellsL M) 27 (0, 0)) ∧ w.grownBy wr (some k))) (fun i _ => M.length - (intOf i).toNat)
    case atStart => exact ⟨0, Nat.zero_le _, rfl, HI⟩
    case round =>
      obtain ⟨j, hj, rfl, HJ⟩ := hrel
      clear HI
      by_cases hlt : j < M.length
      · have hx : M[j]? = some (M.getD j 0) := by rw [List.getD_eq_getElem?_getD, List.getElem?_eq_getElem hlt]; rfl
        have c3 : wr.cell? ⟨w.heap.size, j, none⟩ = some (.int .u8 (M.getD j 0)) := by rw [blk_cell HJ.out.2.1, cellsL_get, hx]; rfl
        have HL := Lib.hid (show layTo L M a (j + 1) = setL (layTo L M a j) (M.getD j 0) (a + j) (a + j + 1) from rfl)
        clear hx
        generalize M.getD j 0 = x at *
        have hkn : some w.heap.size ≠ some k := by
          intro e
          injection e with e
          have := HS.out.lt.2
          omega
        go_wp2_with (go_at_call 13; refine (set_any g k (layTo L M a j) x (a + j) (a + j + 1) _ HJ.out.1).mono ?_; rintro e w3 ⟨rfl, hs3, hg3⟩; have HS3 := Lib.hid hs3; have HG3 := Lib.hid hg3; clear hs3 hg3)
        go_roundw
        case rel => exact ⟨j + 1, by omega, by go_num, ⟨by rw [HL.out]; exact HS3.out, blk_grown HJ.out.2.1 HG3.out hkn, grown_trans HJ.out.2.2 HG3.out⟩⟩
        case measure => simp [intOf]; omega
      · have : j = M.length := by omega
        subst this
        go_wp2
        go_end0
        exact ⟨rfl, HJ.out.1, HJ.out.2.2⟩
end Go.Proofs.Ytecpmgbahknneaa.L
