/- The closure of the law LabelPlays, walked: it lays a label on the labels of a place. Conditions: none. -/
import Derived.Test.YtecpmgbahknneaaLAll
import Derived.Outline
namespace Go.Proofs.Ytecpmgbahknneaa.L
open Go.RowKit Go.Proofs.YtecpmgbahknneaaW.PrintWords
theorem put_in (L : List Int) (l a b : Int) (j : Nat) (h1 : a ≤ (j : Int)) (h2 : (j : Int) < b) (hj : j < L.length) : (setL L l a (min b (j : Int))).set j l = setL L l a (min b ((j + 1 : Nat) : Int)) := by
  apply List.ext_getElem?
  intro i
  rw [List.getElem?_set, setL_get, setL_get, setL_length]
  by_cases e : j = i
  · subst e
    rw [if_pos rfl, if_pos hj, List.getElem?_eq_getElem hj, Option.map_some, if_pos (by omega)]
  · rw [if_neg e]
    congr 1
    funext x
    by_cases h : a ≤ (i : Int) ∧ (i : Int) < min b (j : Int)
    · rw [if_pos h, if_pos (by omega)]
    · rw [if_neg h, if_neg (by omega)]
theorem put_out (L : List Int) (l a b : Int) (j : Nat) (h : ¬ (a ≤ (j : Int) ∧ (j : Int) < b)) : setL L l a (min b (j : Int)) = setL L l a (min b ((j + 1 : Nat) : Int)) :=
  setL_congr (fun i _ => by omega)
theorem put_any (p k n : Nat) (L : List Int) (l a b : Int) (w : World) (hL : L.length = n) (hn : n ≤ 65536) (t : TypeId) (ht : t ≠ 27) (hp : w.heap[p]? = some (.cells #[.slice (some ⟨k, 0, none⟩) n n] t (0, 0))) (hk : w.heap[k]? = some (.cells (cellsL L) 27 (0, 0))) :
    Calls Try.prog 15 #[.int .u8 l, .int .i64 a, .int .i64 b, .pointer (some ⟨p, 0, none⟩)] w fun e w' => e = .returned (.tuple #[]) ∧ w'.heap[k]? = some (.cells (cellsL (setL L l a b)) 27 (0, 0)) ∧ w.grownBy w' (some k) := by
  have c0 := (blk_cell hp 0).trans (show _ = some (Value.slice (some ⟨k, 0, none⟩) n n) from rfl)
  go_enter Try.func15, Try.ntmps15
  have HP := Lib.hid hp
  have HK := Lib.hid hk
  have hpk : p ≠ k := blk_ne hp hk (fun e => ht e)
  clear hp hk
  go_wp2_with fail
  clear c0
  go_loopw [10] (fun i wr => ∃ j : Nat, j ≤ n ∧ i = .int .i64 j ∧ Hid (wr.heap[k]? = some (.cells (cellsL (setL L l a (min b (j : Int)))) 27 (0, 0)) ∧ w.grownBy wr (some k))) (fun i _ => n - (intOf i).toNat)
  case atStart => exact ⟨0, Nat.zero_le _, rfl, by rw [setL_none _ _ _ _ (.inr (.inl (by omega)))]; exact ⟨HK.out, World.grownBy.refl _ _⟩⟩
  case round =>
    obtain ⟨j, hj, rfl, HJ⟩ := hrel
    have HP2 := Lib.hid (blk_grown HP.out HJ.out.2 (by intro e; injection e with e; exact hpk e))
    have c0 := (blk_cell HP2.out 0).trans (show _ = some (Value.slice (some ⟨k, 0, none⟩) n n) from rfl)
    by_cases hlt : j < n
    · by_cases hin : a ≤ (j : Int) ∧ (j : Int) < b
      · have hc : wr.cell? ⟨k, j, none⟩ = some (.int .u8 ((setL L l a (min b (j : Int))).getD j 0)) := by
          rw [blk_cell HJ.out.1, cellsL_get, List.getD_eq_getElem?_getD]
          have : j < (setL L l a (min b (j : Int))).length := by rw [setL_length]; omega
          rw [List.getElem?_eq_getElem this]
          rfl
        have hf := blk_frozen HJ.out.1 j
        have HW := Lib.hid (show (wr.setCell ⟨k, j, none⟩ (.int .u8 l)).heap[k]? = some (.cells (cellsL (setL L l a (min b ((j + 1 : Nat) : Int)))) 27 (0, 0)) ∧ w.grownBy (wr.setCell ⟨k, j, none⟩ (.int .u8 l)) (some k) from
          ⟨blk_put HJ.out.1 _ _ (by rw [cellsL_set, put_in _ _ _ _ _ hin.1 hin.2 (by omega)]), grown_trans HJ.out.2 (grown_set _ _ _ _)⟩)
        obtain ⟨hi1, hi2⟩ := hin
        clear HJ
        go_wp2
        go_roundw
        case rel => exact ⟨j + 1, by omega, by go_num, HW⟩
        case measure => simp [intOf]; omega
      · have HW := Lib.hid (show wr.heap[k]? = some (.cells (cellsL (setL L l a (min b ((j + 1 : Nat) : Int)))) 27 (0, 0)) ∧ w.grownBy wr (some k) from ⟨by rw [← put_out _ _ _ _ _ hin]; exact HJ.out.1, HJ.out.2⟩)
        clear HJ
        rcases Int.lt_or_le (j : Int) a with h1 | h1
        · clear hin
          go_wp2
          go_roundw
          case rel => exact ⟨j + 1, by omega, by go_num, HW⟩
          case measure => simp [intOf]; omega
        · have h2 : b ≤ (j : Int) := by omega
          clear hin
          go_wp2
          go_roundw
          case rel => exact ⟨j + 1, by omega, by go_num, HW⟩
          case measure => simp [intOf]; omega
    · have : j = n := by omega
      subst this
      have HE := Lib.hid (show wr.heap[k]? = some (.cells (cellsL (setL L l a b)) 27 (0, 0)) from by
        rw [setL_congr (a' := a) (b' := min b (j : Int)) (fun i hi => by omega)]
        exact HJ.out.1)
      go_wp2
      go_end0
      exact ⟨rfl, HE.out, HJ.out.2⟩
end Go.Proofs.Ytecpmgbahknneaa.L
