/- The closure that makes a value's text, walked. Conditions: as each lemma says. -/
import Derived.Test.YtcbibbdkjhkmoaaHOps
import Derived.Test.YtcbibbdkjhkmoaaHtmMade
set_option linter.unusedVariables false
set_option linter.unusedSimpArgs false
namespace Go.Proofs.Ytcbibbdkjhkmoaa.H
open Go.RowKit Go.Proofs.YtcbibbdkjhkmoaaW.PrintWords Go.Proofs.YtcbibbdkjhkmoaaW.PrintLast Go.Proofs.Ytcbibbdkjhkmoaa.L Go.Proofs.Ytcbibbdkjhkmoaa.S Go.Proofs.Ytcbibbdkjhkmoaa.Htm

theorem mkText_bys (l : List Int) : Bys (mkText l) := by
  intro x hx
  unfold mkText at hx
  obtain ⟨y, _, rfl⟩ := List.mem_map.1 hx
  exact mkC_bys y
theorem bytes_strM (l : List Int) (h : Bys l) : bytesOf (strOfNums l) = l := by
  unfold bytesOf strOfNums
  simp only [List.map_map]
  induction l with
  | nil => rfl
  | cons x l ih =>
    have hx := h x (by simp)
    simp only [List.map_cons, Function.comp]
    rw [ih (fun y hy => h y (by simp [hy]))]
    congr 1
    simp only [UInt8.toNat_ofNat']
    omega
theorem ix_mk (n : Nat) : ∀ W : World, (Instr.index 9 (.string ⟨#[32, 97, 98, 99, 62, 61, 39, 47, 38]⟩) (.int .u8 ((n : Int) % 9))).run Try.prog W = .ok (.int .u8 (mkC n)) W := by
  intro W
  have e : ((n : Int) % 9) = ((n % 9 : Nat) : Int) := by omega
  unfold mkC
  rw [e, Int.toNat_natCast]
  have h : n % 9 < 9 := Nat.mod_lt _ (by decide)
  generalize n % 9 = m at *
  match m, h with
  | 0, _ => rfl
  | 1, _ => rfl
  | 2, _ => rfl
  | 3, _ => rfl
  | 4, _ => rfl
  | 5, _ => rfl
  | 6, _ => rfl
  | 7, _ => rfl
  | 8, _ => rfl
theorem mkText_step (l : List Int) (j : Nat) (h : j < l.length) : mkText (l.take (j + 1)) = if j < 9 then mkText (l.take j) ++ [mkC (l.getD j 0)] else mkText (l.take j) := by
  have e : l.take (j + 1) = l.take j ++ [l.getD j 0] := by
    rw [List.take_add_one, List.getElem?_eq_getElem h, List.getD_eq_getElem?_getD, List.getElem?_eq_getElem h]; rfl
  unfold mkText
  split
  · rename_i hj
    rw [List.take_take, List.take_take, show min 9 (j + 1) = j + 1 by omega, show min 9 j = j by omega, e, List.map_append]
    rfl
  · rename_i hj
    rw [List.take_take, List.take_take, show min 9 (j + 1) = 9 by omega, show min 9 j = 9 by omega]
theorem str_C {w : World} {A : Option Addr} {n c : Nat} {xs : List Int} (h : Kd.C (Kd.int .u8) w A n xs) : (convert 22 9 (.slice A n c)).run Try.prog w = .ok (.string (strOfNums xs)) w :=
  Kd.C_string (P := Try.prog) (c := c) Try.underlying22 Try.underlying5 Try.underlying9 h
set_option maxHeartbeats 1000000 in
theorem text_any (A : Option Addr) (c : Nat) (l : List Int) (W : World) (hC : Kd.C (Kd.int .u8) W A l.length l) (hb : Bys l) (hm : l.length ≤ 140737488351232) :
    Calls Try.prog 20 #[.slice A l.length c] W fun e w' => e = .returned (.string (strOfNums (mkText l))) ∧ Below W.heap.size W w' := by
  have HC := Lib.hid (And.intro hC hb)
  clear hC hb
  go_enter Try.func20, Try.ntmps20
  go_wp2_with fail
  go_loopg [3, 8] l.length (fun gn v iv wr => ∃ j : Nat, iv = .int .i64 j ∧ j ≤ l.length ∧ Hid (Ob W wr v (mkText (l.take j)) ∧ gn = l.length - j))
  case atStart => exact ⟨0, rfl, Nat.zero_le _, ⟨World.ownsRow_nil _ _ _ _, Below.refl _ _⟩, rfl⟩
  case round =>
    obtain ⟨j, rfl, hj, HQ⟩ := hrel
    obtain ⟨A1, c1, rfl, hcc, hC1⟩ := HQ.out.1.form
    by_cases hlt : j < l.length
    · have hd : decide ((j : Int) < (l.length : Int)) = true := by simp; omega
      have hsn := mkText_step l j hlt
      obtain ⟨ad, rfl, hcell0⟩ := Kd.at_int (Kd.C_below HC.out.1 HQ.out.1.bel) (j : Int) (by omega) (by omega)
      have hcell : wr.cell? (ad.add j) = some (.int .u8 (l.getD j 0)) := hcell0
      have hx := HC.out.2 _ (show l.getD j 0 ∈ l from by rw [List.getD_eq_getElem?_getD, List.getElem?_eq_getElem hlt]; exact List.getElem_mem _)
      have hle := mkText_len (l.take j)
      clear hcell0 hC1
      generalize l.getD j 0 = x at *
      obtain ⟨n, rfl⟩ : ∃ n : Nat, x = n := ⟨x.toNat, by omega⟩
      have HSn := Lib.hid hsn
      clear hsn
      by_cases h9 : j < 9
      · have hd9 : decide ((j : Int) < 9) = true := by simp; omega
        have hix := ix_mk n
        have hcb := mkC_bys n
        generalize mkC (n : Int) = y at *
        go_wp2_with (at_builtin; refine print_append_num (w0 := W) W.heap.size rfl _ _ 22 5 .u8 1 rfl Try.underlying22 info_u8 (by decide) (.slice A1 (mkText (l.take j)).length c1) (mkText (l.take j)) y rfl rfl HQ.out.1.own HQ.out.1.bel HQ.out.1.bel.size (by omega) ?_; intro v1 w1 ho hb1 _ _; have HI := Lib.hid (And.intro ho hb1); clear ho hb1)
        go_roundg (l.length - (j + 1))
        case measure => have := HQ.out.2; omega
        case rel => exact ⟨j + 1, by go_num, by omega, by rw [HSn.out, if_pos h9]; exact ⟨HI.out.1, HI.out.2⟩, rfl⟩
      · have hd9 : decide ((j : Int) < 9) = false := by simp; omega
        go_wp2_with fail
        go_roundg (l.length - (j + 1))
        case measure => have := HQ.out.2; omega
        case rel => exact ⟨j + 1, by go_num, by omega, by rw [HSn.out, if_neg h9]; exact HQ.out.1, rfl⟩
    · obtain rfl : j = l.length := by omega
      have hd : decide ((l.length : Int) < (l.length : Int)) = false := by simp
      rw [List.take_length] at hC1 hcc HQ
      have hcv := str_C (c := c1) hC1
      clear hC1
      rw [List.take_length]
      go_wp2_with fail
      go_ret
      exact ⟨rfl, HQ.out.1.bel⟩
end Go.Proofs.Ytcbibbdkjhkmoaa.H
