/- A to Z as a to z, walked. Conditions: as each lemma says. -/
import Derived.Test.YtcbibbdkjhkmoaaHIs
import Derived.IntWalk
set_option linter.unusedVariables false
set_option linter.unusedSimpArgs false
namespace Go.Proofs.Ytcbibbdkjhkmoaa.H
open Go.RowKit Go.Proofs.YtcbibbdkjhkmoaaW.PrintWords Go.Proofs.Ytcbibbdkjhkmoaa.L Go.Proofs.Ytcbibbdkjhkmoaa.S Go.Proofs.Ytcbibbdkjhkmoaa.Htm

/-- The first so many bytes small. -/
def smN (l : List Int) (j : Nat) : List Int := (l.take j).map sm ++ l.drop j
theorem smN_zero (l : List Int) : smN l 0 = l := by simp [smN]
theorem smN_all (l : List Int) : smN l l.length = l.map sm := by simp [smN]
theorem smN_length (l : List Int) (j : Nat) (h : j ≤ l.length) : (smN l j).length = l.length := by
  unfold smN
  rw [List.length_append, List.length_map, List.length_take, List.length_drop]
  omega
theorem smN_at (l : List Int) (j : Nat) (h : j < l.length) : (smN l j).getD j 0 = l.getD j 0 := by
  unfold smN
  rw [List.getD_eq_getElem?_getD, List.getElem?_append_right (by rw [List.length_map, List.length_take]; omega), List.length_map, List.length_take, List.getElem?_drop, List.getD_eq_getElem?_getD]
  congr 2
  omega
theorem smN_step (l : List Int) (j : Nat) (h : j < l.length) : smN l (j + 1) = (smN l j).set j (sm (l.getD j 0)) := by
  unfold smN
  have hl : ((l.take j).map sm).length = j := by rw [List.length_map, List.length_take]; omega
  rw [List.set_append_right _ _ (by omega), hl, Nat.sub_self, drop_at l j h, List.set_cons_zero, List.take_add_one, List.map_append, List.append_assoc]
  have : l[j]?.toList = [l.getD j 0] := by rw [List.getD_eq_getElem?_getD, List.getElem?_eq_getElem h]; rfl
  rw [this]
  rfl
theorem smN_same (l : List Int) (j : Nat) (h : j < l.length) (hs : sm (l.getD j 0) = l.getD j 0) : smN l (j + 1) = smN l j := by
  rw [smN_step l j h, hs]
  apply List.ext_getElem?
  intro i
  rw [List.getElem?_set]
  by_cases hi : j = i
  · subst hi
    rw [if_pos rfl, if_pos (by rw [smN_length _ _ (by omega)]; exact h), ← smN_at l j h, List.getD_eq_getElem?_getD, List.getElem?_eq_getElem (by rw [smN_length _ _ (by omega)]; exact h)]
    rfl
  · rw [if_neg hi]

set_option maxRecDepth 100000 in
set_option maxHeartbeats 2000000 in
theorem small_any (A : Option Addr) (n c : Nat) (l : List Int) (W : World) (hC : Kd.C (Kd.int .u8) W A n l) (hc : n ≤ c) (hB : Bys l) (hm : n ≤ 65536) :
    Calls Try.prog 39 #[.slice A n c] W fun e w' => e = .returned (.string (strOfNums (l.map sm))) ∧ Below W.heap.size W w' := by
  have HC := Lib.hid hC
  have HBy := Lib.hid hB
  have hln : l.length = n := hC.1
  clear hC hB
  have HR := Lib.hid (Kd.reads_of_C (enc := Value.int .u8) (d := (0 : Int)) (h1 := fun _ => rfl) (Kd.C_below HC.out (below_alloc (Below.refl W.heap.size W) (.cells #[] 5 (0, 0)))))
  have HO := Lib.hid (show (W.alloc (.cells #[] 5 (0, 0))).ownsRow W.heap.size 5 1 (.slice (some ⟨W.heap.size, 0, none⟩) 0 0) ([] : List Int).length (nums .u8 []) from own_lit W W.heap.size 5 .u8 [] (Nat.le_refl _) (by simp))
  have HB := Lib.hid (below_alloc (Below.refl W.heap.size W) (.cells #[] 5 (0, 0)))
  have HL := Lib.hid (show (([] : List Int).length + n) * 1 ≤ 140737488355328 from by simp; omega)
  go_enter Try.func39, Try.ntmps39
  go_wp2_with (at_builtin; refine print_append_row (w0 := W) W.heap.size rfl _ _ 22 5 .u8 1 rfl Try.underlying22 info_u8 (by decide) (.slice (some ⟨W.heap.size, 0, none⟩) 0 0) [] l A n c rfl rfl HO.out HR.out HB.out HB.out.size HL.out ?_; intro v1 w1 ho hb1 _ _; rw [List.nil_append, hln] at ho; obtain ⟨A1, c1, rfl, _⟩ := own_reads ho; have HI := Lib.hid (And.intro ho hb1); clear ho hb1)
  clear HO HB HL HR
  go_wp2_with fail
  go_loopg [11] n (fun gn iv wr => ∃ j : Nat, iv = .int .i64 j ∧ j ≤ n ∧ Hid (wr.ownsRow W.heap.size 5 1 (.slice A1 n c1) n (nums .u8 (smN l j)) ∧ Below W.heap.size W wr ∧ gn = n - j))
  case atStart => exact ⟨0, rfl, Nat.zero_le _, by rw [smN_zero]; exact HI.out.1, HI.out.2, rfl⟩
  case round =>
    obtain ⟨j, rfl, hj, HQ⟩ := hrel
    clear HI
    by_cases hlt : j < n
    · have hjl : j < l.length := by omega
      have hd : decide ((j : Int) < (n : Int)) = true := by simp; omega
      have hx := HBy.out _ (show l.getD j 0 ∈ l from by rw [List.getD_eq_getElem?_getD, List.getElem?_eq_getElem hjl]; exact List.getElem_mem _)
      have hsl := smN_length l j (by omega)
      rcases HQ.out.1.2 with ⟨e0, h0⟩ | ⟨g, cap, cur, e0, hbg, hg, hnc, hcm, hcs, ht⟩
      · omega
      · injection e0 with e1 e2 e3
        subst e1
        subst e3
        have hcell : wr.cell? ⟨g, j, none⟩ = some (.int .u8 (l.getD j 0)) := by
          have := HQ.out.1.cells (g := g) rfl j (.int .u8 (l.getD j 0)) (by
            rw [nums, List.getElem?_map, List.getElem?_eq_getElem (by omega), Option.map_some, ← smN_at l j hjl, List.getD_eq_getElem?_getD, List.getElem?_eq_getElem (by omega)]
            rfl)
          rwa [add_plain] at this
        have hfr := blk_frozen hg j
        have hst := own_store HQ.out.1 (j : Int) (sm (l.getD j 0))
        have hsm := smN_step l j hjl
        have hsame := smN_same l j hjl
        rw [Int.toNat_natCast, ← hsm] at hst
        generalize l.getD j 0 = x at *
        have HST := Lib.hid hst
        have HSame := Lib.hid hsame
        clear hst hsm hsame hg ht hcs hnc hcm
        by_cases hup : 65 ≤ x ∧ x ≤ 90
        · have hs : sm x = x + 32 := if_pos hup
          rw [hs] at HST
          have t1 : decide ((65 : Int) ≤ x) = true := by simp; omega
          have t2 : decide (x ≤ 90) = true := by simp; omega
          have HU := Lib.hid hup
          have hu1 := hup.1
          have hu2 := hup.2
          clear hs hup
          go_wp2_with fail
          have he : x + 97 - 65 = x + 32 := by omega
          rw [he]
          go_roundg (n - (j + 1))
          case measure => have := HQ.out.2.2; omega
          case rel => exact ⟨j + 1, by go_num, by omega, HST.out.1, below_grown HQ.out.2.1 hbg HST.out.2, rfl⟩
        · have hs : sm x = x := if_neg hup
          have HSm := Lib.hid (HSame.out hs)
          have HU := Lib.hid hup
          clear hs hup
          by_cases h65 : 65 ≤ x
          · have t2 : decide (x ≤ 90) = false := by simp; have := HU.out; omega
            go_wp2_with fail
            go_roundg (n - (j + 1))
            case measure => have := HQ.out.2.2; omega
            case rel => exact ⟨j + 1, by go_num, by omega, by rw [HSm.out]; exact HQ.out.1, HQ.out.2.1, rfl⟩
          · go_wp2_with fail
            go_roundg (n - (j + 1))
            case measure => have := HQ.out.2.2; omega
            case rel => exact ⟨j + 1, by go_num, by omega, by rw [HSm.out]; exact HQ.out.1, HQ.out.2.1, rfl⟩
    · obtain rfl : j = n := by omega
      have hd : decide ((j : Int) < (j : Int)) = false := by simp
      have ho := HQ.out.1
      rw [← hln, smN_all, hln] at ho
      obtain ⟨A3, c3, e3, hr3⟩ := own_reads ho
      injection e3 with e1 _ e2
      subst e1
      subst e2
      have hC3 : Kd.C (Kd.int .u8) wr A1 j (l.map sm) := Kd.C_of_reads (d := 0) (h1 := fun _ => rfl) hr3
      have hcv : (convert 22 9 (.slice A1 j c1)).run Try.prog wr = .ok (.string (strOfNums (l.map sm))) wr := Kd.C_string (P := Try.prog) (c := c1) Try.underlying22 Try.underlying5 Try.underlying9 hC3
      go_wp2_with fail
      go_ret
      exact ⟨rfl, HQ.out.2.1⟩
end Go.Proofs.Ytcbibbdkjhkmoaa.H
