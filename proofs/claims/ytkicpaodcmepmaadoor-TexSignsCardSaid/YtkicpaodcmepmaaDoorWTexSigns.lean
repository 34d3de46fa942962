/- The law TexSigns, walked: it answers true. Conditions: none. -/
import Derived.Test.YtkicpaodcmepmaaDoorTAw
import Derived.Test.YtkicpaodcmepmaaDoorTexSgnL
set_option linter.unusedVariables false
set_option linter.unusedSimpArgs false
namespace Go.Proofs.YtkicpaodcmepmaaDoor.T
open Go.RowKit Go.Proofs.YtkicpaodcmepmaaDoorW.PrintWords Go.Proofs.YtkicpaodcmepmaaDoorW.PrintMore Go.Proofs.YtkicpaodcmepmaaDoor.L Go.Proofs.YtkicpaodcmepmaaDoor.S Go.Proofs.YtkicpaodcmepmaaDoor.Tex

def saC (c : Nat) : Int := [97, 98, 99, 32, 88, 89, 90, 48, 49, 57, 46, 44, 59, 58, 33, 63, 10].getD c 0
theorem saC_ok (c : Nat) (h : c < 17) : 0 ≤ saC c ∧ saC c < 256 ∧ plainB (saC c) = true := by
  have hc : c = 0 ∨ c = 1 ∨ c = 2 ∨ c = 3 ∨ c = 4 ∨ c = 5 ∨ c = 6 ∨ c = 7 ∨ c = 8 ∨ c = 9 ∨ c = 10 ∨ c = 11 ∨ c = 12 ∨ c = 13 ∨ c = 14 ∨ c = 15 ∨ c = 16 := by omega
  rcases hc with rfl | rfl | rfl | rfl | rfl | rfl | rfl | rfl | rfl | rfl | rfl | rfl | rfl | rfl | rfl | rfl | rfl
  all_goals decide
theorem sa0 : ∀ w : World, (Instr.index 9 (.string ⟨#[97, 98, 99, 32, 88, 89, 90, 48, 49, 57, 46, 44, 59, 58, 33, 63, 10]⟩) (.int .u8 0)).run Tryd.prog w = .ok (.int .u8 97) w := fun _ => by kernel_rfl
theorem sa1 : ∀ w : World, (Instr.index 9 (.string ⟨#[97, 98, 99, 32, 88, 89, 90, 48, 49, 57, 46, 44, 59, 58, 33, 63, 10]⟩) (.int .u8 1)).run Tryd.prog w = .ok (.int .u8 98) w := fun _ => by kernel_rfl
theorem sa2 : ∀ w : World, (Instr.index 9 (.string ⟨#[97, 98, 99, 32, 88, 89, 90, 48, 49, 57, 46, 44, 59, 58, 33, 63, 10]⟩) (.int .u8 2)).run Tryd.prog w = .ok (.int .u8 99) w := fun _ => by kernel_rfl
theorem sa3 : ∀ w : World, (Instr.index 9 (.string ⟨#[97, 98, 99, 32, 88, 89, 90, 48, 49, 57, 46, 44, 59, 58, 33, 63, 10]⟩) (.int .u8 3)).run Tryd.prog w = .ok (.int .u8 32) w := fun _ => by kernel_rfl
theorem sa4 : ∀ w : World, (Instr.index 9 (.string ⟨#[97, 98, 99, 32, 88, 89, 90, 48, 49, 57, 46, 44, 59, 58, 33, 63, 10]⟩) (.int .u8 4)).run Tryd.prog w = .ok (.int .u8 88) w := fun _ => by kernel_rfl
theorem sa5 : ∀ w : World, (Instr.index 9 (.string ⟨#[97, 98, 99, 32, 88, 89, 90, 48, 49, 57, 46, 44, 59, 58, 33, 63, 10]⟩) (.int .u8 5)).run Tryd.prog w = .ok (.int .u8 89) w := fun _ => by kernel_rfl
theorem sa6 : ∀ w : World, (Instr.index 9 (.string ⟨#[97, 98, 99, 32, 88, 89, 90, 48, 49, 57, 46, 44, 59, 58, 33, 63, 10]⟩) (.int .u8 6)).run Tryd.prog w = .ok (.int .u8 90) w := fun _ => by kernel_rfl
theorem sa7 : ∀ w : World, (Instr.index 9 (.string ⟨#[97, 98, 99, 32, 88, 89, 90, 48, 49, 57, 46, 44, 59, 58, 33, 63, 10]⟩) (.int .u8 7)).run Tryd.prog w = .ok (.int .u8 48) w := fun _ => by kernel_rfl
theorem sa8 : ∀ w : World, (Instr.index 9 (.string ⟨#[97, 98, 99, 32, 88, 89, 90, 48, 49, 57, 46, 44, 59, 58, 33, 63, 10]⟩) (.int .u8 8)).run Tryd.prog w = .ok (.int .u8 49) w := fun _ => by kernel_rfl
theorem sa9 : ∀ w : World, (Instr.index 9 (.string ⟨#[97, 98, 99, 32, 88, 89, 90, 48, 49, 57, 46, 44, 59, 58, 33, 63, 10]⟩) (.int .u8 9)).run Tryd.prog w = .ok (.int .u8 57) w := fun _ => by kernel_rfl
theorem sa10 : ∀ w : World, (Instr.index 9 (.string ⟨#[97, 98, 99, 32, 88, 89, 90, 48, 49, 57, 46, 44, 59, 58, 33, 63, 10]⟩) (.int .u8 10)).run Tryd.prog w = .ok (.int .u8 46) w := fun _ => by kernel_rfl
theorem sa11 : ∀ w : World, (Instr.index 9 (.string ⟨#[97, 98, 99, 32, 88, 89, 90, 48, 49, 57, 46, 44, 59, 58, 33, 63, 10]⟩) (.int .u8 11)).run Tryd.prog w = .ok (.int .u8 44) w := fun _ => by kernel_rfl
theorem sa12 : ∀ w : World, (Instr.index 9 (.string ⟨#[97, 98, 99, 32, 88, 89, 90, 48, 49, 57, 46, 44, 59, 58, 33, 63, 10]⟩) (.int .u8 12)).run Tryd.prog w = .ok (.int .u8 59) w := fun _ => by kernel_rfl
theorem sa13 : ∀ w : World, (Instr.index 9 (.string ⟨#[97, 98, 99, 32, 88, 89, 90, 48, 49, 57, 46, 44, 59, 58, 33, 63, 10]⟩) (.int .u8 13)).run Tryd.prog w = .ok (.int .u8 58) w := fun _ => by kernel_rfl
theorem sa14 : ∀ w : World, (Instr.index 9 (.string ⟨#[97, 98, 99, 32, 88, 89, 90, 48, 49, 57, 46, 44, 59, 58, 33, 63, 10]⟩) (.int .u8 14)).run Tryd.prog w = .ok (.int .u8 33) w := fun _ => by kernel_rfl
theorem sa15 : ∀ w : World, (Instr.index 9 (.string ⟨#[97, 98, 99, 32, 88, 89, 90, 48, 49, 57, 46, 44, 59, 58, 33, 63, 10]⟩) (.int .u8 15)).run Tryd.prog w = .ok (.int .u8 63) w := fun _ => by kernel_rfl
theorem sa16 : ∀ w : World, (Instr.index 9 (.string ⟨#[97, 98, 99, 32, 88, 89, 90, 48, 49, 57, 46, 44, 59, 58, 33, 63, 10]⟩) (.int .u8 16)).run Tryd.prog w = .ok (.int .u8 10) w := fun _ => by kernel_rfl
theorem sa_index (q : Nat) (h : q < 17) : ∀ w, (Instr.index 9 (.string ⟨#[97, 98, 99, 32, 88, 89, 90, 48, 49, 57, 46, 44, 59, 58, 33, 63, 10]⟩) (.int .u8 (q : Int))).run Tryd.prog w = .ok (.int .u8 (saC q)) w := by
  have hc : q = 0 ∨ q = 1 ∨ q = 2 ∨ q = 3 ∨ q = 4 ∨ q = 5 ∨ q = 6 ∨ q = 7 ∨ q = 8 ∨ q = 9 ∨ q = 10 ∨ q = 11 ∨ q = 12 ∨ q = 13 ∨ q = 14 ∨ q = 15 ∨ q = 16 := by omega
  rcases hc with rfl | rfl | rfl | rfl | rfl | rfl | rfl | rfl | rfl | rfl | rfl | rfl | rfl | rfl | rfl | rfl | rfl
  · exact sa0
  · exact sa1
  · exact sa2
  · exact sa3
  · exact sa4
  · exact sa5
  · exact sa6
  · exact sa7
  · exact sa8
  · exact sa9
  · exact sa10
  · exact sa11
  · exact sa12
  · exact sa13
  · exact sa14
  · exact sa15
  · exact sa16
theorem getD_memS {α : Type} (l : List α) (d : α) (j : Nat) (h : j < l.length) : l.getD j d ∈ l := by
  rw [List.getD_eq_getElem?_getD, List.getElem?_eq_getElem h]
  exact List.getElem_mem h
def Tx (x : List Int) : Prop := ∀ c ∈ x, plainB c = true
theorem Tx.snoc {x : List Int} (h : Tx x) {y : Int} (hy : plainB y = true) : Tx (x ++ [y]) := fun c hc => by
  rcases List.mem_append.1 hc with h1 | h1
  · exact h c h1
  · simp at h1; subst h1; exact hy
set_option maxHeartbeats 4000000 in
theorem texSigns_any (A1 A2 : Option Addr) (c1 c2 : Nat) (l1 l2 : List Int) (W : World) (a1 a2 : Option Addr) (d1 d2 : Nat) (hT : Tb W a1 a2 d1 d2) (hC1 : Kd.C (Kd.int .u8) W A1 l1.length l1) (hC2 : Kd.C (Kd.int .u8) W A2 l2.length l2) (hb1 : Bys l1) (hb2 : Bys l2) (hl1 : l1.length ≤ 140737488351232) (hl2 : l2.length ≤ 140737488351232) :
    Calls Tryd.prog 8 #[.slice A1 l1.length c1, .slice A2 l2.length c2] W fun e w' => e = .returned (.bool true) ∧ Below W.heap.size W w' := by
  have HTb := Lib.hid hT
  have HA1 := Lib.hid hC1
  have HA2 := Lib.hid hC2
  have HY1 := Lib.hid hb1
  have HY2 := Lib.hid hb2
  clear hT hC1 hC2 hb1 hb2
  go_enter Tryd.func8, Tryd.ntmps8
  go_wp2_with fail
  refine (awake_any _ a1 a2 d1 d2 HTb.out).mono ?_
  rintro e w1 ⟨rfl, hb1⟩
  have H1 := Lib.hid hb1
  clear hb1
  by_cases h300 : 300 < l2.length
  · have h3 : decide (300 < (l2.length : Int)) = true := by simp; omega
    go_wp2_with fail
    go_ret
    exact ⟨rfl, H1.out⟩
  have h3 : decide (300 < (l2.length : Int)) = false := by simp; omega
  go_upto_block 0 with fail
  go_wp2_with fail
  go_loopg [5, 22] l1.length (fun gn v iv wr => ∃ (j : Nat) (U : ByteArray), v = .string U ∧ iv = .int .i64 j ∧ j ≤ l1.length ∧ U.size ≤ min j 100 ∧ Hid (Tx (bytesOf U) ∧ Below W.heap.size W wr ∧ gn = l1.length - j))
  case atStart => exact ⟨0, _, rfl, rfl, Nat.zero_le _, by decide, (by intro c hc; cases hc), H1.out, rfl⟩
  case round =>
    obtain ⟨j, U, rfl, rfl, hj, hU, HJ⟩ := hrel
    clear H1
    by_cases hlt : j < l1.length
    · have hd : decide ((j : Int) < (l1.length : Int)) = true := by simp; omega
      obtain ⟨ad, rfl, hcell⟩ := Kd.at_int (Kd.C_below HA1.out HJ.out.2.1) (j : Int) (by omega) (by omega)
      rw [Int.toNat_natCast] at hcell
      obtain ⟨x, hx⟩ : ∃ x : Nat, rd l1 (j : Int) = (x : Int) := ⟨(l1.getD j 0).toNat, by have := HY1.out _ (getD_memS l1 0 j hlt); show l1.getD j 0 = _; omega⟩
      rw [hx] at hcell
      clear hx
      by_cases h12 : j < 100
      · obtain ⟨q, hq⟩ : ∃ q : Nat, (x : Int) % 17 = (q : Int) := ⟨x % 17, by omega⟩
        have hq8 : q < 17 := by omega
        have HNt := Lib.hid (saC_ok q hq8)
        have hix := sa_index q hq8
        generalize saC q = y at *
        have hcv : (convert 22 9 (.slice (some ⟨wr.heap.size, 0, none⟩) 1 1)).run Tryd.prog (wr.alloc (.cells #[.int .u8 y] 5)) = .ok (.string (strOfNums [y])) (wr.alloc (.cells #[.int .u8 y] 5)) := Kd.C_string (P := Tryd.prog) (c := 1) Tryd.underlying22 Tryd.underlying5 Tryd.underlying9 (lit_C wr 5 (0, 0) [y] (by simp))
        have hss : (strOfNums [y]).size = 1 := strOfNums_size [y]
        have hbs : bytesOf (strOfNums [y]) = [y] := bytesOf_str [y] (by intro z hz; simp at hz; have := HNt.out; omega)
        have HBs := Lib.hid (And.intro hss hbs)
        have hss1 : (strOfNums [y]).size ≤ 1 := by omega
        have hU2 : U.size ≤ 700 := by omega
        clear hss hbs
        generalize strOfNums [y] = Y at *
        go_wp2_with fail
        go_roundg (l1.length - (j + 1))
        case measure => have := HJ.out.2.2; omega
        case rel =>
          refine ⟨j + 1, _, rfl, by go_num, by omega, ?_, ?_, below_alloc HJ.out.2.1 _, rfl⟩
          · rw [ByteArray.size_append]; omega
          · rw [bytesOf_append, HBs.out.2]
            exact HJ.out.1.snoc HNt.out.2.2
      · have hd12 : decide ((j : Int) < 100) = false := by simp; omega
        go_wp2_with fail
        go_roundg (l1.length - (j + 1))
        case measure => have := HJ.out.2.2; omega
        case rel => exact ⟨j + 1, U, rfl, by go_num, by omega, by omega, HJ.out.1, HJ.out.2.1, rfl⟩
    · obtain rfl : j = l1.length := by omega
      have hd : decide ((l1.length : Int) < (l1.length : Int)) = false := by simp
      have hS : U.size ≤ 100 := by omega
      have HS := Lib.hid HJ.out.1
      have HW := Lib.hid HJ.out.2.1
      clear HJ hU
      generalize U = S at *
      go_upto_block 2 with fail
      go_wp2_with fail
      go_loopg [5, 41] l2.length (fun gn v iv wr => ∃ (j : Nat) (U : ByteArray) (m : List Int), v = .string U ∧ iv = .int .i64 j ∧ j ≤ l2.length ∧ U.size = S.size + m.length ∧ (if j = 0 then m.length = 0 else m.length = j + 1) ∧ Hid (bytesOf U = bytesOf S ++ m ∧ NoteOk m ∧ Below W.heap.size W wr ∧ gn = l2.length - j))
      case atStart => exact ⟨0, S, [], rfl, rfl, Nat.zero_le _, rfl, rfl, by simp, .inl rfl, HW.out, rfl⟩
      case round =>
        obtain ⟨j, U, m, rfl, rfl, hj, hU, hm, HJ⟩ := hrel
        clear HW
        have HUs := Lib.hid hU
        have hU401 : U.size ≤ 401 := by
          by_cases h0 : j = 0
          · rw [if_pos h0] at hm; omega
          · rw [if_neg h0] at hm; omega
        by_cases hlt : j < l2.length
        · have hd : decide ((j : Int) < (l2.length : Int)) = true := by simp; omega
          obtain ⟨ad, rfl, hcell⟩ := Kd.at_int (Kd.C_below HA2.out HJ.out.2.2.1) (j : Int) (by omega) (by omega)
          rw [Int.toNat_natCast] at hcell
          obtain ⟨x, hx⟩ : ∃ x : Int, rd l2 (j : Int) = x := ⟨_, rfl⟩
          have hxb : 0 ≤ x ∧ x < 256 := by rw [← hx]; exact HY2.out _ (getD_memS l2 0 j hlt)
          rw [hx] at hcell
          clear hx
          obtain ⟨y, hy, hy10⟩ : ∃ y : Int, (if x = 10 then 32 else x) = y ∧ (y ≠ 10 ∧ 0 ≤ y ∧ y < 256) := by
            by_cases h : x = 10
            · exact ⟨32, by rw [if_pos h], by omega, by omega, by omega⟩
            · exact ⟨x, by rw [if_neg h], h, hxb.1, hxb.2⟩
          have HYy := Lib.hid hy
          have HYk := Lib.hid hy10
          clear hy hy10
          go_upto_if 46 with fail
          go_cut [10] (fun v wx => v = .int .u8 y ∧ Hid (wx = wr))
          case first =>
            by_cases h : x = 10
            · subst h
              have HE := Lib.hid (show y = 32 from by rw [← HYy.out]; rfl)
              go_wp2_with fail
              go_meet
              exact ⟨by rw [HE.out], rfl⟩
            · have hb : (x == 10) = false := by simp [h]
              have HE := Lib.hid (show y = x from by rw [← HYy.out, if_neg h])
              clear h
              go_wp2_with fail
              go_meet
              exact ⟨by rw [HE.out], rfl⟩
          case rest =>
          obtain ⟨rfl, HWc⟩ := hcut
          obtain rfl := HWc.out
          have hcv : (convert 22 9 (.slice (some ⟨wc.heap.size, 0, none⟩) 1 1)).run Tryd.prog (wc.alloc (.cells #[.int .u8 y] 5)) = .ok (.string (strOfNums [y])) (wc.alloc (.cells #[.int .u8 y] 5)) := Kd.C_string (P := Tryd.prog) (c := 1) Tryd.underlying22 Tryd.underlying5 Tryd.underlying9 (lit_C wc 5 (0, 0) [y] (by simp))
          have hss : (strOfNums [y]).size = 1 := strOfNums_size [y]
          have hbs : bytesOf (strOfNums [y]) = [y] := bytesOf_str [y] (by intro z hz; simp at hz; subst hz; exact HYk.out.2)
          have HBs := Lib.hid (And.intro hss hbs)
          have hss1 : (strOfNums [y]).size ≤ 1 := by omega
          clear hss hbs HYy hcell hxb HWc
          generalize strOfNums [y] = Y at *
          by_cases h0 : j = 0
          · rw [if_pos h0] at hm
            have HM := Lib.hid hm
            obtain rfl := List.eq_nil_of_length_eq_zero hm
            have heq : ((U.size : Int) == (S.size : Int)) = true := by rw [beq_iff_eq]; have := HUs.out; simp at this; omega
            have HJ0 := Lib.hid h0
            clear hU hm h0
            go_wp2_with fail
            go_roundg (l2.length - (j + 1))
            case measure => have := HJ.out.2.2.2; omega
            case rel =>
              refine ⟨j + 1, _, [37, y], rfl, by go_num, by omega, ?_, ?_, ?_, NoteOk.one HYk.out.1, below_alloc HJ.out.2.2.1 _, rfl⟩
              · rw [ByteArray.size_append, ByteArray.size_append, HUs.out, HBs.out.1]; rfl
              · rw [if_neg (by omega)]; have := HJ0.out; subst this; rfl
              · rw [bytesOf_append, bytesOf_append, HBs.out.2, HJ.out.1, List.append_nil, List.append_assoc]; rfl
          · rw [if_neg h0] at hm
            have HM := Lib.hid hm
            have heq : ((U.size : Int) == (S.size : Int)) = false := by rw [beq_eq_false_iff_ne]; omega
            clear hU hm
            go_wp2_with fail
            go_roundg (l2.length - (j + 1))
            case measure => have := HJ.out.2.2.2; omega
            case rel =>
              refine ⟨j + 1, _, m ++ [y], rfl, by go_num, by omega, ?_, ?_, ?_, HJ.out.2.1.snoc (by rintro rfl; have := HM.out; simp at this) HYk.out.1, below_alloc HJ.out.2.2.1 _, rfl⟩
              · rw [ByteArray.size_append, HUs.out, HBs.out.1, List.length_append]; rfl
              · rw [if_neg (by omega), List.length_append, HM.out]; rfl
              · rw [bytesOf_append, HBs.out.2, HJ.out.1, List.append_assoc]
        · obtain rfl : j = l2.length := by omega
          have hd : decide ((l2.length : Int) < (l2.length : Int)) = false := by simp
          have HT := Lib.hid (And.intro HJ.out.1 HJ.out.2.1)
          have HW := Lib.hid HJ.out.2.2.1
          clear HJ hm hU
          have hz1 : (9223372036854775807 < U.size + 2) = False := by simp; omega
          obtain ⟨V, hV⟩ : ∃ V, (U ++ ⟨#[10, 120]⟩ : ByteArray) = V := ⟨_, rfl⟩
          have hVb : bytesOf V = bytesOf S ++ m ++ [10, 120] := by rw [← hV, bytesOf_append, HT.out.1]; rfl
          have hVs : V.size = U.size + 2 := by rw [← hV, ByteArray.size_append]; rfl
          have HLx := Lib.hid (show (∀ i, i < U.size → (lexL (bytesOf V))[i]? = some (if S.size ≤ i then 3 else 1)) ∧ (lexL (bytesOf V))[U.size + 1]? = some 1 from by
            have h := signs_lex (bytesOf S) m HS.out HT.out.2
            rw [← hVb, bytesOf_length, ← HUs.out] at h
            exact h)
          have hV403 : V.size ≤ 403 := by omega
          have hV2 : 2 ≤ V.size := by omega
          have HV := Lib.hid hV
          clear hVb hVs
          have kc := conv_run V
          have HCv := Lib.hid (conv_C wr V (by omega))
          go_wp2_with fail
          refine (lex_any _ V.size _ _ _ a1 a2 d1 d2 (HTb.out.below (bytes_below HW.out HW.out.size _ _)) HCv.out (grownCap_ge _ _ _ _) (Bys.of V) (by omega)).mono ?_
          rintro e w6 ⟨g, k, rfl, hs, hb6, _, _⟩
          have HSh := Lib.hid (And.intro hs (below_step (bytes_below HW.out HW.out.size _ _) hb6))
          clear hs hb6 HCv kc HW hV
          go_upto_block 4 with fail
          go_wp2_with fail
          go_loopg [68] U.size (fun gn iv wr => ∃ j : Nat, iv = .int .i64 j ∧ j ≤ U.size ∧ Hid (wr = w6 ∧ gn = U.size - j))
          case atStart => exact ⟨0, rfl, Nat.zero_le _, rfl, rfl⟩
          case round =>
            obtain ⟨j, rfl, hj, HQ⟩ := hrel
            obtain ⟨rfl, hq⟩ := HQ.out
            have HG := Lib.hid hq
            clear HQ hq
            by_cases hlt : j < U.size
            · have hd : decide ((j : Int) < (U.size : Int)) = true := by simp; omega
              have hlx := HLx.out.1 j hlt
              by_cases c1 : S.size ≤ j
              · have hd1 : decide ((S.size : Int) ≤ (j : Int)) = true := by simp; omega
                rw [if_pos c1] at hlx
                have HL2 := Lib.hid hlx
                clear hlx
                go_wp2_with fail
                refine (at_in g k _ j 3 _ HSh.out.1 HL2.out).mono ?_
                rintro e w7 ⟨rfl, rfl⟩
                go_wp2_with fail
                go_roundg (U.size - (j + 1))
                case measure => rw [HG.out]; omega
                case rel => exact ⟨j + 1, by go_num, by omega, rfl, rfl⟩
              · have hd1 : decide ((S.size : Int) ≤ (j : Int)) = false := by simp; omega
                rw [if_neg c1] at hlx
                have HL2 := Lib.hid hlx
                clear hlx
                go_wp2_with fail
                refine (at_in g k _ j 1 _ HSh.out.1 HL2.out).mono ?_
                rintro e w7 ⟨rfl, rfl⟩
                go_wp2_with fail
                go_roundg (U.size - (j + 1))
                case measure => rw [HG.out]; omega
                case rel => exact ⟨j + 1, by go_num, by omega, rfl, rfl⟩
            · obtain rfl : j = U.size := by omega
              have hd : decide ((U.size : Int) < (U.size : Int)) = false := by simp
              have HL2 := Lib.hid HLx.out.2
              go_wp2_with fail
              refine (at_in g k _ (U.size + 1) 1 _ HSh.out.1 HL2.out).mono ?_
              rintro e w7 ⟨rfl, rfl⟩
              go_wp2_with fail
              go_ret
              exact ⟨rfl, HSh.out.2⟩
end Go.Proofs.YtkicpaodcmepmaaDoor.T
namespace Go.Proofs.YtkicpaodcmepmaaDoor.Wk.TexSigns
open Go.RowKit Go.Proofs.YtkicpaodcmepmaaDoorW.PrintWords Go.Proofs.YtkicpaodcmepmaaDoor.T Go.Proofs.YtkicpaodcmepmaaDoor.S
theorem walk (A0 : Option Addr) (c0 : Nat) (l0 : List Int) (A1 : Option Addr) (c1 : Nat) (l1 : List Int) (w : World) (a1 a2 : Option Addr) (d1 d2 : Nat) (hT : Tb w a1 a2 d1 d2) (hr0 : Kd.C (Kd.int .u8) w A0 l0.length l0) (hc0 : l0.length ≤ c0) (hg0 : Bys l0 ∧ l0.length ≤ 140737488351232) (hr1 : Kd.C (Kd.int .u8) w A1 l1.length l1) (hc1 : l1.length ≤ c1) (hg1 : Bys l1 ∧ l1.length ≤ 140737488351232) :
    Calls Tryd.prog 8 #[.slice A0 l0.length c0, .slice A1 l1.length c1] w fun e w' => e = .returned (.bool true) ∧ Below w.heap.size w w' :=
  texSigns_any A0 A1 c0 c1 l0 l1 w a1 a2 d1 d2 hT hr0 hr1 hg0.1 hg1.1 hg0.2 hg1.2
end Go.Proofs.YtkicpaodcmepmaaDoor.Wk.TexSigns
