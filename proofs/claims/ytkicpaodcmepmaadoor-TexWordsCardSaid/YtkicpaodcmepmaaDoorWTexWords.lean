/- The law TexWords, walked: it answers true. Conditions: none. -/
import Derived.Test.YtkicpaodcmepmaaDoorTAw
import Derived.Test.YtkicpaodcmepmaaDoorTexRun
set_option linter.unusedVariables false
set_option linter.unusedSimpArgs false
namespace Go.Proofs.YtkicpaodcmepmaaDoor.T
open Go.RowKit Go.Proofs.YtkicpaodcmepmaaDoorW.PrintWords Go.Proofs.YtkicpaodcmepmaaDoorW.PrintMore Go.Proofs.YtkicpaodcmepmaaDoor.L Go.Proofs.YtkicpaodcmepmaaDoor.S Go.Proofs.YtkicpaodcmepmaaDoor.Tex

def waC (c : Nat) : Int := [97, 98, 99, 88, 89, 90, 101, 109, 112, 104].getD c 0
theorem waC_ok (c : Nat) (h : c < 10) : 0 ≤ waC c ∧ waC c < 256 ∧ ltr (waC c) = true := by
  match c, h with
  | 0, _ | 1, _ | 2, _ | 3, _ | 4, _ | 5, _ | 6, _ | 7, _ | 8, _ | 9, _ => decide
theorem wa0 : ∀ w : World, (Instr.index 9 (.string ⟨#[97, 98, 99, 88, 89, 90, 101, 109, 112, 104]⟩) (.int .u8 0)).run Tryd.prog w = .ok (.int .u8 97) w := fun _ => by kernel_rfl
theorem wa1 : ∀ w : World, (Instr.index 9 (.string ⟨#[97, 98, 99, 88, 89, 90, 101, 109, 112, 104]⟩) (.int .u8 1)).run Tryd.prog w = .ok (.int .u8 98) w := fun _ => by kernel_rfl
theorem wa2 : ∀ w : World, (Instr.index 9 (.string ⟨#[97, 98, 99, 88, 89, 90, 101, 109, 112, 104]⟩) (.int .u8 2)).run Tryd.prog w = .ok (.int .u8 99) w := fun _ => by kernel_rfl
theorem wa3 : ∀ w : World, (Instr.index 9 (.string ⟨#[97, 98, 99, 88, 89, 90, 101, 109, 112, 104]⟩) (.int .u8 3)).run Tryd.prog w = .ok (.int .u8 88) w := fun _ => by kernel_rfl
theorem wa4 : ∀ w : World, (Instr.index 9 (.string ⟨#[97, 98, 99, 88, 89, 90, 101, 109, 112, 104]⟩) (.int .u8 4)).run Tryd.prog w = .ok (.int .u8 89) w := fun _ => by kernel_rfl
theorem wa5 : ∀ w : World, (Instr.index 9 (.string ⟨#[97, 98, 99, 88, 89, 90, 101, 109, 112, 104]⟩) (.int .u8 5)).run Tryd.prog w = .ok (.int .u8 90) w := fun _ => by kernel_rfl
theorem wa6 : ∀ w : World, (Instr.index 9 (.string ⟨#[97, 98, 99, 88, 89, 90, 101, 109, 112, 104]⟩) (.int .u8 6)).run Tryd.prog w = .ok (.int .u8 101) w := fun _ => by kernel_rfl
theorem wa7 : ∀ w : World, (Instr.index 9 (.string ⟨#[97, 98, 99, 88, 89, 90, 101, 109, 112, 104]⟩) (.int .u8 7)).run Tryd.prog w = .ok (.int .u8 109) w := fun _ => by kernel_rfl
theorem wa8 : ∀ w : World, (Instr.index 9 (.string ⟨#[97, 98, 99, 88, 89, 90, 101, 109, 112, 104]⟩) (.int .u8 8)).run Tryd.prog w = .ok (.int .u8 112) w := fun _ => by kernel_rfl
theorem wa9 : ∀ w : World, (Instr.index 9 (.string ⟨#[97, 98, 99, 88, 89, 90, 101, 109, 112, 104]⟩) (.int .u8 9)).run Tryd.prog w = .ok (.int .u8 104) w := fun _ => by kernel_rfl
theorem wa_index (q : Nat) (h : q < 10) : ∀ w, (Instr.index 9 (.string ⟨#[97, 98, 99, 88, 89, 90, 101, 109, 112, 104]⟩) (.int .u8 (q : Int))).run Tryd.prog w = .ok (.int .u8 (waC q)) w := by
  match q, h with
  | 0, _ => exact wa0
  | 1, _ => exact wa1
  | 2, _ => exact wa2
  | 3, _ => exact wa3
  | 4, _ => exact wa4
  | 5, _ => exact wa5
  | 6, _ => exact wa6
  | 7, _ => exact wa7
  | 8, _ => exact wa8
  | 9, _ => exact wa9
def wbC (c : Nat) : Int := [97, 98, 32, 99, 44, 46, 49].getD c 0
theorem wbC_ok (c : Nat) (h : c < 7) : 0 ≤ wbC c ∧ wbC c < 256 ∧ plainB (wbC c) = true := by
  match c, h with
  | 0, _ | 1, _ | 2, _ | 3, _ | 4, _ | 5, _ | 6, _ => decide
theorem wb0 : ∀ w : World, (Instr.index 9 (.string ⟨#[97, 98, 32, 99, 44, 46, 49]⟩) (.int .u8 0)).run Tryd.prog w = .ok (.int .u8 97) w := fun _ => by kernel_rfl
theorem wb1 : ∀ w : World, (Instr.index 9 (.string ⟨#[97, 98, 32, 99, 44, 46, 49]⟩) (.int .u8 1)).run Tryd.prog w = .ok (.int .u8 98) w := fun _ => by kernel_rfl
theorem wb2 : ∀ w : World, (Instr.index 9 (.string ⟨#[97, 98, 32, 99, 44, 46, 49]⟩) (.int .u8 2)).run Tryd.prog w = .ok (.int .u8 32) w := fun _ => by kernel_rfl
theorem wb3 : ∀ w : World, (Instr.index 9 (.string ⟨#[97, 98, 32, 99, 44, 46, 49]⟩) (.int .u8 3)).run Tryd.prog w = .ok (.int .u8 99) w := fun _ => by kernel_rfl
theorem wb4 : ∀ w : World, (Instr.index 9 (.string ⟨#[97, 98, 32, 99, 44, 46, 49]⟩) (.int .u8 4)).run Tryd.prog w = .ok (.int .u8 44) w := fun _ => by kernel_rfl
theorem wb5 : ∀ w : World, (Instr.index 9 (.string ⟨#[97, 98, 32, 99, 44, 46, 49]⟩) (.int .u8 5)).run Tryd.prog w = .ok (.int .u8 46) w := fun _ => by kernel_rfl
theorem wb6 : ∀ w : World, (Instr.index 9 (.string ⟨#[97, 98, 32, 99, 44, 46, 49]⟩) (.int .u8 6)).run Tryd.prog w = .ok (.int .u8 49) w := fun _ => by kernel_rfl
theorem wb_index (q : Nat) (h : q < 7) : ∀ w, (Instr.index 9 (.string ⟨#[97, 98, 32, 99, 44, 46, 49]⟩) (.int .u8 (q : Int))).run Tryd.prog w = .ok (.int .u8 (wbC q)) w := by
  match q, h with
  | 0, _ => exact wb0
  | 1, _ => exact wb1
  | 2, _ => exact wb2
  | 3, _ => exact wb3
  | 4, _ => exact wb4
  | 5, _ => exact wb5
  | 6, _ => exact wb6
theorem getD_memT {α : Type} (l : List α) (d : α) (j : Nat) (h : j < l.length) : l.getD j d ∈ l := by
  rw [List.getD_eq_getElem?_getD, List.getElem?_eq_getElem h]
  exact List.getElem_mem h
def Nm (x : List Int) : Prop := x.head? = some 120 ∧ ∀ c ∈ x, ltr c = true
theorem Nm.snoc {x : List Int} (h : Nm x) {y : Int} (hy : ltr y = true) : Nm (x ++ [y]) := by
  refine ⟨?_, fun c hc => ?_⟩
  · cases x with
    | nil => have := h.1; cases this
    | cons a x => exact h.1
  · rcases List.mem_append.1 hc with h1 | h1
    · exact h.2 c h1
    · simp at h1; subst h1; exact hy
def Tx (x : List Int) : Prop := ∀ c ∈ x, plainB c = true
theorem Tx.snoc {x : List Int} (h : Tx x) {y : Int} (hy : plainB y = true) : Tx (x ++ [y]) := fun c hc => by
  rcases List.mem_append.1 hc with h1 | h1
  · exact h c h1
  · simp at h1; subst h1; exact hy
set_option maxHeartbeats 4000000 in
theorem texWords_any (A1 A2 : Option Addr) (c1 c2 : Nat) (l1 l2 : List Int) (W : World) (a1 a2 : Option Addr) (d1 d2 : Nat) (hT : Tb W a1 a2 d1 d2) (hC1 : Kd.C (Kd.int .u8) W A1 l1.length l1) (hC2 : Kd.C (Kd.int .u8) W A2 l2.length l2) (hb1 : Bys l1) (hb2 : Bys l2) (hl1 : l1.length ≤ 140737488351232) (hl2 : l2.length ≤ 140737488351232) :
    Calls Tryd.prog 3 #[.slice A1 l1.length c1, .slice A2 l2.length c2] W fun e w' => e = .returned (.bool true) ∧ Below W.heap.size W w' := by
  have HTb := Lib.hid hT
  have HA1 := Lib.hid hC1
  have HA2 := Lib.hid hC2
  have HY1 := Lib.hid hb1
  have HY2 := Lib.hid hb2
  clear hT hC1 hC2 hb1 hb2
  go_enter Tryd.func3, Tryd.ntmps3
  go_wp2_with fail
  refine (awake_any _ a1 a2 d1 d2 HTb.out).mono ?_
  rintro e w1 ⟨rfl, hb1⟩
  have H1 := Lib.hid hb1
  clear hb1
  go_upto_block 0 with fail
  go_wp2_with fail
  go_loopg [5, 20] l1.length (fun gn v iv wr => ∃ (j : Nat) (U : ByteArray), v = .string U ∧ iv = .int .i64 j ∧ j ≤ l1.length ∧ U.size ≤ 1 + min j 12 ∧ Hid (Nm (bytesOf U) ∧ Below W.heap.size W wr ∧ gn = l1.length - j))
  case atStart => exact ⟨0, _, rfl, rfl, Nat.zero_le _, by decide, ⟨by decide, by decide⟩, H1.out, rfl⟩
  case round =>
    obtain ⟨j, U, rfl, rfl, hj, hU, HJ⟩ := hrel
    clear H1
    by_cases hlt : j < l1.length
    · have hd : decide ((j : Int) < (l1.length : Int)) = true := by simp; omega
      obtain ⟨ad, rfl, hcell⟩ := Kd.at_int (Kd.C_below HA1.out HJ.out.2.1) (j : Int) (by omega) (by omega)
      rw [Int.toNat_natCast] at hcell
      obtain ⟨x, hx⟩ : ∃ x : Nat, rd l1 (j : Int) = (x : Int) := ⟨(l1.getD j 0).toNat, by have := HY1.out _ (getD_memT l1 0 j hlt); show l1.getD j 0 = _; omega⟩
      rw [hx] at hcell
      clear hx
      by_cases h12 : j < 12
      · obtain ⟨q, hq⟩ : ∃ q : Nat, (x : Int) % 10 = (q : Int) := ⟨x % 10, by omega⟩
        have hq8 : q < 10 := by omega
        have HNt := Lib.hid (waC_ok q hq8)
        have hix := wa_index q hq8
        generalize waC q = y at *
        have hcv : (convert 22 9 (.slice (some ⟨wr.heap.size, 0, none⟩) 1 1)).run Tryd.prog (wr.alloc (.cells #[.int .u8 y] 5)) = .ok (.string (strOfNums [y])) (wr.alloc (.cells #[.int .u8 y] 5)) := Kd.C_string (P := Tryd.prog) (c := 1) Tryd.underlying22 Tryd.underlying5 Tryd.underlying9 (lit_C wr 5 (0, 0) [y] (by simp))
        have hss : (strOfNums [y]).size = 1 := strOfNums_size [y]
        have hbs : bytesOf (strOfNums [y]) = [y] := bytesOf_str [y] (by intro z hz; simp at hz; have := HNt.out; omega)
        have HBs := Lib.hid (And.intro hss hbs)
        have hss1 : (strOfNums [y]).size ≤ 1 := by omega
        have hU2 : U.size ≤ 700 := by omega
        clear hss hbs
        generalize strOfNums [y] = Y at *
        go_wp2_with fail
        go_roundg (l1.length - (j + 1))
        case measure => have := HJ.out.2.2; omega
        case rel =>
          refine ⟨j + 1, _, rfl, by go_num, by omega, ?_, ?_, below_alloc HJ.out.2.1 _, rfl⟩
          · rw [ByteArray.size_append]; omega
          · rw [bytesOf_append, HBs.out.2]
            exact HJ.out.1.snoc HNt.out.2.2
      · have hd12 : decide ((j : Int) < 12) = false := by simp; omega
        go_wp2_with fail
        go_roundg (l1.length - (j + 1))
        case measure => have := HJ.out.2.2; omega
        case rel => exact ⟨j + 1, U, rfl, by go_num, by omega, by omega, HJ.out.1, HJ.out.2.1, rfl⟩
    · obtain rfl : j = l1.length := by omega
      have hd : decide ((l1.length : Int) < (l1.length : Int)) = false := by simp
      have hS : U.size ≤ 13 := by omega
      have HS := Lib.hid HJ.out.1
      have HW := Lib.hid HJ.out.2.1
      clear HJ hU
      generalize U = S at *
      go_upto_block 2 with fail
      go_wp2_with fail
      go_loopg [8, 37] l2.length (fun gn v iv wr => ∃ (j : Nat) (U : ByteArray), v = .string U ∧ iv = .int .i64 j ∧ j ≤ l2.length ∧ U.size ≤ min j 20 ∧ Hid (Tx (bytesOf U) ∧ Below W.heap.size W wr ∧ gn = l2.length - j))
      case atStart => exact ⟨0, _, rfl, rfl, Nat.zero_le _, by decide, (by intro c hc; cases hc), HW.out, rfl⟩
      case round =>
        obtain ⟨j, U, rfl, rfl, hj, hU, HJ⟩ := hrel
        clear HW
        by_cases hlt : j < l2.length
        · have hd : decide ((j : Int) < (l2.length : Int)) = true := by simp; omega
          obtain ⟨ad, rfl, hcell⟩ := Kd.at_int (Kd.C_below HA2.out HJ.out.2.1) (j : Int) (by omega) (by omega)
          rw [Int.toNat_natCast] at hcell
          obtain ⟨x, hx⟩ : ∃ x : Nat, rd l2 (j : Int) = (x : Int) := ⟨(l2.getD j 0).toNat, by have := HY2.out _ (getD_memT l2 0 j hlt); show l2.getD j 0 = _; omega⟩
          rw [hx] at hcell
          clear hx
          by_cases h12 : j < 20
          · obtain ⟨q, hq⟩ : ∃ q : Nat, (x : Int) % 7 = (q : Int) := ⟨x % 7, by omega⟩
            have hq8 : q < 7 := by omega
            have HNt := Lib.hid (wbC_ok q hq8)
            have hix := wb_index q hq8
            generalize wbC q = y at *
            have hcv : (convert 22 9 (.slice (some ⟨wr.heap.size, 0, none⟩) 1 1)).run Tryd.prog (wr.alloc (.cells #[.int .u8 y] 5)) = .ok (.string (strOfNums [y])) (wr.alloc (.cells #[.int .u8 y] 5)) := Kd.C_string (P := Tryd.prog) (c := 1) Tryd.underlying22 Tryd.underlying5 Tryd.underlying9 (lit_C wr 5 (0, 0) [y] (by simp))
            have hss : (strOfNums [y]).size = 1 := strOfNums_size [y]
            have hbs : bytesOf (strOfNums [y]) = [y] := bytesOf_str [y] (by intro z hz; simp at hz; have := HNt.out; omega)
            have HBs := Lib.hid (And.intro hss hbs)
            have hss1 : (strOfNums [y]).size ≤ 1 := by omega
            have hU2 : U.size ≤ 700 := by omega
            clear hss hbs
            generalize strOfNums [y] = Y at *
            go_wp2_with fail
            go_roundg (l2.length - (j + 1))
            case measure => have := HJ.out.2.2; omega
            case rel =>
              refine ⟨j + 1, _, rfl, by go_num, by omega, ?_, ?_, below_alloc HJ.out.2.1 _, rfl⟩
              · rw [ByteArray.size_append]; omega
              · rw [bytesOf_append, HBs.out.2]
                exact HJ.out.1.snoc HNt.out.2.2
          · have hd12 : decide ((j : Int) < 20) = false := by simp; omega
            go_wp2_with fail
            go_roundg (l2.length - (j + 1))
            case measure => have := HJ.out.2.2; omega
            case rel => exact ⟨j + 1, U, rfl, by go_num, by omega, by omega, HJ.out.1, HJ.out.2.1, rfl⟩
        · obtain rfl : j = l2.length := by omega
          have hd : decide ((l2.length : Int) < (l2.length : Int)) = false := by simp
          have hT : U.size ≤ 20 := by omega
          have HT := Lib.hid HJ.out.1
          have HW := Lib.hid HJ.out.2.1
          clear HJ hU
          generalize U = T at *
          have hz1 : (9223372036854775807 < 1 + S.size) = False := by simp; omega
          have hz2 : (9223372036854775807 < 1 + S.size + 1) = False := by simp; omega
          have hz3 : (9223372036854775807 < 1 + S.size + 1 + T.size) = False := by simp; omega
          have hz4 : (9223372036854775807 < 1 + S.size + 1 + T.size + 1) = False := by simp; omega
          go_upto_region 18 with fail
          obtain ⟨U, hU⟩ : ∃ U, (⟨#[92]⟩ ++ S ++ ⟨#[123]⟩ ++ T ++ ⟨#[125]⟩ : ByteArray) = U := ⟨_, rfl⟩
          have hUb : bytesOf U = cmdT (bytesOf S) (bytesOf T) := by
            rw [← hU, bytesOf_append, bytesOf_append, bytesOf_append, bytesOf_append]
            rfl
          have hUs : U.size = S.size + T.size + 3 := by
            rw [← bytesOf_length, hUb]
            unfold cmdT
            simp [bytesOf_length]
            omega
          have HU := Lib.hid hUb
          have HUs := Lib.hid hUs
          have HLx := Lib.hid (show ∀ i, i < U.size → (lexL (bytesOf U))[i]? = some (if S.size + 2 ≤ i ∧ i < U.size - 1 then 1 else 2) from fun i hi => by
            have hl : (cmdT (bytesOf S) (bytesOf T)).length = U.size := by rw [← hUb, bytesOf_length]
            have h := words_lex (bytesOf S) (bytesOf T) HS.out.2 HS.out.1 HT.out i (by rw [hl]; exact hi)
            rw [hl, bytesOf_length] at h
            rw [hUb]
            exact h)
          have hU40 : U.size ≤ 40 := by omega
          have hU3 : 3 ≤ U.size := by omega
          rw [hU]
          clear hU hUb hUs hz1 hz2 hz3 hz4
          have kc := conv_run U
          have hC := conv_C wr U (by omega)
          have HCv := Lib.hid hC
          clear hC
          go_wp2_with fail
          refine (lex_any _ U.size _ _ _ a1 a2 d1 d2 (HTb.out.below (bytes_below HW.out HW.out.size _ _)) HCv.out (grownCap_ge _ _ _ _) (Bys.of U) (by omega)).mono ?_
          rintro e w6 ⟨g, k, rfl, hs, hb6, _, _⟩
          have HSh := Lib.hid (And.intro hs (below_step (bytes_below HW.out HW.out.size _ _) hb6))
          clear hs hb6 HCv kc HW
          go_upto_block 4 with fail
          go_wp2_with fail
          go_loopg [66] U.size (fun gn iv wr => ∃ j : Nat, iv = .int .i64 j ∧ j ≤ U.size ∧ Hid (wr = w6 ∧ gn = U.size - j))
          case atStart => exact ⟨0, rfl, Nat.zero_le _, rfl, rfl⟩
          case round =>
            obtain ⟨j, rfl, hj, HQ⟩ := hrel
            obtain ⟨rfl, hq⟩ := HQ.out
            have HG := Lib.hid hq
            clear HQ hq
            by_cases hlt : j < U.size
            · have hd : decide ((j : Int) < (U.size : Int)) = true := by simp; omega
              have hlx := HLx.out j hlt
              by_cases c1 : S.size + 2 ≤ j
              · have hd1 : decide ((S.size : Int) + 2 ≤ (j : Int)) = true := by simp; omega
                by_cases c2 : j < U.size - 1
                · have hd2 : decide ((j : Int) < (U.size : Int) - 1) = true := by simp; omega
                  rw [if_pos ⟨c1, c2⟩] at hlx
                  have HL2 := Lib.hid hlx
                  clear hlx
                  go_wp2_with fail
                  refine (at_in g k _ j 1 _ HSh.out.1 HL2.out).mono ?_
                  rintro e w7 ⟨rfl, rfl⟩
                  go_wp2_with fail
                  go_roundg (U.size - (j + 1))
                  case measure => rw [HG.out]; omega
                  case rel => exact ⟨j + 1, by go_num, by omega, rfl, rfl⟩
                · have hd2 : decide ((j : Int) < (U.size : Int) - 1) = false := by simp; omega
                  rw [if_neg (fun h => c2 h.2)] at hlx
                  have HL2 := Lib.hid hlx
                  clear hlx
                  go_wp2_with fail
                  refine (at_in g k _ j 2 _ HSh.out.1 HL2.out).mono ?_
                  rintro e w7 ⟨rfl, rfl⟩
                  go_wp2_with fail
                  go_roundg (U.size - (j + 1))
                  case measure => rw [HG.out]; omega
                  case rel => exact ⟨j + 1, by go_num, by omega, rfl, rfl⟩
              · have hd1 : decide ((S.size : Int) + 2 ≤ (j : Int)) = false := by simp; omega
                rw [if_neg (fun h => c1 h.1)] at hlx
                have HL2 := Lib.hid hlx
                clear hlx
                go_wp2_with fail
                refine (at_in g k _ j 2 _ HSh.out.1 HL2.out).mono ?_
                rintro e w7 ⟨rfl, rfl⟩
                go_wp2_with fail
                go_roundg (U.size - (j + 1))
                case measure => rw [HG.out]; omega
                case rel => exact ⟨j + 1, by go_num, by omega, rfl, rfl⟩
            · obtain rfl : j = U.size := by omega
              have hd : decide ((U.size : Int) < (U.size : Int)) = false := by simp
              go_wp2_with fail
              go_ret
              exact ⟨rfl, HSh.out.2⟩
end Go.Proofs.YtkicpaodcmepmaaDoor.T
namespace Go.Proofs.YtkicpaodcmepmaaDoor.Wk.TexWords
open Go.RowKit Go.Proofs.YtkicpaodcmepmaaDoorW.PrintWords Go.Proofs.YtkicpaodcmepmaaDoor.T Go.Proofs.YtkicpaodcmepmaaDoor.S
theorem walk (A0 : Option Addr) (c0 : Nat) (l0 : List Int) (A1 : Option Addr) (c1 : Nat) (l1 : List Int) (w : World) (a1 a2 : Option Addr) (d1 d2 : Nat) (hT : Tb w a1 a2 d1 d2) (hr0 : Kd.C (Kd.int .u8) w A0 l0.length l0) (hc0 : l0.length ≤ c0) (hg0 : Bys l0 ∧ l0.length ≤ 140737488351232) (hr1 : Kd.C (Kd.int .u8) w A1 l1.length l1) (hc1 : l1.length ≤ c1) (hg1 : Bys l1 ∧ l1.length ≤ 140737488351232) :
    Calls Tryd.prog 3 #[.slice A0 l0.length c0, .slice A1 l1.length c1] w fun e w' => e = .returned (.bool true) ∧ Below w.heap.size w w' :=
  texWords_any A0 A1 c0 c1 l0 l1 w a1 a2 d1 d2 hT hr0 hr1 hg0.1 hg1.1 hg0.2 hg1.2
end Go.Proofs.YtkicpaodcmepmaaDoor.Wk.TexWords
