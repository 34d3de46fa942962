/- The law TexMath, walked: it answers true. Conditions: none. -/
import Derived.Test.YtkicpaodcmepmaaDoorTAw
import Derived.Test.YtkicpaodcmepmaaDoorTexMthL
set_option linter.unusedVariables false
set_option linter.unusedSimpArgs false
namespace Go.Proofs.YtkicpaodcmepmaaDoor.T
open Go.RowKit Go.Proofs.YtkicpaodcmepmaaDoorW.PrintWords Go.Proofs.YtkicpaodcmepmaaDoorW.PrintMore Go.Proofs.YtkicpaodcmepmaaDoor.L Go.Proofs.YtkicpaodcmepmaaDoor.S Go.Proofs.YtkicpaodcmepmaaDoor.Tex

theorem at_strsT (l : List ByteArray) (r : Nat) (h : r < l.length) : ((l.map Value.string).toArray : Array Value)[r]? = some (.string (l.getD r ByteArray.empty)) := by
  simp [List.getElem?_eq_getElem h, List.getD_eq_getElem?_getD]
theorem getD_memM {α : Type} (l : List α) (d : α) (j : Nat) (h : j < l.length) : l.getD j d ∈ l := by
  rw [List.getD_eq_getElem?_getD, List.getElem?_eq_getElem h]
  exact List.getElem_mem h
theorem bt_getM (s : ByteArray) (p : Nat) (h : p < s.size) : bt s (p : Int) = (bytesOf s).getD p 0 := by
  unfold bt bytesOf
  rw [dif_pos (show ((p : Int)).toNat < s.size from h)]
  have h' : p < s.data.toList.length := by rw [data_length]; exact h
  rw [List.getD_eq_getElem?_getD, List.getElem?_map, List.getElem?_eq_getElem h']
  rfl
theorem ix_atM (s : ByteArray) (p : Nat) (h : p < s.size) : ∀ w : World, (Instr.index 9 (.string s) (.int .i64 (p : Int))).run Tryd.prog w = .ok (.int .u8 ((bytesOf s).getD p 0)) w := by
  intro w
  have h1 : (p : Int) < (s.size : Int) := by omega
  rw [← bt_getM s p h]
  have hb := bt_at s (p : Int)
  go_simp
  exact hb h
def mP (c : Nat) : List Int := [[120], [43], [32], [123], [125], [37], [92, 97, 108, 112, 104, 97], [10]].getD c []
def mS (c : Nat) : ByteArray := [(⟨#[120]⟩ : ByteArray), ⟨#[43]⟩, ⟨#[32]⟩, ⟨#[123]⟩, ⟨#[125]⟩, ⟨#[37]⟩, ⟨#[92, 97, 108, 112, 104, 97]⟩, ⟨#[10]⟩].getD c ByteArray.empty
theorem MOk.of {T : List Int} (h1 : ∀ c ∈ T, c ≠ 36 ∧ c ≠ 41 ∧ c ≠ 93) (h2 : ∀ i < T.length, T[i]? = some 92 → i + 1 < T.length) : MOk T := ⟨h1, fun i hi => h2 i (List.getElem?_eq_some_iff.1 hi).1 hi⟩
theorem mS_ok (c : Nat) (h : c < 8) : bytesOf (mS c) = mP c ∧ MOk (mP c) ∧ 1 ≤ (mS c).size ∧ (mS c).size ≤ 6 := by
  have hc : c = 0 ∨ c = 1 ∨ c = 2 ∨ c = 3 ∨ c = 4 ∨ c = 5 ∨ c = 6 ∨ c = 7 := by omega
  rcases hc with rfl | rfl | rfl | rfl | rfl | rfl | rfl | rfl
  all_goals exact ⟨rfl, MOk.of (by decide) (by decide), by decide, by decide⟩
def oS (q : Nat) : ByteArray := [(⟨#[36]⟩ : ByteArray), ⟨#[36, 36]⟩, ⟨#[92, 40]⟩, ⟨#[92, 91]⟩].getD q ByteArray.empty
def sS (q : Nat) : ByteArray := [(⟨#[36]⟩ : ByteArray), ⟨#[36, 36]⟩, ⟨#[92, 41]⟩, ⟨#[92, 93]⟩].getD q ByteArray.empty
theorem oS_ok (q : Nat) (h : q < 4) : bytesOf (oS q) = openL q ∧ 1 ≤ (oS q).size ∧ (oS q).size ≤ 2 := by
  have hc : q = 0 ∨ q = 1 ∨ q = 2 ∨ q = 3 := by omega
  rcases hc with rfl | rfl | rfl | rfl
  all_goals exact ⟨rfl, by decide, by decide⟩
theorem sS_ok (q : Nat) (h : q < 4) : bytesOf (sS q) = shutL q ∧ 1 ≤ (sS q).size ∧ (sS q).size ≤ 2 := by
  have hc : q = 0 ∨ q = 1 ∨ q = 2 ∨ q = 3 := by omega
  rcases hc with rfl | rfl | rfl | rfl
  all_goals exact ⟨rfl, by decide, by decide⟩
/-- Math of any of the four kinds. -/
theorem math_lex (q : Nat) (h : q < 4) (T : List Int) (hT : MOk T) (h1 : q = 0 → T ≠ []) (ends : Bool) :
    ∀ i, i < (mathT q T (if ends = true then shutL q ++ [122] else [])).length → (lexL (mathT q T (if ends = true then shutL q ++ [122] else [])))[i]? = some (if 2 ≤ i ∧ i < 2 + (openL q).length + T.length + (if ends = true then (shutL q).length else 0) then 4 else 1) := by
  have hc : q = 0 ∨ q = 1 ∨ q = 2 ∨ q = 3 := by omega
  rcases hc with rfl | rfl | rfl | rfl
  · exact dollar_lex [36] T ends (.inl rfl) hT (fun _ => h1 rfl)
  · exact dollar_lex [36, 36] T ends (.inr rfl) hT (fun h => by cases h)
  · exact sign_lex 40 41 T ends (.inl ⟨rfl, rfl⟩) hT
  · exact sign_lex 91 93 T ends (.inr ⟨rfl, rfl⟩) hT
theorem last_at (q : Nat) (T : List Int) (hT : MOk T) (h : q = 0) : ((([97, 32] ++ openL q ++ T : List Int).getD (([97, 32] ++ openL q ++ T : List Int).length - 1) 0) == 36) = decide (T = []) := by
  subst h
  by_cases h : T = []
  · subst h; rfl
  · have hl : 1 ≤ T.length := by
      cases T with
      | nil => exact absurd rfl h
      | cons x T => simp
    have e : ([97, 32] ++ openL 0 ++ T : List Int).getD (([97, 32] ++ openL 0 ++ T : List Int).length - 1) 0 = T.getD (T.length - 1) 0 := by
      rw [getD_appM, if_neg (by simp; omega)]
      congr 1
    rw [e, decide_eq_false h, beq_eq_false_iff_ne]
    exact (hT.1 _ (getD_inM T (T.length - 1) (by omega))).1

set_option maxRecDepth 100000 in
set_option maxHeartbeats 4000000 in
theorem texMath_any (f : Nat) (A : Option Addr) (c : Nat) (l : List Int) (E : Bool) (W : World) (a1 a2 : Option Addr) (d1 d2 : Nat) (hT : Tb W a1 a2 d1 d2) (hf : f < 256) (hC : Kd.C (Kd.int .u8) W A l.length l) (hb : Bys l) (hl : l.length ≤ 140737488351232) :
    Calls Tryd.prog 6 #[.int .u8 f, .slice A l.length c, .bool E] W fun e w' => e = .returned (.bool true) ∧ Below W.heap.size W w' := by
  have HTb := Lib.hid hT
  have HA := Lib.hid hC
  have HY := Lib.hid hb
  clear hT hC hb
  go_enter Tryd.func6, Tryd.ntmps6
  go_wp2_with fail
  refine (awake_any _ a1 a2 d1 d2 HTb.out).mono ?_
  rintro e w1 ⟨rfl, hb1⟩
  have H1 := Lib.hid hb1
  clear hb1
  go_upto_region 3 with fail
  obtain ⟨r, hr⟩ : ∃ r : Nat, (f : Int) % 4 = (r : Int) := ⟨f % 4, by omega⟩
  have hr4 : r < 4 := by omega
  have HR := Lib.hid hr
  clear hr
  go_cut [7] (fun kv wx => kv = .string (oS r) ∧ Hid (Below W.heap.size W wx))
  case first =>
    have hr := HR.out
    have hcell : (w1.alloc (.cells #[.string ⟨#[36]⟩, .string ⟨#[36, 36]⟩, .string ⟨#[92, 40]⟩, .string ⟨#[92, 91]⟩] 9 (0, 0))).cell? ⟨w1.heap.size, r, none⟩ = some (.string (oS r)) := by
      rw [blk_cell (blk_new w1 _)]
      exact at_strsT [(⟨#[36]⟩ : ByteArray), ⟨#[36, 36]⟩, ⟨#[92, 40]⟩, ⟨#[92, 91]⟩] r hr4
    go_wp2_with fail
    go_meet
    exact ⟨rfl, below_alloc H1.out _⟩
  case rest =>
  obtain ⟨rfl, H2⟩ := hcut
  clear H1
  have HO := Lib.hid (oS_ok r hr4).1
  have hO1 := (oS_ok r hr4).2.1
  have hO2 := (oS_ok r hr4).2.2
  generalize oS r = O at *
  go_upto_region 4 with fail
  go_cut [8] (fun kv wx => kv = .string (sS r) ∧ Hid (Below W.heap.size W wx))
  case first =>
    have hr := HR.out
    have hcell : (wc.alloc (.cells #[.string ⟨#[36]⟩, .string ⟨#[36, 36]⟩, .string ⟨#[92, 41]⟩, .string ⟨#[92, 93]⟩] 9 (0, 0))).cell? ⟨wc.heap.size, r, none⟩ = some (.string (sS r)) := by
      rw [blk_cell (blk_new wc _)]
      exact at_strsT [(⟨#[36]⟩ : ByteArray), ⟨#[36, 36]⟩, ⟨#[92, 41]⟩, ⟨#[92, 93]⟩] r hr4
    go_wp2_with fail
    go_meet
    exact ⟨rfl, below_alloc H2.out _⟩
  case rest =>
  obtain ⟨rfl, H3⟩ := hcut
  clear H2
  have HSt := Lib.hid (sS_ok r hr4).1
  have hS1 := (sS_ok r hr4).2.1
  have hS2 := (sS_ok r hr4).2.2
  generalize sS r = S at *
  have hz0 : (9223372036854775807 < 2 + O.size) = False := by simp; omega
  go_upto_block 0 with fail
  go_wp2_with fail
  go_loopg [9, 33] l.length (fun gn v iv wr => ∃ (j : Nat) (U : ByteArray), v = .string U ∧ iv = .int .i64 j ∧ j ≤ l.length ∧ U.size ≤ 4 + 6 * min j 20 ∧ 3 ≤ U.size ∧ Hid ((∃ T, bytesOf U = [97, 32] ++ openL r ++ T ∧ MOk T) ∧ Below W.heap.size W wr ∧ gn = l.length - j))
  case atStart =>
    refine ⟨0, _, rfl, rfl, Nat.zero_le _, ?_, ?_, ⟨[], ?_, MOk.nil⟩, H3.out, rfl⟩
    · rw [ByteArray.size_append]
      have e1 : (⟨#[97, 32]⟩ : ByteArray).size = 2 := rfl
      omega
    · rw [ByteArray.size_append]
      have e1 : (⟨#[97, 32]⟩ : ByteArray).size = 2 := rfl
      omega
    · rw [bytesOf_append, HO.out, List.append_nil]; rfl
  case round =>
    obtain ⟨j, U, rfl, rfl, hj, hU, hU3, HJ⟩ := hrel
    clear H3
    have hU2 : U.size ≤ 700 := by omega
    by_cases hlt : j < l.length
    · have hd : decide ((j : Int) < (l.length : Int)) = true := by simp; omega
      obtain ⟨ad, rfl, hcell⟩ := Kd.at_int (Kd.C_below HA.out HJ.out.2.1) (j : Int) (by omega) (by omega)
      rw [Int.toNat_natCast] at hcell
      obtain ⟨x, hx⟩ : ∃ x : Nat, rd l (j : Int) = (x : Int) := ⟨(l.getD j 0).toNat, by have := HY.out _ (getD_memM l 0 j hlt); show l.getD j 0 = _; omega⟩
      rw [hx] at hcell
      clear hx
      by_cases h12 : j < 20
      · obtain ⟨q, hq⟩ : ∃ q : Nat, (x : Int) % 8 = (q : Int) := ⟨x % 8, by omega⟩
        have hq8 : q < 8 := by omega
        have hcell2 : (wr.alloc (.cells #[.string ⟨#[120]⟩, .string ⟨#[43]⟩, .string ⟨#[32]⟩, .string ⟨#[123]⟩, .string ⟨#[125]⟩, .string ⟨#[37]⟩, .string ⟨#[92, 97, 108, 112, 104, 97]⟩, .string ⟨#[10]⟩] 9 (0, 0))).cell? ⟨wr.heap.size, q, none⟩ = some (.string (mS q)) := by
          rw [blk_cell (blk_new wr _)]
          exact at_strsT [(⟨#[120]⟩ : ByteArray), ⟨#[43]⟩, ⟨#[32]⟩, ⟨#[123]⟩, ⟨#[125]⟩, ⟨#[37]⟩, ⟨#[92, 97, 108, 112, 104, 97]⟩, ⟨#[10]⟩] q hq8
        have HNt := Lib.hid (mS_ok q hq8)
        have hY6 : (mS q).size ≤ 6 := HNt.out.2.2.2
        generalize mS q = Y at *
        go_wp2_with fail
        go_roundg (l.length - (j + 1))
        case measure => have := HJ.out.2.2; omega
        case rel =>
          obtain ⟨T, hT1, hT2⟩ := HJ.out.1
          refine ⟨j + 1, _, rfl, by go_num, by omega, ?_, ?_, ⟨T ++ mP q, ?_, hT2.app HNt.out.2.1⟩, below_alloc HJ.out.2.1 _, rfl⟩
          · rw [ByteArray.size_append]; omega
          · rw [ByteArray.size_append]; omega
          · rw [bytesOf_append, hT1, HNt.out.1, List.append_assoc]
      · have hd12 : decide ((j : Int) < 20) = false := by simp; omega
        go_wp2_with fail
        go_roundg (l.length - (j + 1))
        case measure => have := HJ.out.2.2; omega
        case rel => exact ⟨j + 1, U, rfl, by go_num, by omega, by omega, hU3, HJ.out.1, HJ.out.2.1, rfl⟩
    · obtain rfl : j = l.length := by omega
      have hd : decide ((l.length : Int) < (l.length : Int)) = false := by simp
      have hU4 : U.size ≤ 124 := by omega
      obtain ⟨T, hT1, hT2⟩ := HJ.out.1
      have HT := Lib.hid (And.intro hT1 hT2)
      have HW := Lib.hid HJ.out.2.1
      clear HJ hU hT1 hT2
      go_upto_region 12 with fail
      obtain ⟨B, hB⟩ : ∃ B : Bool, B = decide (r = 0 ∧ T = []) := ⟨_, rfl⟩
      have HB := Lib.hid hB
      clear hB
      go_cut [58] (fun v wx => v = .bool B ∧ Hid (Below W.heap.size W wx))
      case first =>
        by_cases h0 : r = 0
        · have hr0 : (f : Int) % 4 = 0 := by have := HR.out; omega
          have hix0 := ix_atM U (U.size - 1) (by omega)
          have hix : ∀ w : World, (Instr.index 9 (.string U) (.int .i64 ((U.size : Int) - 1))).run Tryd.prog w = .ok (.int .u8 ((bytesOf U).getD (U.size - 1) 0)) w := by
            have e : ((U.size - 1 : Nat) : Int) = (U.size : Int) - 1 := by omega
            rw [e] at hix0
            exact hix0
          have hy : ((bytesOf U).getD (U.size - 1) 0 == 36) = B := by
            have e : (bytesOf U).length = U.size := bytesOf_length U
            rw [HT.out.1] at e
            rw [HT.out.1, ← e, last_at r T HT.out.2 h0, HB.out]
            simp [h0]
          generalize (bytesOf U).getD (U.size - 1) 0 = y at *
          clear hix0 h0
          go_wp2_with fail
          go_meet
          exact ⟨rfl, HW.out⟩
        · have hr := HR.out
          have hr0 : ((r : Int) == 0) = false := by rw [beq_eq_false_iff_ne]; omega
          obtain rfl : B = false := by rw [HB.out]; simp [h0]
          clear h0
          go_wp2_with fail
          go_meet
          exact ⟨rfl, HW.out⟩
      case rest =>
      obtain ⟨rfl, HW2⟩ := hcut
      clear HW
      go_upto_if 58 with fail
      go_cut [9] (fun v wx => ∃ V : ByteArray, v = .string V ∧ V.size ≤ 125 ∧ 3 ≤ V.size ∧ Hid ((∃ T2, bytesOf V = [97, 32] ++ openL r ++ T2 ∧ MOk T2 ∧ (r = 0 → T2 ≠ [])) ∧ Below W.heap.size W wx))
      case first =>
        cases B with
        | true =>
          go_wp2_with fail
          go_meet
          refine ⟨_, rfl, ?_, ?_, ⟨T ++ [121], ?_, HT.out.2.app (MOk.of (by decide) (by decide)), fun _ => by simp⟩, HW2.out⟩
          · rw [ByteArray.size_append]
            have e1 : (⟨#[121]⟩ : ByteArray).size = 1 := rfl
            omega
          · rw [ByteArray.size_append]; omega
          · rw [bytesOf_append, HT.out.1, List.append_assoc]; rfl
        | false =>
          go_wp2_with fail
          go_meet
          exact ⟨U, rfl, by omega, hU3, ⟨T, HT.out.1, HT.out.2, fun h e => by have := of_decide_eq_false HB.out.symm; exact this ⟨h, e⟩⟩, HW2.out⟩
      case rest =>
      obtain ⟨V, rfl, hV1, hV2, HV⟩ := hcut
      clear HW2 HT HB
      obtain ⟨T2, hT1, hT2, hT3⟩ := HV.out.1
      have HT := Lib.hid (And.intro hT1 (And.intro hT2 hT3))
      have HW := Lib.hid HV.out.2
      clear HV hT1 hT2 hT3
      cases E with
      | true =>
        have hz1 : (9223372036854775807 < V.size + S.size) = False := by simp; omega
        have hz2 : (9223372036854775807 < V.size + S.size + 1) = False := by simp; omega
        go_upto_region 19 with fail
        obtain ⟨X, hX⟩ : ∃ X, (V ++ S ++ ⟨#[122]⟩ : ByteArray) = X := ⟨_, rfl⟩
        have hXb : bytesOf X = mathT r T2 (shutL r ++ [122]) := by
          rw [← hX, bytesOf_append, bytesOf_append, HT.out.1, HSt.out]
          unfold mathT
          rw [List.append_assoc ([97, 32] ++ openL r ++ T2)]
          rfl
        have hXs : X.size = V.size + S.size + 1 := by rw [← hX, ByteArray.size_append, ByteArray.size_append]; rfl
        have HLx := Lib.hid (show ∀ i, i < X.size → (lexL (bytesOf X))[i]? = some (if 2 ≤ i ∧ i < V.size + S.size then 4 else 1) from fun i hi => by
          have h := math_lex r hr4 T2 HT.out.2.1 HT.out.2.2 true i
          rw [if_pos rfl, if_pos rfl, ← hXb, bytesOf_length] at h
          rw [h hi]
          have e1 : V.size = 2 + (openL r).length + T2.length := by rw [← bytesOf_length V, HT.out.1]; simp; omega
          have e2 : S.size = (shutL r).length := by rw [← bytesOf_length S, HSt.out]
          rw [e1, e2])
        have hX200 : X.size ≤ 200 := by omega
        have hX1 : 3 ≤ X.size := by omega
        rw [hX]
        clear hX hXb hXs hz1 hz2
        obtain ⟨to', hto⟩ : ∃ t : Nat, t = V.size + S.size := ⟨_, rfl⟩
        rw [← hto] at HLx
        have htoz : (V.size : Int) + (S.size : Int) = (to' : Int) := by omega
        clear hto
        have kc := conv_run X
        have HCv := Lib.hid (conv_C wc X (by omega))
        go_wp2_with fail
        refine (lex_any _ X.size _ _ _ a1 a2 d1 d2 (HTb.out.below (bytes_below HW.out HW.out.size _ _)) HCv.out (grownCap_ge _ _ _ _) (Bys.of X) (by omega)).mono ?_
        rintro e w6 ⟨g, k, rfl, hs, hb6, _, _⟩
        have HSh := Lib.hid (And.intro hs (below_step (bytes_below HW.out HW.out.size _ _) hb6))
        clear hs hb6 HCv kc HW
        go_upto_block 2 with fail
        go_wp2_with fail
        go_loopg [78] X.size (fun gn iv wr => ∃ j : Nat, iv = .int .i64 j ∧ j ≤ X.size ∧ Hid (wr = w6 ∧ gn = X.size - j))
        case atStart => exact ⟨0, rfl, Nat.zero_le _, rfl, rfl⟩
        case round =>
          obtain ⟨j, rfl, hj, HQ⟩ := hrel
          obtain ⟨rfl, hq⟩ := HQ.out
          have HG := Lib.hid hq
          clear HQ hq
          by_cases hlt : j < X.size
          · have hd : decide ((j : Int) < (X.size : Int)) = true := by simp; omega
            have hlx := HLx.out j hlt
            by_cases c1 : 2 ≤ j
            · have hd1 : decide (2 ≤ (j : Int)) = true := by simp; omega
              by_cases c2 : j < to'
              · have hd2 : decide ((j : Int) < (to' : Int)) = true := by simp; omega
                rw [if_pos ⟨c1, c2⟩] at hlx
                have HL2 := Lib.hid hlx
                clear hlx
                go_wp2_with fail
                refine (at_in g k _ j 4 _ HSh.out.1 HL2.out).mono ?_
                rintro e w7 ⟨rfl, rfl⟩
                go_wp2_with fail
                go_roundg (X.size - (j + 1))
                case measure => rw [HG.out]; omega
                case rel => exact ⟨j + 1, by go_num, by omega, rfl, rfl⟩
              · have hd2 : decide ((j : Int) < (to' : Int)) = false := by simp; omega
                rw [if_neg (fun h => c2 h.2)] at hlx
                have HL2 := Lib.hid hlx
                clear hlx
                go_wp2_with fail
                refine (at_in g k _ j 1 _ HSh.out.1 HL2.out).mono ?_
                rintro e w7 ⟨rfl, rfl⟩
                go_wp2_with fail
                go_roundg (X.size - (j + 1))
                case measure => rw [HG.out]; omega
                case rel => exact ⟨j + 1, by go_num, by omega, rfl, rfl⟩
            · have hd1 : decide (2 ≤ (j : Int)) = false := by simp; omega
              rw [if_neg (fun h => c1 h.1)] at hlx
              have HL2 := Lib.hid hlx
              clear hlx
              go_wp2_with fail
              refine (at_in g k _ j 1 _ HSh.out.1 HL2.out).mono ?_
              rintro e w7 ⟨rfl, rfl⟩
              go_wp2_with fail
              go_roundg (X.size - (j + 1))
              case measure => rw [HG.out]; omega
              case rel => exact ⟨j + 1, by go_num, by omega, rfl, rfl⟩
          · obtain rfl : j = X.size := by omega
            have hd : decide ((X.size : Int) < (X.size : Int)) = false := by simp
            go_wp2_with fail
            go_ret
            exact ⟨rfl, HSh.out.2⟩
      | false =>
        go_upto_region 19 with fail
        have HLx := Lib.hid (show ∀ i, i < V.size → (lexL (bytesOf V))[i]? = some (if 2 ≤ i ∧ i < V.size then 4 else 1) from fun i hi => by
          have h : i < (mathT r T2 []).length → (lexL (mathT r T2 []))[i]? = some (if 2 ≤ i ∧ i < 2 + (openL r).length + T2.length + 0 then 4 else 1) := math_lex r hr4 T2 HT.out.2.1 HT.out.2.2 false i
          unfold mathT at h
          rw [List.append_nil, ← HT.out.1, bytesOf_length] at h
          rw [h hi]
          have e1 : V.size = 2 + (openL r).length + T2.length := by rw [← bytesOf_length V, HT.out.1]; simp; omega
          rw [e1]
          rfl)
        have hX200 : V.size ≤ 200 := by omega
        have hX1 : 3 ≤ V.size := by omega
        clear hV1 hV2
        generalize V = X at *
        have kc := conv_run X
        have HCv := Lib.hid (conv_C wc X (by omega))
        go_wp2_with fail
        refine (lex_any _ X.size _ _ _ a1 a2 d1 d2 (HTb.out.below (bytes_below HW.out HW.out.size _ _)) HCv.out (grownCap_ge _ _ _ _) (Bys.of X) (by omega)).mono ?_
        rintro e w6 ⟨g, k, rfl, hs, hb6, _, _⟩
        have HSh := Lib.hid (And.intro hs (below_step (bytes_below HW.out HW.out.size _ _) hb6))
        clear hs hb6 HCv kc HW
        go_upto_block 2 with fail
        go_wp2_with fail
        go_loopg [78] X.size (fun gn iv wr => ∃ j : Nat, iv = .int .i64 j ∧ j ≤ X.size ∧ Hid (wr = w6 ∧ gn = X.size - j))
        case atStart => exact ⟨0, rfl, Nat.zero_le _, rfl, rfl⟩
        case round =>
          obtain ⟨j, rfl, hj, HQ⟩ := hrel
          obtain ⟨rfl, hq⟩ := HQ.out
          have HG := Lib.hid hq
          clear HQ hq
          by_cases hlt : j < X.size
          · have hd : decide ((j : Int) < (X.size : Int)) = true := by simp; omega
            have hlx := HLx.out j hlt
            by_cases c1 : 2 ≤ j
            · have hd1 : decide (2 ≤ (j : Int)) = true := by simp; omega
              by_cases c2 : j < X.size
              · have hd2 : decide ((j : Int) < (X.size : Int)) = true := by simp; omega
                rw [if_pos ⟨c1, c2⟩] at hlx
                have HL2 := Lib.hid hlx
                clear hlx
                go_wp2_with fail
                refine (at_in g k _ j 4 _ HSh.out.1 HL2.out).mono ?_
                rintro e w7 ⟨rfl, rfl⟩
                go_wp2_with fail
                go_roundg (X.size - (j + 1))
                case measure => rw [HG.out]; omega
                case rel => exact ⟨j + 1, by go_num, by omega, rfl, rfl⟩
              · exact absurd hlt c2
            · have hd1 : decide (2 ≤ (j : Int)) = false := by simp; omega
              rw [if_neg (fun h => c1 h.1)] at hlx
              have HL2 := Lib.hid hlx
              clear hlx
              go_wp2_with fail
              refine (at_in g k _ j 1 _ HSh.out.1 HL2.out).mono ?_
              rintro e w7 ⟨rfl, rfl⟩
              go_wp2_with fail
              go_roundg (X.size - (j + 1))
              case measure => rw [HG.out]; omega
              case rel => exact ⟨j + 1, by go_num, by omega, rfl, rfl⟩
          · obtain rfl : j = X.size := by omega
            have hd : decide ((X.size : Int) < (X.size : Int)) = false := by simp
            go_wp2_with fail
            go_ret
            exact ⟨rfl, HSh.out.2⟩
end Go.Proofs.YtkicpaodcmepmaaDoor.T
namespace Go.Proofs.YtkicpaodcmepmaaDoor.Wk.TexMath
open Go.RowKit Go.Proofs.YtkicpaodcmepmaaDoorW.PrintWords Go.Proofs.YtkicpaodcmepmaaDoor.T Go.Proofs.YtkicpaodcmepmaaDoor.S
theorem walk (a0 : Int) (A1 : Option Addr) (c1 : Nat) (l1 : List Int) (b2 : Bool) (w : World) (a1 a2 : Option Addr) (d1 d2 : Nat) (hT : Tb w a1 a2 d1 d2) (hw0 : (Lit.int .u8 a0).wf = true) (hr1 : Kd.C (Kd.int .u8) w A1 l1.length l1) (hc1 : l1.length ≤ c1) (hg1 : Bys l1 ∧ l1.length ≤ 140737488351232) :
    Calls Tryd.prog 6 #[.int .u8 a0, .slice A1 l1.length c1, .bool b2] w fun e w' => e = .returned (.bool true) ∧ Below w.heap.size w w' := by
  obtain ⟨n, rfl, hn⟩ := u8_of hw0
  exact texMath_any n A1 c1 l1 b2 w a1 a2 d1 d2 hT hn hr1 hg1.1 hg1.2
end Go.Proofs.YtkicpaodcmepmaaDoor.Wk.TexMath
