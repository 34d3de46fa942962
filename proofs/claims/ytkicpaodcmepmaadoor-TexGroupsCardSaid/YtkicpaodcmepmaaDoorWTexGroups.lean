/- The law TexGroups, walked: it answers true. Conditions: none. -/
import Derived.Test.YtkicpaodcmepmaaDoorTAw
import Derived.Test.YtkicpaodcmepmaaDoorTexGrpL
set_option linter.unusedVariables false
set_option linter.unusedSimpArgs false
namespace Go.Proofs.YtkicpaodcmepmaaDoor.T
open Go.RowKit Go.Proofs.YtkicpaodcmepmaaDoorW.PrintWords Go.Proofs.YtkicpaodcmepmaaDoorW.PrintMore Go.Proofs.YtkicpaodcmepmaaDoor.L Go.Proofs.YtkicpaodcmepmaaDoor.S Go.Proofs.YtkicpaodcmepmaaDoor.Tex

theorem at_strsG (l : List ByteArray) (r : Nat) (h : r < l.length) : ((l.map Value.string).toArray : Array Value)[r]? = some (.string (l.getD r ByteArray.empty)) := by
  simp [List.getElem?_eq_getElem h, List.getD_eq_getElem?_getD]
theorem bt_getG (s : ByteArray) (p : Nat) (h : p < s.size) : bt s (p : Int) = (bytesOf s).getD p 0 := by
  unfold bt bytesOf
  rw [dif_pos (show ((p : Int)).toNat < s.size from h)]
  have h' : p < s.data.toList.length := by rw [data_length]; exact h
  rw [List.getD_eq_getElem?_getD, List.getElem?_map, List.getElem?_eq_getElem h']
  rfl
theorem ix_atG (s : ByteArray) (p : Nat) (h : p < s.size) : ∀ w : World, (Instr.index 9 (.string s) (.int .i64 (p : Int))).run Tryd.prog w = .ok (.int .u8 ((bytesOf s).getD p 0)) w := by
  intro w
  have h1 : (p : Int) < (s.size : Int) := by omega
  rw [← bt_getG s p h]
  have hb := bt_at s (p : Int)
  go_simp
  exact hb h
def gN (q : Nat) : ByteArray := [(⟨#[99, 105, 116, 101]⟩ : ByteArray), ⟨#[114, 101, 102]⟩, ⟨#[108, 97, 98, 101, 108]⟩, ⟨#[105, 110, 112, 117, 116]⟩, ⟨#[117, 115, 101, 112, 97, 99, 107, 97, 103, 101]⟩, ⟨#[101, 109, 112, 104]⟩, ⟨#[99, 105, 116, 101, 115]⟩].getD q ByteArray.empty
theorem gN_ok (q : Nat) (h : q < 7) : bytesOf (gN q) = gNm q ∧ 3 ≤ (gN q).size ∧ (gN q).size ≤ 10 := by
  have hc : q = 0 ∨ q = 1 ∨ q = 2 ∨ q = 3 ∨ q = 4 ∨ q = 5 ∨ q = 6 := by omega
  rcases hc with rfl | rfl | rfl | rfl | rfl | rfl | rfl
  all_goals exact ⟨rfl, by decide, by decide⟩
theorem rep_snoc (n : Nat) (o : Int) : List.replicate (n + 1) o = List.replicate n o ++ [o] := List.replicate_succ'

set_option maxRecDepth 100000 in
set_option maxHeartbeats 4000000 in
theorem texGroups_any (f e2 m2 : Nat) (E : Bool) (W : World) (a1 a2 : Option Addr) (d1 d2 : Nat) (hT : Tb W a1 a2 d1 d2) (hf : f < 256) (he2 : e2 < 256) (hm2 : m2 < 256) :
    Calls Tryd.prog 7 #[.int .u8 f, .int .u8 e2, .int .u8 m2, .bool E] W fun e w' => e = .returned (.bool true) ∧ Below W.heap.size W w' := by
  have HTb := Lib.hid hT
  clear hT
  go_enter Tryd.func7, Tryd.ntmps7
  go_wp2_with fail
  refine (awake_any _ a1 a2 d1 d2 HTb.out).mono ?_
  rintro e w1 ⟨rfl, hb1⟩
  have H1 := Lib.hid hb1
  clear hb1
  go_upto_region 3 with fail
  obtain ⟨z, hz⟩ : ∃ z : Nat, (e2 : Int) % 36 = (z : Int) := ⟨e2 % 36, by omega⟩
  have hz36 : z < 36 := by omega
  obtain ⟨n, hn⟩ : ∃ n : Nat, 1 + (z : Int) = (n : Int) := ⟨1 + z, by omega⟩
  have hn1 : 1 ≤ n := by omega
  have hn36 : n ≤ 36 := by omega
  obtain ⟨q, hq⟩ : ∃ q : Nat, (f : Int) % 7 = (q : Int) := ⟨f % 7, by omega⟩
  have hq7 : q < 7 := by omega
  go_upto_region 4 with fail
  clear hn hz
  clear hz36
  go_cut [10] (fun kv wx => kv = .string (gN q) ∧ Hid (Below W.heap.size W wx))
  case first =>
    have hcell : (w1.alloc (.cells #[.string ⟨#[99, 105, 116, 101]⟩, .string ⟨#[114, 101, 102]⟩, .string ⟨#[108, 97, 98, 101, 108]⟩, .string ⟨#[105, 110, 112, 117, 116]⟩, .string ⟨#[117, 115, 101, 112, 97, 99, 107, 97, 103, 101]⟩, .string ⟨#[101, 109, 112, 104]⟩, .string ⟨#[99, 105, 116, 101, 115]⟩] 9 (0, 0))).cell? ⟨w1.heap.size, q, none⟩ = some (.string (gN q)) := by
      rw [blk_cell (blk_new w1 _)]
      exact at_strsG [(⟨#[99, 105, 116, 101]⟩ : ByteArray), ⟨#[114, 101, 102]⟩, ⟨#[108, 97, 98, 101, 108]⟩, ⟨#[105, 110, 112, 117, 116]⟩, ⟨#[117, 115, 101, 112, 97, 99, 107, 97, 103, 101]⟩, ⟨#[101, 109, 112, 104]⟩, ⟨#[99, 105, 116, 101, 115]⟩] q hq7
    go_wp2_with fail
    go_meet
    exact ⟨rfl, below_alloc H1.out _⟩
  case rest =>
  obtain ⟨rfl, H2⟩ := hcut
  clear H1
  have HN := Lib.hid (gN_ok q hq7).1
  have hN3 := (gN_ok q hq7).2.1
  have hN10 := (gN_ok q hq7).2.2
  generalize gN q = N at *
  go_upto_if 33 with fail
  go_cut [11, 12] (fun v1 v2 wx => ∃ (o s : Int) (O S : ByteArray), v1 = .string O ∧ v2 = .string S ∧ O.size = 1 ∧ S.size = 1 ∧ Hid (wx = wc ∧ Pair o s ∧ bytesOf O = [o] ∧ bytesOf S = [s]))
  case first =>
    cases E with
    | true =>
      go_wp2_with fail
      go_meet
      exact ⟨91, 93, _, _, rfl, rfl, rfl, rfl, rfl, .inr ⟨rfl, rfl⟩, rfl, rfl⟩
    | false =>
      go_wp2_with fail
      go_meet
      exact ⟨123, 125, _, _, rfl, rfl, rfl, rfl, rfl, .inl ⟨rfl, rfl⟩, rfl, rfl⟩
  case rest =>
  obtain ⟨o, s, O, S, rfl, rfl, hO1, hS1, HP⟩ := hcut
  have hO2 : O.size ≤ 1 := by omega
  have hS2 : S.size ≤ 1 := by omega
  have HOS := Lib.hid (And.intro hO1 hS1)
  clear hO1 hS1
  have HW := Lib.hid (show Below W.heap.size W wc from by have := HP.out.1; subst this; exact H2.out)
  have HP2 := Lib.hid HP.out.2
  clear HP H2
  go_upto_block 0 with fail
  go_wp2_with fail
  go_loopg [13, 35] n (fun gn v iv wr => ∃ (j : Nat) (U : ByteArray), v = .string U ∧ iv = .int .i64 j ∧ j ≤ n ∧ U.size ≤ j ∧ Hid (bytesOf U = List.replicate j o ∧ wr = wc ∧ gn = n - j))
  case atStart => exact ⟨0, _, rfl, rfl, Nat.zero_le _, by decide, rfl, rfl, rfl⟩
  case round =>
  obtain ⟨j, U, rfl, rfl, hj, hU, HJ⟩ := hrel
  obtain ⟨hb, rfl, hg⟩ := HJ.out
  have HJ2 := Lib.hid (And.intro hb hg)
  clear HJ hb hg
  by_cases hlt : j < n
  · have hd : decide ((j : Int) < (n : Int)) = true := by simp; omega
    go_wp2_with fail
    go_roundg (n - (j + 1))
    case measure => have := HJ2.out.2; omega
    case rel =>
      refine ⟨j + 1, _, rfl, by go_num, by omega, ?_, ?_, rfl, rfl⟩
      · rw [ByteArray.size_append]; omega
      · rw [bytesOf_append, HJ2.out.1, HP2.out.2.1, rep_snoc]
  obtain rfl : j = n := by omega
  have hd : decide ((j : Int) < (j : Int)) = false := by simp
  have HU := Lib.hid HJ2.out.1
  have hU36 : U.size ≤ 36 := by omega
  clear HJ2 hU
  go_upto_block 2 with fail
  go_wp2_with fail
  go_loopg [13, 44] j (fun gn v iv wr2 => ∃ (i : Nat) (V : ByteArray), v = .string V ∧ iv = .int .i64 i ∧ i ≤ j ∧ V.size ≤ 37 + i ∧ Hid (bytesOf V = List.replicate j o ++ [119] ++ List.replicate i s ∧ wr2 = wr ∧ gn = j - i))
  case atStart =>
    refine ⟨0, _, rfl, rfl, Nat.zero_le _, ?_, ?_, rfl, rfl⟩
    · rw [ByteArray.size_append]
      have e1 : (⟨#[119]⟩ : ByteArray).size = 1 := rfl
      omega
    · rw [bytesOf_append, HU.out]; simp; rfl
  case round =>
  obtain ⟨i, V, rfl, rfl, hi, hV, HJ⟩ := hrel
  obtain ⟨hb, rfl, hg⟩ := HJ.out
  have HJ2 := Lib.hid (And.intro hb hg)
  clear HJ hb hg
  by_cases hlt2 : i < j
  · have hd : decide ((i : Int) < (j : Int)) = true := by simp; omega
    go_wp2_with fail
    go_roundg (j - (i + 1))
    case measure => have := HJ2.out.2; omega
    case rel =>
      refine ⟨i + 1, _, rfl, by go_num, by omega, ?_, ?_, rfl, rfl⟩
      · rw [ByteArray.size_append]; omega
      · rw [bytesOf_append, HJ2.out.1, HP2.out.2.2, rep_snoc, ← List.append_assoc]
  obtain rfl : i = j := by omega
  have HV := Lib.hid (show bytesOf V = oneT o s i from HJ2.out.1)
  have hV73 : V.size ≤ 73 := by omega
  clear HJ2 hV HU hU36
  obtain ⟨m, hm⟩ : ∃ m : Nat, (m2 : Int) % 4 = (m : Int) := ⟨m2 % 4, by omega⟩
  have hm4 : m < 4 := by omega
  have hz1 : (9223372036854775807 < 1 + N.size) = False := by simp; omega
  obtain ⟨fr, hfr⟩ : ∃ t : Nat, 1 + (N.size : Int) = (t : Int) := ⟨1 + N.size, by omega⟩
  have HF := Lib.hid (show fr = (gNm q).length + 1 from by have := HN.out; rw [← this, bytesOf_length]; omega)
  have hfr11 : fr ≤ 11 := by omega
  go_upto_block 4 with fail
  clear hfr
  go_wp2_with fail
  go_loopg [14, 56] m (fun gn v iv wr2 => ∃ (k : Nat) (X : ByteArray), v = .string X ∧ iv = .int .u8 k ∧ k ≤ m ∧ X.size ≤ 11 + 73 * k ∧ Hid (bytesOf X = [92] ++ gNm q ++ manyT o s i k ∧ wr2 = wr ∧ gn = m - k))
  case atStart =>
    refine ⟨0, _, rfl, rfl, Nat.zero_le _, ?_, ?_, rfl, rfl⟩
    · rw [ByteArray.size_append]
      have e1 : (⟨#[92]⟩ : ByteArray).size = 1 := rfl
      omega
    · rw [bytesOf_append, HN.out]; unfold manyT; simp; rfl
  case round =>
  obtain ⟨k, X0, rfl, rfl, hk, hX0, HJ⟩ := hrel
  obtain ⟨hb, rfl, hg⟩ := HJ.out
  have HJ2 := Lib.hid (And.intro hb hg)
  clear HJ hb hg
  have hX400 : X0.size ≤ 400 := by omega
  by_cases hlt3 : k < m
  · have hd : decide ((k : Int) < (m : Int)) = true := by simp; omega
    go_wp2_with fail
    go_roundg (m - (k + 1))
    case measure => have := HJ2.out.2; omega
    case rel =>
      refine ⟨k + 1, _, rfl, by go_num, by omega, ?_, ?_, rfl, rfl⟩
      · rw [ByteArray.size_append]; omega
      · rw [bytesOf_append, HJ2.out.1, HV.out, manyT_snoc, ← List.append_assoc]
  obtain rfl : k = m := by omega
  have hd3 : decide ((k : Int) < (k : Int)) = false := by simp
  have hz2 : (9223372036854775807 < X0.size + 2) = False := by simp; omega
  obtain ⟨X, hX⟩ : ∃ X, (X0 ++ ⟨#[32, 118]⟩ : ByteArray) = X := ⟨_, rfl⟩
  have hXb : bytesOf X = grpT (gNm q) o s i k := by rw [← hX, bytesOf_append, HJ2.out.1]; rfl
  have hXs : X.size ≤ 402 := by rw [← hX, ByteArray.size_append]; have e1 : (⟨#[32, 118]⟩ : ByteArray).size = 2 := rfl; omega
  obtain ⟨B, hB⟩ : ∃ B : Bool, B = decide (q < 5 ∧ i ≤ 32) := ⟨_, rfl⟩
  have HB := Lib.hid hB
  have HLx := Lib.hid (show (∀ j, fr ≤ j → j + 2 < X.size → ((bytesOf X).getD j 0 = 123 ∨ (bytesOf X).getD j 0 = 125 ∨ (bytesOf X).getD j 0 = 91 ∨ (bytesOf X).getD j 0 = 93 ∨ (bytesOf X).getD j 0 = 119) ∧ (lexL (bytesOf X))[j]? = some (if B = true ∨ isMk ((bytesOf X).getD j 0) = true then 2 else 1)) ∧ (lexL (bytesOf X))[X.size - 1]? = some 1 ∧ (lexL (bytesOf X))[0]? = some 2 ∧ 3 ≤ X.size ∧ fr + 2 ≤ X.size from by
    have h := groups_lex q hq7 o s HP2.out.1 i k hn1
    have hl : (grpT (gNm q) o s i k).length = X.size := by rw [← hXb, bytesOf_length]
    simp only [] at h
    rw [hl, ← hXb] at h
    have hfl : fr + 2 ≤ X.size := by
      have hx : X.size = (grpT (gNm q) o s i k).length := hl.symm
      have hf := HF.out
      unfold grpT at hx
      simp at hx
      omega
    refine ⟨fun j h1 h2 => ?_, h.2.1, h.2.2.1, h.2.2.2, hfl⟩
    have hj := h.1 j (by have := HF.out; omega) h2
    refine ⟨?_, ?_⟩
    · rcases HP2.out.1 with ⟨rfl, rfl⟩ | ⟨rfl, rfl⟩ <;> have := hj.1 <;> omega
    · rw [hj.2]
      congr 1
      by_cases hc : q < 5 ∧ i ≤ 32
      · have hBt : B = true := by rw [hB]; exact decide_eq_true hc
        rw [if_pos (.inl hc), if_pos (.inl hBt)]
      · have hBt : ¬ B = true := by rw [hB]; simp; omega
        by_cases hk2 : isMk ((bytesOf X).getD j 0) = true
        · rw [if_pos (.inr hk2), if_pos (.inr hk2)]
        · rw [if_neg (fun e => e.elim hc hk2), if_neg (fun e => e.elim hBt hk2)])
  clear hB hXb HJ2 hX0 hX400
  have hX3 : 3 ≤ X.size := HLx.out.2.2.2.1
  have hXf : fr + 2 ≤ X.size := HLx.out.2.2.2.2
  have kc := conv_run X
  have HCv := Lib.hid (conv_C wr X (by omega))
  go_upto_region 25 with fail

  clear hX hz2 hz1
  go_wp2_with fail
  refine (lex_any _ X.size _ _ _ a1 a2 d1 d2 (HTb.out.below (bytes_below HW.out HW.out.size _ _)) HCv.out (grownCap_ge _ _ _ _) (Bys.of X) (by omega)).mono ?_
  rintro e w6 ⟨g, k2, rfl, hs, hb6, _, _⟩
  have HSh := Lib.hid (And.intro hs (below_step (bytes_below HW.out HW.out.size _ _) hb6))
  clear hs hb6 HCv kc HW
  go_upto_region 26 with fail
  go_cut [18] (fun v wx => v = .bool B ∧ Hid (wx = w6))
  case first =>
    by_cases h5 : q < 5
    · have hq5 : decide ((q : Int) < 5) = true := by simp; omega
      by_cases h32 : i ≤ 32
      · have hi32 : decide ((i : Int) ≤ 32) = true := by simp; omega
        obtain rfl : B = true := by rw [HB.out]; exact decide_eq_true ⟨h5, h32⟩
        go_wp2_with fail
        go_meet
        exact ⟨rfl, rfl⟩
      · have hi32 : decide ((i : Int) ≤ 32) = false := by simp; omega
        obtain rfl : B = false := by rw [HB.out]; exact decide_eq_false (fun e => h32 e.2)
        go_wp2_with fail
        go_meet
        exact ⟨rfl, rfl⟩
    · have hq5 : decide ((q : Int) < 5) = false := by simp; omega
      obtain rfl : B = false := by rw [HB.out]; exact decide_eq_false (fun e => h5 e.1)
      go_wp2_with fail
      go_meet
      exact ⟨rfl, rfl⟩
  case rest =>
  obtain ⟨rfl, HWc⟩ := hcut
  obtain rfl := HWc.out
  clear HWc
  clear HB
  go_upto_block 6 with fail
  go_wp2_with fail
  go_loopg [19] (X.size - fr) (fun gn iv wr2 => ∃ j : Nat, iv = .int .i64 j ∧ fr ≤ j ∧ j + 2 ≤ X.size ∧ Hid (wr2 = wc ∧ gn = X.size - j))
  case atStart => exact ⟨fr, rfl, Nat.le_refl _, hXf, rfl, rfl⟩
  case round =>
  obtain ⟨j, rfl, hj1, hj2, HQ⟩ := hrel
  obtain ⟨rfl, hq2⟩ := HQ.out
  have HG := Lib.hid hq2
  clear HQ hq2
  by_cases hlt4 : j + 2 < X.size
  · have hd4 : decide ((j : Int) < (X.size : Int) - 2) = true := by simp; omega
    obtain ⟨hy5, hlx⟩ := HLx.out.1 j hj1 hlt4
    have hix := ix_atG X j (by omega)
    generalize (bytesOf X).getD j 0 = y at *
    rcases hy5 with rfl | rfl | rfl | rfl | rfl
    · cases B with
      | true =>
        have HL2 := Lib.hid (show (lexL (bytesOf X))[j]? = some 2 from by rw [hlx]; rfl)
        clear hlx
        go_wp2_with fail
        refine (at_in g k2 _ j 2 _ HSh.out.1 HL2.out).mono ?_
        rintro e w7 ⟨rfl, rfl⟩
        go_wp2_with fail
        go_roundg (X.size - (j + 1))
        case measure => rw [HG.out]; omega
        case rel => exact ⟨j + 1, by go_num, by omega, by omega, rfl, rfl⟩
      | false =>
        have HL2 := Lib.hid (show (lexL (bytesOf X))[j]? = some 2 from by rw [hlx]; rfl)
        clear hlx
        go_wp2_with fail
        refine (at_in g k2 _ j 2 _ HSh.out.1 HL2.out).mono ?_
        rintro e w7 ⟨rfl, rfl⟩
        go_wp2_with fail
        go_roundg (X.size - (j + 1))
        case measure => rw [HG.out]; omega
        case rel => exact ⟨j + 1, by go_num, by omega, by omega, rfl, rfl⟩
    · cases B with
      | true =>
        have HL2 := Lib.hid (show (lexL (bytesOf X))[j]? = some 2 from by rw [hlx]; rfl)
        clear hlx
        go_wp2_with fail
        refine (at_in g k2 _ j 2 _ HSh.out.1 HL2.out).mono ?_
        rintro e w7 ⟨rfl, rfl⟩
        go_wp2_with fail
        go_roundg (X.size - (j + 1))
        case measure => rw [HG.out]; omega
        case rel => exact ⟨j + 1, by go_num, by omega, by omega, rfl, rfl⟩
      | false =>
        have HL2 := Lib.hid (show (lexL (bytesOf X))[j]? = some 2 from by rw [hlx]; rfl)
        clear hlx
        go_wp2_with fail
        refine (at_in g k2 _ j 2 _ HSh.out.1 HL2.out).mono ?_
        rintro e w7 ⟨rfl, rfl⟩
        go_wp2_with fail
        go_roundg (X.size - (j + 1))
        case measure => rw [HG.out]; omega
        case rel => exact ⟨j + 1, by go_num, by omega, by omega, rfl, rfl⟩
    · cases B with
      | true =>
        have HL2 := Lib.hid (show (lexL (bytesOf X))[j]? = some 2 from by rw [hlx]; rfl)
        clear hlx
        go_wp2_with fail
        refine (at_in g k2 _ j 2 _ HSh.out.1 HL2.out).mono ?_
        rintro e w7 ⟨rfl, rfl⟩
        go_wp2_with fail
        go_roundg (X.size - (j + 1))
        case measure => rw [HG.out]; omega
        case rel => exact ⟨j + 1, by go_num, by omega, by omega, rfl, rfl⟩
      | false =>
        have HL2 := Lib.hid (show (lexL (bytesOf X))[j]? = some 1 from by rw [hlx]; rfl)
        clear hlx
        go_wp2_with fail
        refine (at_in g k2 _ j 1 _ HSh.out.1 HL2.out).mono ?_
        rintro e w7 ⟨rfl, rfl⟩
        go_wp2_with fail
        go_roundg (X.size - (j + 1))
        case measure => rw [HG.out]; omega
        case rel => exact ⟨j + 1, by go_num, by omega, by omega, rfl, rfl⟩
    · cases B with
      | true =>
        have HL2 := Lib.hid (show (lexL (bytesOf X))[j]? = some 2 from by rw [hlx]; rfl)
        clear hlx
        go_wp2_with fail
        refine (at_in g k2 _ j 2 _ HSh.out.1 HL2.out).mono ?_
        rintro e w7 ⟨rfl, rfl⟩
        go_wp2_with fail
        go_roundg (X.size - (j + 1))
        case measure => rw [HG.out]; omega
        case rel => exact ⟨j + 1, by go_num, by omega, by omega, rfl, rfl⟩
      | false =>
        have HL2 := Lib.hid (show (lexL (bytesOf X))[j]? = some 1 from by rw [hlx]; rfl)
        clear hlx
        go_wp2_with fail
        refine (at_in g k2 _ j 1 _ HSh.out.1 HL2.out).mono ?_
        rintro e w7 ⟨rfl, rfl⟩
        go_wp2_with fail
        go_roundg (X.size - (j + 1))
        case measure => rw [HG.out]; omega
        case rel => exact ⟨j + 1, by go_num, by omega, by omega, rfl, rfl⟩
    · cases B with
      | true =>
        have HL2 := Lib.hid (show (lexL (bytesOf X))[j]? = some 2 from by rw [hlx]; rfl)
        clear hlx
        go_wp2_with fail
        refine (at_in g k2 _ j 2 _ HSh.out.1 HL2.out).mono ?_
        rintro e w7 ⟨rfl, rfl⟩
        go_wp2_with fail
        go_roundg (X.size - (j + 1))
        case measure => rw [HG.out]; omega
        case rel => exact ⟨j + 1, by go_num, by omega, by omega, rfl, rfl⟩
      | false =>
        have HL2 := Lib.hid (show (lexL (bytesOf X))[j]? = some 1 from by rw [hlx]; rfl)
        clear hlx
        go_wp2_with fail
        refine (at_in g k2 _ j 1 _ HSh.out.1 HL2.out).mono ?_
        rintro e w7 ⟨rfl, rfl⟩
        go_wp2_with fail
        go_roundg (X.size - (j + 1))
        case measure => rw [HG.out]; omega
        case rel => exact ⟨j + 1, by go_num, by omega, by omega, rfl, rfl⟩
  · obtain ⟨t, ht⟩ : ∃ t : Nat, (X.size : Int) - 1 = (t : Int) := ⟨X.size - 1, by omega⟩
    have hd4 : decide ((j : Int) < (X.size : Int) - 2) = false := by simp; omega
    have HL1 := Lib.hid (show (lexL (bytesOf X))[t]? = some 1 from by have := HLx.out.2.1; rw [show t = X.size - 1 by omega]; exact this)
    have HL0 := Lib.hid HLx.out.2.2.1
    go_wp2_with fail
    refine (at_in g k2 _ t 1 _ HSh.out.1 HL1.out).mono ?_
    rintro e w7 ⟨rfl, rfl⟩
    go_wp2_with fail
    refine (at_in g k2 _ 0 2 _ HSh.out.1 HL0.out).mono ?_
    rintro e w7 ⟨rfl, rfl⟩
    go_wp2_with fail
    go_ret
    exact ⟨rfl, HSh.out.2⟩
end Go.Proofs.YtkicpaodcmepmaaDoor.T
namespace Go.Proofs.YtkicpaodcmepmaaDoor.Wk.TexGroups
open Go.RowKit Go.Proofs.YtkicpaodcmepmaaDoorW.PrintWords Go.Proofs.YtkicpaodcmepmaaDoor.T Go.Proofs.YtkicpaodcmepmaaDoor.S
theorem walk (x0 x1 x2 : Int) (b3 : Bool) (w : World) (a1 a2 : Option Addr) (d1 d2 : Nat) (hT : Tb w a1 a2 d1 d2) (hw0 : (Lit.int .u8 x0).wf = true) (hw1 : (Lit.int .u8 x1).wf = true) (hw2 : (Lit.int .u8 x2).wf = true) :
    Calls Tryd.prog 7 #[.int .u8 x0, .int .u8 x1, .int .u8 x2, .bool b3] w fun e w' => e = .returned (.bool true) ∧ Below w.heap.size w w' := by
  obtain ⟨n0, rfl, hn0⟩ := u8_of hw0
  obtain ⟨n1, rfl, hn1⟩ := u8_of hw1
  obtain ⟨n2, rfl, hn2⟩ := u8_of hw2
  exact texGroups_any n0 n1 n2 b3 w a1 a2 d1 d2 hT hn0 hn1 hn2
end Go.Proofs.YtkicpaodcmepmaaDoor.Wk.TexGroups
