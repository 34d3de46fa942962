/- The law TexVerbatim, walked: it answers true. Conditions: none. -/
import Derived.Test.YtkicpaodcmepmaaDoorTAw
import Derived.Test.YtkicpaodcmepmaaDoorTexVrbL
set_option linter.unusedVariables false
set_option linter.unusedSimpArgs false
namespace Go.Proofs.YtkicpaodcmepmaaDoor.T
open Go.RowKit Go.Proofs.YtkicpaodcmepmaaDoorW.PrintWords Go.Proofs.YtkicpaodcmepmaaDoorW.PrintMore Go.Proofs.YtkicpaodcmepmaaDoor.L Go.Proofs.YtkicpaodcmepmaaDoor.S Go.Proofs.YtkicpaodcmepmaaDoor.Tex

theorem at_strsV (l : List ByteArray) (r : Nat) (h : r < l.length) : ((l.map Value.string).toArray : Array Value)[r]? = some (.string (l.getD r ByteArray.empty)) := by
  simp [List.getElem?_eq_getElem h, List.getD_eq_getElem?_getD]
def vN (q : Nat) : ByteArray := [(⟨#[97, 108, 105, 103, 110]⟩ : ByteArray), ⟨#[97, 108, 105, 103, 110, 42]⟩, ⟨#[101, 113, 117, 97, 116, 105, 111, 110]⟩, ⟨#[101, 113, 117, 97, 116, 105, 111, 110, 42]⟩, ⟨#[108, 115, 116, 108, 105, 115, 116, 105, 110, 103]⟩, ⟨#[118, 101, 114, 98, 97, 116, 105, 109]⟩].getD q ByteArray.empty
theorem vN_ok (q : Nat) (h : q < 6) : bytesOf (vN q) ∈ wholeN ∧ 5 ≤ (vN q).size ∧ (vN q).size ≤ 10 := by
  have hc : q = 0 ∨ q = 1 ∨ q = 2 ∨ q = 3 ∨ q = 4 ∨ q = 5 := by omega
  rcases hc with rfl | rfl | rfl | rfl | rfl | rfl
  all_goals exact ⟨by decide, by decide, by decide⟩
/-- The bytes butM three. -/
def cln (l : List Int) : List Int := l.filter (fun c => c != 92 && c != 91 && c != 123)
theorem cln_snoc (l : List Int) (j : Nat) (h : j < l.length) : cln (l.take (j + 1)) = if l.getD j 0 = 92 ∨ l.getD j 0 = 91 ∨ l.getD j 0 = 123 then cln (l.take j) else cln (l.take j) ++ [l.getD j 0] := by
  have e : l.take (j + 1) = l.take j ++ [l.getD j 0] := by
    rw [List.take_add_one, List.getElem?_eq_getElem h, List.getD_eq_getElem?_getD, List.getElem?_eq_getElem h]; rfl
  unfold cln
  rw [e, List.filter_append]
  generalize l.getD j 0 = x
  by_cases h1 : x = 92 ∨ x = 91 ∨ x = 123
  · rw [if_pos h1]
    rcases h1 with rfl | rfl | rfl <;> simp
  · rw [if_neg h1]
    have : (x != 92 && x != 91 && x != 123) = true := by simp; omega
    rw [List.filter_cons, if_pos this, List.filter_nil]
theorem cln_le (l : List Int) : (cln l).length ≤ l.length := List.length_filter_le _ _
theorem cln_ok (l : List Int) : Cln (cln l) := fun c hc => by
  have := (List.mem_filter.1 hc).2
  simp at this
  exact ⟨this.1.1, this.1.2, this.2⟩
theorem cln_bys (l : List Int) (h : Bys l) : Bys (cln l) := fun x hx => h x (List.mem_filter.1 hx).1

set_option maxRecDepth 100000 in
set_option maxHeartbeats 4000000 in
theorem texVerb_any (A : Option Addr) (c : Nat) (l : List Int) (f : Nat) (E : Bool) (W : World) (a1 a2 : Option Addr) (d1 d2 : Nat) (hT : Tb W a1 a2 d1 d2) (hf : f < 256) (hC : Kd.C (Kd.int .u8) W A l.length l) (hb : Bys l) (hl : l.length ≤ 140737488351232) :
    Calls Tryd.prog 5 #[.slice A l.length c, .int .u8 f, .bool E] W fun e w' => e = .returned (.bool true) ∧ Below W.heap.size W w' := by
  have HTb := Lib.hid hT
  have HA := Lib.hid hC
  have HY := Lib.hid hb
  clear hT hC hb
  go_enter Tryd.func5, Tryd.ntmps5
  go_wp2_with fail
  refine (awake_any _ a1 a2 d1 d2 HTb.out).mono ?_
  rintro e w1 ⟨rfl, hb1⟩
  have H1 := Lib.hid hb1
  clear hb1
  by_cases hbig : 500 < l.length
  · have h3 : decide ((500 : Int) < (l.length : Int)) = true := by simp; omega
    go_wp2_with fail
    go_ret
    exact ⟨rfl, H1.out⟩
  have h3 : decide ((500 : Int) < (l.length : Int)) = false := by simp; omega
  go_wp2_with fail
  go_loopg [7, 25] l.length (fun gn v iv wr => ∃ j : Nat, iv = .int .i64 j ∧ j ≤ l.length ∧ Hid (Ob W wr v (cln (l.take j)) ∧ gn = l.length - j))
  case atStart => exact ⟨0, rfl, Nat.zero_le _, ⟨World.ownsRow_nil _ _ _ _, H1.out⟩, rfl⟩
  case round =>
    obtain ⟨j, rfl, hj, HQ⟩ := hrel
    clear H1
    obtain ⟨A1, c1, rfl, hcc, _⟩ := HQ.out.1.form
    by_cases hlt : j < l.length
    · have hd : decide ((j : Int) < (l.length : Int)) = true := by simp; omega
      have hsn := cln_snoc l j hlt
      obtain ⟨ad, rfl, hcell0⟩ := Kd.at_int (Kd.C_below HA.out HQ.out.1.bel) (j : Int) (by omega) (by omega)
      have hcell : wr.cell? (ad.add j) = some (.int .u8 (l.getD j 0)) := hcell0
      clear hcell0
      have hle := cln_le (l.take j)
      rw [List.length_take] at hle
      generalize l.getD j 0 = x at *
      have HSn := Lib.hid hsn
      clear hsn
      by_cases hx : x = 92
      · have hy1 : (x != 92) = false := by simp [hx]
        go_wp2_with fail
        go_roundg (l.length - (j + 1))
        case measure => have := HQ.out.2; omega
        case rel => exact ⟨j + 1, by go_num, by omega, by rw [HSn.out, if_pos (by omega)]; exact HQ.out.1, rfl⟩
      · by_cases hx1 : x = 91
        · have hy1 : (x != 92) = true := by simp [hx]
          have hy2 : (x != 91) = false := by simp [hx1]
          go_wp2_with fail
          go_roundg (l.length - (j + 1))
          case measure => have := HQ.out.2; omega
          case rel => exact ⟨j + 1, by go_num, by omega, by rw [HSn.out, if_pos (by omega)]; exact HQ.out.1, rfl⟩
        · by_cases hx2 : x = 123
          · have hy1 : (x != 92) = true := by simp [hx]
            have hy2 : (x != 91) = true := by simp [hx1]
            have hy3 : (x != 123) = false := by simp [hx2]
            go_wp2_with fail
            go_roundg (l.length - (j + 1))
            case measure => have := HQ.out.2; omega
            case rel => exact ⟨j + 1, by go_num, by omega, by rw [HSn.out, if_pos (by omega)]; exact HQ.out.1, rfl⟩
          · have hy1 : (x != 92) = true := by simp [hx]
            have hy2 : (x != 91) = true := by simp [hx1]
            have hy3 : (x != 123) = true := by simp [hx2]
            have HX := Lib.hid (And.intro hx (And.intro hx1 hx2))
            clear hx hx1 hx2
            go_wp2_with (at_builtin; refine print_append_num (w0 := W) W.heap.size rfl _ _ 22 5 .u8 1 rfl Tryd.underlying22 S.info5 (by decide) (.slice A1 (cln (l.take j)).length c1) (cln (l.take j)) x rfl rfl HQ.out.1.own HQ.out.1.bel HQ.out.1.bel.size (by omega) ?_; intro v1 w1 ho hb1 _ _; have HI := Lib.hid (And.intro ho hb1); clear ho hb1)
            go_roundg (l.length - (j + 1))
            case measure => have := HQ.out.2; omega
            case rel => exact ⟨j + 1, by go_num, by omega, by rw [HSn.out, if_neg (by have := HX.out; omega)]; exact ⟨HI.out.1, HI.out.2⟩, rfl⟩
    · obtain rfl : j = l.length := by omega
      have hd : decide ((l.length : Int) < (l.length : Int)) = false := by simp
      have HO := HQ.out.1
      rw [List.take_length] at HO hcc ⊢
      have HO := Lib.hid HO
      have hcl := cln_le l
      have HCl := Lib.hid (And.intro (cln_ok l) (cln_bys l HY.out))
      clear HQ
      generalize cln l = C at *
      go_upto_region 12 with fail
      obtain ⟨r, hr⟩ : ∃ r : Nat, (f : Int) % 6 = (r : Int) := ⟨f % 6, by omega⟩
      have hr6 : r < 6 := by omega
      have HR := Lib.hid hr
      clear hr
      go_cut [10] (fun kv wx => kv = .string (vN r) ∧ Hid (Ob W wx (.slice A1 C.length c1) C))
      case first =>
        have hr := HR.out
        have hcell : (wr.alloc (.cells #[.string ⟨#[97, 108, 105, 103, 110]⟩, .string ⟨#[97, 108, 105, 103, 110, 42]⟩, .string ⟨#[101, 113, 117, 97, 116, 105, 111, 110]⟩, .string ⟨#[101, 113, 117, 97, 116, 105, 111, 110, 42]⟩, .string ⟨#[108, 115, 116, 108, 105, 115, 116, 105, 110, 103]⟩, .string ⟨#[118, 101, 114, 98, 97, 116, 105, 109]⟩] 9 (0, 0))).cell? ⟨wr.heap.size, r, none⟩ = some (.string (vN r)) := by
          rw [blk_cell (blk_new wr _)]
          exact at_strsV [(⟨#[97, 108, 105, 103, 110]⟩ : ByteArray), ⟨#[97, 108, 105, 103, 110, 42]⟩, ⟨#[101, 113, 117, 97, 116, 105, 111, 110]⟩, ⟨#[101, 113, 117, 97, 116, 105, 111, 110, 42]⟩, ⟨#[108, 115, 116, 108, 105, 115, 116, 105, 110, 103]⟩, ⟨#[118, 101, 114, 98, 97, 116, 105, 109]⟩] r hr6
        go_wp2_with fail
        go_meet
        exact ⟨rfl, HO.out.alloc _⟩
      case rest =>
      obtain ⟨rfl, HO2⟩ := hcut
      clear HO
      have HN := Lib.hid (vN_ok r hr6).1
      have hN5 := (vN_ok r hr6).2.1
      have hN10 := (vN_ok r hr6).2.2
      generalize vN r = N at *
      have hKC : Kd.C (Kd.int .u8) wc A1 C.length C := by
        obtain ⟨A2, c2, e, _, h⟩ := HO2.out.form
        injection e with e1 e2 e3
        subst e1
        exact h
      have hcv : (convert 22 9 (.slice A1 C.length c1)).run Tryd.prog wc = .ok (.string (strOfNums C)) wc := Kd.C_string (P := Tryd.prog) (c := c1) Tryd.underlying22 Tryd.underlying5 Tryd.underlying9 hKC
      clear hKC
      have hss : (strOfNums C).size = C.length := strOfNums_size C
      have hbs : bytesOf (strOfNums C) = C := bytesOf_str C HCl.out.2
      have HY := Lib.hid hbs
      clear hbs
      generalize strOfNums C = Y at *
      have hY5 : Y.size ≤ 500 := by omega
      have HYs := Lib.hid hss
      clear hss
      have hz1 : (9223372036854775807 < 7 + N.size) = False := by simp; omega
      have hz2 : (9223372036854775807 < 7 + N.size + 1) = False := by simp; omega
      have hz3 : (9223372036854775807 < 7 + N.size + 1 + Y.size) = False := by simp; omega
      have hz4 : (9223372036854775807 < 5 + N.size) = False := by simp; omega
      have hz5 : (9223372036854775807 < 5 + N.size + 2) = False := by simp; omega
      have hz6 : (9223372036854775807 < 7 + N.size + 1 + Y.size + (5 + N.size + 2)) = False := by simp; omega
      have HB := Lib.hid HO2.out.bel
      obtain ⟨fr, hfr⟩ : ∃ t : Nat, 7 + (N.size : Int) + 1 = (t : Int) := ⟨N.size + 8, by omega⟩
      obtain ⟨to', hto⟩ : ∃ t : Nat, 7 + (N.size : Int) + 1 + (Y.size : Int) = (t : Int) := ⟨N.size + 8 + Y.size, by omega⟩
      have HF := Lib.hid (show fr = N.size + 8 ∧ to' = N.size + 8 + Y.size from ⟨by omega, by omega⟩)
      have hto2 : (fr : Int) + (Y.size : Int) = (to' : Int) := by omega
      cases E with
      | true =>
        go_upto_region 19 with fail
        obtain ⟨X, hX⟩ : ∃ X, (⟨#[92, 98, 101, 103, 105, 110, 123]⟩ ++ N ++ ⟨#[125]⟩ ++ Y ++ (⟨#[92, 101, 110, 100, 123]⟩ ++ N ++ ⟨#[125, 120]⟩) : ByteArray) = X := ⟨_, rfl⟩
        have hXb : bytesOf X = verbT (bytesOf N) C (shutT (bytesOf N) ++ [120]) := by
          rw [← hX]
          simp only [bytesOf_append, HY.out]
          unfold verbT begT shutT
          rw [List.append_assoc ([92, 101, 110, 100, 123] ++ bytesOf N)]
          rfl
        have hXs : X.size = N.size + Y.size + N.size + 15 := by rw [← hX]; simp only [ByteArray.size_append]; show 7 + N.size + 1 + Y.size + (5 + N.size + 2) = _; omega
        have HLx := Lib.hid (show ∀ i, i < X.size → (lexL (bytesOf X))[i]? = some (if i + 1 = X.size then 1 else if N.size + 8 ≤ i ∧ i < N.size + 8 + Y.size then 4 else 2) from fun i hi => by
          have h := verb_lex (bytesOf N) C HN.out HCl.out.1 true i
          rw [if_pos rfl, ← hXb, bytesOf_length, begT_len, bytesOf_length, ← HYs.out] at h
          rw [h hi]
          congr 1
          by_cases h : i + 1 = X.size
          · rw [if_pos h, if_pos ⟨h, rfl⟩]
          · rw [if_neg h, if_neg (fun e => h e.1)])
        have hX2000 : X.size ≤ 2000 := by omega
        have hX1 : N.size + Y.size + 15 ≤ X.size := by omega
        rw [hX]
        clear hX hXb hXs hz1 hz2 hz3 hz4 hz5 hz6 HO2 hcv
        have kc := conv_run X
        have HCv := Lib.hid (conv_C wc X (by omega))
        go_wp2_with fail
        refine (lex_any _ X.size _ _ _ a1 a2 d1 d2 (HTb.out.below (bytes_below HB.out HB.out.size _ _)) HCv.out (grownCap_ge _ _ _ _) (Bys.of X) (by omega)).mono ?_
        rintro e w6 ⟨g, k, rfl, hs, hb6, _, _⟩
        have HSh := Lib.hid (And.intro hs (below_step (bytes_below HB.out HB.out.size _ _) hb6))
        clear hs hb6 HCv kc HB
        go_upto_block 2 with fail
        go_wp2_with fail
        go_loopg [74] X.size (fun gn iv wr => ∃ j : Nat, iv = .int .i64 j ∧ j ≤ X.size ∧ Hid (wr = w6 ∧ gn = X.size - j))
        case atStart => exact ⟨0, rfl, Nat.zero_le _, rfl, rfl⟩
        case round =>
          obtain ⟨j, rfl, hj, HQ⟩ := hrel
          obtain ⟨rfl, hq⟩ := HQ.out
          have HG := Lib.hid hq
          clear HQ hq
          by_cases hlt : j < X.size
          · have hd : decide ((j : Int) < (X.size : Int)) = true := by simp; omega
            have hlx := HLx.out j hlt
            by_cases c3 : j + 1 = X.size
            · have hd3 : ((j : Int) == (X.size : Int) - 1) = true := by rw [beq_iff_eq]; omega
              have hd1 : decide ((fr : Int) ≤ (j : Int)) = true := by have := HF.out; simp; omega
              have hd2 : decide ((j : Int) < (to' : Int)) = false := by have := HF.out; simp; omega
              rw [if_pos c3] at hlx
              have HL2 := Lib.hid hlx
              clear hlx
              go_wp2_with fail
              refine (at_in g k _ j 1 _ HSh.out.1 HL2.out).mono ?_
              rintro e w7 ⟨rfl, rfl⟩
              go_wp2_with fail
              go_roundg (X.size - (j + 1))
              case measure => rw [HG.out]; omega
              case rel => exact ⟨j + 1, by go_num, by omega, rfl, rfl⟩
            · have hd3 : ((j : Int) == (X.size : Int) - 1) = false := by rw [beq_eq_false_iff_ne]; omega
              rw [if_neg c3] at hlx
              by_cases c1 : N.size + 8 ≤ j
              · have hd1 : decide ((fr : Int) ≤ (j : Int)) = true := by have := HF.out; simp; omega
                by_cases c2 : j < N.size + 8 + Y.size
                · have hd2 : decide ((j : Int) < (to' : Int)) = true := by have := HF.out; simp; omega
                  rw [if_pos ⟨c1, c2⟩] at hlx
                  have HL2 := Lib.hid hlx
                  clear hlx
                  go_wp2_with fail
                  refine (at_in g k _ j 4 _ HSh.out.1 HL2.out).mono ?_
                  rintro e w7 ⟨rfl, rfl⟩
                  go_wp2_with fail
                  go_roundg (X.size - (j + 1))
                  case measure => rw [HG.out]; omega
                  case rel => exact ⟨j + 1, by go_num, by omega, rfl, rfl⟩
                · have hd2 : decide ((j : Int) < (to' : Int)) = false := by have := HF.out; simp; omega
                  rw [if_neg (fun h => c2 h.2)] at hlx
                  have HL2 := Lib.hid hlx
                  clear hlx
                  go_wp2_with fail
                  refine (at_in g k _ j 2 _ HSh.out.1 HL2.out).mono ?_
                  rintro e w7 ⟨rfl, rfl⟩
                  go_wp2_with fail
                  go_roundg (X.size - (j + 1))
                  case measure => rw [HG.out]; omega
                  case rel => exact ⟨j + 1, by go_num, by omega, rfl, rfl⟩
              · have hd1 : decide ((fr : Int) ≤ (j : Int)) = false := by have := HF.out; simp; omega
                rw [if_neg (fun h => c1 h.1)] at hlx
                have HL2 := Lib.hid hlx
                clear hlx
                go_wp2_with fail
                refine (at_in g k _ j 2 _ HSh.out.1 HL2.out).mono ?_
                rintro e w7 ⟨rfl, rfl⟩
                go_wp2_with fail
                go_roundg (X.size - (j + 1))
                case measure => rw [HG.out]; omega
                case rel => exact ⟨j + 1, by go_num, by omega, rfl, rfl⟩
          · obtain rfl : j = X.size := by omega
            have hd : decide ((X.size : Int) < (X.size : Int)) = false := by simp
            go_wp2_with fail
            go_ret
            exact ⟨rfl, HSh.out.2⟩
      | false =>
        go_upto_region 19 with fail
        obtain ⟨X, hX⟩ : ∃ X, (⟨#[92, 98, 101, 103, 105, 110, 123]⟩ ++ N ++ ⟨#[125]⟩ ++ Y : ByteArray) = X := ⟨_, rfl⟩
        have hXb : bytesOf X = verbT (bytesOf N) C [] := by
          rw [← hX]
          simp only [bytesOf_append, HY.out]
          unfold verbT begT
          rw [List.append_nil]
          rfl
        have hXs : X.size = N.size + 8 + Y.size := by rw [← hX]; simp only [ByteArray.size_append]; show 7 + N.size + 1 + Y.size = _; omega
        have HLx := Lib.hid (show ∀ i, i < X.size → (lexL (bytesOf X))[i]? = some (if N.size + 8 ≤ i then 4 else 2) from fun i hi => by
          have h : i < (verbT (bytesOf N) C []).length → (lexL (verbT (bytesOf N) C []))[i]? = some (if i + 1 = (verbT (bytesOf N) C []).length ∧ false = true then 1 else if (begT (bytesOf N)).length ≤ i ∧ i < (begT (bytesOf N)).length + C.length then 4 else 2) := verb_lex (bytesOf N) C HN.out HCl.out.1 false i
          rw [← hXb, bytesOf_length, begT_len, bytesOf_length, ← HYs.out] at h
          rw [h hi, if_neg (fun e => by cases e.2)]
          congr 1
          by_cases h : N.size + 8 ≤ i
          · rw [if_pos h, if_pos ⟨h, by omega⟩]
          · rw [if_neg h, if_neg (fun e => h e.1)])
        have hX2000 : X.size ≤ 2000 := by omega
        have hX1 : N.size + 8 ≤ X.size := by omega
        have HXs := Lib.hid hXs
        rw [hX]
        clear hX hXb hXs hz1 hz2 hz3 hz4 hz5 hz6 HO2 hcv
        have kc := conv_run X
        have HCv := Lib.hid (conv_C wc X (by omega))
        go_wp2_with fail
        refine (lex_any _ X.size _ _ _ a1 a2 d1 d2 (HTb.out.below (bytes_below HB.out HB.out.size _ _)) HCv.out (grownCap_ge _ _ _ _) (Bys.of X) (by omega)).mono ?_
        rintro e w6 ⟨g, k, rfl, hs, hb6, _, _⟩
        have HSh := Lib.hid (And.intro hs (below_step (bytes_below HB.out HB.out.size _ _) hb6))
        clear hs hb6 HCv kc HB
        go_upto_block 2 with fail
        go_wp2_with fail
        go_loopg [74] X.size (fun gn iv wr => ∃ j : Nat, iv = .int .i64 j ∧ j ≤ X.size ∧ Hid (wr = w6 ∧ gn = X.size - j))
        case atStart => exact ⟨0, rfl, Nat.zero_le _, rfl, rfl⟩
        case round =>
          obtain ⟨j, rfl, hj, HQ⟩ := hrel
          obtain ⟨rfl, hq⟩ := HQ.out
          have HG := Lib.hid hq
          clear HQ hq
          by_cases hlt : j < X.size
          · have hd : decide ((j : Int) < (X.size : Int)) = true := by simp; omega
            have hlx := HLx.out j hlt
            by_cases c3 : j + 1 = X.size
            · have hd3 : ((j : Int) == (X.size : Int) - 1) = true := by rw [beq_iff_eq]; omega
              by_cases c1 : N.size + 8 ≤ j
              · have hd1 : decide ((fr : Int) ≤ (j : Int)) = true := by have := HF.out; simp; omega
                have hd2 : decide ((j : Int) < (to' : Int)) = true := by have := HF.out; have := HXs.out; simp; omega
                have hjt : j < to' := by have := HF.out; have := HXs.out; omega
                rw [if_pos c1] at hlx
                have HL2 := Lib.hid hlx
                clear hlx
                go_wp2_with fail
                refine (at_in g k _ j 4 _ HSh.out.1 HL2.out).mono ?_
                rintro e w7 ⟨rfl, rfl⟩
                go_wp2_with fail
                go_roundg (X.size - (j + 1))
                case measure => rw [HG.out]; omega
                case rel => exact ⟨j + 1, by go_num, by omega, rfl, rfl⟩
              · have hd1 : decide ((fr : Int) ≤ (j : Int)) = false := by have := HF.out; simp; omega
                rw [if_neg c1] at hlx
                have HL2 := Lib.hid hlx
                clear hlx
                go_wp2_with fail
                refine (at_in g k _ j 2 _ HSh.out.1 HL2.out).mono ?_
                rintro e w7 ⟨rfl, rfl⟩
                go_wp2_with fail
                go_roundg (X.size - (j + 1))
                case measure => rw [HG.out]; omega
                case rel => exact ⟨j + 1, by go_num, by omega, rfl, rfl⟩
            · have hd3 : ((j : Int) == (X.size : Int) - 1) = false := by rw [beq_eq_false_iff_ne]; omega
              by_cases c1 : N.size + 8 ≤ j
              · have hd1 : decide ((fr : Int) ≤ (j : Int)) = true := by have := HF.out; simp; omega
                have hd2 : decide ((j : Int) < (to' : Int)) = true := by have := HF.out; have := HXs.out; simp; omega
                have hjt : j < to' := by have := HF.out; have := HXs.out; omega
                rw [if_pos c1] at hlx
                have HL2 := Lib.hid hlx
                clear hlx
                go_wp2_with fail
                refine (at_in g k _ j 4 _ HSh.out.1 HL2.out).mono ?_
                rintro e w7 ⟨rfl, rfl⟩
                go_wp2_with fail
                go_roundg (X.size - (j + 1))
                case measure => rw [HG.out]; omega
                case rel => exact ⟨j + 1, by go_num, by omega, rfl, rfl⟩
              · have hd1 : decide ((fr : Int) ≤ (j : Int)) = false := by have := HF.out; simp; omega
                rw [if_neg c1] at hlx
                have HL2 := Lib.hid hlx
                clear hlx
                go_wp2_with fail
                refine (at_in g k _ j 2 _ HSh.out.1 HL2.out).mono ?_
                rintro e w7 ⟨rfl, rfl⟩
                go_wp2_with fail
                go_roundg (X.size - (j + 1))
                case measure => rw [HG.out]; omega
                case rel => exact ⟨j + 1, by go_num, by omega, rfl, rfl⟩
          · obtain rfl : j = X.size := by omega
            have hd : decide ((X.size : Int) < (X.size : Int)) = false := by simp
            go_wp2_with fail
            go_ret
            exact ⟨rfl, HSh.out.2⟩
end Go.Proofs.YtkicpaodcmepmaaDoor.T
namespace Go.Proofs.YtkicpaodcmepmaaDoor.Wk.TexVerbatim
open Go.RowKit Go.Proofs.YtkicpaodcmepmaaDoorW.PrintWords Go.Proofs.YtkicpaodcmepmaaDoor.T Go.Proofs.YtkicpaodcmepmaaDoor.S
theorem walk (A0 : Option Addr) (c0 : Nat) (l0 : List Int) (x1 : Int) (b2 : Bool) (w : World) (a1 a2 : Option Addr) (d1 d2 : Nat) (hT : Tb w a1 a2 d1 d2) (hr0 : Kd.C (Kd.int .u8) w A0 l0.length l0) (hc0 : l0.length ≤ c0) (hg0 : Bys l0 ∧ l0.length ≤ 140737488351232) (hw1 : (Lit.int .u8 x1).wf = true) :
    Calls Tryd.prog 5 #[.slice A0 l0.length c0, .int .u8 x1, .bool b2] w fun e w' => e = .returned (.bool true) ∧ Below w.heap.size w w' := by
  obtain ⟨n, rfl, hn⟩ := u8_of hw1
  exact texVerb_any A0 c0 l0 n b2 w a1 a2 d1 d2 hT hn hr0 hg0.1 hg0.2
end Go.Proofs.YtkicpaodcmepmaaDoor.Wk.TexVerbatim
