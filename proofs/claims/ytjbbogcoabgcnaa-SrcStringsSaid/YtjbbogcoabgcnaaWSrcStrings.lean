/- The law SrcStrings, walked: it answers true. Conditions: none. -/
import Derived.Test.YtjbbogcoabgcnaaSOps
set_option linter.unusedVariables false
set_option linter.unusedSimpArgs false
namespace Go.Proofs.Ytjbbogcoabgcnaa.S
open Go.RowKit Go.Proofs.YtjbbogcoabgcnaaW.PrintWords Go.Proofs.Ytjbbogcoabgcnaa.L Go.Proofs.Ytjbbogcoabgcnaa.Src

theorem at_ints (l : List Int) (r : Nat) (h : r < l.length) : ((l.map (Value.int .u8)).toArray : Array Value)[r]? = some (.int .u8 (l.getD r 0)) := by
  simp [List.getElem?_eq_getElem h, List.getD_eq_getElem?_getD]
theorem at_strs (l : List ByteArray) (r : Nat) (h : r < l.length) : ((l.map Value.string).toArray : Array Value)[r]? = some (.string (l.getD r ByteArray.empty)) := by
  simp [List.getElem?_eq_getElem h, List.getD_eq_getElem?_getD]
/-- A piece of a string. -/
def pcB (M : ByteArray) (c : Nat) : ByteArray := [(⟨#[97]⟩ : ByteArray), ⟨#[92]⟩ ++ M, ⟨#[47, 47]⟩, ⟨#[47, 42]⟩, ⟨#[35]⟩, ⟨#[92, 92]⟩, ⟨#[32]⟩, ⟨#[92, 110]⟩].getD c ByteArray.empty
def pcL (m : Int) (c : Nat) : List Int := [[97], [92, m], [47, 47], [47, 42], [35], [92, 92], [32], [92, 110]].getD c []
theorem pc_eq (M : ByteArray) (m : Int) (h : bytesOf M = [m]) (c : Nat) (hc : c < 8) : bytesOf (pcB M c) = pcL m c := by
  match c, hc with
  | 0, _ => rfl
  | 1, _ => show bytesOf (⟨#[92]⟩ ++ M) = _; rw [bytesOf_append, h]; rfl
  | 2, _ => rfl
  | 3, _ => rfl
  | 4, _ => rfl
  | 5, _ => rfl
  | 6, _ => rfl
  | 7, _ => rfl
theorem pc_size (M : ByteArray) (m : Int) (h : bytesOf M = [m]) (c : Nat) (hc : c < 8) : (pcB M c).size ≤ 2 := by
  rw [← bytesOf_length, pc_eq M m h c hc]
  match c, hc with
  | 0, _ => simp [pcL]
  | 1, _ => simp [pcL]
  | 2, _ => simp [pcL]
  | 3, _ => simp [pcL]
  | 4, _ => simp [pcL]
  | 5, _ => simp [pcL]
  | 6, _ => simp [pcL]
  | 7, _ => simp [pcL]
theorem pc_bits (m : Int) (hm : m = 34 ∨ m = 39) (c : Nat) (hc : c < 8) : Src.Bits m (pcL m c) := by
  have p : ∀ x : Int, x ≠ 10 → x ≠ 92 → x ≠ 34 → x ≠ 39 → ∀ r, Src.Bits m r → Src.Bits m (x :: r) := fun x h1 h2 h3 h4 r hr => .plain h1 h2 (by rcases hm with rfl | rfl <;> assumption) hr
  match c, hc with
  | 0, _ => exact p 97 (by decide) (by decide) (by decide) (by decide) _ .nil
  | 1, _ => exact .esc (by omega) .nil
  | 2, _ => exact p 47 (by decide) (by decide) (by decide) (by decide) _ (p 47 (by decide) (by decide) (by decide) (by decide) _ .nil)
  | 3, _ => exact p 47 (by decide) (by decide) (by decide) (by decide) _ (p 42 (by decide) (by decide) (by decide) (by decide) _ .nil)
  | 4, _ => exact p 35 (by decide) (by decide) (by decide) (by decide) _ .nil
  | 5, _ => exact .esc (by decide) .nil
  | 6, _ => exact p 32 (by decide) (by decide) (by decide) (by decide) _ .nil
  | 7, _ => exact .esc (by decide) .nil
/-- The law's string. -/
def strA (m : Int) (l : List Int) : List Int := (l.take 20).flatMap fun c => pcL m (c.toNat % 8)
theorem strA_far (m : Int) (l : List Int) (j : Nat) (h : 20 ≤ j) : strA m (l.take (j + 1)) = strA m (l.take j) := by
  unfold strA
  rw [List.take_take, List.take_take, Nat.min_eq_left (by omega), Nat.min_eq_left (by omega)]
theorem strA_snoc (m : Int) (l : List Int) (j : Nat) (h : j < 20) (hl : j < l.length) : strA m (l.take (j + 1)) = strA m (l.take j) ++ pcL m ((l.getD j 0).toNat % 8) := by
  unfold strA
  rw [List.take_take, List.take_take, Nat.min_eq_right (by omega), Nat.min_eq_right (by omega), List.take_add_one, List.getElem?_eq_getElem hl, List.flatMap_append, List.getD_eq_getElem?_getD, List.getElem?_eq_getElem hl]
  simp
theorem strA_bits (m : Int) (hm : m = 34 ∨ m = 39) (l : List Int) : Src.Bits m (strA m l) := by
  unfold strA
  generalize l.take 20 = q
  induction q with
  | nil => exact .nil
  | cons c q ih => rw [List.flatMap_cons]; exact Src.Bits.append (pc_bits m hm _ (Nat.mod_lt _ (by decide))) ih
/-- The family and its string. -/
structure StrOk (F : Fam) (t : Tx) (m : Int) : Prop where
  hm : t.mark = [m]
  he : t.escape = true
  htw : t.twice = false
  hF : ∀ p a, stp F p ([m] ++ (113 :: a)) = [4] ++ txt t ([m] ++ (113 :: a)).length (113 :: a)
  h1 : some 120 ∉ firsts F
  h2 : some 32 ∉ firsts F
  h3 : some 121 ∉ firsts F
  hw : t.what = 5
def mkS (r : Nat) (b : Bool) : ByteArray := if b = true ∧ r ≠ 3 then ⟨#[39]⟩ else ⟨#[34]⟩
def mkI (r : Nat) (b : Bool) : Int := if b = true ∧ r ≠ 3 then 39 else 34
theorem mk_eq (r : Nat) (b : Bool) : bytesOf (mkS r b) = [mkI r b] ∧ (mkI r b = 34 ∨ mkI r b = 39) := by
  unfold mkS mkI
  by_cases h : b = true ∧ r ≠ 3
  · rw [if_pos h, if_pos h]; exact ⟨rfl, .inr rfl⟩
  · rw [if_neg h, if_neg h]; exact ⟨rfl, .inl rfl⟩
def fmS (r : Nat) : Int := [4, 5, 6, 7].getD r 0
theorem str_of (r : Nat) (b : Bool) (h : r < 4) : ∃ F t, famOf (fmS r) = some F ∧ StrOk F t (mkI r b) := by
  unfold mkI
  match r, h with
  | 0, _ =>
    refine ⟨famC, if b = true then sq else dq, rfl, ?_⟩
    cases b
    · exact ⟨rfl, rfl, rfl, fun p a => stp_dq famC p a (.inl rfl), by decide, by decide, by decide, rfl⟩
    · exact ⟨rfl, rfl, rfl, fun p a => stp_sq famC p a (.inl rfl), by decide, by decide, by decide, rfl⟩
  | 1, _ =>
    refine ⟨famG, if b = true then sq else dq, rfl, ?_⟩
    cases b
    · exact ⟨rfl, rfl, rfl, fun p a => stp_dq famG p a (.inr (.inl rfl)), by decide, by decide, by decide, rfl⟩
    · exact ⟨rfl, rfl, rfl, fun p a => stp_sq famG p a (.inr (.inl rfl)), by decide, by decide, by decide, rfl⟩
  | 2, _ =>
    refine ⟨famP, if b = true then sq else dq, rfl, ?_⟩
    cases b
    · exact ⟨rfl, rfl, rfl, fun p a => stp_dq famP p a (.inr (.inr rfl)), by decide, by decide, by decide, rfl⟩
    · exact ⟨rfl, rfl, rfl, fun p a => stp_sq famP p a (.inr (.inr rfl)), by decide, by decide, by decide, rfl⟩
  | 3, _ =>
    refine ⟨famS, dqS, rfl, ?_⟩
    rw [if_neg (by simp)]
    exact ⟨rfl, rfl, rfl, fun p a => stp_dqS p a, by decide, by decide, by decide, rfl⟩
def strB (m : Int) (l : List Int) : List Int := [120, 32, m, 113] ++ strA m l
theorem str_get (F : Fam) (t : Tx) (m : Int) (h : StrOk F t m) (hm : m = 34 ∨ m = 39) (l : List Int) (i : Nat) (hi : i < (strB m l ++ [m, 32, 121]).length) :
    (lexF F (-1) (strB m l ++ [m, 32, 121]))[i]? = some (if 3 ≤ i ∧ i < (strB m l).length then 5 else 4) := by
  have ha := strings_any F t m (strA m l) h.hm (by omega) (by omega) (by omega) h.he h.htw h.hF h.h1 h.h2 h.h3 (strA_bits m hm l)
  have hlen : (strB m l).length = 4 + (strA m l).length := by unfold strB; simp only [List.length_append, List.length_cons, List.length_nil]
  rw [h.hw] at ha
  have key : lexF F (-1) (strB m l ++ [m, 32, 121]) = List.replicate 3 4 ++ List.replicate ((strA m l).length + 1) 5 ++ List.replicate 3 4 := ha
  rw [key]
  rw [List.length_append, hlen] at hi
  simp only [List.length_cons, List.length_nil] at hi
  rw [hlen]
  by_cases h1 : i < 3
  · rw [List.append_assoc, List.getElem?_append_left (by simpa using h1), List.getElem?_replicate, if_pos h1, if_neg (by omega)]
  · by_cases h2 : i < 4 + (strA m l).length
    · rw [List.getElem?_append_left (by simp only [List.length_append, List.length_replicate]; omega), List.getElem?_append_right (by simp only [List.length_replicate]; omega), List.getElem?_replicate, if_pos (by simp only [List.length_replicate]; omega), if_pos (by omega)]
    · rw [if_neg (by omega), List.getElem?_append_right (by simp only [List.length_append, List.length_replicate]; omega), List.getElem?_replicate, if_pos (by simp only [List.length_append, List.length_replicate]; omega)]

set_option maxRecDepth 100000 in
set_option maxHeartbeats 4000000 in
theorem srcStrings_any (f : Nat) (A : Option Addr) (c : Nat) (l : List Int) (b : Bool) (w : World) (hf : f < 256) (hA : Kd.C (Kd.int .u8) w A l.length l) (hb : Bys l) (hm : l.length ≤ 140737488351232) :
    Calls Try.prog 5 #[.int .u8 f, .slice A l.length c, .bool b] w fun e w' => e = .returned (.bool true) ∧ Below w.heap.size w w' := by
  have HA := Lib.hid hA
  have HBy := Lib.hid hb
  clear hA hb
  go_enter Try.func5, Try.ntmps5
  go_wp2_with fail
  refine (awake_any _).mono ?_
  rintro e w1 ⟨rfl, hbw⟩
  have HW := Lib.hid hbw
  clear hbw
  go_upto_region 3 with fail
  obtain ⟨r, hr⟩ : ∃ r : Nat, (f : Int) % 4 = (r : Int) := ⟨f % 4, by omega⟩
  have hr4 : r < 4 := by omega
  have HR := Lib.hid hr
  clear hr
  go_cut [7] (fun kv wx => kv = .int .u8 (fmS r) ∧ Hid (Below w.heap.size w wx))
  case first =>
    have hr := HR.out
    have hcell : (w1.alloc (.cells #[.int .u8 4, .int .u8 5, .int .u8 6, .int .u8 7] 28 (0, 0))).cell? ⟨w1.heap.size, r, none⟩ = some (.int .u8 (fmS r)) := by
      rw [blk_cell (blk_new w1 _)]
      exact at_ints [4, 5, 6, 7] r hr4
    go_wp2_with fail
    go_meet
    exact ⟨rfl, below_alloc HW.out _⟩
  case rest =>
    obtain ⟨rfl, HW2⟩ := hcut
    clear HW
    obtain ⟨F, t, hFE⟩ := str_of r b hr4
    have HFE := Lib.hid hFE
    have HQ := Lib.hid (show (fmS r == 7) = decide (r = 3) ∧ (fmS r != 7) = !decide (r = 3) from by
      match r, hr4 with
      | 0, _ => exact ⟨rfl, rfl⟩
      | 1, _ => exact ⟨rfl, rfl⟩
      | 2, _ => exact ⟨rfl, rfl⟩
      | 3, _ => exact ⟨rfl, rfl⟩)
    clear hFE
    generalize fmS r = fm at *
    go_upto_region 5 with fail
    obtain ⟨B, hB⟩ : ∃ B : Bool, B = decide (b = true ∧ r ≠ 3) := ⟨_, rfl⟩
    have HB := Lib.hid hB
    clear hB
    go_cut [28] (fun v wx => v = .bool B ∧ Hid (Below w.heap.size w wx))
    case first =>
      cases b with
      | false =>
        obtain rfl : B = false := by rw [HB.out]; simp
        go_wp2_with fail
        go_meet
        exact ⟨rfl, HW2⟩
      | true =>
        have e1 : (fm == 7) = !B := by rw [HQ.out.1, HB.out]; simp
        have e2 : (fm != 7) = B := by rw [HQ.out.2, HB.out]; simp
        go_wp2_with fail
        go_meet
        exact ⟨rfl, HW2⟩
    case rest =>
      obtain ⟨rfl, HW3⟩ := hcut
      clear HW2
      go_upto_if 28 with fail
      go_cut [8] (fun v wx => v = .string (mkS r b) ∧ Hid (Below w.heap.size w wx))
      case first =>
        cases B with
        | false =>
          have hb := of_decide_eq_false HB.out.symm
          have HM := Lib.hid (show (⟨#[34]⟩ : ByteArray) = mkS r b from by unfold mkS; rw [if_neg hb])
          clear hb
          go_wp2_with fail
          go_meet
          exact ⟨congrArg Value.string HM.out, HW3⟩
        | true =>
          have hb := of_decide_eq_true HB.out.symm
          have HM := Lib.hid (show (⟨#[39]⟩ : ByteArray) = mkS r b from by unfold mkS; rw [if_pos hb])
          clear hb
          go_wp2_with fail
          go_meet
          exact ⟨congrArg Value.string HM.out, HW3⟩
      case rest =>
        obtain ⟨rfl, HW4⟩ := hcut
        clear HW3 HB HQ
        have HMk := Lib.hid (mk_eq r b)
        generalize mkS r b = M at *
        generalize mkI r b = m at *
        have hM1 : M.size ≤ 1 := by rw [← bytesOf_length, HMk.out.1]; simp
        go_wp2_with fail
        go_loopg [9, 34] l.length (fun gn v iv wr => ∃ (j : Nat) (T : ByteArray), v = .string T ∧ iv = .int .i64 j ∧ j ≤ l.length ∧ T.size ≤ 4 + 2 * min j 20 ∧ Hid (bytesOf T = [120, 32, m, 113] ++ strA m (l.take j) ∧ Below w.heap.size w wr ∧ gn = l.length - j))
        case atStart =>
          refine ⟨0, _, rfl, rfl, Nat.zero_le _, ?_, ?_, HW4.out, rfl⟩
          · rw [ByteArray.size_append, ByteArray.size_append]
            have e1 : (⟨#[120, 32]⟩ : ByteArray).size = 2 := rfl
            have e2 : (⟨#[113]⟩ : ByteArray).size = 1 := rfl
            omega
          · rw [bytesOf_append, bytesOf_append, HMk.out.1]
            rfl
        case round =>
          obtain ⟨j, T, rfl, rfl, hj, hT, HJ⟩ := hrel
          clear HW4
          by_cases hlt : j < l.length
          · obtain ⟨ad, rfl, hcell⟩ := Kd.at_int (Kd.C_below HA.out HJ.out.2.1) (j : Int) (by omega) (by omega)
            rw [Int.toNat_natCast] at hcell
            obtain ⟨x, hx⟩ : ∃ x : Nat, l.getD j 0 = (x : Int) := ⟨(l.getD j 0).toNat, by have := HBy.out _ (getD_mem l 0 j hlt); omega⟩
            have hx2 : rd l (j : Int) = (x : Int) := hx
            rw [hx2] at hcell
            have HX := Lib.hid hx
            clear hx hx2
            by_cases h20 : j < 20
            · obtain ⟨q, hq⟩ : ∃ q : Nat, (x : Int) % 8 = (q : Int) := ⟨x % 8, by omega⟩
              have hq8 : q < 8 := by omega
              have hqx : q = x % 8 := by omega
              have hs := strA_snoc m l j h20 hlt
              rw [HX.out, Int.toNat_natCast, ← hqx] at hs
              have HS := Lib.hid hs
              have HP := Lib.hid (And.intro (pc_eq M m HMk.out.1 q hq8) (pc_size M m HMk.out.1 q hq8))
              have hcq : (wr.alloc (.cells #[.string ⟨#[97]⟩, .string (⟨#[92]⟩ ++ M), .string ⟨#[47, 47]⟩, .string ⟨#[47, 42]⟩, .string ⟨#[35]⟩, .string ⟨#[92, 92]⟩, .string ⟨#[32]⟩, .string ⟨#[92, 110]⟩] 9 (0, 0))).cell? ⟨wr.heap.size, q, none⟩ = some (.string (pcB M q)) := by
                rw [blk_cell (blk_new wr _)]
                exact at_strs [(⟨#[97]⟩ : ByteArray), ⟨#[92]⟩ ++ M, ⟨#[47, 47]⟩, ⟨#[47, 42]⟩, ⟨#[35]⟩, ⟨#[92, 92]⟩, ⟨#[32]⟩, ⟨#[92, 110]⟩] q hq8
              clear hs hqx
              generalize hpc : pcB M q = pc at *
              have HPc := Lib.hid hpc
              have hpcs : pc.size ≤ 2 := HP.out.2
              have hT2 : T.size ≤ 44 := by omega
              clear hpc
              go_wp2_with fail
              go_roundg (l.length - (j + 1))
              case measure => have := HJ.out.2.2; omega
              case rel =>
                have h2 := HP.out.2
                refine ⟨j + 1, _, rfl, by go_num, by omega, ?_, ?_, below_alloc HJ.out.2.1 _, rfl⟩
                · rw [ByteArray.size_append]
                  omega
                · rw [bytesOf_append, HJ.out.1, HS.out, HP.out.1, List.append_assoc]
            · go_wp2_with fail
              go_roundg (l.length - (j + 1))
              case measure => have := HJ.out.2.2; omega
              case rel => exact ⟨j + 1, T, rfl, by go_num, by omega, by omega, by rw [strA_far m l j (by omega)]; exact HJ.out.1, HJ.out.2.1, rfl⟩
          · obtain rfl : j = l.length := by omega
            have HT := Lib.hid (show bytesOf T = strB m l from by rw [HJ.out.1, List.take_length]; rfl)
            have HW5 := Lib.hid HJ.out.2.1
            have hTs : T.size = (strB m l).length := by rw [← HT.out, bytesOf_length]
            have HTs := Lib.hid hTs
            have hb3 : (T ++ (M ++ ⟨#[32, 121]⟩)).size ≤ 1000 := by
              rw [ByteArray.size_append, ByteArray.size_append]
              have e : (⟨#[32, 121]⟩ : ByteArray).size = 2 := rfl
              omega
            have hbb : bytesOf (T ++ (M ++ ⟨#[32, 121]⟩)) = strB m l ++ [m, 32, 121] := by rw [bytesOf_append, bytesOf_append, HT.out, HMk.out.1]; rfl
            have kc := conv_run (T ++ (M ++ ⟨#[32, 121]⟩))
            have HS3 := Lib.hid hb3
            have HBB := Lib.hid hbb
            have HGet := Lib.hid (str_get F t m HFE.out.2 HMk.out.2 l)
            rw [← HTs.out] at HGet
            clear HJ hTs hb3 hbb
            generalize hU : T ++ (M ++ (⟨#[32, 121]⟩ : ByteArray)) = U at *
            have HU := Lib.hid hU
            go_wp2_with fail
            have hC := conv_C wr U (by have := HS3.out; omega)
            rw [HBB.out] at hC
            refine (lex_any fm F _ _ U.size _ _ HFE.out.1 hC (grownCap_ge _ _ _ _) (by rw [← HBB.out]; exact Bys.of U) (by have := HS3.out; omega)).mono ?_
            rintro e w6 ⟨g, k, rfl, hs, hb6, _, _⟩
            have HS := Lib.hid (And.intro hs (below_step (bytes_below HW5.out HW5.out.size _ _) hb6))
            have hUs : U.size = (strB m l ++ [m, 32, 121]).length := by rw [← HBB.out, bytesOf_length]
            rw [← hUs] at HGet
            have HUs := Lib.hid hUs
            clear hs hb6 hC kc hU hUs
            generalize strB m l ++ [m, 32, 121] = B at *
            have hUm : U.size ≤ 1000 := HS3.out
            go_wp2_with fail
            go_loopg [66] U.size (fun gn iv wr => ∃ j : Nat, iv = .int .i64 j ∧ j ≤ U.size ∧ Hid (Sheet wr g k (lexF F (-1) B) ∧ Below w.heap.size w wr ∧ gn = U.size - j))
            case atStart => exact ⟨0, rfl, Nat.zero_le _, HS.out.1, HS.out.2, rfl⟩
            case round =>
              obtain ⟨i, rfl, hi, HQ⟩ := hrel
              have HS2 := Lib.hid (And.intro HQ.out.1 HQ.out.2.1)
              have HG := Lib.hid HQ.out.2.2
              clear HQ HS
              by_cases hlt2 : i < U.size
              · have hget := HGet.out i hlt2
                by_cases h3 : 3 ≤ i
                · by_cases hN2 : i < T.size
                  · rw [if_pos ⟨h3, hN2⟩] at hget
                    have HGt := Lib.hid hget
                    clear hget
                    go_wp2_with (go_at_call 17; refine (at_in g k _ i 5 _ HS2.out.1 HGt.out).mono ?_; rintro e w' ⟨rfl, rfl⟩)
                    go_roundg (U.size - (i + 1))
                    case measure => have := HG.out; omega
                    case rel => exact ⟨i + 1, by go_num, by omega, HS2.out.1, HS2.out.2, rfl⟩
                  · rw [if_neg (by omega)] at hget
                    have HGt := Lib.hid hget
                    clear hget
                    go_wp2_with (go_at_call 17; refine (at_in g k _ i 4 _ HS2.out.1 HGt.out).mono ?_; rintro e w' ⟨rfl, rfl⟩)
                    go_roundg (U.size - (i + 1))
                    case measure => have := HG.out; omega
                    case rel => exact ⟨i + 1, by go_num, by omega, HS2.out.1, HS2.out.2, rfl⟩
                · rw [if_neg (by omega)] at hget
                  have HGt := Lib.hid hget
                  clear hget
                  go_wp2_with (go_at_call 17; refine (at_in g k _ i 4 _ HS2.out.1 HGt.out).mono ?_; rintro e w' ⟨rfl, rfl⟩)
                  go_roundg (U.size - (i + 1))
                  case measure => have := HG.out; omega
                  case rel => exact ⟨i + 1, by go_num, by omega, HS2.out.1, HS2.out.2, rfl⟩
              · obtain rfl : i = U.size := by omega
                go_wp2_with fail
                go_ret
                exact ⟨rfl, HS2.out.2⟩
end Go.Proofs.Ytjbbogcoabgcnaa.S
namespace Go.Proofs.Ytjbbogcoabgcnaa.Wk.SrcStrings
open Go.RowKit Go.Proofs.YtjbbogcoabgcnaaW.PrintWords Go.Proofs.Ytjbbogcoabgcnaa.S
theorem walk (a0 : Int) (A1 : Option Addr) (c1 : Nat) (l1 : List Int) (a2 : Bool) (w : World) (h0 : (Lit.int .u8 a0).wf = true) (hr : Kd.C (Kd.int .u8) w A1 l1.length l1) (hc : l1.length ≤ c1) (hg : Bys l1 ∧ l1.length ≤ 140737488351232) :
    Calls Try.prog 5 #[.int .u8 a0, .slice A1 l1.length c1, .bool a2] w fun e w' => e = .returned (.bool true) ∧ Below w.heap.size w w' := by
  obtain ⟨n, rfl, hn⟩ := u8_of h0
  exact srcStrings_any n A1 c1 l1 a2 w hn hr hg.1 hg.2
end Go.Proofs.Ytjbbogcoabgcnaa.Wk.SrcStrings
