/- The law SrcRaw, walked: it answers true. Conditions: none. -/
import Derived.Test.YtjbbogcoabgcnaaSOps
set_option linter.unusedVariables false
set_option linter.unusedSimpArgs false
namespace Go.Proofs.Ytjbbogcoabgcnaa.S
open Go.RowKit Go.Proofs.YtjbbogcoabgcnaaW.PrintWords Go.Proofs.Ytjbbogcoabgcnaa.L Go.Proofs.Ytjbbogcoabgcnaa.Src

/-- What a raw string's family must be. -/
structure RawOk (F : Fam) (t : Tx) (m : Int) : Prop where
  hm : t.mark = [m]
  h10 : m ≠ 10
  h92 : m ≠ 92
  h32 : m ≠ 32
  he : t.escape = false
  hl : t.long = true
  hF : ∀ p a, stp F p ([m] ++ a) = [4] ++ txt t ([m] ++ a).length a
  h1 : some 120 ∉ firsts F
  h2 : some 32 ∉ firsts F
  hw : t.what = 7
  hb : 0 ≤ m ∧ m < 256
def rawT : Tx := ⟨[96], false, false, true, 7⟩
theorem raw_G : RawOk famG ⟨[96], false, false, true, 7⟩ 96 := ⟨rfl, by decide, by decide, by decide, rfl, rfl, stp_rawG, by decide, by decide, rfl, by decide⟩
theorem raw_S : RawOk famS ⟨[39], false, false, true, 7⟩ 39 := ⟨rfl, by decide, by decide, by decide, rfl, rfl, stp_rawS, by decide, by decide, rfl, by decide⟩
theorem raw_Q : RawOk famQ ⟨[34], false, true, true, 7⟩ 34 := ⟨rfl, by decide, by decide, by decide, rfl, rfl, stp_rawQ, by decide, by decide, rfl, by decide⟩
/-- The bytes of the law but the mark. -/
def but (m : Int) (l : List Int) : List Int := l.filter (· != m)
theorem but_snoc (m : Int) (l : List Int) (j : Nat) (h : j < l.length) : but m (l.take (j + 1)) = if l.getD j 0 = m then but m (l.take j) else but m (l.take j) ++ [l.getD j 0] := by
  have e : l.take (j + 1) = l.take j ++ [l.getD j 0] := by
    rw [List.take_add_one, List.getElem?_eq_getElem h, List.getD_eq_getElem?_getD, List.getElem?_eq_getElem h]; rfl
  unfold but
  rw [e, List.filter_append]
  by_cases hx : l.getD j 0 = m
  · rw [if_pos hx]; simp only [List.filter_cons, hx]; simp
  · rw [if_neg hx]; simp only [List.filter_cons]; simp; exact hx
theorem but_le (m : Int) (l : List Int) : (but m l).length ≤ l.length := List.length_filter_le _ _
theorem but_not (m : Int) (l : List Int) : m ∉ but m l := by unfold but; simp
theorem but_bys (m : Int) (l : List Int) (h : Bys l) : Bys (but m l) := fun x hx => h x (List.mem_filter.1 hx).1
def rawB (m : Int) (l : List Int) : List Int := [120, 32, m] ++ but m l
def tail (b : Bool) (m : Int) : List Int := if b then [m, 32] else []
theorem raw_get (F : Fam) (t : Tx) (m : Int) (h : RawOk F t m) (l : List Int) (b : Bool) (i : Nat) (hi : i < (rawB m l ++ tail b m).length) :
    (lexF F (-1) (rawB m l ++ tail b m))[i]? = some (if 3 ≤ i ∧ i < (rawB m l).length then 7 else 4) := by
  have ha := raw_any F t m (but m l) h.hm h.h10 h.h92 h.h32 h.he h.hl h.hF h.h1 h.h2 (but_not m l)
  have hlen : (rawB m l).length = 3 + (but m l).length := by unfold rawB; simp; omega
  rw [h.hw] at ha
  have key : lexF F (-1) (rawB m l ++ tail b m) = List.replicate 3 4 ++ List.replicate (but m l).length 7 ++ (if b then List.replicate 2 4 else []) := by
    cases b with
    | false =>
      simp only [tail, Bool.false_eq_true, if_false, List.append_nil]
      exact ha.1
    | true =>
      simp only [tail, if_true]
      exact ha.2
  rw [key]
  have hi2 : i < 3 + (but m l).length + (if b then 2 else 0) := by
    rw [List.length_append, hlen] at hi
    cases b
    · simp only [tail, Bool.false_eq_true, if_false, List.length_nil] at hi ⊢
      omega
    · simp only [tail, if_true, List.length_cons, List.length_nil] at hi ⊢
      omega
  rw [hlen]
  by_cases h1 : i < 3
  · rw [List.append_assoc, List.getElem?_append_left (by simpa using h1), List.getElem?_replicate, if_pos h1, if_neg (by omega)]
  · by_cases h2 : i < 3 + (but m l).length
    · rw [List.getElem?_append_left (by simp only [List.length_append, List.length_replicate]; omega), List.getElem?_append_right (by simp only [List.length_replicate]; omega), List.getElem?_replicate, if_pos (by simp only [List.length_replicate]; omega), if_pos (by omega)]
    · rw [if_neg (show ¬ (3 ≤ i ∧ i < 3 + (but m l).length) by omega), List.getElem?_append_right (by simp only [List.length_append, List.length_replicate]; omega)]
      cases b with
      | false => simp only [Bool.false_eq_true, if_false] at hi2; omega
      | true =>
        simp only [if_true] at hi2 ⊢
        rw [List.getElem?_replicate, if_pos (by simp only [List.length_append, List.length_replicate]; omega)]

def sel3 (a b c : Int) (r : Nat) : Int := if r = 0 then a else if r = 1 then b else c
def fm3 (r : Nat) : Int := sel3 5 7 8 r
def mk3 (r : Nat) : Int := sel3 96 39 34 r
theorem at3 (a b c : Int) (r : Nat) (h : r < 3) : (#[Value.int .u8 a, Value.int .u8 b, Value.int .u8 c] : Array Value)[r]? = some (.int .u8 (sel3 a b c r)) := by
  match r, h with
  | 0, _ => rfl
  | 1, _ => rfl
  | 2, _ => rfl
theorem of3 (r : Nat) (h : r < 3) : ∃ F t, famOf (fm3 r) = some F ∧ RawOk F t (mk3 r) := by
  match r, h with
  | 0, _ => exact ⟨_, _, rfl, raw_G⟩
  | 1, _ => exact ⟨_, _, rfl, raw_S⟩
  | 2, _ => exact ⟨_, _, rfl, raw_Q⟩
set_option maxRecDepth 100000 in
set_option maxHeartbeats 4000000 in
theorem srcRaw_any (f : Nat) (A : Option Addr) (c : Nat) (l : List Int) (b : Bool) (w : World) (hf : f < 256) (hA : Kd.C (Kd.int .u8) w A l.length l) (hc : l.length ≤ c) (hb : Bys l) (hm : l.length ≤ 140737488351232) :
    Calls Try.prog 6 #[.int .u8 f, .slice A l.length c, .bool b] w fun e w' => e = .returned (.bool true) ∧ Below w.heap.size w w' := by
  have HA := Lib.hid hA
  have HBy := Lib.hid hb
  clear hA hb
  go_enter Try.func6, Try.ntmps6
  go_wp2_with fail
  refine (awake_any _).mono ?_
  rintro e w1 ⟨rfl, hbw⟩
  have HW := Lib.hid hbw
  clear hbw
  by_cases h500 : 500 < l.length
  · have h5 : decide (500 < (l.length : Int)) = true := by simp; omega
    go_wp2_with fail
    go_ret
    exact ⟨rfl, HW.out⟩
  · have h5 : ¬ (500 < (l.length : Int)) := by omega
    go_upto_region 5 with fail
    obtain ⟨r, hr⟩ : ∃ r : Nat, (f : Int) % 3 = (r : Int) := ⟨f % 3, by omega⟩
    have hr3 : r < 3 := by omega
    have HR := Lib.hid hr
    clear hr
    go_cut [7] (fun kv wx => kv = .int .u8 (fm3 r) ∧ Hid (Below w.heap.size w wx))
    case first =>
      have hr := HR.out
      have hcell : (w1.alloc (.cells #[.int .u8 5, .int .u8 7, .int .u8 8] 28 (0, 0))).cell? ⟨w1.heap.size, r, none⟩ = some (.int .u8 (fm3 r)) := by
        rw [blk_cell (blk_new w1 _)]
        exact at3 5 7 8 r hr3
      go_wp2_with fail
      go_meet
      exact ⟨rfl, below_alloc HW.out _⟩
    case rest =>
      obtain ⟨rfl, HW2⟩ := hcut
      clear HW
      rename_i wc
      go_upto_region 6 with fail
      go_cut [8] (fun kv wx => kv = .int .u8 (mk3 r) ∧ Hid (Below w.heap.size w wx))
      case first =>
        have hr := HR.out
        have kcv := Lib.run_convert_bytes_const (P := Try.prog) wc 22 5 #[.int .u8 96, .int .u8 39, .int .u8 34] 3 3 Try.underlying22 Try.underlying5
        have hcell : (wc.alloc (.cells #[.int .u8 96, .int .u8 39, .int .u8 34] 5 (3, 4))).cell? ⟨wc.heap.size, r, none⟩ = some (.int .u8 (mk3 r)) := by
          rw [cell_of_row _ _ _ _ _ _ (blk_new wc _)]
          exact at3 96 39 34 r hr3
        go_wp2_with fail
        go_meet
        exact ⟨rfl, below_alloc HW2.out _⟩
      case rest =>
        obtain ⟨rfl, HW3⟩ := hcut
        clear HW2
        obtain ⟨F, t, hFt⟩ := of3 r hr3
        have HFt := Lib.hid hFt
        clear hFt
        generalize fm3 r = fm at *
        generalize mk3 r = m at *
        have HO := Lib.hid (Ob.lit w wc [120, 32, m] HW3.out (by simp))
        go_upto_block 0 with fail
        go_cut [9] (fun v wx => Hid (Ob w wx v (rawB m l)))
        case first =>
          go_wp2_with fail
          go_loopg [9, 37] l.length (fun gn v iv wr => ∃ j : Nat, iv = .int .i64 j ∧ j ≤ l.length ∧ Hid (Ob w wr v ([120, 32, m] ++ but m (l.take j)) ∧ gn = l.length - j))
          case atStart => exact ⟨0, rfl, Nat.zero_le _, HO.out, rfl⟩
          case round =>
            obtain ⟨j, rfl, hj, HQ⟩ := hrel
            clear HO
            have HV := Lib.hid HQ.out.1
            have HG := Lib.hid HQ.out.2
            clear HQ
            by_cases hlt : j < l.length
            · obtain ⟨ad, rfl, hcell⟩ := Kd.at_int (Kd.C_below HA.out HV.out.bel) (j : Int) (by omega) (by omega)
              rw [Int.toNat_natCast] at hcell
              obtain ⟨x, hx⟩ : ∃ x, x = l.getD j 0 := ⟨_, rfl⟩
              have hx2 : rd l (j : Int) = x := hx.symm
              rw [hx2] at hcell
              have HX := Lib.hid hx
              clear hx hx2
              have hs := but_snoc m l j hlt
              rw [← HX.out] at hs
              by_cases hxm : x = m
              · rw [if_pos hxm] at hs
                have HS := Lib.hid hs
                have e1 : (x == m) = true := by simp [hxm]
                have e2 : (x != m) = false := by simp [hxm]
                have HM := Lib.hid hxm
                clear hs hxm
                go_wp2_with fail
                go_roundg (l.length - (j + 1))
                case measure => have := HG.out; omega
                case rel => exact ⟨j + 1, by go_num, by omega, by rw [HS.out]; exact HV.out, rfl⟩
              · rw [if_neg hxm] at hs
                have HS := Lib.hid hs
                have e1 : (x == m) = false := by simp [hxm]
                have e2 : (x != m) = true := by simp [hxm]
                have HM := Lib.hid hxm
                have hz := HV.out.bel.size
                have hbl : (([120, 32, m] ++ but m (l.take j)).length + 1) * 1 ≤ 140737488355328 := by
                  have := but_le m (l.take j)
                  rw [List.length_take] at this
                  simp only [List.length_append, List.length_cons, List.length_nil]
                  omega
                clear hs hxm
                go_wp2_with (at_builtin; refine print_append_num (w0 := w) w.heap.size rfl _ _ 22 5 .u8 1 rfl Try.underlying22 info5 (by decide) u9 ([120, 32, m] ++ but m (l.take j)) x rfl rfl HV.out.own HV.out.bel hz hbl ?_; intro v1 w4 hown1 hb1 _ _; have HV2 := Lib.hid (Ob.mk hown1 hb1); clear hown1 hb1)
                go_roundg (l.length - (j + 1))
                case measure => have := HG.out; omega
                case rel => exact ⟨j + 1, by go_num, by omega, by rw [HS.out, ← List.append_assoc]; exact HV2.out, rfl⟩
            · obtain rfl : j = l.length := by omega
              have HV2 := Lib.hid (show Ob w wr u9 (rawB m l) from by
                have := HV.out
                rw [List.take_length] at this
                exact this)
              go_wp2_with fail
              go_meet
              exact HV2
        case rest =>
          have HV := hcut
          clear hcut HO
          obtain ⟨A9, c9, rfl, hc9, hC9⟩ := HV.out.form
          clear hC9
          have hN : (rawB m l).length ≤ 503 := by
            have := but_le m l
            unfold rawB
            simp only [List.length_append, List.length_cons, List.length_nil]
            omega
          obtain ⟨N, hNe⟩ : ∃ N, N = (rawB m l).length := ⟨_, rfl⟩
          rw [← hNe] at hc9 hN ⊢
          have HN := Lib.hid hNe
          have hz := HV.out.bel.size
          clear hNe
          go_upto_if 51 with fail
          go_cut [9] (fun v wx => Hid (Ob w wx v (rawB m l ++ tail b m)))
          case first =>
            cases b with
            | false =>
              go_wp2_with fail
              go_meet
              have := HV.out
              rw [← HN.out] at this
              exact Lib.hid (by simpa [tail] using this)
            | true =>
              have HR2 := Lib.hid (Kd.reads_of_C (enc := Value.int .u8) (d := (0 : Int)) (h1 := fun _ => rfl) (lit_C wc 5 (0, 0) [m, 32] (by simp)))
              have HVA := Lib.hid (HV.out.alloc (.cells #[.int .u8 m, .int .u8 32] 5 (0, 0)))
              have hz2 := HVA.out.bel.size
              have hbl : ((rawB m l).length + 2) * 1 ≤ 140737488355328 := by rw [← HN.out]; omega
              go_wp2_with (at_builtin; refine print_append_row (w0 := w) w.heap.size rfl _ _ 22 5 .u8 1 rfl Try.underlying22 info5 (by decide) (.slice A9 N c9) (rawB m l) [m, 32] (some ⟨wc.heap.size, 0, none⟩) 2 2 rfl rfl (by have := HVA.out.own; rw [← HN.out] at this ⊢; exact this) HR2.out HVA.out.bel hz2 hbl ?_; intro v1 w4 hown1 hb1 _ _; have HV2 := Lib.hid (Ob.mk hown1 hb1); clear hown1 hb1)
              go_meet
              exact HV2
          case rest =>
            have HV3 := hcut
            clear hcut HV
            obtain ⟨A9, c9, rfl, hc9, hC9⟩ := HV3.out.form
            have HC9 := Lib.hid hC9
            clear hC9
            have hT : (rawB m l ++ tail b m).length ≤ 505 := by
              rw [List.length_append, ← HN.out]
              cases b <;> simp only [tail, Bool.false_eq_true, if_false, if_true, List.length_nil, List.length_cons] <;> omega
            have HBy2 := Lib.hid (show Bys (rawB m l ++ tail b m) from by
              have hmb := HFt.out.2.hb
              intro x hx
              rcases List.mem_append.1 hx with h | h
              · unfold rawB at h
                rcases List.mem_append.1 h with h | h
                · simp at h; omega
                · exact but_bys m l HBy.out x h
              · cases b <;> simp [tail] at h
                omega)
            have HGet := Lib.hid (raw_get F t m HFt.out.2 l b)
            rw [← HN.out] at HGet
            generalize rawB m l ++ tail b m = B at *
            go_wp2_with fail
            refine (lex_any fm F A9 c9 _ B _ HFt.out.1 HC9.out hc9 HBy2.out (by omega)).mono ?_
            rintro e w6 ⟨g, k, rfl, hs, hb6, _, _⟩
            have HS := Lib.hid (And.intro hs (below_step HV3.out.bel hb6))
            have HLL := Lib.hid (lexF_len F (-1) B)
            clear hs hb6
            go_wp2_with fail
            go_loopg [64] B.length (fun gn iv wr => ∃ j : Nat, iv = .int .i64 j ∧ j ≤ B.length ∧ Hid (Sheet wr g k (lexF F (-1) B) ∧ Below w.heap.size w wr ∧ gn = B.length - j))
            case atStart => exact ⟨0, rfl, Nat.zero_le _, HS.out.1, HS.out.2, rfl⟩
            case round =>
              obtain ⟨j, rfl, hj, HQ⟩ := hrel
              have HS2 := Lib.hid (And.intro HQ.out.1 HQ.out.2.1)
              have HG := Lib.hid HQ.out.2.2
              clear HQ HS
              by_cases hlt : j < B.length
              · have hget := HGet.out j hlt
                by_cases h3 : 3 ≤ j
                · by_cases hN2 : j < N
                  · rw [if_pos ⟨h3, hN2⟩] at hget
                    have HGt := Lib.hid hget
                    clear hget
                    go_wp2_with (go_at_call 17; refine (at_in g k _ j 7 _ HS2.out.1 HGt.out).mono ?_; rintro e w' ⟨rfl, rfl⟩)
                    go_roundg (B.length - (j + 1))
                    case measure => have := HG.out; omega
                    case rel => exact ⟨j + 1, by go_num, by omega, HS2.out.1, HS2.out.2, rfl⟩
                  · rw [if_neg (by omega)] at hget
                    have HGt := Lib.hid hget
                    clear hget
                    go_wp2_with (go_at_call 17; refine (at_in g k _ j 4 _ HS2.out.1 HGt.out).mono ?_; rintro e w' ⟨rfl, rfl⟩)
                    go_roundg (B.length - (j + 1))
                    case measure => have := HG.out; omega
                    case rel => exact ⟨j + 1, by go_num, by omega, HS2.out.1, HS2.out.2, rfl⟩
                · rw [if_neg (by omega)] at hget
                  have HGt := Lib.hid hget
                  clear hget
                  go_wp2_with (go_at_call 17; refine (at_in g k _ j 4 _ HS2.out.1 HGt.out).mono ?_; rintro e w' ⟨rfl, rfl⟩)
                  go_roundg (B.length - (j + 1))
                  case measure => have := HG.out; omega
                  case rel => exact ⟨j + 1, by go_num, by omega, HS2.out.1, HS2.out.2, rfl⟩
              · obtain rfl : j = B.length := by omega
                go_wp2_with fail
                go_ret
                exact ⟨rfl, HS2.out.2⟩
end Go.Proofs.Ytjbbogcoabgcnaa.S
namespace Go.Proofs.Ytjbbogcoabgcnaa.Wk.SrcRaw
open Go.RowKit Go.Proofs.YtjbbogcoabgcnaaW.PrintWords Go.Proofs.Ytjbbogcoabgcnaa.S
theorem walk (a0 : Int) (A1 : Option Addr) (c1 : Nat) (l1 : List Int) (a2 : Bool) (w : World) (h0 : (Lit.int .u8 a0).wf = true) (hr : Kd.C (Kd.int .u8) w A1 l1.length l1) (hc : l1.length ≤ c1) (hg : Bys l1 ∧ l1.length ≤ 140737488351232) :
    Calls Try.prog 6 #[.int .u8 a0, .slice A1 l1.length c1, .bool a2] w fun e w' => e = .returned (.bool true) ∧ Below w.heap.size w w' := by
  obtain ⟨n, rfl, hn⟩ := u8_of h0
  exact srcRaw_any n A1 c1 l1 a2 w hn hr hc hg.1 hg.2
end Go.Proofs.Ytjbbogcoabgcnaa.Wk.SrcRaw
