/- The law EditsOwn, walked: it answers true. Conditions: none. -/
import Derived.Test.YtgcjkijndibejaaEAprt
import Derived.Test.YtgcjkijndibejaaESame
set_option linter.unusedVariables false
set_option linter.unusedSimpArgs false
namespace Go.Proofs.Ytgcjkijndibejaa.Srt
open Go.Lib hiding bytesOf bytesOf_length
open Go.Shelf Go.RowKit Go.Proofs.YtgcjkijndibejaaW.PrintWords Go.Proofs.YtgcjkijndibejaaW.PrintLast

theorem Ob.lit (w0 W : World) (xs : List Int) (h : Below w0.heap.size w0 W) (hm : xs.length ≤ 9) : Ob w0 (W.alloc (.cells (nums .u8 xs).toArray 5)) (.slice (some ⟨W.heap.size, 0, none⟩) xs.length xs.length) xs :=
  ⟨own_lit W _ _ _ xs h.size (by omega), below_alloc h _⟩
theorem Oe.lit (w0 W : World) (h : Below w0.heap.size w0 W) : Oe w0 (W.alloc (.cells #[] 46)) (.slice (some ⟨W.heap.size, 0, none⟩) 0 0) [] := by
  refine ⟨?_, below_alloc h _⟩
  have h := World.ownsRow_lit (base := w0.heap.size) (e := 46) (size := 3) W #[] 0 h.size (by simp [maxLen]) (by simp)
  have h : (W.alloc (.cells #[] 46)).ownsRow w0.heap.size 46 3 (.slice (some ⟨W.heap.size, 0, none⟩) 0 0) 0 [] := by simpa using h
  exact h
/-- A cut beyond the length, within the spare room. -/
theorem cut_far (A : Option Addr) (n c p : Nat) (hp : p ≤ c) : ∀ W : World, (Instr.slice 22 (.slice A n c) none (some (.int .i64 p)) none).run Try.prog W = .ok (.slice A p c) W := by
  intro W
  obtain ⟨i0, hi0, _, hsz, _⟩ := info_parts info_u8
  have ht := Try.underlying22
  have hel : Try.prog.elem 22 = 5 := by simp [Program.elem, ht]
  have hu : Try.prog.underlying 22 = some (.slice (Try.prog.elem 22)) := by rw [hel]; exact ht
  have ha : (A.map fun x => x.add 0) = A := by cases A <;> simp [Addr.add]
  rw [run_slice_h W 22 A n c hu .i64 (p : Int) (by omega) (by omega), hel]
  simp [sizeOf, typeInfo, hi0, sliced, Result.andThen, ha]
/-- Edits appended onto a row of one's own. -/
theorem Oe.appendR {w0 W : World} {v : Value} {es : List Ed} (h : Oe w0 W v es) (A : Option Addr) (c : Nat) (ls : List Ed) (hE : EdR W (.slice A ls.length c) ls) (hl : es.length + ls.length ≤ 1000000) (ty : TypeId) :
    ∃ v1 w1, (Builtin.append_ #[23, 23] ty #[v, .slice A ls.length c]).run Try.prog W = .ok v1 w1 ∧ Oe w0 w1 v1 (es ++ ls) ∧ W.grownBy w1 v.ownBlock := by
  obtain ⟨i0, hi, hz0, hz1, hz2⟩ := info_parts info46
  have ht := Try.underlying23
  rcases hE with ⟨he, rfl⟩ | ⟨g, of, c2, he, hc2, hg, hcells⟩
  · injection he with hA hn hc
    subst hA; subst hc
    refine ⟨v, W, ?_, by rw [List.append_nil]; exact h, World.grownBy.refl W _⟩
    rcases h.own.2 with ⟨rfl, hn⟩ | ⟨g, cap, cur, rfl, _, _, hnc, _⟩
    · simp [Builtin.append_, run_underlying ht, sizeOf, typeInfo, hi, Builtin.lenOf, Builtin.firstCells]
    · simp [Builtin.append_, run_underlying ht, sizeOf, typeInfo, hi, Builtin.lenOf, Builtin.firstCells, hnc, storeCells]
  · injection he with hA hn hc
    subst hA; subst hc
    have hl3 : (edC ls).length = ls.length * 3 := edC_length ls
    obtain ⟨v1, w1, hr, h2, h3, _⟩ := run_append_own (P := Try.prog) (w := W) w0.heap.size 23 ty 46 i0 (.agg #[(.int .i64 0), (.int .i64 0), (.string ⟨#[]⟩)]) 3 32 Try.underlying23 hi hz0 hz1 hz2 rfl (by omega) v es.length (edC es) h.own ⟨g, of, none⟩ ls.length c (edC ls) hl3
      (fun j u hu => by
        have hj : j < ls.length * 3 := by rw [← hl3]; exact (List.getElem?_eq_some_iff.1 hu).1
        rw [add_off, hcells j hj, hu])
      (fun u hu => by
        unfold edC at hu
        obtain ⟨x, _, hx⟩ := List.mem_flatMap.1 hu
        simp only [encE, List.mem_cons, List.not_mem_nil, or_false] at hx
        rcases hx with rfl | rfl | rfl <;> rfl)
      (by simp only [maxLen]; omega) (by omega) h.bel.size
    refine ⟨v1, w1, hr, ⟨?_, h.bel.grown h3 h.bel.size (fun k hk => (h.own.lt k hk).1)⟩, h3⟩
    have e : edC (es ++ ls) = edC es ++ edC ls := by unfold edC; rw [List.flatMap_append]
    rw [e, List.length_append]
    exact h2
set_option maxRecDepth 100000 in
set_option maxHeartbeats 8000000 in
theorem editsOwn_any (A : Option Addr) (c : Nat) (b : List Int) (A1 : Option Addr) (c1 : Nat) (gs : List Int) (A2 : Option Addr) (c2 : Nat) (ts : List ByteArray) (w : World) (hC : Kd.C (Kd.int .u8) w A b.length b) (hc : b.length ≤ c) (hB : Bys b) (hm : b.length ≤ 140737488351232)
    (hC1 : Kd.C (Kd.int .u8) w A1 gs.length gs) (hc1 : gs.length ≤ c1) (hg : Bys gs) (hgl : gs.length ≤ 140737488351232) (hC2 : Kd.C Kd.string w A2 ts.length ts) (hc2 : ts.length ≤ c2) :
    Calls Try.prog 6 #[.slice A b.length c, .slice A1 gs.length c1, .slice A2 ts.length c2] w fun e w' => e = .returned (.bool true) ∧ Below w.heap.size w w' := by
  have HC := Lib.hid (And.intro hC (And.intro hc hB))
  have HG := Lib.hid (And.intro hC1 (And.intro hc1 (And.intro hg hgl)))
  have HS := Lib.hid (And.intro hC2 hc2)
  clear hC hc hB hC1 hc1 hg hgl hC2 hc2
  go_enter Try.func6, Try.ntmps6
  go_wp2_with fail
  refine (awake_any _).mono ?_
  rintro e w1 ⟨rfl, hb1⟩
  have HW := Lib.hid hb1
  clear hb1
  by_cases g1 : 300 < b.length
  · have h3 : decide ((300 : Int) < (b.length : Int)) = true := by simp; omega
    go_wp2_with fail
    go_ret
    exact ⟨rfl, HW.out⟩
  have h3 : decide ((300 : Int) < (b.length : Int)) = false := by simp; omega
  have hC1 := Kd.C_below HC.out.1 HW.out
  have hl0 := Ob.lit w1 w1 [] (Below.refl _ _) (by simp)
  obtain ⟨v2, w2, hr2, ho2, _⟩ := hl0.append A b.length c b (Kd.C_below hC1 (below_alloc (Below.refl _ _) _)) (by simp; omega) 22
  rw [List.nil_append] at ho2
  obtain ⟨A2', c2', rfl, hc2', _⟩ := ho2.form
  have hl1 := lit_C w2 5 (0, 0) [1, 2, 3] (by simp)
  obtain ⟨v3, w3, hr3, ho3, _⟩ := (ho2.alloc (.cells #[.int .u8 1, .int .u8 2, .int .u8 3] 5 (0, 0))).append (some ⟨w2.heap.size, 0, none⟩) 3 3 [1, 2, 3] hl1 (by simp; omega) 22
  obtain ⟨A3', c3', rfl, hc3', hC3⟩ := ho3.form
  have HO3 := Lib.hid (And.intro hC3 ho3.bel)
  have hc3n : b.length + 3 ≤ c3' := by rw [List.length_append] at hc3'; exact hc3'
  have hct := cut_far A3' (b ++ [1, 2, 3]).length c3' b.length (by omega)
  clear hC1 hl0 ho2 hl1 ho3 hC3 hc3'
  go_upto_region 6 with (at_builtin; first | refine Lib.wpList_append_run_sl _ rfl _ _ 22 rfl (.slice (some ⟨w1.heap.size, 0, none⟩) 0 0) (.slice A b.length c) rfl rfl hr2 ?_ | refine Lib.wpList_append_run_sl _ rfl _ _ 22 rfl (.slice A2' b.length c2') (.slice (some ⟨w2.heap.size, 0, none⟩) 3 3) rfl rfl hr3 ?_)
  have hCi := C_take HO3.out.1 b.length (by rw [List.length_append]; omega)
  rw [List.take_left] at hCi
  have HCi := Lib.hid hCi
  have hb3 := below_step HW.out HO3.out.2
  have HW3 := Lib.hid hb3
  clear hCi hr2 hr3 hct
  go_wp2_with fail
  refine (apart_any A c b A1 c1 gs A2 c2 ts _ (Kd.C_below HC.out.1 hb3) HC.out.2.1 (by omega) (Kd.C_below HG.out.1 hb3) HG.out.2.1 HG.out.2.2.1 HG.out.2.2.2 (Kd.C_below HS.out.1 hb3) HS.out.2).mono ?_
  rintro e w4 ⟨v4, S, rfl, hO, hAp, hsz, hlen⟩
  have HAp := Lib.hid hAp
  have HSz := Lib.hid hsz
  have hE := EdR.own hO.own
  obtain ⟨A4, c4, rfl, hc4, _⟩ := hO.form
  have hS3 : S.length ≤ 300 := by omega
  have hOb := hO.bel
  obtain ⟨v5, w5, hr5, ho5, _⟩ := (Oe.lit w4 w4 (Below.refl _ _)).appendR A4 c4 S (hE.below (below_alloc (Below.refl _ _) _)) (by simp; omega) 23
  rw [List.nil_append] at ho5
  have hb45 := ho5.bel
  have hE5 := EdR.own ho5.own
  have HL := Lib.hid (And.intro (hE.below hb45) hE5)
  have HI := Lib.hid (And.intro (Kd.C_below HCi.out (below_step hOb hb45)) (And.intro (Kd.C_below HO3.out.1 (below_step hOb hb45)) (below_step HW3.out (below_step hOb hb45))))
  clear hO hAp hsz hE ho5 hE5 hOb hb45 hb3 HCi HO3 HW3 HG HS
  go_upto_region 8 with (at_builtin; refine Lib.wpList_append_run_sl _ rfl _ _ 23 rfl (.slice (some ⟨w4.heap.size, 0, none⟩) 0 0) (.slice A4 S.length c4) rfl rfl hr5 ?_)
  clear hr5
  have HT := Lib.hid (tidy_ap b S S 1 HAp.out (by omega) (List.Perm.refl _) (by omega))
  go_wp2_with fail
  refine (apply_any A3' c3' b _ S _ HI.out.1 (by omega) HL.out.1 (by omega) (by omega) (fun e he => by have := HSz.out e he; omega)).mono ?_
  rintro e w6 ⟨v6, rfl, ho6⟩
  rw [HT.out]
  have hX : (applyR b S).length ≤ 3000 := by
    rw [(back_all HC.out.2.2 S S (HAp.out.less (by omega) (by omega)) (List.Perm.refl _) (by omega)).1]
    have h1 := apl_len b 9 (kept b S) 0 ((HAp.out.filter (chg b)).less (by omega) (by omega)) (by omega) (fun e he => HSz.out e (List.mem_filter.1 he).1)
    have h2 := kept_len b S
    omega
  have hkl := kept_len b S
  generalize applyR b S = X at *
  obtain ⟨A6, c6, rfl, hc6, _⟩ := ho6.form
  have HO6 := Lib.hid ho6
  clear ho6
  go_upto_block 0 with fail
  go_wp2_with fail
  go_loopg [44] X.length (fun gn iv wr => ∃ i : Nat, iv = .int .i64 i ∧ i ≤ X.length ∧ Hid (∃ ys : List Int, wr.ownsRow w5.heap.size 5 1 (.slice A6 X.length c6) X.length (nums .u8 ys)) ∧ Hid (Below w5.heap.size w5 wr ∧ gn = X.length - i))
  case atStart => exact ⟨0, rfl, Nat.zero_le _, ⟨X, HO6.out.own⟩, HO6.out.bel, rfl⟩
  case round =>
  obtain ⟨i, rfl, hi, HQ, HB⟩ := hrel
  by_cases hlt : i < X.length
  · have hdl : decide ((i : Int) < (X.length : Int)) = true := by simp; omega
    obtain ⟨ys, ho⟩ := HQ.out
    have hgf : ∃ g, A6 = some ⟨g, 0, none⟩ ∧ w5.heap.size ≤ g := by
      rcases ho.2 with ⟨h1, h2⟩ | ⟨g, cap, cur, h1, h2, _⟩
      · omega
      · injection h1 with h1
        exact ⟨g, h1, h2⟩
    obtain ⟨g, rfl, hgb⟩ := hgf
    obtain ⟨k0, k1⟩ := own_at ho (i : Int) (by omega) (by omega)
    rw [Int.toNat_natCast] at k0 k1
    have HO := Lib.hid ho
    clear ho HQ
    generalize rd ys (i : Int) = v at *
    go_wp2_with fail
    go_roundg (X.length - (i + 1))
    case measure => have := HB.out.2; omega
    case rel =>
      refine ⟨i + 1, by go_num, by omega, Lib.hid ⟨ys.set i (bits .xor .u8 v 255), ?_⟩, Lib.hid ⟨HB.out.1.setCell hgb _, rfl⟩⟩
      have h := (own_store HO.out (i : Int) (bits .xor .u8 v 255)).1
      rw [Int.toNat_natCast] at h
      exact h
  · obtain rfl : i = X.length := by omega
    obtain ⟨wx, rfl⟩ : ∃ wx : World, wx = wr := ⟨_, rfl⟩
    have HBx := Lib.hid HB.out.1
    clear HB HQ HO6
    go_upto_region 14 with fail
    go_wp2_with fail
    refine (tidy_any A3' c3' b _ S _ (Kd.C_below HI.out.1 HBx.out) (by omega) (HL.out.1.below HBx.out) (by omega)).mono ?_
    rintro e w8 ⟨v8, rfl, ho8, hb8⟩
    rw [HT.out] at ho8
    rw [HT.out]
    have ho8 : w8.ownsRow wx.heap.size 46 3 v8 (kept b S).length (edC (kept b S)) := ho8
    generalize kept b S = K at *
    obtain ⟨A8, c8, rfl⟩ := own_form3 ho8
    have HO8 := Lib.hid (show 0 < K.length → ∃ g cur, A8 = some ⟨g, 0, none⟩ ∧ wx.heap.size ≤ g ∧ w8.heap[g]? = some (.cells cur 46 (0, 0)) ∧ K.length * 3 ≤ cur.size from by
      intro h0
      rcases ho8.2 with ⟨h1, h2⟩ | ⟨g, cap, cur, h1, h2, h3, h4, _, _, h5⟩
      · omega
      · injection h1 with h1
        refine ⟨g, cur, h1, h2, h3, ?_⟩
        have := congrArg List.length h5
        rw [List.length_take, edC_length, Array.length_toList] at this
        omega)
    have HB8 := Lib.hid hb8
    clear ho8 hb8
    go_upto_block 2 with fail
    go_wp2_with fail
    go_loopg [62] K.length (fun gn iv wr => ∃ i : Nat, iv = .int .i64 i ∧ i ≤ K.length ∧ Hid (0 < K.length → ∃ g cur, A8 = some ⟨g, 0, none⟩ ∧ wx.heap.size ≤ g ∧ wr.heap[g]? = some (.cells cur 46 (0, 0)) ∧ K.length * 3 ≤ cur.size) ∧ Hid (Below wx.heap.size wx wr ∧ gn = K.length - i))
    case atStart => exact ⟨0, rfl, Nat.zero_le _, HO8, HB8.out, rfl⟩
    case round =>
    obtain ⟨j, rfl, hj, HQ, HB⟩ := hrel
    by_cases hlt3 : j < K.length
    · have hdl : decide ((j : Int) < (K.length : Int)) = true := by simp; omega
      obtain ⟨g, cur, rfl, hgb, hh, hcs⟩ := HQ.out (by omega)
      have k1 := blk_frozen hh (j * 3)
      have k0 := blk_cell hh (j * 3)
      rw [Array.getElem?_eq_getElem (show j * 3 < cur.size by omega)] at k0
      have HH := Lib.hid hh
      clear hh HQ HO8
      generalize cur[j * 3]'(by omega) = u at *
      go_wp2_with fail
      go_roundg (K.length - (j + 1))
      case measure => have := HB.out.2; omega
      case rel =>
        exact ⟨j + 1, by go_num, by omega, Lib.hid (fun _ => ⟨g, cur.setIfInBounds (j * 3) (.int .i64 (-1)), rfl, hgb, blk_set HH.out (j * 3) _, by rw [Array.size_setIfInBounds]; exact hcs⟩), Lib.hid ⟨HB.out.1.setCell hgb _, rfl⟩⟩
    · obtain rfl : j = K.length := by omega
      have hbr := below_step HBx.out HB.out.1
      have hcv1 := conv_C (c := c3') (Kd.C_below HI.out.1 hbr)
      have hcv2 := conv_C (c := c) (Kd.C_below HC.out.1 (below_step HI.out.2.2 hbr))
      have hct1 := cut_far A3' b.length c3' (b.length + 3) hc3n
      have hct2 := cut_from_b A3' (b.length + 3) c3' b.length (by omega) hc3n
      have hCd := Kd.C_drop (m := b.length) (Kd.C_below HI.out.2.1 hbr) (by rw [List.length_append]; omega) (by rw [List.length_append]; exact hc3n)
      rw [List.drop_left] at hCd
      have hCd : Kd.C (Kd.int .u8) wr (if c3' = b.length then A3' else A3'.map (·.add (b.length * 1))) 3 [1, 2, 3] := hCd
      have hcv3 := conv_C (c := c3' - b.length) hCd
      have e3 : strOfNums [1, 2, 3] = (⟨#[1, 2, 3]⟩ : ByteArray) := rfl
      rw [e3] at hcv3
      rw [Nat.add_sub_cancel_left] at hct2
      generalize (if c3' = b.length then A3' else A3'.map (·.add (b.length * 1))) = A9 at *
      push_cast at hct1
      have HF := Lib.hid (And.intro (HL.out.1.below hbr) (And.intro (HL.out.2.below hbr) (below_step HI.out.2.2 hbr)))
      clear hbr hCd HB HQ HBx HB8 HO8 e3
      go_wp2_with fail
      refine (same_any _ _ S _ HF.out.1 HF.out.2.1 (by omega)).mono ?_
      rintro e w9 ⟨rfl, hb9⟩
      have HE := Lib.hid (below_step HF.out.2.2 hb9)
      clear hb9
      go_wp2_with fail
      go_ret
      exact ⟨rfl, HE.out⟩
end Go.Proofs.Ytgcjkijndibejaa.Srt
namespace Go.Proofs.Ytgcjkijndibejaa.Wk.EditsOwn
open Go.RowKit Go.Proofs.YtgcjkijndibejaaW.PrintWords Go.Proofs.Ytgcjkijndibejaa.Srt
theorem walk (A : Option Addr) (c : Nat) (b : List Int) (A1 : Option Addr) (c1 : Nat) (gs : List Int) (A2 : Option Addr) (c2 : Nat) (ts : List ByteArray) (w : World) (hC : Kd.C (Kd.int .u8) w A b.length b) (hc : b.length ≤ c) (hg : Bys b ∧ b.length ≤ 140737488351232)
    (hC1 : Kd.C (Kd.int .u8) w A1 gs.length gs) (hc1 : gs.length ≤ c1) (hg1 : Bys gs ∧ gs.length ≤ 140737488351232) (hC2 : Kd.C Kd.string w A2 ts.length ts) (hc2 : ts.length ≤ c2) (hg2 : True) :
    Calls Try.prog 6 #[.slice A b.length c, .slice A1 gs.length c1, .slice A2 ts.length c2] w fun e w' => e = .returned (.bool true) ∧ Below w.heap.size w w' :=
  editsOwn_any A c b A1 c1 gs A2 c2 ts w hC hc hg.1 hg.2 hC1 hc1 hg1.1 hg1.2 hC2 hc2
end Go.Proofs.Ytgcjkijndibejaa.Wk.EditsOwn
