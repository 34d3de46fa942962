/- The law EditsBack, walked: it answers true. Conditions: none. -/
import Derived.Test.YtgcjkijndibejaaEAprt
set_option linter.unusedVariables false
set_option linter.unusedSimpArgs false
namespace Go.Proofs.Ytgcjkijndibejaa.Srt
open Go.Lib hiding bytesOf bytesOf_length
open Go.Shelf Go.RowKit Go.Proofs.YtgcjkijndibejaaW.PrintWords Go.Proofs.YtgcjkijndibejaaW.PrintLast

/-- The first i edits of a list that is turned. -/
def turned (S : List Ed) (n i : Nat) : List Ed := (List.range i).map (fun j => S.getD ((j + n) % S.length) dE)
theorem turned_succ (S : List Ed) (n i : Nat) : turned S n (i + 1) = turned S n i ++ [S.getD ((i + n) % S.length) dE] := by
  unfold turned
  rw [List.range_succ, List.map_append]
  rfl
theorem turned_len (S : List Ed) (n i : Nat) : (turned S n i).length = i := by simp [turned]
theorem turned_perm (S : List Ed) (n : Nat) : (turned S n S.length).Perm S := by
  rcases Nat.eq_zero_or_pos S.length with h | h
  · obtain rfl : S = [] := List.eq_nil_of_length_eq_zero h
    exact List.Perm.refl _
  · have hm : n % S.length < S.length := Nat.mod_lt _ h
    have e : turned S n S.length = S.drop (n % S.length) ++ S.take (n % S.length) := by
      refine List.ext_getElem (by rw [turned_len, List.length_append, List.length_drop, List.length_take]; omega) (fun j h1 h2 => ?_)
      rw [turned_len] at h1
      have hj : (turned S n S.length)[j]'(by rw [turned_len]; exact h1) = S.getD ((j + n) % S.length) dE := by
        unfold turned
        rw [List.getElem_map, List.getElem_range]
      rw [hj, ← Nat.add_mod_mod]
      generalize n % S.length = m at *
      by_cases hc : j < S.length - m
      · rw [Nat.mod_eq_of_lt (by omega), List.getElem_append_left (by rw [List.length_drop]; exact hc), List.getElem_drop, List.getD_eq_getElem?_getD, List.getElem?_eq_getElem (by omega), Option.getD_some]
        congr 1
        omega
      · have h3 : (j + m) % S.length = j - (S.length - m) := by
          rw [Nat.mod_eq_sub_mod (by omega), Nat.mod_eq_of_lt (by omega)]
          omega
        rw [h3, List.getElem_append_right (by rw [List.length_drop]; omega), List.getElem_take, List.getD_eq_getElem?_getD, List.getElem?_eq_getElem (by omega), Option.getD_some]
        congr 1
        rw [List.length_drop]
    rw [e]
    refine List.perm_append_comm.trans ?_
    rw [List.take_append_drop]
set_option maxRecDepth 100000 in
set_option maxHeartbeats 8000000 in
theorem editsBack_any (A : Option Addr) (c : Nat) (b : List Int) (A1 : Option Addr) (c1 : Nat) (gs : List Int) (A2 : Option Addr) (c2 : Nat) (ts : List ByteArray) (tn : Nat) (w : World) (hC : Kd.C (Kd.int .u8) w A b.length b) (hc : b.length ≤ c) (hB : Bys b) (hm : b.length ≤ 140737488351232)
    (hC1 : Kd.C (Kd.int .u8) w A1 gs.length gs) (hc1 : gs.length ≤ c1) (hg : Bys gs) (hgl : gs.length ≤ 140737488351232) (hC2 : Kd.C Kd.string w A2 ts.length ts) (hc2 : ts.length ≤ c2) (hn : tn < 256) :
    Calls Try.prog 9 #[.slice A b.length c, .slice A1 gs.length c1, .slice A2 ts.length c2, .int .u8 tn] w fun e w' => e = .returned (.bool true) ∧ Below w.heap.size w w' := by
  have HC := Lib.hid (And.intro hC (And.intro hc hB))
  have HG := Lib.hid (And.intro hC1 (And.intro hc1 (And.intro hg hgl)))
  have HS := Lib.hid (And.intro hC2 hc2)
  clear hC hc hB hC1 hc1 hg hgl hC2 hc2
  go_enter Try.func9, Try.ntmps9
  go_wp2_with fail
  refine (awake_any _).mono ?_
  rintro e w1 ⟨rfl, hb1⟩
  have HW := Lib.hid hb1
  clear hb1
  by_cases g1 : 300 < b.length
  · have h3 : decide ((300 : Int) < (b.length : Int)) = true := by simp; omega
    go_wp2_with fail
    go_ret
    exact ⟨rfl, HW.out⟩
  have h3 : decide ((300 : Int) < (b.length : Int)) = false := by simp; omega
  go_wp2_with fail
  refine (apart_any A c b A1 c1 gs A2 c2 ts _ (Kd.C_below HC.out.1 HW.out) HC.out.2.1 (by omega) (Kd.C_below HG.out.1 HW.out) HG.out.2.1 HG.out.2.2.1 HG.out.2.2.2 (Kd.C_below HS.out.1 HW.out) HS.out.2).mono ?_
  rintro e w2 ⟨v2, S, rfl, hO, hAp, hsz, hlen⟩
  have HO := Lib.hid hO
  have HAp := Lib.hid hAp
  have HSz := Lib.hid hsz
  have HW2 := Lib.hid (below_step HW.out hO.bel)
  have HCb := Lib.hid (Kd.C_below HC.out.1 HW2.out)
  have hE := EdR.own hO.own
  obtain ⟨A3, c3, rfl, hc3, hR⟩ := hO.form
  have HE := Lib.hid hE
  have HR := Lib.hid hR
  have hS3 : S.length ≤ 300 := by omega
  clear hO hAp hsz hE hR HG HS HW HO
  go_upto_block 0 with fail
  go_wp2_with fail
  go_loopg [10, 31] S.length (fun gn ov iv wr => ∃ i : Nat, iv = .int .i64 i ∧ i ≤ S.length ∧ Hid (Oe w2 wr ov (turned S tn i) ∧ gn = S.length - i))
  case atStart => exact ⟨0, rfl, Nat.zero_le _, ⟨World.ownsRow_nil _ _ _ _, Below.refl _ _⟩, rfl⟩
  case round =>
  obtain ⟨i, rfl, hi, HQ⟩ := hrel
  obtain ⟨A4, c4, hv4, _, _⟩ := HQ.out.1.form
  rw [turned_len] at hv4
  subst hv4
  by_cases hlt : i < S.length
  · have hdl : decide ((i : Int) < (S.length : Int)) = true := by simp; omega
    obtain ⟨g, o, rfl, hgs, hcell⟩ := HR.out (by omega)
    obtain ⟨j, hj, hjn⟩ : ∃ j : Nat, ((i : Int) + (tn : Int)) % (S.length : Int) = (j : Int) ∧ j = (i + tn) % S.length := ⟨(i + tn) % S.length, by push_cast; rfl, rfl⟩
    have hjl : j < S.length := by rw [hjn]; exact Nat.mod_lt _ (by omega)
    have kp : ∀ t, t < 3 → wr.cell? ⟨g, o + (j * 3 + t), none⟩ = (encE (S.getD j dE))[t]? := fun t ht => (HQ.out.1.bel.cell (p := ⟨g, o + (j * 3 + t), none⟩) hgs).trans (hcell j t hjl ht)
    have k0 := kp 0 (by omega)
    have k1 := kp 1 (by omega)
    have k2 := kp 2 (by omega)
    have HT := Lib.hid (turned_succ S tn i)
    rw [← hjn] at HT
    obtain ⟨x, hx⟩ : ∃ x, S.getD j dE = x := ⟨_, rfl⟩
    rw [hx] at k0 k1 k2 HT
    obtain ⟨p, q, t0⟩ := x
    have k0 : wr.cell? ⟨g, o + j * 3, none⟩ = some (.int .i64 p) := k0
    have k1 : wr.cell? ⟨g, o + j * 3 + 1, none⟩ = some (.int .i64 q) := k1
    have k2 : wr.cell? ⟨g, o + j * 3 + 2, none⟩ = some (.string t0) := k2
    have hbs := HQ.out.1.bel.size
    have HJ := Lib.hid hjn
    clear kp hx hcell hgs hjn
    go_wp2_with (at_builtin; refine print_append_cells (w0 := w2) w2.heap.size rfl _ _ 23 46 (.agg #[(.int .i64 0), (.int .i64 0), (.string ⟨#[]⟩)]) 3 32 rfl Try.underlying23 info46 rfl (by decide) (by decide) (.slice A4 i c4) i (edC (turned S tn i)) [.int .i64 p, .int .i64 q, .string t0] rfl rfl rfl (by simp [Value.oneCell']) (by have h := HQ.out.1.own; rw [turned_len] at h; exact h) HQ.out.1.bel hbs (by omega) ?_; intro v1 w4 hown1 hb1 _ _; have HO := Lib.hid hown1; have HB := Lib.hid hb1; clear hown1 hb1)
    go_roundg (S.length - (i + 1))
    case measure => have := HQ.out.2; omega
    case rel => exact ⟨i + 1, by go_num, by omega, ⟨by rw [HT.out, edC_snoc, List.length_append, turned_len]; exact HO.out, HB.out⟩, rfl⟩
  · obtain rfl : i = S.length := by omega
    have hAll := back_all HC.out.2.2 S S (HAp.out.less (by omega) (by omega)) (List.Perm.refl _) (by omega)
    have hAll2 := back_all HC.out.2.2 S (turned S tn S.length) (HAp.out.less (by omega) (by omega)) (turned_perm S tn) (by rw [turned_len]; omega)
    have hT := tidy_ap b S S 1 HAp.out (by omega) (List.Perm.refl _) (by omega)
    have hT2 := tidy_ap b S (turned S tn S.length) 1 HAp.out (by omega) (turned_perm S tn) (by rw [turned_len]; omega)
    have hkl := kept_len b S
    have hKm : ∀ e ∈ kept b S, e.2.2.size ≤ 9 := fun e he => HSz.out e (List.mem_filter.1 he).1
    have hXl := apl_len b 9 (kept b S) 0 ((HAp.out.filter _).less (by omega) (by omega)) (by omega) hKm
    have hBl : (bk b 0 (kept b S)).length ≤ 300 := by rw [bk_length]; omega
    have hBs := bk_txt b 300 (kept b S) 0 (fun e _ => by unfold cut; rw [List.length_take, List.length_drop]; omega)
    have hTm : ∀ e ∈ turned S tn S.length, e.2.2.size ≤ 9 := fun e he => HSz.out e ((turned_perm S tn).mem_iff.1 he)
    obtain ⟨hA1, _, hA3, hA4⟩ := hAll
    obtain ⟨hB1, hB2, _, _⟩ := hAll2
    have HT := Lib.hid hT
    have HT2 := Lib.hid hT2
    have HA1 := Lib.hid hA1
    have HA3 := Lib.hid hA3
    have HA4 := Lib.hid hA4
    have HB1 := Lib.hid hB1
    have HB2 := Lib.hid hB2
    have HBs := Lib.hid hBs
    have HTm := Lib.hid hTm
    have hX : (apl b 0 (kept b S)).length ≤ 100000 := by omega
    clear hT hT2 hA1 hA3 hA4 hB1 hB2 hBs hTm hKm hXl hkl
    generalize bk b 0 (kept b S) = B at *
    generalize apl b 0 (kept b S) = X at *
    have hE4 := EdR.own HQ.out.1.own
    have HE4 := Lib.hid hE4
    have HQb := Lib.hid HQ.out.1.bel
    clear hE4 HQ
    have htl := turned_len S tn S.length
    have HTL := Lib.hid htl
    clear htl
    generalize turned S tn S.length = T at *
    go_wp2_with fail
    refine (apply_any A c b _ S _ (Kd.C_below HCb.out HQb.out) HC.out.2.1 (EdR.below HE.out HQb.out) (by omega) (by omega) (fun e he => by have := HSz.out e he; omega)).mono ?_
    rintro e w3 ⟨v3, rfl, ho3⟩
    rw [HA1.out] at ho3
    rw [HT.out]
    obtain ⟨A5, c5, rfl, hc5, hC5⟩ := ho3.form
    have HO3 := Lib.hid (And.intro hC5 (And.intro hc5 (below_step HQb.out ho3.bel)))
    have HE5 := Lib.hid (EdR.below HE4.out ho3.bel)
    clear ho3 hC5 hc5 HE4
    go_wp2_with fail
    refine (apply_any A c b _ T _ (Kd.C_below HCb.out HO3.out.2.2) HC.out.2.1 HE5.out (by omega) (by have := HTL.out; omega) (fun e he => by have := HTm.out e he; omega)).mono ?_
    rintro e w4 ⟨v4, rfl, ho4⟩
    rw [HB1.out] at ho4
    rw [HT2.out]
    obtain ⟨A6, c6, rfl, hc6, hC6⟩ := ho4.form
    have HO4 := Lib.hid (And.intro hC6 (And.intro (Kd.C_below HO3.out.1 ho4.bel) (And.intro HO3.out.2.1 (below_step HO3.out.2.2 ho4.bel))))
    have HE6 := Lib.hid (EdR.below HE5.out ho4.bel)
    clear ho4 hC6 hc6 HE5 HO3
    go_wp2_with fail
    refine (back_any A c b _ T _ (Kd.C_below HCb.out HO4.out.2.2.2) HC.out.2.1 HE6.out (by omega) (by have := HTL.out; omega) (fun e he => by have := HTm.out e he; omega)).mono ?_
    rintro e w5 ⟨v5, rfl, ho5⟩
    rw [HB2.out] at ho5
    rw [HT2.out]
    have hE7 := EdR.own ho5.own
    obtain ⟨A7, c7, rfl, _, _⟩ := ho5.form
    have HO5 := Lib.hid (And.intro (Kd.C_below HO4.out.1 ho5.bel) (And.intro (Kd.C_below HO4.out.2.1 ho5.bel) (And.intro HO4.out.2.2.1 (below_step HO4.out.2.2.2 ho5.bel))))
    have HE7 := Lib.hid hE7
    clear ho5 hE7 HO4 HE6
    go_wp2_with fail
    refine (apply_any A5 c5 X _ B _ HO5.out.2.1 HO5.out.2.2.1 HE7.out hX (by omega) (fun e he => by have := HBs.out e he; omega)).mono ?_
    rintro e w6 ⟨v6, rfl, ho6⟩
    rw [HA4.out] at ho6
    rw [HA3.out]
    obtain ⟨A8, c8, rfl, _, hC8⟩ := ho6.form
    have hcv1 := conv_C (c := c5) (Kd.C_below HO5.out.2.1 ho6.bel)
    have hcv2 := conv_C (c := c6) (Kd.C_below HO5.out.1 ho6.bel)
    have hcv3 := conv_C (c := c8) hC8
    have hcv4 := conv_C (c := c) (Kd.C_below HCb.out (below_step HO5.out.2.2.2 ho6.bel))
    have HF := Lib.hid (below_step HW2.out (below_step HO5.out.2.2.2 ho6.bel))
    clear ho6 hC8 HO5 HE7 HA1 HA3 HA4 HB1 HB2 HT HT2 HBs HTm HTL HQb HE HR
    go_wp2_with fail
    go_ret
    exact ⟨rfl, HF.out⟩
end Go.Proofs.Ytgcjkijndibejaa.Srt
namespace Go.Proofs.Ytgcjkijndibejaa.Wk.EditsBack
open Go.RowKit Go.Proofs.YtgcjkijndibejaaW.PrintWords Go.Proofs.Ytgcjkijndibejaa.Srt
theorem walk (A : Option Addr) (c : Nat) (b : List Int) (A1 : Option Addr) (c1 : Nat) (gs : List Int) (A2 : Option Addr) (c2 : Nat) (ts : List ByteArray) (n : Int) (w : World) (hC : Kd.C (Kd.int .u8) w A b.length b) (hc : b.length ≤ c) (hg : Bys b ∧ b.length ≤ 140737488351232)
    (hC1 : Kd.C (Kd.int .u8) w A1 gs.length gs) (hc1 : gs.length ≤ c1) (hg1 : Bys gs ∧ gs.length ≤ 140737488351232) (hC2 : Kd.C Kd.string w A2 ts.length ts) (hc2 : ts.length ≤ c2) (hg2 : True) (hn : (Lit.int .u8 n).wf = true) :
    Calls Try.prog 9 #[.slice A b.length c, .slice A1 gs.length c1, .slice A2 ts.length c2, .int .u8 n] w fun e w' => e = .returned (.bool true) ∧ Below w.heap.size w w' := by
  obtain ⟨n, rfl, hn2⟩ := u8_of hn
  exact editsBack_any A c b A1 c1 gs A2 c2 ts n w hC hc hg.1 hg.2 hC1 hc1 hg1.1 hg1.2 hC2 hc2 hn2
end Go.Proofs.Ytgcjkijndibejaa.Wk.EditsBack
