/- The law HtmlPlain, walked: it answers true. Conditions: none. -/
import Derived.Test.YtcbibbdkjhkmoaaHOps
import Derived.Test.YtcbibbdkjhkmoaaHtmPlainLaw
set_option linter.unusedVariables false
set_option linter.unusedSimpArgs false
namespace Go.Proofs.Ytcbibbdkjhkmoaa.H
open Go.RowKit Go.Proofs.YtcbibbdkjhkmoaaW.PrintWords Go.Proofs.YtcbibbdkjhkmoaaW.PrintLast Go.Proofs.Ytcbibbdkjhkmoaa.L Go.Proofs.Ytcbibbdkjhkmoaa.S Go.Proofs.Ytcbibbdkjhkmoaa.Htm

theorem bytesOf_append (a b : ByteArray) : bytesOf (a ++ b) = bytesOf a ++ bytesOf b := by
  unfold bytesOf
  rw [← List.map_append]
  congr 1

theorem bytes_strOf (l : List Int) (h : Bys l) : bytesOf (strOfNums l) = l := by
  unfold bytesOf strOfNums
  simp only [List.map_map]
  induction l with
  | nil => rfl
  | cons x l ih =>
    have hx := h x (by simp)
    simp only [List.map_cons, Function.comp]
    rw [ih (fun y hy => h y (by simp [hy]))]
    congr 1
    simp only [UInt8.toNat_ofNat']
    omega
set_option maxRecDepth 100000 in
set_option maxHeartbeats 4000000 in
theorem htmlPlain_any (A0 : Option Addr) (c0 : Nat) (l0 : List Int) (A1 : Option Addr) (c1 : Nat) (l1 : List Int) (A2 : Option Addr) (c2 : Nat) (l2 : List Int) (w : World) (hM : Mx w)
    (hC0 : Kd.C (Kd.int .u8) w A0 l0.length l0) (hB0 : Bys l0) (hm0 : l0.length ≤ 140737488351232) (hC1 : Kd.C (Kd.int .u8) w A1 l1.length l1) (hB1 : Bys l1) (hm1 : l1.length ≤ 140737488351232) (hC2 : Kd.C (Kd.int .u8) w A2 l2.length l2) (hB2 : Bys l2) (hm2 : l2.length ≤ 140737488351232) :
    Calls Try.prog 8 #[.slice A0 l0.length c0, .slice A1 l1.length c1, .slice A2 l2.length c2] w fun e w' => e = .returned (.bool true) ∧ Below w.heap.size w w' := by
  have HH := Lib.hid (And.intro hM (And.intro hC0 (And.intro hB0 (And.intro hC1 (And.intro hB1 (And.intro hC2 hB2))))))
  clear hM hC0 hB0 hC1 hB1 hC2 hB2
  go_enter Try.func8, Try.ntmps8
  go_wp2_with fail
  refine (awake_any _ HH.out.1).mono ?_
  rintro e w1 ⟨rfl, hb1⟩
  have HW := Lib.hid hb1
  clear hb1
  by_cases hbig : 1000 < l0.length + l1.length + l2.length
  · have h3 : decide ((1000 : Int) < (l0.length : Int) + (l1.length : Int) + (l2.length : Int)) = true := by simp; omega
    go_wp2_with fail
    go_ret
    exact ⟨rfl, HW.out⟩
  have h3 : decide ((1000 : Int) < (l0.length : Int) + (l1.length : Int) + (l2.length : Int)) = false := by simp; omega
  go_wp2_with fail
  refine (clean_any A0 c0 l0.length l0 60 _ (Kd.C_below HH.out.2.1 HW.out) (by omega)).mono ?_
  rintro e w2 ⟨va, rfl, ha⟩
  have HA := Lib.hid (And.intro ha (below_step HW.out ha.bel))
  clear ha HW
  go_wp2_with fail
  refine (clean_any A1 c1 l1.length l1 60 _ (Kd.C_below HH.out.2.2.2.1 HA.out.2) (by omega)).mono ?_
  rintro e w3 ⟨vb, rfl, hb⟩
  have HB := Lib.hid (And.intro hb (And.intro (HA.out.1.below hb.bel) (below_step HA.out.2 hb.bel)))
  clear hb HA
  go_wp2_with fail
  refine (clean_any A2 c2 l2.length l2 45 _ (Kd.C_below HH.out.2.2.2.2.2.1 HB.out.2.2) (by omega)).mono ?_
  rintro e w4 ⟨vn, rfl, hn⟩
  have HN := Lib.hid (And.intro hn (And.intro (HB.out.1.below hn.bel) (And.intro (HB.out.2.1.below hn.bel) (below_step HB.out.2.2 hn.bel))))
  clear hn HB
  obtain ⟨Aa, ca, rfl, hca, hCa⟩ := HN.out.2.2.1.form
  obtain ⟨Ab, cb, rfl, hcb, hCb⟩ := HN.out.2.1.form
  obtain ⟨An, cn, rfl, hcn, hCn⟩ := HN.out.1.form
  have hla := butM_le 60 l0
  have hlb := butM_le 60 l1
  have hln := butM_le 45 l2
  have HP := Lib.hid (And.intro (butM_not 60 l0) (And.intro (butM_not 60 l1) (butM_not 45 l2)))
  have HY := Lib.hid (And.intro (butM_bys 60 l0 HH.out.2.2.1) (And.intro (butM_bys 60 l1 HH.out.2.2.2.2.1) (butM_bys 45 l2 HH.out.2.2.2.2.2.2)))
  have HC := Lib.hid (And.intro hCa (And.intro hCb (And.intro hCn HN.out.2.2.2)))
  have HMx := Lib.hid (HH.out.1.below HN.out.2.2.2)
  clear HN hCa hCb hCn
  generalize butM 60 l0 = a at *
  generalize butM 60 l1 = b at *
  generalize butM 45 l2 = nt at *
  go_upto_region 7 with fail
  have hsz := strOfNums_size' nt
  have hq1 : decide (9223372036854775807 < 4 + nt.length) = false := by simp; omega
  have hq1' : (9223372036854775807 < 4 + nt.length) = False := by simp; omega
  have hq2' : (9223372036854775807 < 4 + nt.length + 3) = False := by simp; omega
  have HS0 := Lib.hid (show Below w4.heap.size w4 (w4.drew.alloc (.cells #[] 5 (0, 0))) from below_alloc (below_drew1 (Below.refl _ _)) _)
  have HCv := Lib.hid (show ∀ w' : World, Below w4.heap.size w4 w' → (convert 22 9 (.slice An nt.length cn)).run Try.prog w' = .ok (.string (strOfNums nt)) w' from fun w' h => Kd.C_string (P := Try.prog) (c := cn) Try.underlying22 Try.underlying5 Try.underlying9 (Kd.C_below HC.out.2.2.1 h))
  obtain ⟨v5, w5, hr5, ho5, _⟩ := Ob.append (Ob.lit w4 w4.drew [] (below_drew1 (Below.refl _ _)) (by simp)) Aa a.length ca a (Kd.C_below HC.out.1 HS0.out) (by simp; omega) 22
  obtain ⟨A5, c5, rfl, _, _⟩ := ho5.form
  obtain ⟨U, hU⟩ : ∃ U : ByteArray, U = (⟨#[60, 33, 45, 45]⟩ : ByteArray) ++ strOfNums nt ++ (⟨#[45, 45, 62]⟩ : ByteArray) := ⟨_, rfl⟩
  have hUb : bytesOf U = [60, 33, 45, 45] ++ nt ++ [45, 45, 62] := by
    rw [hU, bytesOf_append, bytesOf_append, bytes_strOf nt HY.out.2.2]
    rfl
  have hUs : U.size = nt.length + 7 := by
    have := bytesOf_length U
    rw [hUb] at this
    simp at this
    omega
  obtain ⟨v6, w6, hr6, ho6, _⟩ := Ob.appendS ho5 U (by simp; omega) 22
  rw [hUb] at ho6
  obtain ⟨A6, c6, rfl, _, _⟩ := ho6.form
  obtain ⟨v7, w7, hr7, ho7, _⟩ := Ob.append ho6 Ab b.length cb b (Kd.C_below HC.out.2.1 ho6.bel) (by simp; omega) 22
  rw [List.nil_append] at ho5 ho6 ho7
  rw [hU] at hr6
  have HS5 := Lib.hid (And.intro trivial ho5.bel)
  have HS6 := Lib.hid (And.intro trivial ho6.bel)
  have HS7 := Lib.hid (And.intro trivial ho7.bel)
  have HO7 := Lib.hid ho7
  clear ho5 ho6 ho7 hUb
  refine start_ (n := 11) (S := fun w' => Below w4.heap.size w4 w') (ds := []) #[false, false, false, false, false, false, false, false, false, false, false] (by kernel_rfl) rfl rfl (below_drew1 (Below.refl _ _)) (fun hHeld => ?_)
  refine pure_ (i := 1) (N := (some 37)) (v := ?_) (a' := ?_) #[false, true, false, false, false, false, false, false, false, false, false] rfl rfl (by kernel_rfl) (fun _ _ _ h => h) (Or.inl ⟨by rfl, ?_⟩) ?_ ?_
  rotate_left
  · intro w'
    go_simp
    try with_reducible rfl
  rotate_left
  · simp only [Act.put, List.setIfInBounds_toArray, List.set_cons_zero, List.set_cons_succ]
    rfl
  refine pure_ (i := 3) (N := (some 39)) (v := ?_) (a' := ?_) #[false, true, false, true, false, false, false, false, false, false, false] rfl rfl (by kernel_rfl) (fun _ _ _ h => h) (Or.inl ⟨by rfl, ?_⟩) ?_ ?_
  rotate_left
  · intro w'
    go_simp
    try with_reducible rfl
  rotate_left
  · simp only [Act.put, List.setIfInBounds_toArray, List.set_cons_zero, List.set_cons_succ]
    rfl
  refine take_ (i := 4) (N := (some 40)) (v := ?_) (a' := ?_) #[false, true, false, true, true, false, false, false, false, false, false] rfl rfl (by kernel_rfl) (fun _ _ _ h => h) (Or.inl ⟨by rfl, ?_⟩) hHeld ?_ ?_
  rotate_left
  · intro w' s0
    have hcv := HCv.out w' s0
    go_simp
    try with_reducible rfl
  rotate_left
  · simp only [Act.put, List.setIfInBounds_toArray, List.set_cons_zero, List.set_cons_succ]
    rfl
  refine pure_ (i := 5) (N := (some 41)) (v := ?_) (a' := ?_) #[false, true, false, true, true, true, false, false, false, false, false] rfl rfl (by kernel_rfl) (fun _ _ _ h => h) (Or.inl ⟨by rfl, ?_⟩) ?_ ?_
  rotate_left
  · intro w'
    go_simp
    try with_reducible rfl
  rotate_left
  · simp only [Act.put, List.setIfInBounds_toArray, List.set_cons_zero, List.set_cons_succ]
    rfl
  refine pure_ (i := 6) (N := (some 42)) (v := ?_) (a' := ?_) #[false, true, false, true, true, true, true, false, false, false, false] rfl rfl (by kernel_rfl) (fun _ _ _ h => h) (Or.inl ⟨by rfl, ?_⟩) ?_ ?_
  rotate_left
  · intro w'
    go_simp
    try with_reducible rfl
  rotate_left
  · simp only [Act.put, List.setIfInBounds_toArray, List.set_cons_zero, List.set_cons_succ]
    rfl
  refine pure_ (i := 8) (N := (some 44)) (v := ?_) (a' := ?_) #[false, true, false, true, true, true, true, false, true, false, false] rfl rfl (by kernel_rfl) (fun _ _ _ h => h) (Or.inl ⟨by rfl, ?_⟩) ?_ ?_
  rotate_left
  · intro w'
    go_simp
    try with_reducible rfl
  rotate_left
  · simp only [Act.put, List.setIfInBounds_toArray, List.set_cons_zero, List.set_cons_succ]
    rfl
  refine one_ (i := 0) (N := (some 36)) #[true, true, false, true, true, true, true, false, true, false, false] rfl rfl (by kernel_rfl) (by decide) (fun K hK => ?_)
  rw [if_pos (by rfl)]
  go_simp
  refine hK.out _ _ HS0.out (fun hHeld => ?_)
  clear hK K
  refine one_ (i := 2) (N := (some 38)) #[true, true, true, true, true, true, true, false, true, false, false] rfl rfl (by kernel_rfl) (by decide) (fun K hK => ?_)
  refine app_ _ _ 22 22 rfl (by rfl) rfl _ _ rfl rfl hr5 ?_
  refine hK.out _ _ HS5.out.2 (fun hHeld => ?_)
  clear hK K
  refine norm_ (a' := ?_) ?_ ?_
  rotate_left
  · show Act.put _ (some 38) _ = _
    simp only [Act.put, List.setIfInBounds_toArray, List.set_cons_zero, List.set_cons_succ]
    rfl
  refine one_ (i := 7) (N := (some 43)) #[true, true, true, true, true, true, true, true, true, false, false] rfl rfl (by kernel_rfl) (by decide) (fun K hK => ?_)
  refine app_ _ _ 22 9 rfl (by rfl) rfl _ _ rfl rfl hr6 ?_
  refine hK.out _ _ HS6.out.2 (fun hHeld => ?_)
  clear hK K
  refine norm_ (a' := ?_) ?_ ?_
  rotate_left
  · show Act.put _ (some 43) _ = _
    simp only [Act.put, List.setIfInBounds_toArray, List.set_cons_zero, List.set_cons_succ]
    rfl
  refine one_ (i := 9) (N := (some 45)) #[true, true, true, true, true, true, true, true, true, true, false] rfl rfl (by kernel_rfl) (by decide) (fun K hK => ?_)
  refine app_ _ _ 22 22 rfl (by rfl) rfl _ _ rfl rfl hr7 ?_
  refine hK.out _ _ HS7.out.2 (fun hHeld => ?_)
  clear hK K
  refine norm_ (a' := ?_) ?_ ?_
  rotate_left
  · show Act.put _ (some 45) _ = _
    simp only [Act.put, List.setIfInBounds_toArray, List.set_cons_zero, List.set_cons_succ]
    rfl
  refine pure_ (i := 10) (N := (some 8)) (v := ?_) (a' := ?_) #[true, true, true, true, true, true, true, true, true, true, true] rfl rfl (by kernel_rfl) (fun _ _ _ h => h) (Or.inl ⟨by rfl, ?_⟩) ?_ ?_
  rotate_left
  · intro w'
    go_simp
    try with_reducible rfl
  rotate_left
  · simp only [Act.put, List.setIfInBounds_toArray, List.set_cons_zero, List.set_cons_succ]
    rfl
  refine done_ (by kernel_rfl) ?_
  obtain ⟨A8, c8, rfl, hc8, hC8⟩ := HO7.out.form
  have HB7 := Lib.hid (below_step HC.out.2.2.2 HO7.out.bel)
  obtain ⟨x, hx⟩ : ∃ x, x = a ++ ([60, 33, 45, 45] ++ nt ++ [45, 45, 62]) ++ b := ⟨_, rfl⟩
  have hbx : b.length ≤ x.length := by rw [hx]; simp only [List.length_append, List.length_cons, List.length_nil]; omega
  have HXL := Lib.hid (show x.length = a.length + (nt.length + 7) + b.length from by rw [hx]; simp only [List.length_append, List.length_cons, List.length_nil]; omega)
  have hx1 : x.length ≤ 1007 := by have := HXL.out; omega
  have hxb : Bys x := by
    rw [hx]
    intro z hz
    rcases List.mem_append.1 hz with hz | hz
    · rcases List.mem_append.1 hz with hz | hz
      · exact HY.out.1 z hz
      · rcases List.mem_append.1 hz with hz | hz
        · rcases List.mem_append.1 hz with hz | hz
          · simp at hz; omega
          · exact HY.out.2.2 z hz
        · simp at hz; omega
    · exact HY.out.2.1 z hz
  have HGet := Lib.hid (note_get a nt b HP.out.1 HP.out.2.2 HP.out.2.1 x hx)
  rw [← hx] at hc8 hC8 ⊢
  have HX := Lib.hid (And.intro hC8 hxb)
  have HM7 := Lib.hid (HMx.out.below HO7.out.bel)
  have HA7 := Lib.hid (And.intro (Kd.C_below HC.out.1 HO7.out.bel) (Kd.C_below HC.out.2.1 HO7.out.bel))
  clear hx hC8 hxb HMx HO7 HC HS0 HS5 HS6 HS7 HCv hr5 hr6 hr7 hU hUs hsz hq1 hq1' hq2' hHeld
  go_wp2_with fail
  refine (lex_any A8 x.length c8 x _ HX.out.1 hc8 HX.out.2 (by omega) HM7.out).mono ?_
  rintro e w8 ⟨g, k, rfl, hs8, hb8, _, _⟩
  have HS8 := Lib.hid (And.intro hs8 (And.intro (below_step HB7.out hb8) (And.intro (HM7.out.below hb8) (And.intro (Kd.C_below HA7.out.1 hb8) (Kd.C_below HA7.out.2 hb8)))))
  clear hs8 hb8 HB7 HM7 HA7 HX
  have hbl : Below w8.heap.size w8 (w8.alloc (.cells #[] 5 (0, 0))) := below_alloc (Below.refl _ _) _
  obtain ⟨v9, w9, hr9, ho9, _⟩ := Ob.append (Ob.lit w8 w8 [] (Below.refl _ _) (by simp)) Aa a.length ca a (Kd.C_below HS8.out.2.2.2.1 hbl) (by simp; omega) 22
  obtain ⟨A9, c9, rfl, _, _⟩ := ho9.form
  obtain ⟨v10, w10, hr10, ho10, _⟩ := Ob.append ho9 Ab b.length cb b (Kd.C_below HS8.out.2.2.2.2 ho9.bel) (by simp; omega) 22
  obtain ⟨A10, c10, rfl, hc10, hC10⟩ := ho10.form
  rw [List.nil_append] at hr9 hr10 hc10 hC10
  have HO10 := Lib.hid (And.intro hC10 ho10.bel)
  clear hC10 ho10 ho9 hbl
  go_wp2_with (first | (at_builtin; refine Lib.wpList_append_run_sl _ rfl _ _ 22 rfl (.slice (some ⟨w8.heap.size, 0, none⟩) 0 0) (.slice Aa a.length ca) rfl rfl hr9 ?_) | (at_builtin; refine Lib.wpList_append_run_sl _ rfl _ _ 22 rfl (.slice A9 a.length c9) (.slice Ab b.length cb) rfl rfl hr10 ?_))
  have hC11 := HO10.out.1
  rw [List.length_append] at hC11 hc10
  have h60 : (60 : Int) ∉ a ++ b := by
    intro h
    rcases List.mem_append.1 h with h | h
    · exact HP.out.1 h
    · exact HP.out.2.1 h
  have hlp := lex_plain (a ++ b) h60
  rw [List.length_append] at hlp
  refine (lex_any A10 (a.length + b.length) c10 (a ++ b) _ hC11 hc10 (by intro z hz; rcases List.mem_append.1 hz with h | h; exact HY.out.1 z h; exact HY.out.2.1 z h) (by omega) (HS8.out.2.2.1.below HO10.out.2)).mono ?_
  rintro e w11 ⟨g2, k2, rfl, hs11, hb11, _, _⟩
  rw [hlp] at hs11
  have hb8 := below_step HO10.out.2 hb11
  have HS := Lib.hid (And.intro (HS8.out.1.below hb8) (And.intro hs11 (below_step HS8.out.2.1 hb8)))
  clear hC11 hlp hs11 hb11 hb8 HO10 HS8 h60 hr9 hr10
  go_wp2_with fail
  go_loopg [62] x.length (fun gn iv wr => ∃ i : Nat, iv = .int .i64 i ∧ i ≤ x.length ∧ Hid (Sheet wr g k (lexL x) ∧ Sheet wr g2 k2 (List.replicate (a.length + b.length) 1) ∧ Below w.heap.size w wr ∧ gn = x.length - i))
  case atStart => exact ⟨0, rfl, Nat.zero_le _, HS.out.1, HS.out.2.1, HS.out.2.2, rfl⟩
  case round =>
    obtain ⟨i, rfl, hi, HQ⟩ := hrel
    clear HS
    by_cases hlt : i < x.length
    · have hd : decide ((i : Int) < (x.length : Int)) = true := by simp; omega
      have hget := HGet.out i hlt
      by_cases h1 : a.length ≤ i
      · by_cases h2 : i < x.length - b.length
        · rw [if_pos ⟨h1, h2⟩] at hget
          have hI : (a.length : Int) ≤ (i : Int) := by omega
          have hI2 : (i : Int) < (x.length : Int) - (b.length : Int) := by omega
          have HGt := Lib.hid hget
          clear hget
          go_wp2_with (go_at_call 23; refine (at_in g k _ i 3 _ HQ.out.1 HGt.out).mono ?_; rintro e w' ⟨rfl, rfl⟩)
          go_roundg (x.length - (i + 1))
          case measure => have := HQ.out.2.2.2; omega
          case rel => exact ⟨i + 1, by go_num, by omega, HQ.out.1, HQ.out.2.1, HQ.out.2.2.1, rfl⟩
        · rw [if_neg (fun h => h2 h.2)] at hget
          have hI : (a.length : Int) ≤ (i : Int) := by omega
          have hI2 : ¬ ((i : Int) < (x.length : Int) - (b.length : Int)) := by omega
          have hI3 : (x.length : Int) - (b.length : Int) ≤ (i : Int) := by omega
          have HGt := Lib.hid hget
          clear hget
          go_wp2_with (go_at_call 23; refine (at_in g k _ i 1 _ HQ.out.1 HGt.out).mono ?_; rintro e w' ⟨rfl, rfl⟩)
          go_roundg (x.length - (i + 1))
          case measure => have := HQ.out.2.2.2; omega
          case rel => exact ⟨i + 1, by go_num, by omega, HQ.out.1, HQ.out.2.1, HQ.out.2.2.1, rfl⟩
      · rw [if_neg (fun h => h1 h.1)] at hget
        have hI : (i : Int) < (a.length : Int) := by omega
        have HGt := Lib.hid hget
        clear hget
        go_wp2_with (go_at_call 23; refine (at_in g k _ i 1 _ HQ.out.1 HGt.out).mono ?_; rintro e w' ⟨rfl, rfl⟩)
        go_roundg (x.length - (i + 1))
        case measure => have := HQ.out.2.2.2; omega
        case rel => exact ⟨i + 1, by go_num, by omega, HQ.out.1, HQ.out.2.1, HQ.out.2.2.1, rfl⟩
    · have hd : decide ((i : Int) < (x.length : Int)) = false := by simp; omega
      have HS2 := Lib.hid (And.intro HQ.out.2.1 HQ.out.2.2.1)
      clear HQ
      go_wp2_with fail
      go_loopg [89] (a.length + b.length) (fun gn iv wr => ∃ i : Nat, iv = .int .i64 i ∧ i ≤ a.length + b.length ∧ Hid (Sheet wr g2 k2 (List.replicate (a.length + b.length) 1) ∧ Below w.heap.size w wr ∧ gn = a.length + b.length - i))
      case atStart => exact ⟨0, rfl, Nat.zero_le _, HS2.out.1, HS2.out.2, rfl⟩
      case round =>
        obtain ⟨i, rfl, hi, HQ⟩ := hrel
        clear HS2
        by_cases hlt : i < a.length + b.length
        · have hd : decide ((i : Int) < (a.length : Int) + (b.length : Int)) = true := by simp; omega
          have HGt := Lib.hid (show (List.replicate (a.length + b.length) (1 : Int))[i]? = some 1 from by rw [List.getElem?_replicate, if_pos hlt])
          go_wp2_with (go_at_call 23; refine (at_in g2 k2 _ i 1 _ HQ.out.1 HGt.out).mono ?_; rintro e w' ⟨rfl, rfl⟩)
          go_roundg (a.length + b.length - (i + 1))
          case measure => have := HQ.out.2.2; omega
          case rel => exact ⟨i + 1, by go_num, by omega, HQ.out.1, HQ.out.2.1, rfl⟩
        · have hd : decide ((i : Int) < (a.length : Int) + (b.length : Int)) = false := by simp; omega
          go_wp2_with fail
          go_ret
          exact ⟨rfl, HQ.out.2.1⟩
end Go.Proofs.Ytcbibbdkjhkmoaa.H
namespace Go.Proofs.Ytcbibbdkjhkmoaa.Wk.HtmlPlain
open Go.RowKit Go.Proofs.YtcbibbdkjhkmoaaW.PrintWords Go.Proofs.Ytcbibbdkjhkmoaa.S Go.Proofs.Ytcbibbdkjhkmoaa.H
theorem walk (A0 : Option Addr) (c0 : Nat) (l0 : List Int) (A1 : Option Addr) (c1 : Nat) (l1 : List Int) (A2 : Option Addr) (c2 : Nat) (l2 : List Int) (w : World) (hM : Mx w) (hr0 : Kd.C (Kd.int .u8) w A0 l0.length l0) (hc0 : l0.length ≤ c0) (hg0 : Bys l0 ∧ l0.length ≤ 140737488351232) (hr1 : Kd.C (Kd.int .u8) w A1 l1.length l1) (hc1 : l1.length ≤ c1) (hg1 : Bys l1 ∧ l1.length ≤ 140737488351232) (hr2 : Kd.C (Kd.int .u8) w A2 l2.length l2) (hc2 : l2.length ≤ c2) (hg2 : Bys l2 ∧ l2.length ≤ 140737488351232) :
    Calls Try.prog 8 #[.slice A0 l0.length c0, .slice A1 l1.length c1, .slice A2 l2.length c2] w fun e w' => e = .returned (.bool true) ∧ Below w.heap.size w w' :=
  htmlPlain_any A0 c0 l0 A1 c1 l1 A2 c2 l2 w hM hr0 hg0.1 hg0.2 hr1 hg1.1 hg1.2 hr2 hg2.1 hg2.2
end Go.Proofs.Ytcbibbdkjhkmoaa.Wk.HtmlPlain
