/- The law EditsStay, walked: it answers true. Conditions: none. -/
import Derived.Test.YtgcjkijndibejaaEAprt
set_option linter.unusedVariables false
set_option linter.unusedSimpArgs false
namespace Go.Proofs.Ytgcjkijndibejaa.Srt
open Go.Lib hiding bytesOf bytesOf_length
open Go.Shelf Go.RowKit Go.Proofs.YtgcjkijndibejaaW.PrintWords Go.Proofs.YtgcjkijndibejaaW.PrintLast

/-- Does an edit touch a place? -/
def tch (t : Int) (e : Ed) : Bool := decide (e.1 ≤ t) && decide (t < e.1 + e.2.1)
theorem tch_iff (t : Int) (e : Ed) : tch t e = true ↔ e.1 ≤ t ∧ t < e.1 + e.2.1 := by
  unfold tch
  rw [Bool.and_eq_true, decide_eq_true_eq, decide_eq_true_eq]
theorem any_succ (f : Ed → Bool) (K : List Ed) (j : Nat) (h : j < K.length) : (K.take (j + 1)).any f = ((K.take j).any f || f (K.getD j dE)) := by
  rw [List.take_add_one, List.any_append, List.getElem?_eq_getElem h, List.getD_eq_getElem?_getD, List.getElem?_eq_getElem h]
  simp
theorem mv_small {n : Nat} {S : List Ed} (h : Ap n 0 0 S) (hs : ∀ e ∈ S, e.2.2.size ≤ 9) (i : Nat) (hi : i ≤ S.length) : -((n : Int) * (i : Int)) ≤ mvE S i ∧ mvE S i ≤ 9 * (i : Int) := by
  induction i with
  | zero => exact ⟨by show _ ≤ (0 : Int); omega, by show (0 : Int) ≤ _; omega⟩
  | succ i ih =>
    have h1 := ih (by omega)
    have h2 := h.rng _ (getD_memE S i (by omega))
    have h3 := hs _ (getD_memE S i (by omega))
    have e : (n : Int) * ((i + 1 : Nat) : Int) = (n : Int) * (i : Int) + n := by rw [Int.natCast_add, Int.mul_add]; simp
    rw [e]
    show _ ≤ mvE S i + (((S.getD i dE).2.2.size : Int) - (S.getD i dE).2.1) ∧ mvE S i + (((S.getD i dE).2.2.size : Int) - (S.getD i dE).2.1) ≤ _
    omega
theorem stay_mv {n : Nat} {S : List Ed} (h : Ap n 0 0 S) (i : Nat) (hi : i ≤ S.length) : plc n S 0 = plc n (S.drop i) (mvE S i) := by
  induction i with
  | zero => rfl
  | succ i ih =>
    rw [ih (by omega), drop_getD S i (by omega)]
    have h2 := h.rng _ (getD_memE S i (by omega))
    show (if (n : Int) < (S.getD i dE).1 ∨ ((n : Int) = (S.getD i dE).1 ∧ 0 < (S.getD i dE).2.1) then (n : Int) + mvE S i else if (n : Int) < (S.getD i dE).1 + (S.getD i dE).2.1 then (S.getD i dE).1 + mvE S i else plc n (S.drop (i + 1)) (mvE S i + (((S.getD i dE).2.2.size : Int) - (S.getD i dE).2.1))) = _
    rw [if_neg (by omega), if_neg (by omega)]
    rfl
theorem stay_size {b : List Int} {S : List Ed} (h : Ap b.length 0 0 S) : (b.length : Int) + mvE S S.length = ((apl b 0 S).length : Int) := by
  have h1 := stay_mv h S.length (Nat.le_refl _)
  rw [List.drop_length, plc_top S 0 h (by omega)] at h1
  have h1 : ((0 : Nat) : Int) + ((apl b 0 S).length : Int) = (b.length : Int) + mvE S S.length := h1
  omega
theorem place_ap (b : List Int) (S : List Ed) (t : Int) (h : Ap b.length 1 1 S) (hl : S.length ≤ 65536) (h0 : 0 ≤ t) (hn : t ≤ b.length) : place b S t = (plc t (kept b S) 0, 0) := by
  unfold place
  rw [tidy_ap b S S 1 h (by omega) (List.Perm.refl _) hl, if_pos rfl, if_neg (by omega)]
set_option maxRecDepth 100000 in
set_option maxHeartbeats 8000000 in
theorem editsStay_any (A : Option Addr) (c : Nat) (b : List Int) (A1 : Option Addr) (c1 : Nat) (gs : List Int) (A2 : Option Addr) (c2 : Nat) (ts : List ByteArray) (w : World) (hC : Kd.C (Kd.int .u8) w A b.length b) (hc : b.length ≤ c) (hB : Bys b) (hm : b.length ≤ 140737488351232)
    (hC1 : Kd.C (Kd.int .u8) w A1 gs.length gs) (hc1 : gs.length ≤ c1) (hg : Bys gs) (hgl : gs.length ≤ 140737488351232) (hC2 : Kd.C Kd.string w A2 ts.length ts) (hc2 : ts.length ≤ c2) :
    Calls Try.prog 5 #[.slice A b.length c, .slice A1 gs.length c1, .slice A2 ts.length c2] w fun e w' => e = .returned (.bool true) ∧ Below w.heap.size w w' := by
  have HC := Lib.hid (And.intro hC (And.intro hc hB))
  have HG := Lib.hid (And.intro hC1 (And.intro hc1 (And.intro hg hgl)))
  have HS := Lib.hid (And.intro hC2 hc2)
  clear hC hc hB hC1 hc1 hg hgl hC2 hc2
  go_enter Try.func5, Try.ntmps5
  go_wp2_with fail
  refine (awake_any _).mono ?_
  rintro e w1 ⟨rfl, hb1⟩
  have HW := Lib.hid hb1
  clear hb1
  by_cases g1 : 300 < b.length
  · have h3 : decide ((300 : Int) < (b.length : Int)) = true := by simp; omega
    go_wp2_with fail
    go_ret
    exact ⟨rfl, HW.out⟩
  have h3 : decide ((300 : Int) < (b.length : Int)) = false := by simp; omega
  go_wp2_with fail
  refine (apart_any A c b A1 c1 gs A2 c2 ts _ (Kd.C_below HC.out.1 HW.out) HC.out.2.1 (by omega) (Kd.C_below HG.out.1 HW.out) HG.out.2.1 HG.out.2.2.1 HG.out.2.2.2 (Kd.C_below HS.out.1 HW.out) HS.out.2).mono ?_
  rintro e w2 ⟨v2, S, rfl, hO, hAp, hsz, hlen⟩
  have HAp := Lib.hid hAp
  have HSz := Lib.hid hsz
  have HW2 := Lib.hid (below_step HW.out hO.bel)
  have HCb := Lib.hid (Kd.C_below HC.out.1 HW2.out)
  have hE := EdR.own hO.own
  obtain ⟨A3, c3, rfl, hc3, _⟩ := hO.form
  have HE := Lib.hid hE
  have hS3 : S.length ≤ 300 := by omega
  have hAll := back_all HC.out.2.2 S S (HAp.out.less (by omega) (by omega)) (List.Perm.refl _) (by omega)
  have HA1 := Lib.hid hAll.1
  have HT := Lib.hid (tidy_ap b S S 1 HAp.out (by omega) (List.Perm.refl _) (by omega))
  have HP := Lib.hid (fun (t : Int) h0 hn => place_ap b S t HAp.out (by omega) h0 hn)
  have hkl := kept_len b S
  have HAk := Lib.hid ((HAp.out.filter (chg b)).less (g' := 0) (a' := 0) (by omega) (by omega))
  have HKm := Lib.hid (show ∀ e ∈ kept b S, e.2.2.size ≤ 9 from fun e he => HSz.out e (List.mem_filter.1 he).1)
  have HAk := Lib.hid (show Ap b.length 0 0 (kept b S) from HAk.out)
  have hXl := apl_len b 9 (kept b S) 0 HAk.out (by omega) HKm.out
  have HSS := Lib.hid (stay_size (b := b) HAk.out)
  have HMS := Lib.hid (fun i hi => mv_small HAk.out HKm.out i hi)
  have HMo := Lib.hid (fun (t u : Int) htu ht => plc_mono t u htu (kept b S) 0 HAk.out ht)
  have HLo := Lib.hid (fun (t : Int) ht => plc_low t (kept b S) 0 HAk.out ht)
  have HTo := Lib.hid (plc_top (b := b) (kept b S) 0 HAk.out (by omega))
  have HSy := Lib.hid (fun (t : Nat) htn hu => plc_stay (b := b) t htn (kept b S) 0 HAk.out (by omega) hu)
  have hk3 : (kept b S).length ≤ 300 := by omega
  have hX : (apl b 0 (kept b S)).length ≤ 3000 := by omega
  clear hO hAp hsz hE HG HS HW hAll hkl hXl
  go_wp2_with fail
  refine (apply_any A c b _ S _ HCb.out HC.out.2.1 HE.out (by omega) (by omega) (fun e he => by have := HSz.out e he; omega)).mono ?_
  rintro e w3 ⟨v3, rfl, ho3⟩
  rw [HA1.out] at ho3
  rw [HT.out]
  obtain ⟨A5, c5, rfl, hc5, hC5⟩ := ho3.form
  have HO3 := Lib.hid (And.intro hC5 (And.intro hc5 ho3.bel))
  clear ho3 hC5 hc5 HA1
  go_wp2_with fail
  refine (tidy_any A c b _ S _ (Kd.C_below HCb.out HO3.out.2.2) HC.out.2.1 (EdR.below HE.out HO3.out.2.2) (by omega)).mono ?_
  rintro e w4 ⟨v4, rfl, ho4, hb4⟩
  rw [HT.out] at ho4
  rw [HT.out]
  have hE4 := EdR.own ho4
  obtain ⟨A6, c6, rfl, hc6, hR⟩ := hE4.form
  have HR := Lib.hid hR
  have HO4 := Lib.hid (And.intro (Kd.C_below HO3.out.1 hb4) (And.intro HO3.out.2.1 (below_step HO3.out.2.2 hb4)))
  clear hE4 hR ho4 hb4 HO3 HT
  generalize kept b S = K at *
  generalize apl b 0 K = X at *
  go_upto_block 0 with fail
  go_wp2_with fail
  go_loopg [12, 49] K.length (fun gn sv iv wr => ∃ (i : Nat) (m : Int), iv = .int .i64 i ∧ i ≤ K.length ∧ sv = .int .i64 m ∧ -100000 ≤ m ∧ m ≤ 100000 ∧ Hid (m = (b.length : Int) + mvE K i ∧ Below w4.heap.size w4 wr ∧ gn = K.length - i))
  case atStart => exact ⟨0, _, rfl, Nat.zero_le _, rfl, by omega, by omega, by show _ = (b.length : Int) + 0; omega, Below.refl _ _, rfl⟩
  case round =>
  obtain ⟨i, m, rfl, hi, rfl, hm1, hm2, HQ⟩ := hrel
  by_cases hlt : i < K.length
  · have hdl : decide ((i : Int) < (K.length : Int)) = true := by simp; omega
    obtain ⟨g, o, rfl, hgs, hcell⟩ := HR.out (by omega)
    have kp : ∀ t, t < 3 → wr.cell? ⟨g, o + (i * 3 + t), none⟩ = (encE (K.getD i dE))[t]? := fun t ht => (HQ.out.2.1.cell (p := ⟨g, o + (i * 3 + t), none⟩) hgs).trans (hcell i t hlt ht)
    have k0 := kp 0 (by omega)
    have k1 := kp 1 (by omega)
    have k2 := kp 2 (by omega)
    have hmv : mvE K (i + 1) = mvE K i + (((K.getD i dE).2.2.size : Int) - (K.getD i dE).2.1) := rfl
    have hms := HMS.out (i + 1) (by omega)
    have hkr := HAk.out.rng _ (getD_memE K i hlt)
    have hks := HKm.out _ (getD_memE K i hlt)
    obtain ⟨x, hx⟩ : ∃ x, K.getD i dE = x := ⟨_, rfl⟩
    rw [hx] at k0 k1 k2 hmv hkr hks
    obtain ⟨p, q, t0⟩ := x
    have k0 : wr.cell? ⟨g, o + i * 3, none⟩ = some (.int .i64 p) := k0
    have k1 : wr.cell? ⟨g, o + i * 3 + 1, none⟩ = some (.int .i64 q) := k1
    have k2 : wr.cell? ⟨g, o + i * 3 + 2, none⟩ = some (.string t0) := k2
    have hmv : mvE K (i + 1) = mvE K i + ((t0.size : Int) - q) := hmv
    have hkr : 0 ≤ p ∧ 0 ≤ q ∧ p + q ≤ (b.length : Int) := hkr
    have hks : t0.size ≤ 9 := hks
    obtain ⟨r1, r2, r3⟩ := hkr
    have hqn : q ≤ 300 := by omega
    have HMV := Lib.hid hmv
    have hmb : -100000 ≤ m + ((t0.size : Int) - q) ∧ m + ((t0.size : Int) - q) ≤ 100000 := by
      have h1 := HQ.out.1
      have h2 : (b.length : Int) * ((i + 1 : Nat) : Int) ≤ 300 * 300 := Int.mul_le_mul (by omega) (by omega) (by omega) (by omega)
      rw [hmv] at hms
      omega
    clear kp hx hcell hgs hmv hms
    go_wp2_with fail
    go_roundg (K.length - (i + 1))
    case measure => have := HQ.out.2.2; omega
    case rel => exact ⟨i + 1, m + ((t0.size : Int) - q), by go_num, by omega, by go_num, hmb.1, hmb.2, by rw [HQ.out.1, HMV.out]; omega, below_alloc HQ.out.2.1 _, rfl⟩
  · obtain rfl : i = K.length := by omega
    obtain ⟨wa, rfl⟩ : ∃ wa : World, wa = wr := ⟨_, rfl⟩
    obtain rfl : m = (X.length : Int) := by rw [HQ.out.1]; exact HSS.out
    have HBa := Lib.hid HQ.out.2.1
    clear HQ
    go_upto_block 2 with fail
    go_wp2_with fail
    go_loopg [15, 65] b.length (fun gn lv tv wr => ∃ (t : Nat) (L : Int), tv = .int .i64 t ∧ t ≤ b.length ∧ lv = .int .i64 L ∧ Hid ((∀ u : Int, (t : Int) ≤ u → L ≤ plc u K 0) ∧ Below w4.heap.size w4 wr ∧ gn = b.length - t))
    case atStart => exact ⟨0, -1, rfl, Nat.zero_le _, rfl, fun u hu => by have := HLo.out u hu; omega, HBa.out, rfl⟩
    case round =>
    obtain ⟨t, L, rfl, ht, rfl, HQ⟩ := hrel
    clear HBa
    by_cases hlt2 : t < b.length
    · have hdl : decide ((t : Int) < (b.length : Int)) = true := by simp; omega
      obtain ⟨wo, rfl⟩ : ∃ wo : World, wo = wr := ⟨_, rfl⟩
      have HBo := Lib.hid HQ.out.2.1
      have HGo := Lib.hid HQ.out.2.2
      have HLt := Lib.hid HQ.out.1
      clear HQ
      go_upto_block 4 with fail
      go_cut [17] (fun cv wx => cv = .bool (K.any (tch t)) ∧ Hid (Below w4.heap.size w4 wx))
      case first =>
        go_wp2_with fail
        go_loopg [17, 70] K.length (fun gn cv jv wr => ∃ j : Nat, jv = .int .i64 j ∧ j ≤ K.length ∧ cv = .bool ((K.take j).any (tch t)) ∧ Hid (Below w4.heap.size w4 wr ∧ gn = K.length - j))
        case atStart => exact ⟨0, rfl, Nat.zero_le _, rfl, HBo.out, rfl⟩
        case round =>
        obtain ⟨j, rfl, hj, rfl, HJ⟩ := hrel
        by_cases hlt3 : j < K.length
        · have hdl3 : decide ((j : Int) < (K.length : Int)) = true := by simp; omega
          obtain ⟨g, o, rfl, hgs, hcell⟩ := HR.out (by omega)
          have kp : ∀ t, t < 3 → wr.cell? ⟨g, o + (j * 3 + t), none⟩ = (encE (K.getD j dE))[t]? := fun t ht => (HJ.out.1.cell (p := ⟨g, o + (j * 3 + t), none⟩) hgs).trans (hcell j t hlt3 ht)
          have k0 := kp 0 (by omega)
          have k1 := kp 1 (by omega)
          have k2 := kp 2 (by omega)
          have hkr := HAk.out.rng _ (getD_memE K j hlt3)
          have hat := any_succ (tch t) K j hlt3
          obtain ⟨x, hx⟩ : ∃ x, K.getD j dE = x := ⟨_, rfl⟩
          rw [hx] at k0 k1 k2 hkr hat
          obtain ⟨p, q, t0⟩ := x
          have k0 : wr.cell? ⟨g, o + j * 3, none⟩ = some (.int .i64 p) := k0
          have k1 : wr.cell? ⟨g, o + j * 3 + 1, none⟩ = some (.int .i64 q) := k1
          have k2 : wr.cell? ⟨g, o + j * 3 + 2, none⟩ = some (.string t0) := k2
          have hkr : 0 ≤ p ∧ 0 ≤ q ∧ p + q ≤ (b.length : Int) := hkr
          obtain ⟨r1, r2, r3⟩ := hkr
          have hqn : q ≤ 300 := by omega
          have hpn : p ≤ 300 := by omega
          have HAT := Lib.hid hat
          have HBn := Lib.hid (below_alloc HJ.out.1 (.cells #[.int .i64 p, .int .i64 q, .string t0] 46))
          have HGn := Lib.hid HJ.out.2
          clear kp hx hcell hgs hat HJ
          generalize (K.take j).any (tch t) = d at *
          cases d with
          | true =>
            go_wp2_with fail
            go_roundg (K.length - (j + 1))
            case measure => have := HGn.out; omega
            case rel => exact ⟨j + 1, by go_num, by omega, by rw [HAT.out]; rfl, HBn.out, rfl⟩
          | false =>
            by_cases h1 : p ≤ (t : Int)
            · have hd1 : decide (p ≤ (t : Int)) = true := decide_eq_true h1
              by_cases h2 : (t : Int) < p + q
              · have hd2 : decide ((t : Int) < p + q) = true := decide_eq_true h2
                have HV := Lib.hid (show tch t (p, q, t0) = true from (tch_iff _ _).2 ⟨h1, h2⟩)
                go_wp2_with fail
                go_roundg (K.length - (j + 1))
                case measure => have := HGn.out; omega
                case rel => exact ⟨j + 1, by go_num, by omega, by rw [HAT.out, HV.out]; rfl, HBn.out, rfl⟩
              · have hd2 : decide ((t : Int) < p + q) = false := decide_eq_false h2
                have HV := Lib.hid (show tch t (p, q, t0) = false from by rw [← Bool.not_eq_true, tch_iff]; exact fun h => h2 h.2)
                go_wp2_with fail
                go_roundg (K.length - (j + 1))
                case measure => have := HGn.out; omega
                case rel => exact ⟨j + 1, by go_num, by omega, by rw [HAT.out, HV.out]; rfl, HBn.out, rfl⟩
            · have hd1 : decide (p ≤ (t : Int)) = false := decide_eq_false h1
              have HV := Lib.hid (show tch t (p, q, t0) = false from by rw [← Bool.not_eq_true, tch_iff]; exact fun h => h1 h.1)
              go_wp2_with fail
              go_roundg (K.length - (j + 1))
              case measure => have := HGn.out; omega
              case rel => exact ⟨j + 1, by go_num, by omega, by rw [HAT.out, HV.out]; rfl, HBn.out, rfl⟩
        · obtain rfl : j = K.length := by omega
          go_wp2_with fail
          go_meet
          exact ⟨by rw [List.take_length], HJ.out.1⟩
      case rest =>
      obtain ⟨rfl, HBc⟩ := hcut
      clear HBo
      have hBw := below_step HO4.out.2.2 HBc.out
      go_wp2_with fail
      refine (place_any A c b _ S t _ (Kd.C_below HCb.out hBw) HC.out.2.1 (EdR.below HE.out hBw) (by omega) (by omega) (fun e he => by have := HSz.out e he; omega)).mono ?_
      rintro e w5 ⟨rfl, hb5⟩
      rw [HP.out t (by omega) (by omega)]
      have HB5 := Lib.hid (below_step HBc.out hb5)
      have HY := Lib.hid (fun (u : Int) (hu : (t : Int) ≤ u) => HMo.out t u hu (by omega))
      have hy0 := HLo.out t (by omega)
      have hyL := HLt.out t (by omega)
      have HSt := Lib.hid (HSy.out t hlt2)
      clear hb5 hBw HBc HLt
      generalize plc t K 0 = y at *
      have hd6 : decide (y < L) = false := decide_eq_false (by omega)
      cases hd : K.any (tch t) with
      | true =>
        clear hd HSt
        go_upto_region 25 with fail
        go_quiet (fail)
        go_wp2_with fail
        go_roundg (b.length - (t + 1))
        case measure => have := HGo.out; omega
        case rel => exact ⟨t + 1, y, by go_num, by omega, rfl, fun u hu => HY.out u (by omega), pw_below_drewN HB5.out _, rfl⟩
      | false =>
        obtain ⟨p, hyp, hXp⟩ := HSt.out (fun e he h => by
          rw [List.any_eq_false] at hd
          exact hd e he ((tch_iff _ _).2 h))
        obtain rfl : y = (p : Int) := by omega
        have hpX : p < X.length := by
          rcases Nat.lt_or_ge p X.length with h | h
          · exact h
          · rw [List.getElem?_eq_none h, List.getElem?_eq_getElem hlt2] at hXp
            cases hXp
        have hrd : rd X (p : Int) = rd b (t : Int) := by
          show X.getD ((p : Int)).toNat 0 = b.getD ((t : Int)).toNat 0
          rw [Int.toNat_natCast, Int.toNat_natCast, List.getD_eq_getElem?_getD, List.getD_eq_getElem?_getD, hXp]
        obtain ⟨ad, rfl, kx⟩ := Kd.at_int (Kd.C_below HO4.out.1 HB5.out) (p : Int) (by omega) (by omega)
        obtain ⟨ad2, rfl, kb⟩ := Kd.at_int (Kd.C_below HCb.out (below_step HO4.out.2.2 HB5.out)) (t : Int) (by omega) (by omega)
        rw [Int.toNat_natCast] at kx kb
        rw [hrd] at kx
        generalize rd b (t : Int) = v at *
        have hd7 : decide ((X.length : Int) ≤ (p : Int)) = false := decide_eq_false (by omega)
        clear hd HSt hrd hXp hyp
        go_upto_region 25 with fail
        go_quiet (fail)
        go_wp2_with fail
        go_roundg (b.length - (t + 1))
        case measure => have := HGo.out; omega
        case rel => exact ⟨t + 1, p, by go_num, by omega, rfl, fun u hu => HY.out u (by omega), pw_below_drewN HB5.out _, rfl⟩
    · obtain rfl : t = b.length := by omega
      have hBw := below_step HO4.out.2.2 HQ.out.2.1
      go_wp2_with fail
      refine (place_any A c b _ S (b.length : Int) _ (Kd.C_below HCb.out hBw) HC.out.2.1 (EdR.below HE.out hBw) (by omega) (by omega) (fun e he => by have := HSz.out e he; omega)).mono ?_
      rintro e w5 ⟨rfl, hb5⟩
      rw [HP.out (b.length : Int) (by omega) (by omega)]
      have hto := HTo.out
      have hto : plc (b.length : Int) K 0 = (X.length : Int) := by omega
      rw [hto]
      have HF := Lib.hid (below_step HW2.out (below_step hBw hb5))
      clear hb5 hBw hto HQ
      go_wp2_with fail
      go_ret
      exact ⟨rfl, HF.out⟩
end Go.Proofs.Ytgcjkijndibejaa.Srt
namespace Go.Proofs.Ytgcjkijndibejaa.Wk.EditsStay
open Go.RowKit Go.Proofs.YtgcjkijndibejaaW.PrintWords Go.Proofs.Ytgcjkijndibejaa.Srt
theorem walk (A : Option Addr) (c : Nat) (b : List Int) (A1 : Option Addr) (c1 : Nat) (gs : List Int) (A2 : Option Addr) (c2 : Nat) (ts : List ByteArray) (w : World) (hC : Kd.C (Kd.int .u8) w A b.length b) (hc : b.length ≤ c) (hg : Bys b ∧ b.length ≤ 140737488351232)
    (hC1 : Kd.C (Kd.int .u8) w A1 gs.length gs) (hc1 : gs.length ≤ c1) (hg1 : Bys gs ∧ gs.length ≤ 140737488351232) (hC2 : Kd.C Kd.string w A2 ts.length ts) (hc2 : ts.length ≤ c2) (hg2 : True) :
    Calls Try.prog 5 #[.slice A b.length c, .slice A1 gs.length c1, .slice A2 ts.length c2] w fun e w' => e = .returned (.bool true) ∧ Below w.heap.size w w' :=
  editsStay_any A c b A1 c1 gs A2 c2 ts w hC hc hg.1 hg.2 hC1 hc1 hg1.1 hg1.2 hC2 hc2
end Go.Proofs.Ytgcjkijndibejaa.Wk.EditsStay
