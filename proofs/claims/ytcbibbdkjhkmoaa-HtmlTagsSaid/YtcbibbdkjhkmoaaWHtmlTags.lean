/- The law HtmlTags, walked: it answers true. Conditions: none. -/
import Derived.Test.YtcbibbdkjhkmoaaHRefS
import Derived.Outline
import Derived.IntWalk
set_option linter.unusedVariables false
set_option linter.unusedSimpArgs false
namespace Go.Proofs.Ytcbibbdkjhkmoaa.H
open Go.RowKit Go.Proofs.YtcbibbdkjhkmoaaW.PrintWords Go.Proofs.YtcbibbdkjhkmoaaW.PrintMore Go.Proofs.Ytcbibbdkjhkmoaa.L Go.Proofs.Ytcbibbdkjhkmoaa.S Go.Proofs.Ytcbibbdkjhkmoaa.Htm

set_option maxRecDepth 100000 in
set_option maxHeartbeats 4000000 in
theorem htmlTags_any (A : Option Addr) (c : Nat) (l : List Int) (A2 : Option Addr) (c2 : Nat) (l2 : List Int) (at_ : Int) (w : World) (hM : Mx w) (hA : Kd.C (Kd.int .u8) w A l.length l) (hc : l.length ≤ c) (hb : Bys l) (hm : l.length ≤ 140737488351232) (hA2 : Kd.C (Kd.int .u8) w A2 l2.length l2) (hc2 : l2.length ≤ c2) (hb2 : Bys l2) (hm2 : l2.length ≤ 140737488351232) :
    Calls Try.prog 4 #[.slice A l.length c, .slice A2 l2.length c2, .int .i64 at_] w fun e w' => e = .returned (.bool true) ∧ Below w.heap.size w w' := by
  have HA := Lib.hid hA
  have HBy := Lib.hid hb
  have HA2 := Lib.hid hA2
  have HBy2 := Lib.hid hb2
  have HMx := Lib.hid hM
  have HCs := Lib.hid (And.intro hc hc2)
  clear hA hb hA2 hb2 hc hc2 hM
  go_enter Try.func4, Try.ntmps4
  go_wp2_with fail
  refine (awake_any _ HMx.out).mono ?_
  rintro e w1 ⟨rfl, hbw⟩
  have HW := Lib.hid hbw
  clear hbw
  by_cases h500 : 500 < l.length
  · have h3 : decide (500 < (l.length : Int)) = true := by simp; omega
    go_wp2_with fail
    go_ret
    exact ⟨rfl, HW.out⟩
  have h3 : decide (500 < (l.length : Int)) = false := by simp; omega
  go_wp2_with fail
  refine (pieces_any _).mono ?_
  rintro e w2 ⟨P, Ap, cp, rfl, hP, hPl, hcp, hCp, hbw⟩
  have HP := Lib.hid (And.intro hP (And.intro hPl (And.intro hcp (And.intro hCp (below_step HW.out hbw)))))
  clear hP hPl hcp hCp hbw HW
  go_wp2_with fail
  refine (bits_any Ap cp P A2 c2 l2 A c l _ HP.out.1 HP.out.2.1 HBy2.out HBy.out (by omega) hm2 HP.out.2.2.2.1 HP.out.2.2.1 (Kd.C_below HA2.out HP.out.2.2.2.2) HCs.out.2 (Kd.C_below HA.out HP.out.2.2.2.2) HCs.out.1).mono ?_
  rintro e w3 ⟨Ar, cr, rfl, hrl, hrc, hCr, hbw⟩
  have hrb := btx_bys P l l2 HBy.out
  generalize btx P l l2 = r at *
  have hW3 := below_step HP.out.2.2.2.2 hbw
  have HT := Lib.hid (And.intro hCr (And.intro hrc (And.intro hrb hrl)))
  have HW3 := Lib.hid hW3
  clear hrb hrc hCr hbw hW3 HP HA HA2 HBy HBy2 HCs h3
  go_upto_block 0 with fail
  have HO := Lib.hid (Oi.lit w3 w3 at_ (Below.refl _ _))
  generalize hv0 : Value.slice (some ⟨w3.heap.size, 0, none⟩) 1 1 = v0 at *
  generalize hw4 : w3.alloc (.cells #[.int .i64 at_] 3) = w4 at *
  clear hw4
  go_wp2_with fail
  go_loopg [8, 30] r.length (fun gn lv iv wr => ∃ (j : Nat) (xs : List Int), iv = .int .i64 j ∧ j ≤ r.length ∧ Hid (Oi w3 wr lv xs ∧ xs.length ≤ j + 1 ∧ gn = r.length - j))
  case atStart => exact ⟨0, [at_], rfl, Nat.zero_le _, HO.out, Nat.le_refl _, rfl⟩
  case round =>
    obtain ⟨j, xs, rfl, hj, HQ⟩ := hrel
    clear HO
    obtain ⟨As, cs, rfl, hcs, hCs⟩ := HQ.out.1.form
    by_cases hlt : j < r.length
    · have hd : decide ((j : Int) < (r.length : Int)) = true := by simp; omega
      obtain ⟨ad, rfl, hcell0⟩ := Kd.at_int (Kd.C_below HT.out.1 HQ.out.1.bel) (j : Int) (by omega) (by omega)
      have hcell : wr.cell? (ad.add j) = some (.int .u8 (rd r (j : Int))) := hcell0
      clear hcell0 hCs
      generalize rd r (j : Int) = x at *
      have hxl : xs.length ≤ j + 1 := HQ.out.2.1
      by_cases hx : x = 60
      · have hx1 : (x == 60) = true := by simp [hx]
        by_cases h30 : xs.length < 30
        · have h30d : decide ((xs.length : Int) < 30) = true := by simp; omega
          clear hx
          go_wp2_with (at_builtin; refine print_append_num (w0 := w3) w3.heap.size rfl _ _ 40 3 .i64 8 rfl Try.underlying40 infoInt (by decide) (.slice As xs.length cs) xs j rfl rfl HQ.out.1.own HQ.out.1.bel HQ.out.1.bel.size (by omega) ?_; intro v1 w1 ho hb1 _ _; have HI := Lib.hid (And.intro ho hb1); clear ho hb1)
          go_roundg (r.length - (j + 1))
          case measure => have := HQ.out.2.2; omega
          case rel => exact ⟨j + 1, xs ++ [(j : Int)], by go_num, by omega, ⟨HI.out.1, HI.out.2⟩, by simp; omega, rfl⟩
        · have h30d : decide ((xs.length : Int) < 30) = false := by simp; omega
          clear hx
          go_wp2_with fail
          go_roundg (r.length - (j + 1))
          case measure => have := HQ.out.2.2; omega
          case rel => exact ⟨j + 1, xs, by go_num, by omega, HQ.out.1, by omega, rfl⟩
      · have hx1 : (x == 60) = false := by simp [hx]
        clear hx
        go_wp2_with fail
        go_roundg (r.length - (j + 1))
        case measure => have := HQ.out.2.2; omega
        case rel => exact ⟨j + 1, xs, by go_num, by omega, HQ.out.1, by omega, rfl⟩
    · obtain rfl : j = r.length := by omega
      have hd : decide ((r.length : Int) < (r.length : Int)) = false := by simp
      have HCs := Lib.hid hCs
      clear hCs
      generalize wr = wo at *
      go_upto_block 2 with fail
      go_wp2_with fail
      go_loopg [49] xs.length (fun gn iv wx => ∃ j : Nat, iv = .int .i64 j ∧ j ≤ xs.length ∧ Hid (Below wo.heap.size wo wx ∧ gn = xs.length - j))
      case atStart => exact ⟨0, rfl, Nat.zero_le _, Below.refl _ _, rfl⟩
      case round =>
        obtain ⟨i, rfl, hi, HR⟩ := hrel
        by_cases hil : i < xs.length
        · have hid_ : decide ((i : Int) < (xs.length : Int)) = true := by simp; omega
          obtain ⟨ad2, rfl, hcell0⟩ := Kd.at_int (Kd.C_below HCs.out HR.out.1) (i : Int) (by omega) (by omega)
          have hcell2 : wr.cell? (ad2.add i) = some (.int .i64 (rd xs (i : Int))) := hcell0
          clear hcell0
          generalize rd xs (i : Int) = a at *
          go_wp2_with fail
          refine (read_z Ar cr r a _ (Kd.C_below HT.out.1 (below_step HQ.out.1.bel HR.out.1)) HT.out.2.1 HT.out.2.2.1 (by omega)).mono ?_
          rintro e w5 ⟨B1, d1, rfl, ho5, hb5⟩
          have hT0 : (tgOf (rdZ r a)).prose.length ≤ 1000000 := tg_len r a (by omega)
          have hRR := fun w9 => rread_z r a w9 HT.out.2.2.1 (by omega)
          generalize tgOf (rdZ r a) = T at *
          generalize (rdZ r a).isSome = ok at *
          have HRR := Lib.hid hRR
          have HT0 := Lib.hid hT0
          have H5 := Lib.hid (And.intro ho5 hb5)
          clear hRR hT0 ho5 hb5 hcell2
          obtain ⟨fin, nm, cl, S⟩ := T
          unfold tgV
          go_upto_region 17 with fail
          have H6 := Lib.hid (show (w5.alloc (tgC fin (strOfNums nm) cl (.slice B1 S.length d1))).heap[w5.heap.size]? = some (tgC fin (strOfNums nm) cl (.slice B1 S.length d1)) ∧ (w5.alloc (tgC fin (strOfNums nm) cl (.slice B1 S.length d1))).ownsRow wr.heap.size 54 2 (.slice B1 S.length d1) S.length (spC S) ∧ Below wr.heap.size wr (w5.alloc (tgC fin (strOfNums nm) cl (.slice B1 S.length d1))) from ⟨blk_new w5 _, H5.out.1.alloc _, below_alloc H5.out.2 _⟩)
          clear H5
          generalize w5.alloc (tgC fin (strOfNums nm) cl (.slice B1 S.length d1)) = w6 at *
          generalize w5.heap.size = tb at *
          have hcv : (convert 22 9 (.slice Ar r.length cr)).run Try.prog w6 = .ok (.string (strOfNums r)) w6 := Kd.C_string (P := Try.prog) (c := cr) Try.underlying22 Try.underlying5 Try.underlying9 (Kd.C_below HT.out.1 (below_step (below_step HQ.out.1.bel HR.out.1) H6.out.2.2))
          go_wp2_with fail
          refine (HRR.out _).mono ?_
          rintro e w7 ⟨B2, d2, rfl, ho7, hb7⟩
          have H7 := Lib.hid (And.intro (blk_below H6.out.1 hb7) (And.intro (pw_own_below H6.out.2.1 hb7) (And.intro (below_step H6.out.2.2 hb7) ho7)))
          clear hcv H6 HRR ho7 hb7
          unfold tgV
          go_upto_region 18 with fail
          have H8 := Lib.hid (show (w7.alloc (tfC fin (strOfNums nm) cl (.slice B2 S.length d2))).heap[w7.heap.size]? = some (tfC fin (strOfNums nm) cl (.slice B2 S.length d2)) ∧ (w7.alloc (tfC fin (strOfNums nm) cl (.slice B2 S.length d2))).heap[tb]? = some (tgC fin (strOfNums nm) cl (.slice B1 S.length d1)) ∧ (w7.alloc (tfC fin (strOfNums nm) cl (.slice B2 S.length d2))).ownsRow wr.heap.size 54 2 (.slice B1 S.length d1) S.length (spC S) ∧ (w7.alloc (tfC fin (strOfNums nm) cl (.slice B2 S.length d2))).ownsRow w6.heap.size 54 2 (.slice B2 S.length d2) S.length (spC S) ∧ Below wr.heap.size wr (w7.alloc (tfC fin (strOfNums nm) cl (.slice B2 S.length d2))) from
            ⟨blk_new w7 _, blk_alloc H7.out.1 _, H7.out.2.1.alloc _, H7.out.2.2.2.alloc _, below_alloc H7.out.2.2.1 _⟩)
          clear H7
          generalize w7.alloc (tfC fin (strOfNums nm) cl (.slice B2 S.length d2)) = w8 at *
          generalize w7.heap.size = ub at *
          generalize w6.heap.size = base2 at *
          obtain ⟨k0, k1, k2, k3⟩ := tf_cells H8.out.1
          obtain ⟨t0, t1, t2, t3⟩ := tg_cells H8.out.2.1
          cases ok with
          | true =>
            go_wp2_with fail
            refine (sameTag_any ⟨fin, nm, cl, S⟩ HT0.out B1 B2 d1 d2 _ _ _ H8.out.2.2.1 H8.out.2.2.2.1).mono ?_
            rintro e w9 ⟨rfl, hb9⟩
            have hxb := HQ.out.2.1
            have H9 := Lib.hid (below_step H8.out.2.2.2.2 hb9)
            clear hb9 H8 k0 k1 k2 k3 t0 t1 t2 t3
            go_wp2_with fail
            go_roundg (xs.length - (i + 1))
            case measure => have := HR.out.2; omega
            case rel => exact ⟨i + 1, by go_num, by omega, below_step HR.out.1 H9.out, rfl⟩
          | false =>
            go_wp2_with fail
            refine (sameTag_any ⟨fin, nm, cl, S⟩ HT0.out B1 B2 d1 d2 _ _ _ H8.out.2.2.1 H8.out.2.2.2.1).mono ?_
            rintro e w9 ⟨rfl, hb9⟩
            have hxb := HQ.out.2.1
            have H9 := Lib.hid (below_step H8.out.2.2.2.2 hb9)
            clear hb9 H8 k0 k1 k2 k3 t0 t1 t2 t3
            go_wp2_with fail
            go_roundg (xs.length - (i + 1))
            case measure => have := HR.out.2; omega
            case rel => exact ⟨i + 1, by go_num, by omega, below_step HR.out.1 H9.out, rfl⟩
        · obtain rfl : i = xs.length := by omega
          have hid_ : decide ((xs.length : Int) < (xs.length : Int)) = false := by simp
          go_wp2_with fail
          go_ret
          exact ⟨rfl, below_step HW3.out (below_step HQ.out.1.bel HR.out.1)⟩
end Go.Proofs.Ytcbibbdkjhkmoaa.H
namespace Go.Proofs.Ytcbibbdkjhkmoaa.Wk.HtmlTags
open Go.RowKit Go.Proofs.YtcbibbdkjhkmoaaW.PrintWords Go.Proofs.Ytcbibbdkjhkmoaa.S Go.Proofs.Ytcbibbdkjhkmoaa.H
theorem walk (A0 : Option Addr) (c0 : Nat) (l0 : List Int) (A1 : Option Addr) (c1 : Nat) (l1 : List Int) (a2 : Int) (w : World) (hM : Mx w) (hr0 : Kd.C (Kd.int .u8) w A0 l0.length l0) (hc0 : l0.length ≤ c0) (hg0 : Bys l0 ∧ l0.length ≤ 140737488351232) (hr1 : Kd.C (Kd.int .u8) w A1 l1.length l1) (hc1 : l1.length ≤ c1) (hg1 : Bys l1 ∧ l1.length ≤ 140737488351232) (h2 : (Lit.int .i64 a2).wf = true) :
    Calls Try.prog 4 #[.slice A0 l0.length c0, .slice A1 l1.length c1, .int .i64 a2] w fun e w' => e = .returned (.bool true) ∧ Below w.heap.size w w' :=
  htmlTags_any A0 c0 l0 A1 c1 l1 a2 w hM hr0 hc0 hg0.1 hg0.2 hr1 hc1 hg1.1 hg1.2
end Go.Proofs.Ytcbibbdkjhkmoaa.Wk.HtmlTags
