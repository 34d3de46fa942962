/- (*doc).next, walked. Conditions: none but those that stand there. -/
import Derived.Test.YtjbbogcoabgcnaaSNext
import Derived.Lib.SlBytesConst
set_option linter.unusedVariables false
set_option linter.unusedSimpArgs false
namespace Go.Proofs.Ytjbbogcoabgcnaa.S
open Go.RowKit Go.Proofs.YtjbbogcoabgcnaaW.PrintWords Go.Proofs.Ytjbbogcoabgcnaa.L Go.Proofs.Ytjbbogcoabgcnaa.Src

theorem getD_mem {α : Type} (l : List α) (d : α) (j : Nat) (h : j < l.length) : l.getD j d ∈ l := by
  rw [List.getD_eq_getElem?_getD, List.getElem?_eq_getElem h]
  exact List.getElem_mem h
set_option maxRecDepth 100000 in
set_option maxHeartbeats 4000000 in
theorem next_any (E : Env) (W : World) (L : List Int) (at_ : Nat) (h : E.In W L) (hat : at_ < E.b.length) (hcode : ∀ i, at_ ≤ i → i < E.b.length → L[i]? = some 4) :
    Calls Try.prog 21 #[.pointer (some ⟨E.d, 0, none⟩), .int .i64 at_] W fun e w' => e = .returned (.int .i64 ((at_ + (M_ E at_).length : Nat) : Int)) ∧ E.In w' (ov L at_ (M_ E at_)) := by
  have HL := Lib.hid h.len
  have hmax := h.ok.max
  have HCode := Lib.hid hcode
  have hln := h.ok.ln
  have htn := h.ok.tn
  have hxl := h.ok.mxl
  have hxt := h.ok.mxt
  have HOk := Lib.hid h.ok
  obtain ⟨ad1, hA1, _⟩ := Kd.at_string h.line 0 (by omega) (by omega)
  obtain ⟨ad6, hA6, _⟩ := Pof.at_T75 h.texts 0 (by omega) (by omega)
  have HA := Lib.hid (And.intro hA1 hA6)
  have c1 := h.c1
  rw [hA1] at c1
  have HI := Lib.hid h
  have hu75 := Try.underlying75
  clear h hcode hA1 hA6
  go_enter Try.func21, Try.ntmps21
  go_wp2_with fail
  clear c1
  go_loopg [15] E.F.line.length (fun gn iv wr => ∃ j : Nat, iv = .int .i64 j ∧ j ≤ E.F.line.length ∧ Hid (E.In wr L ∧ (∀ q, q < j → tst E at_ (E.F.line.getD q ByteArray.empty) = false) ∧ gn = E.F.line.length - j))
  case atStart => exact ⟨0, rfl, Nat.zero_le _, HI.out, fun q hq => absurd hq (Nat.not_lt_zero _), rfl⟩
  case round =>
    obtain ⟨j, rfl, hj, HR⟩ := hrel
    clear HI
    have HN := Lib.hid HR.out.1
    have HZ := Lib.hid HR.out.2.1
    have HG := Lib.hid HR.out.2.2
    clear HR
    by_cases hlt : j < E.F.line.length
    · obtain ⟨ad, hA, hcell⟩ := Kd.at_string HN.out.line (j : Int) (by omega) (by omega)
      obtain rfl : ad = ad1 := by have e := HA.out.1; rw [hA] at e; injection e
      rw [Int.toNat_natCast] at hcell
      obtain ⟨m, hm⟩ : ∃ m, m = E.F.line.getD j ByteArray.empty := ⟨_, rfl⟩
      have hm2 : rdOf ByteArray.empty E.F.line (j : Int) = m := hm.symm
      rw [hm2] at hcell
      have hm3 : m.size ≤ 3 := by rw [hm]; exact HOk.out.ml _ (getD_mem _ _ _ hlt)
      have HM := Lib.hid hm
      clear hm hm2 hA
      go_upto_region 4 with fail
      clear hcell
      obtain ⟨B, hB⟩ : ∃ B : Bool, B = tst E at_ m := ⟨_, rfl⟩
      have HB := Lib.hid hB
      clear hB
      go_cut [48] (fun v wx => v = .bool B ∧ Hid (E.In wx L))
      case first =>
        cases hb : beg (bytesOf m) (E.b.drop at_) with
        | false =>
          obtain rfl : B = false := by rw [HB.out]; unfold tst; rw [hb]; rfl
          have H1 := Lib.hid hb
          clear hb
          go_wp2_with fail
          refine (begins_is E _ _ at_ m false HN.out (by omega) (by omega) H1.out).mono ?_
          rintro e w1 ⟨rfl, h1, _⟩
          have HN1 := Lib.hid h1
          clear h1
          go_wp2_with fail
          go_meet
          exact ⟨rfl, HN1⟩
        | true =>
          have H1 := Lib.hid hb
          have HB2 := Lib.hid (show B = (!E.F.apart || gap (prv E.b at_)) from by rw [HB.out]; unfold tst; rw [hb]; rfl)
          clear hb
          go_wp2_with fail
          refine (begins_is E _ _ at_ m true HN.out (by omega) (by omega) H1.out).mono ?_
          rintro e w1 ⟨rfl, h1, _⟩
          have HN1 := Lib.hid h1
          have c5 := h1.c5
          have c7 := h1.c7
          clear h1
          cases ha : E.F.apart with
          | false =>
            obtain rfl : B = true := by rw [HB2.out, ha]; rfl
            rw [ha] at c5
            have HAp := Lib.hid ha
            clear ha c7
            go_wp2_with fail
            go_meet
            exact ⟨rfl, HN1⟩
          | true =>
            rw [ha] at c5
            have HAp := Lib.hid ha
            clear ha
            by_cases hz : at_ = 0
            · obtain rfl : B = true := by rw [HB2.out, HAp.out]; subst hz; rfl
              have hz1 : ((at_ : Int) == 0) = true := by simp [hz]
              have HZ0 := Lib.hid hz
              clear hz c7
              go_wp2_with fail
              go_meet
              exact ⟨rfl, HN1⟩
            · have hz1 : ((at_ : Int) == 0) = false := by simp [hz]
              have hz2 : (1 : Int) ≤ (at_ : Int) := by omega
              obtain ⟨a, hsub⟩ : ∃ a : Nat, (at_ : Int) - 1 = (a : Int) := ⟨at_ - 1, by omega⟩
              have ha1 : at_ - 1 = a := by omega
              have ha2 : a < E.b.length := by omega
              obtain ⟨x, hx⟩ : ∃ x, x = E.b.getD a 0 := ⟨_, rfl⟩
              have hxb : 0 ≤ x ∧ x < 256 := by rw [hx]; exact HOk.out.bys _ (getD_mem _ _ _ ha2)
              have HBx := Lib.hid (show B = decide (0 ≤ idx [32, 9, 13, 10, 59] x) from by
                rw [HB2.out, HAp.out, gap_idx x hxb.1, hx]
                unfold prv
                rw [if_neg hz, ha1]
                rfl)
              obtain ⟨adb, hAb, hcb⟩ := (HN1.out.alloc (.cells #[.int .u8 32, .int .u8 9, .int .u8 13, .int .u8 10, .int .u8 59] 5 (5, 6))).at_ a ha2
              have c7b := (HN1.out.alloc (.cells #[.int .u8 32, .int .u8 9, .int .u8 13, .int .u8 10, .int .u8 59] 5 (5, 6))).c7
              rw [hAb] at c7b
              rw [← hx] at hcb
              have HLC := Lib.hid (lit_C w1 5 (5, 6) [32, 9, 13, 10, 59] (by simp))
              have HN2 := Lib.hid (HN1.out.alloc (.cells #[.int .u8 32, .int .u8 9, .int .u8 13, .int .u8 10, .int .u8 59] 5 (5, 6)))
              have HXx := Lib.hid hx
              have kcv := Lib.run_convert_bytes_const (P := Try.prog) w1 22 5 #[.int .u8 32, .int .u8 9, .int .u8 13, .int .u8 10, .int .u8 59] 5 5 Try.underlying22 Try.underlying5
              clear hx c7 hAb hz ha1
              go_wp2_with fail
              refine (index_any _ _ _ [32, 9, 13, 10, 59] x _ HLC.out (by intro y hy; simp at hy; omega) hxb).mono ?_
              rintro e w2 ⟨rfl, rfl⟩
              obtain ⟨i, hi⟩ : ∃ i, i = idx [32, 9, 13, 10, 59] x := ⟨_, rfl⟩
              rw [← hi] at HBx ⊢
              have HII := Lib.hid hi
              obtain rfl := HBx.out
              clear hi HBx kcv
              go_wp2_with fail
              go_meet
              exact ⟨rfl, HN2⟩
      case rest =>
        obtain ⟨rfl, HN1⟩ := hcut
        clear HN
        cases B with
        | true =>
          have hT := HB.out
          have hM := M_line j hlt HZ.out (by rw [← HM.out]; exact hT.symm)
          rw [← HM.out] at hM
          have hsz : at_ + m.size ≤ E.b.length := by
            have h2 := hT.symm
            unfold tst at h2
            rw [Bool.and_eq_true] at h2
            exact (beg_size h2.1).1
          have HMM := Lib.hid hM
          clear hT hM
          go_wp2_with fail
          refine (remark_any E _ L at_ m.size HN1.out hsz).mono ?_
          rintro e w2 ⟨rfl, h2⟩
          rw [← HMM.out] at h2
          have HN2 := Lib.hid h2
          clear h2
          go_wp2_with fail
          go_ret
          refine ⟨congrArg (fun z : Nat => Ending.returned (Value.int .i64 (z : Int))) ?_, HN2.out⟩
          rw [HMM.out]
          simp
          omega
        | false =>
          go_wp2_with fail
          go_roundg (E.F.line.length - (j + 1))
          case measure => have := HG.out; omega
          case rel =>
            refine ⟨j + 1, by go_num, by omega, HN1.out, fun q hq => ?_, rfl⟩
            rcases Nat.lt_or_ge q j with h | h
            · exact HZ.out q h
            · obtain rfl : q = j := by omega
              rw [← HM.out]
              exact HB.out.symm
    · obtain rfl : j = E.F.line.length := by omega
      clear HG
      have c2 := HN.out.c2
      cases ho : beg (bytesOf E.F.opn) (E.b.drop at_) with
      | true =>
        have HM := Lib.hid (M_blk HZ.out ho)
        have HO := Lib.hid ho
        clear ho
        go_wp2_with fail
        refine (begins_is E _ _ at_ E.F.opn true HN.out (by omega) (by have := HOk.out.mo; omega) HO.out).mono ?_
        rintro e w1 ⟨rfl, h1, _⟩
        have HN1 := Lib.hid h1
        clear h1 c2 HN
        go_wp2_with fail
        refine (block_any E _ L at_ HN1.out (by omega) HO.out).mono ?_
        rintro e w2 ⟨rfl, h2⟩
        rw [← HM.out] at h2 ⊢
        have HN2 := Lib.hid h2
        clear h2
        go_wp2_with fail
        go_ret
        exact ⟨rfl, HN2.out⟩
      | false =>
        have HO := Lib.hid ho
        clear ho
        go_wp2_with fail
        refine (begins_is E _ _ at_ E.F.opn false HN.out (by omega) (by have := HOk.out.mo; omega) HO.out).mono ?_
        rintro e w1 ⟨rfl, h1, _⟩
        have HN1 := Lib.hid h1
        have c6 := h1.c6
        rw [HA.out.2] at c6
        clear h1 c2 HN
        go_wp2_with fail
        clear c6
        go_loopg [74] E.F.texts.length (fun gn iv wr => ∃ j : Nat, iv = .int .i64 j ∧ j ≤ E.F.texts.length ∧ Hid (E.In wr L ∧ (∀ q, q < j → tst2 E at_ (E.F.texts.getD q Pof.z75) = false) ∧ gn = E.F.texts.length - j))
        case atStart => exact ⟨0, rfl, Nat.zero_le _, HN1.out, fun q hq => absurd hq (Nat.not_lt_zero _), rfl⟩
        case round =>
          obtain ⟨j, rfl, hj, HR⟩ := hrel
          clear HN1
          have HN := Lib.hid HR.out.1
          have HY := Lib.hid HR.out.2.1
          have HG := Lib.hid HR.out.2.2
          clear HR
          by_cases hlt : j < E.F.texts.length
          · obtain ⟨ad, hA, h0, h1, h2, h3, h4⟩ := Pof.at_T75 HN.out.texts (j : Int) (by omega) (by omega)
            obtain rfl : ad = ad6 := by have e := HA.out.2; rw [hA] at e; injection e
            rw [Int.toNat_natCast] at h0 h1 h2 h3 h4
            obtain ⟨t, ht⟩ : ∃ t, t = E.F.texts.getD j Pof.z75 := ⟨_, rfl⟩
            have ht2 : Pof.rd_T75 E.F.texts (j : Int) = t := ht.symm
            rw [ht2] at h0 h1 h2 h3 h4
            have ht3 : t.f0.size ≤ 3 := by rw [ht]; exact HOk.out.mt _ (getD_mem _ _ _ hlt)
            have HT := Lib.hid ht
            clear ht ht2 hA
            obtain ⟨tm, te, tt, tl, tw⟩ := t
            simp only at h0 h1 h2 h3 h4 ht3
            have HB := Lib.hid (show RT E (wr.alloc (.cells #[.string tm, .bool te, .bool tt, .bool tl, .int .u8 tw] 75 (0, 0))) L wr.heap.size ⟨tm, te, tt, tl, tw⟩ from ⟨HN.out.alloc _, blk_new _ _⟩)
            cases hb : beg (bytesOf tm) (E.b.drop at_) with
            | false =>
              have H1 := Lib.hid hb
              clear hb
              go_wp2_with fail
              refine (begins_is E _ _ at_ tm false HB.out.i (by omega) (by omega) H1.out).mono ?_
              rintro e w2 ⟨rfl, hi, _⟩
              have HN2 := Lib.hid hi
              clear hi
              go_wp2_with fail
              go_roundg (E.F.texts.length - (j + 1))
              case measure => have := HG.out; omega
              case rel =>
                refine ⟨j + 1, by go_num, by omega, HN2.out, fun q hq => ?_, rfl⟩
                rcases Nat.lt_or_ge q j with h | h
                · exact HY.out q h
                · obtain rfl : q = j := by omega
                  rw [← HT.out]
                  exact H1.out
            | true =>
              have hsz := (beg_size hb).1
              have hM := M_text HZ.out HO.out Pof.z75 j hlt HY.out (by rw [← HT.out]; exact hb)
              rw [← HT.out] at hM
              have HM := Lib.hid hM
              have H1 := Lib.hid hb
              clear hb hM
              go_wp2_with fail
              refine (begins_is E _ _ at_ tm true HB.out.i (by omega) (by omega) H1.out).mono ?_
              rintro e w2 ⟨rfl, _, hbel⟩
              have HB2 := Lib.hid (HB.out.below hbel)
              have b0 := (show _ = some (Value.string tm) from HB2.out.b0)
              have b1 := (show _ = some (Value.bool te) from HB2.out.b1)
              have b2 := (show _ = some (Value.bool tt) from HB2.out.b2)
              have b3 := (show _ = some (Value.bool tl) from HB2.out.b3)
              have b4 := (show _ = some (Value.int .u8 tw) from HB2.out.b4)
              clear hbel HB h0 h1 h2 h3 h4
              go_wp2_with fail
              refine (text_any E _ L at_ ⟨tm, te, tt, tl, tw⟩ HB2.out.i hsz ht3 (fun i hi1 hi2 => HCode.out i (by omega) hi2)).mono ?_
              rintro e w3 ⟨rfl, hi⟩
              have HN3 := Lib.hid hi
              clear hi b0 b1 b2 b3 b4
              go_wp2_with fail
              go_ret
              have h3 := HN3.out
              have hLl := HL.out
              have e1 : ov L (at_ + tm.size) (txtW (txOf ⟨tm, te, tt, tl, tw⟩) (E.b.drop (at_ + tm.size))) = ov L at_ (M_ E at_) := by
                have hle := txtW_le (txOf ⟨tm, te, tt, tl, tw⟩) (E.b.drop (at_ + tm.size))
                rw [List.length_drop] at hle
                have e0 : ov L at_ (List.replicate tm.size 4) = L := by
                  have := ov_same L at_ [] 4 tm.size (by simp; omega) (fun i hi1 hi2 => HCode.out i (by simpa using hi1) (by simp at hi2; omega))
                  rw [List.nil_append, ov_nil] at this
                  exact this
                have e2 := ov_ov L at_ (List.replicate tm.size 4) (txtW (txOf ⟨tm, te, tt, tl, tw⟩) (E.b.drop (at_ + tm.size))) (by simp; omega)
                rw [e0, List.length_replicate] at e2
                rw [HM.out]
                exact e2
              refine ⟨congrArg (fun z : Nat => Ending.returned (Value.int .i64 (z : Int))) ?_, e1 ▸ h3⟩
              rw [HM.out]
              simp
              omega
          · obtain rfl : j = E.F.texts.length := by omega
            have HM := Lib.hid (M_none HZ.out HO.out Pof.z75 HY.out)
            go_wp2_with fail
            go_ret
            have hLl := HL.out
            have e0 : ov L at_ (M_ E at_) = L := by
              have := ov_same L at_ [] 4 1 (by simp; omega) (fun i hi1 hi2 => HCode.out i (by simpa using hi1) (by simp at hi2; omega))
              rw [List.nil_append, ov_nil] at this
              rw [HM.out]
              exact this
            refine ⟨congrArg (fun z : Int => Ending.returned (Value.int .i64 z)) ?_, by rw [e0]; exact HN.out⟩
            rw [HM.out]
            simp
end Go.Proofs.Ytjbbogcoabgcnaa.S
