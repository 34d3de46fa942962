/- The law TexLex, walked: it answers true. Conditions: none. -/
import Derived.Test.YtkicpaodcmepmaaDoorTRefAll
import Derived.Test.YtkicpaodcmepmaaDoorTAw
import Derived.Test.YtkicpaodcmepmaaDoorOpn
import Derived.Outline
import Derived.IntWalk
set_option linter.unusedVariables false
set_option linter.unusedSimpArgs false
namespace Go.Proofs.YtkicpaodcmepmaaDoor.T
open Go.RowKit Go.Proofs.YtkicpaodcmepmaaDoorW.PrintWords Go.Proofs.YtkicpaodcmepmaaDoorW.PrintMore Go.Proofs.YtkicpaodcmepmaaDoor.L Go.Proofs.YtkicpaodcmepmaaDoor.S Go.Proofs.YtkicpaodcmepmaaDoor.Tex

/-- What stands in memory behind the lexing of a text. -/
def Sl (wr : World) (g k : Nat) (L : List Int) (W : World) : Prop := Sheet W g k L ∧ Below wr.heap.size wr W
theorem Sl.below {wr W W' : World} {g k : Nat} {L : List Int} (h : Sl wr g k L W) (hb : Below W.heap.size W W') : Sl wr g k L W' := ⟨h.1.below hb, below_step h.2 hb⟩
theorem Sl.drewN {wr W : World} {g k : Nat} {L : List Int} (h : Sl wr g k L W) (n : Nat) : Sl wr g k L (W.drewN n) := h.below (pw_below_drewN (Below.refl _ _) n)
theorem Sl.drew {wr W : World} {g k : Nat} {L : List Int} (h : Sl wr g k L W) : Sl wr g k L W.drew := h.below (below_drew1 (Below.refl _ _))
theorem refSegs_P (A : Option Addr) (c : Nat) (L : List Int) (w : World) (h : Kd.C (Kd.int .u8) w A L.length L) (hc : L.length ≤ c) (hl : L.length ≤ 1000000) :
    Calls Tryd.prog 16 #[.slice A L.length c] w fun e w' => ∃ A cp, e = .returned (.slice A (segsOf L).length cp) ∧ ((segsOf L).map toQ).length ≤ cp ∧ Kd.C PSameSegs.k55 w' A ((segsOf L).map toQ).length ((segsOf L).map toQ) ∧ Below w.heap.size w w' := by
  have h := refSegs_C A c L w h hc hl
  simpa only [List.length_map] using h
theorem same_P (A1 A2 : Option Addr) (c1 c2 : Nat) (S : List Sg) (w : World) (hl : S.length ≤ 1000000) (h1 : Kd.C PSameSegs.k55 w A1 (S.map toQ).length (S.map toQ)) (h2 : Kd.C PSameSegs.k55 w A2 (S.map toQ).length (S.map toQ)) (hc1 : (S.map toQ).length ≤ c1) (hc2 : (S.map toQ).length ≤ c2) :
    Calls Tryd.prog 14 #[.slice A1 S.length c1, .slice A2 S.length c2] w fun e w' => e = .returned (.bool true) ∧ ∃ n, w' = w.drewN n := by
  have := same_any A1 A2 c1 c2 S w hl h1 h2 hc1 hc2
  simpa only [List.length_map] using this
set_option maxRecDepth 100000 in
set_option maxHeartbeats 4000000 in
theorem texLex_any (A : Option Addr) (c : Nat) (l : List Int) (A2 : Option Addr) (c2 : Nat) (l2 : List Int) (w : World) (a1 a2 : Option Addr) (d1 d2 : Nat) (hT : Tb w a1 a2 d1 d2) (hA : Kd.C (Kd.int .u8) w A l.length l) (hc : l.length ≤ c) (hb : Bys l) (hm : l.length ≤ 140737488351232) (hA2 : Kd.C (Kd.int .u8) w A2 l2.length l2) (hc2 : l2.length ≤ c2) (hb2 : Bys l2) (hm2 : l2.length ≤ 140737488351232) :
    Calls Tryd.prog 4 #[.slice A l.length c, .slice A2 l2.length c2] w fun e w' => e = .returned (.bool true) ∧ Below w.heap.size w w' := by
  have HA := Lib.hid hA
  have HBy := Lib.hid hb
  have HA2 := Lib.hid hA2
  have HBy2 := Lib.hid hb2
  have HTb := Lib.hid hT
  have HCs := Lib.hid (And.intro hc hc2)
  clear hA hb hA2 hb2 hc hc2 hT
  go_enter Tryd.func4, Tryd.ntmps4
  go_wp2_with fail
  refine (awake_any _ a1 a2 d1 d2 HTb.out).mono ?_
  rintro e w1 ⟨rfl, hbw⟩
  have HW := Lib.hid hbw
  clear hbw
  by_cases h1000 : 1000 < l.length
  · have h3 : decide (1000 < (l.length : Int)) = true := by simp; omega
    go_wp2_with fail
    go_ret
    exact ⟨rfl, HW.out⟩
  have h3 : decide (1000 < (l.length : Int)) = false := by simp; omega
  go_wp2_with fail
  refine (pieces_any _).mono ?_
  rintro e w2 ⟨P, Ap, cp, rfl, hP, hPl, hcp, hCp, hbw⟩
  have HP := Lib.hid (And.intro hP (And.intro hPl (And.intro hcp (And.intro hCp (below_step HW.out hbw)))))
  clear hP hPl hcp hCp hbw HW
  go_wp2_with fail
  refine (bits_any Ap cp P A2 c2 l2 A c l _ HP.out.1 HP.out.2.1 HBy2.out HBy.out (by omega) hm2 HP.out.2.2.2.1 HP.out.2.2.1 (Kd.C_below HA2.out HP.out.2.2.2.2) HCs.out.2 (Kd.C_below HA.out HP.out.2.2.2.2) HCs.out.1).mono ?_
  rintro e w3 ⟨Ar, cr, rfl, hrl, hrc, hCr, hbw⟩
  have hrb := btx_bys P l l2 HBy.out
  generalize btx P l l2 = r at *
  have hW3 := below_step HP.out.2.2.2.2 hbw
  have HT1 := Lib.hid (show Tt w3 (.slice A l.length c) A c l from ⟨rfl, Kd.C_below HA.out hW3, HCs.out.1, by omega, HBy.out⟩)
  have HT2 := Lib.hid (show Tt w3 (.slice Ar r.length cr) Ar cr r from ⟨rfl, hCr, hrc, by omega, hrb⟩)
  have HW3 := Lib.hid hW3
  clear hrl hrb hrc hCr hbw hW3 HP HA HA2 HBy HBy2 HCs h3
  go_upto_block 0 with fail
  have HI := Lib.hid (show Two (w3.alloc (.cells #[.slice A l.length c, .slice Ar r.length cr] 22 (0, 0))) w3.heap.size (.slice A l.length c) (.slice Ar r.length cr) 22 ∧ Tt (w3.alloc (.cells #[.slice A l.length c, .slice Ar r.length cr] 22 (0, 0))) (.slice A l.length c) A c l ∧ Tt (w3.alloc (.cells #[.slice A l.length c, .slice Ar r.length cr] 22 (0, 0))) (.slice Ar r.length cr) Ar cr r ∧ Below w.heap.size w (w3.alloc (.cells #[.slice A l.length c, .slice Ar r.length cr] 22 (0, 0))) from
    ⟨blk_new w3 _, HT1.out.below (below_alloc (Below.refl _ _) _), HT2.out.below (below_alloc (Below.refl _ _) _), below_alloc HW3.out _⟩)
  clear HT1 HT2
  generalize w3.heap.size = B at *
  generalize hx1 : Value.slice A l.length c = x1 at *
  generalize hx2 : Value.slice Ar r.length cr = x2 at *
  go_wp2_with fail
  go_loopg [21] 2 (fun gn iv wr => ∃ j : Nat, iv = .int .i64 j ∧ j ≤ 2 ∧ Hid (Two wr B x1 x2 22 ∧ Tt wr x1 A c l ∧ Tt wr x2 Ar cr r ∧ Below w.heap.size w wr ∧ gn = 2 - j))
  case atStart => exact ⟨0, rfl, Nat.zero_le _, HI.out.1, HI.out.2.1, HI.out.2.2.1, HI.out.2.2.2, rfl⟩
  case round =>
    obtain ⟨j, rfl, hj, HQ⟩ := hrel
    clear HI
    by_cases hlt : j < 2
    · obtain ⟨A', c', b', hT⟩ : ∃ (A' : Option Addr) (c' : Nat) (b' : List Int), Tt wr (if j = 0 then x1 else x2) A' c' b' := by
        by_cases h0 : j = 0
        · rw [if_pos h0]; exact ⟨_, _, _, HQ.out.2.1⟩
        · rw [if_neg h0]; exact ⟨_, _, _, HQ.out.2.2.1⟩
      have hjd : decide ((j : Int) < 2) = true := by simp; omega
      have hcell := two_at HQ.out.1 j hlt
      rw [hT.e] at hcell
      obtain ⟨hl1, hC1, hc1, hm1, hB1⟩ := hT
      have HT := Lib.hid (And.intro hC1 (And.intro hc1 (And.intro hm1 hB1)))
      clear hl1 hC1 hc1 hm1 hB1
      go_wp2_with fail
      clear hcell
      refine (lex_any A' b'.length c' b' _ a1 a2 d1 d2 (HTb.out.below HQ.out.2.2.2.1) HT.out.1 HT.out.2.1 HT.out.2.2.2 (by have := HT.out.2.2.1; omega)).mono ?_
      rintro e wa ⟨g, k, rfl, hs, hb1, _, _⟩
      have hcv : (convert 22 9 (.slice A' b'.length c')).run Tryd.prog wa = .ok (.string (strOfNums b')) wa := Kd.C_string (P := Tryd.prog) (c := c') Tryd.underlying22 Tryd.underlying5 Tryd.underlying9 (Kd.C_below HT.out.1 hb1)
      have HB1 := Lib.hid hb1
      have HS := Lib.hid hs
      clear hb1 hs
      have HLL := Lib.hid (show (lexL b').length ≤ 1000000 from by rw [lexL_lenE]; have := HT.out.2.2.1; omega)
      have hsl : (segsOf (lexL b')).length ≤ 1000000 := by
        have := (segsTo_ok (lexL b') (lexL b').length).1
        have h2 := HLL.out
        unfold segsOf
        omega
      have hHt := fun w9 => refTex_any b' w9 HT.out.2.2.2 (by have := HT.out.2.2.1; omega)
      generalize lexL b' = LL at *
      have HHt := Lib.hid hHt
      clear hHt
      have HSt := Lib.hid (show ∀ W : World, Sl wr g k LL W → ((convert 22 9 (.slice A' b'.length c')).run Tryd.prog W = .ok (.string (strOfNums b')) W ∧ Hid (Sl wr g k LL W)) from
        fun W h => ⟨Kd.C_string (P := Tryd.prog) (c := c') Tryd.underlying22 Tryd.underlying5 Tryd.underlying9 (Kd.C_below HT.out.1 h.2), Lib.hid h⟩)
      have HSb := Lib.hid (show ∀ W W' : World, ((convert 22 9 (.slice A' b'.length c')).run Tryd.prog W = .ok (.string (strOfNums b')) W ∧ Hid (Sl wr g k LL W)) → Below W.heap.size W W' → ((convert 22 9 (.slice A' b'.length c')).run Tryd.prog W' = .ok (.string (strOfNums b')) W' ∧ Hid (Sl wr g k LL W')) from fun W W' h hb => HSt.out W' (h.2.out.below hb))
      have HSn := Lib.hid (show ∀ (W : World) (q : Nat), ((convert 22 9 (.slice A' b'.length c')).run Tryd.prog W = .ok (.string (strOfNums b')) W ∧ Hid (Sl wr g k LL W)) → ((convert 22 9 (.slice A' b'.length c')).run Tryd.prog (W.drewN q) = .ok (.string (strOfNums b')) (W.drewN q) ∧ Hid (Sl wr g k LL (W.drewN q))) from fun W q h => HSt.out _ (h.2.out.drewN q))
      have HPl := Lib.hid (show ∀ W : World, ((convert 22 9 (.slice A' b'.length c')).run Tryd.prog W = .ok (.string (strOfNums b')) W ∧ Hid (Sl wr g k LL W)) → Hid (Sl wr g k LL W) from fun W h => h.2)
      have HS0 := Lib.hid (show Sl wr g k LL wa from ⟨HS.out, HB1.out⟩)
      clear hcv HS HB1
      go_upto_region 9 with fail
      have HT0 := Lib.hid (HSt.out _ (HS0.out.drew))
      go_region_held3 (fun W => ((convert 22 9 (.slice A' b'.length c')).run Tryd.prog W = .ok (.string (strOfNums b')) W ∧ Hid (Sl wr g k LL W)))
        (first | exact HSb.out _ _ (by assumption) hb | exact HSn.out _ _ (by assumption) | exact HT0.out | go_keep)
        (first
          | (go_at_call 15; refine (segs_any g k LL _ (HPl.out _ (by assumption)).out.1).mono ?_; rintro e w7 ⟨v, rfl, ho, hb⟩; obtain ⟨A1, cp1, rfl, hc1, hC1⟩ := own_Q ho; have HC1 := Lib.hid hC1; clear hC1 ho; rw [List.length_map])
          | (go_at_call 17; refine (HHt.out _).mono ?_; rintro e w8 ⟨Al, cl, rfl, hcl, hCl, hb⟩; have HC1a := Lib.hid (Kd.C_below HC1.out hb); have HCl := Lib.hid hCl; clear hCl)
          | (go_at_call 16; refine (refSegs_P Al cl LL _ HCl.out hcl HLL.out).mono ?_; rintro e w9 ⟨A2', cp2, rfl, hc2', hC2, hb⟩; have HC1b := Lib.hid (Kd.C_below HC1a.out hb); have HC2 := Lib.hid hC2; clear hC2)
          | (go_at_call 14; refine (same_P A1 A2' cp1 cp2 _ _ hsl HC1b.out HC2.out hc1 hc2').mono ?_; rintro e w10 ⟨rfl, nq, rfl⟩))
      have HF := Lib.hid (HPl.out _ (by assumption)).out
      clear HC1 HC1a HCl HC1b HC2 HSb HSt HSn HT0 HPl
      go_wp2_with fail
      go_roundg (2 - (j + 1))
      case measure => have := HQ.out.2.2.2.2; omega
      case rel =>
        have hbl := HF.out.2
        exact ⟨j + 1, by go_num, by omega, two_below HQ.out.1 hbl, HQ.out.2.1.below hbl, HQ.out.2.2.1.below hbl, below_step HQ.out.2.2.2.1 hbl, rfl⟩
    · obtain rfl : j = 2 := by omega
      go_wp2_with fail
      go_ret
      exact ⟨rfl, HQ.out.2.2.2.1⟩
end Go.Proofs.YtkicpaodcmepmaaDoor.T
namespace Go.Proofs.YtkicpaodcmepmaaDoor.Wk.TexLex
open Go.RowKit Go.Proofs.YtkicpaodcmepmaaDoorW.PrintWords Go.Proofs.YtkicpaodcmepmaaDoor.S Go.Proofs.YtkicpaodcmepmaaDoor.T
theorem walk (A0 : Option Addr) (c0 : Nat) (l0 : List Int) (A1 : Option Addr) (c1 : Nat) (l1 : List Int) (w : World) (a1 a2 : Option Addr) (d1 d2 : Nat) (hT : Tb w a1 a2 d1 d2) (hr0 : Kd.C (Kd.int .u8) w A0 l0.length l0) (hc0 : l0.length ≤ c0) (hg0 : Bys l0 ∧ l0.length ≤ 140737488351232) (hr1 : Kd.C (Kd.int .u8) w A1 l1.length l1) (hc1 : l1.length ≤ c1) (hg1 : Bys l1 ∧ l1.length ≤ 140737488351232) :
    Calls Tryd.prog 4 #[.slice A0 l0.length c0, .slice A1 l1.length c1] w fun e w' => e = .returned (.bool true) ∧ Below w.heap.size w w' :=
  texLex_any A0 c0 l0 A1 c1 l1 w a1 a2 d1 d2 hT hr0 hc0 hg0.1 hg0.2 hr1 hc1 hg1.1 hg1.2
end Go.Proofs.YtkicpaodcmepmaaDoor.Wk.TexLex
