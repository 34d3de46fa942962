/- The law SrcLex, walked: it answers true. Conditions: none. -/
import Derived.Test.YtjbbogcoabgcnaaSRefAll
import Derived.Test.YtjbbogcoabgcnaaSAw
import Derived.Test.YtjbbogcoabgcnaaSMo
import Derived.Test.YtjbbogcoabgcnaaOpn
import Derived.Outline
import Derived.IntWalk
set_option linter.unusedVariables false
set_option linter.unusedSimpArgs false
namespace Go.Proofs.Ytjbbogcoabgcnaa.S
open Go.RowKit Go.Proofs.YtjbbogcoabgcnaaW.PrintWords Go.Proofs.YtjbbogcoabgcnaaW.PrintMore Go.Proofs.Ytjbbogcoabgcnaa.L Go.Proofs.Ytjbbogcoabgcnaa.Src

/-- A text, as a slice of bytes. -/
structure Tt (W : World) (v : Value) (A : Option Addr) (c : Nat) (b : List Int) : Prop where
  e : v = .slice A b.length c
  C : Kd.C (Kd.int .u8) W A b.length b
  c : b.length ≤ c
  m : b.length ≤ 1000
  b : Bys b
def Two (W : World) (B : Nat) (x y : Value) (t : Nat) : Prop := W.heap[B]? = some (.cells #[x, y] t (0, 0))
theorem Tt.below {W W' : World} {v : Value} {A : Option Addr} {c : Nat} {b : List Int} (h : Tt W v A c b) (hb : Below W.heap.size W W') : Tt W' v A c b := ⟨h.e, Kd.C_below h.C hb, h.c, h.m, h.b⟩
theorem two_below {W W' : World} {B t : Nat} {x y : Value} (h : Two W B x y t) (hb : Below W.heap.size W W') : Two W' B x y t := blk_below h hb
theorem two_at {W : World} {B t : Nat} {x y : Value} (h : Two W B x y t) (j : Nat) (hj : j < 2) : W.cell? ⟨B, j, none⟩ = some (if j = 0 then x else y) := by
  rw [blk_cell h]
  match j, hj with
  | 0, _ => rfl
  | 1, _ => rfl
theorem fam_none {f : Int} (hf : famOf f = none) : f < 4 ∨ 8 < f := by
  unfold famOf at hf
  by_cases h1 : f < 4
  · exact .inl h1
  · right
    split at hf
    · simp at hf
    split at hf
    · simp at hf
    split at hf
    · simp at hf
    split at hf
    · simp at hf
    split at hf
    · simp at hf
    · omega

theorem same_Q (Q : List PSameSegs.S50) (A1 A2 : Option Addr) (c1 c2 : Nat) (S : List Sg) (w : World) (hQ : Q = S.map toQ) (hl : S.length ≤ 1000000) (h1 : Kd.C PSameSegs.k50 w A1 Q.length Q) (h2 : Kd.C PSameSegs.k50 w A2 Q.length Q) (hc1 : Q.length ≤ c1) (hc2 : Q.length ≤ c2) :
    Calls Try.prog 14 #[.slice A1 Q.length c1, .slice A2 Q.length c2] w fun e w' => e = .returned (.bool true) ∧ ∃ n, w' = w.drewN n := by
  subst hQ
  exact same_any A1 A2 c1 c2 S w hl h1 h2 hc1 hc2

set_option maxRecDepth 100000 in
set_option maxHeartbeats 4000000 in
theorem srcLex_any (f : Nat) (A : Option Addr) (c : Nat) (l : List Int) (A2 : Option Addr) (c2 : Nat) (l2 : List Int) (w : World) (hf : f < 256) (hA : Kd.C (Kd.int .u8) w A l.length l) (hc : l.length ≤ c) (hb : Bys l) (hm : l.length ≤ 140737488351232) (hA2 : Kd.C (Kd.int .u8) w A2 l2.length l2) (hc2 : l2.length ≤ c2) (hb2 : Bys l2) (hm2 : l2.length ≤ 140737488351232) :
    Calls Try.prog 3 #[.int .u8 f, .slice A l.length c, .slice A2 l2.length c2] w fun e w' => e = .returned (.bool true) ∧ Below w.heap.size w w' := by
  have HA := Lib.hid hA
  have HBy := Lib.hid hb
  have HA2 := Lib.hid hA2
  have HBy2 := Lib.hid hb2
  have HCs := Lib.hid (And.intro hc hc2)
  clear hA hb hA2 hb2 hc hc2
  go_enter Try.func3, Try.ntmps3
  go_wp2_with fail
  refine (awake_any _).mono ?_
  rintro e w1 ⟨rfl, hbw⟩
  have HW := Lib.hid hbw
  clear hbw
  by_cases h1000 : 1000 < l.length
  · have h3 : decide (1000 < (l.length : Int)) = true := by simp; omega
    go_wp2_with fail
    go_ret
    exact ⟨rfl, HW.out⟩
  have h3 : decide (1000 < (l.length : Int)) = false := by simp; omega
  go_wp2_with fail
  refine (pieces_any _).mono ?_
  rintro e w2 ⟨P, Ap, cp, rfl, hP, hPl, hcp, hCp, hbw⟩
  have HP := Lib.hid (And.intro hP (And.intro hPl (And.intro hcp (And.intro hCp (below_step HW.out hbw)))))
  clear hP hPl hcp hCp hbw HW
  go_wp2_with fail
  refine (bits_any Ap cp P A2 c2 l2 A c l _ HP.out.1 HP.out.2.1 HBy2.out HBy.out (by omega) hm2 HP.out.2.2.2.1 HP.out.2.2.1 (Kd.C_below HA2.out HP.out.2.2.2.2) HCs.out.2 (Kd.C_below HA.out HP.out.2.2.2.2) HCs.out.1).mono ?_
  rintro e w3 ⟨r, Ar, cr, rfl, hrl, hrb, hrc, hCr, hbw⟩
  have hW3 := below_step HP.out.2.2.2.2 hbw
  have HT1 := Lib.hid (show Tt w3 (.slice A l.length c) A c l from ⟨rfl, Kd.C_below HA.out hW3, HCs.out.1, by omega, HBy.out⟩)
  have HT2 := Lib.hid (show Tt w3 (.slice Ar r.length cr) Ar cr r from ⟨rfl, hCr, hrc, by omega, hrb⟩)
  have HW3 := Lib.hid hW3
  clear hrl hrb hrc hCr hbw hW3 HP HA HA2 HBy HBy2 HCs h3
  go_upto_block 0 with fail
  have HI := Lib.hid (show Two (w3.alloc (.cells #[.slice A l.length c, .slice Ar r.length cr] 22 (0, 0))) w3.heap.size (.slice A l.length c) (.slice Ar r.length cr) 22 ∧ Tt (w3.alloc (.cells #[.slice A l.length c, .slice Ar r.length cr] 22 (0, 0))) (.slice A l.length c) A c l ∧ Tt (w3.alloc (.cells #[.slice A l.length c, .slice Ar r.length cr] 22 (0, 0))) (.slice Ar r.length cr) Ar cr r ∧ Below w.heap.size w (w3.alloc (.cells #[.slice A l.length c, .slice Ar r.length cr] 22 (0, 0))) from
    ⟨blk_new w3 _, HT1.out.below (below_alloc (Below.refl _ _) _), HT2.out.below (below_alloc (Below.refl _ _) _), below_alloc HW3.out _⟩)
  clear HT1 HT2
  generalize w3.heap.size = B at *
  generalize hx1 : Value.slice A l.length c = x1 at *
  generalize hx2 : Value.slice Ar r.length cr = x2 at *
  go_wp2_with fail
  go_loopg [27] 2 (fun gn iv wr => ∃ j : Nat, iv = .int .i64 j ∧ j ≤ 2 ∧ Hid (Two wr B x1 x2 22 ∧ Tt wr x1 A c l ∧ Tt wr x2 Ar cr r ∧ Below w.heap.size w wr ∧ gn = 2 - j))
  case atStart => exact ⟨0, rfl, Nat.zero_le _, HI.out.1, HI.out.2.1, HI.out.2.2.1, HI.out.2.2.2, rfl⟩
  case round =>
    obtain ⟨j, rfl, hj, HQ⟩ := hrel
    clear HI
    by_cases hlt : j < 2
    · obtain ⟨A', c', b', hT⟩ : ∃ (A' : Option Addr) (c' : Nat) (b' : List Int), Tt wr (if j = 0 then x1 else x2) A' c' b' := by
        by_cases h0 : j = 0
        · rw [if_pos h0]; exact ⟨_, _, _, HQ.out.2.1⟩
        · rw [if_neg h0]; exact ⟨_, _, _, HQ.out.2.2.1⟩
      have hjd : decide ((j : Int) < 2) = true := by simp; omega
      have hcell := two_at HQ.out.1 j hlt
      rw [hT.e] at hcell
      have HT := Lib.hid hT
      clear hT
      go_upto_block 2 with fail
      have HI2 := Lib.hid (show Two (wr.alloc (.cells #[.int .u8 f, .int .u8 (4 + (f : Int) % 5)] 28 (0, 0))) wr.heap.size (.int .u8 f) (.int .u8 (4 + (f : Int) % 5)) 28 ∧ Two (wr.alloc (.cells #[.int .u8 f, .int .u8 (4 + (f : Int) % 5)] 28 (0, 0))) B x1 x2 22 ∧ Tt (wr.alloc (.cells #[.int .u8 f, .int .u8 (4 + (f : Int) % 5)] 28 (0, 0))) x1 A c l ∧ Tt (wr.alloc (.cells #[.int .u8 f, .int .u8 (4 + (f : Int) % 5)] 28 (0, 0))) x2 Ar cr r ∧ Tt (wr.alloc (.cells #[.int .u8 f, .int .u8 (4 + (f : Int) % 5)] 28 (0, 0))) (if j = 0 then x1 else x2) A' c' b' ∧ Below w.heap.size w (wr.alloc (.cells #[.int .u8 f, .int .u8 (4 + (f : Int) % 5)] 28 (0, 0))) from
        ⟨blk_new wr _, blk_alloc HQ.out.1 _, HQ.out.2.1.below (below_alloc (Below.refl _ _) _), HQ.out.2.2.1.below (below_alloc (Below.refl _ _) _), HT.out.below (below_alloc (Below.refl _ _) _), below_alloc HQ.out.2.2.2.1 _⟩)
      have HG := Lib.hid HQ.out.2.2.2.2
      clear HQ hcell HT
      generalize wr.heap.size = B2 at *
      generalize hy : (4 : Int) + (f : Int) % 5 = y at *
      go_wp2_with fail
      go_loopg [37] 2 (fun gn iv wx => ∃ i : Nat, iv = .int .i64 i ∧ i ≤ 2 ∧ Hid (Two wx B2 (.int .u8 f) (.int .u8 y) 28 ∧ Two wx B x1 x2 22 ∧ Tt wx x1 A c l ∧ Tt wx x2 Ar cr r ∧ Tt wx (if j = 0 then x1 else x2) A' c' b' ∧ Below w.heap.size w wx ∧ gn = 2 - i))
      case atStart => exact ⟨0, rfl, Nat.zero_le _, HI2.out.1, HI2.out.2.1, HI2.out.2.2.1, HI2.out.2.2.2.1, HI2.out.2.2.2.2.1, HI2.out.2.2.2.2.2, rfl⟩
      case round =>
        obtain ⟨i, rfl, hi, HR⟩ := hrel
        clear HI2
        by_cases hil : i < 2
        · obtain ⟨fm, hfm⟩ : ∃ fm : Int, (if i = 0 then Value.int .u8 f else Value.int .u8 y) = Value.int .u8 fm := by
            by_cases h0 : i = 0
            · rw [if_pos h0]; exact ⟨_, rfl⟩
            · rw [if_neg h0]; exact ⟨_, rfl⟩
          have hid_ : decide ((i : Int) < 2) = true := by simp; omega
          have hcell2 := two_at HR.out.1 i hil
          rw [hfm] at hcell2
          clear hfm
          obtain ⟨hl1, hC1, hc1, hm1, hB1⟩ := HR.out.2.2.2.2.1
          have HT := Lib.hid (And.intro hC1 (And.intro hc1 (And.intro hm1 hB1)))
          clear hl1 hC1 hc1 hm1 hB1
          go_wp2_with fail
          cases hfa : famOf fm with
          | none =>
            refine (lex_no fm A' b'.length c' _ (fam_none hfa)).mono ?_
            rintro e wa ⟨rfl, hb1⟩
            have hcv : (convert 22 9 (.slice A' b'.length c')).run Try.prog wa = .ok (.string (strOfNums b')) wa := Kd.C_string (P := Try.prog) (c := c') Try.underlying22 Try.underlying5 Try.underlying9 (Kd.C_below HT.out.1 hb1)
            have HB1 := Lib.hid hb1
            clear hb1
            go_wp2_with fail
            refine (refSrc_no fm b' _ hfa).mono ?_
            rintro e wb ⟨v, rfl, hb2⟩
            have HB2 := Lib.hid (below_step HB1.out hb2)
            clear hb2 HB1 hcv
            go_wp2_with fail
            go_roundg (2 - (i + 1))
            case measure => have := HR.out.2.2.2.2.2.2; omega
            case rel =>
              have hbl := below_step (Below.refl wr.heap.size wr) HB2.out
              exact ⟨i + 1, by go_num, by omega, two_below HR.out.1 hbl, two_below HR.out.2.1 hbl, HR.out.2.2.1.below hbl, HR.out.2.2.2.1.below hbl, HR.out.2.2.2.2.1.below hbl, below_step HR.out.2.2.2.2.2.1 hbl, rfl⟩
          | some F =>
            refine (lex_any fm F A' c' _ b' _ hfa HT.out.1 HT.out.2.1 HT.out.2.2.2 (by have := HT.out.2.2.1; omega)).mono ?_
            rintro e wa ⟨g, k, rfl, hs, hb1, _, _⟩
            have hcv : (convert 22 9 (.slice A' b'.length c')).run Try.prog wa = .ok (.string (strOfNums b')) wa := Kd.C_string (P := Try.prog) (c := c') Try.underlying22 Try.underlying5 Try.underlying9 (Kd.C_below HT.out.1 hb1)
            have HB1 := Lib.hid hb1
            have HS := Lib.hid hs
            clear hb1 hs
            go_wp2_with fail
            refine (refSrc_any fm F b' _ hfa HT.out.2.2.2 (by have := HT.out.2.2.1; omega)).mono ?_
            rintro e wb ⟨Al, cl, rfl, hcl, hCl, hb2⟩
            have HB2 := Lib.hid (below_step HB1.out hb2)
            have HS2 := Lib.hid (HS.out.below hb2)
            have HL := Lib.hid (And.intro hcl (And.intro hCl (show (lexF F (-1) b').length ≤ 1000000 from by rw [lexF_len]; have := HT.out.2.2.1; omega)))
            clear hb2 HB1 hcv HS hcl hCl
            generalize lexF F (-1) b' = LL at *
            go_wp2_with fail
            refine (segs_any g k LL _ HS2.out).mono ?_
            rintro e wc ⟨v1, rfl, ho, hb3⟩
            obtain ⟨A5, c5, rfl, hc5, hC5⟩ := own_Q ho
            have hR9 := fun w9 => refSegs_C Al cl LL w9
            obtain ⟨QQ, hQQ⟩ : ∃ QQ, QQ = (segsOf LL).map toQ := ⟨_, rfl⟩
            rw [← hQQ] at hc5 hC5 hR9 ⊢
            have HR9 := Lib.hid hR9
            have HQQ := Lib.hid hQQ
            clear hR9 hQQ
            have HB3 := Lib.hid (below_step HB2.out hb3)
            have HL3 := Lib.hid (And.intro HL.out.1 (And.intro (Kd.C_below HL.out.2.1 hb3) HL.out.2.2))
            have HC5 := Lib.hid (And.intro hc5 hC5)
            clear hb3 HB2 HS2 HL ho hc5 hC5
            go_wp2_with fail
            refine (HR9.out _ HL3.out.2.1 HL3.out.1 HL3.out.2.2).mono ?_
            rintro e wd ⟨A6, c6, rfl, hc6, hC6, hb4⟩
            have HB4 := Lib.hid (below_step HB3.out hb4)
            have HC6 := Lib.hid (And.intro hc6 hC6)
            have HC7 := Lib.hid (And.intro HC5.out.1 (Kd.C_below HC5.out.2 hb4))
            have hsl : (segsOf LL).length ≤ 1000000 := by
              have := (segsTo_ok LL LL.length).1
              have h2 := HL3.out.2.2
              unfold segsOf
              omega
            clear hb4 HB3 HL3 HC5 hc6 hC6
            go_wp2_with fail
            refine (same_Q QQ A5 A6 c5 c6 (segsOf LL) _ HQQ.out hsl HC7.out.2 HC6.out.2 HC7.out.1 HC6.out.1).mono ?_
            rintro e we ⟨rfl, n, rfl⟩
            go_wp2_with fail
            go_roundg (2 - (i + 1))
            case measure => have := HR.out.2.2.2.2.2.2; omega
            case rel =>
              have hbl := pw_below_drewN (below_step (Below.refl wr.heap.size wr) HB4.out) n
              exact ⟨i + 1, by go_num, by omega, two_below HR.out.1 hbl, two_below HR.out.2.1 hbl, HR.out.2.2.1.below hbl, HR.out.2.2.2.1.below hbl, HR.out.2.2.2.2.1.below hbl, below_step HR.out.2.2.2.2.2.1 hbl, rfl⟩
        · obtain rfl : i = 2 := by omega
          go_wp2_with fail
          go_roundg (2 - (j + 1))
          case measure => have := HG.out; omega
          case rel => exact ⟨j + 1, by go_num, by omega, HR.out.2.1, HR.out.2.2.1, HR.out.2.2.2.1, HR.out.2.2.2.2.2.1, rfl⟩
    · obtain rfl : j = 2 := by omega
      go_wp2_with fail
      go_ret
      exact ⟨rfl, HQ.out.2.2.2.1⟩
end Go.Proofs.Ytjbbogcoabgcnaa.S
namespace Go.Proofs.Ytjbbogcoabgcnaa.Wk.SrcLex
open Go.RowKit Go.Proofs.YtjbbogcoabgcnaaW.PrintWords Go.Proofs.Ytjbbogcoabgcnaa.S
theorem walk (a0 : Int) (A1 : Option Addr) (c1 : Nat) (l1 : List Int) (A2 : Option Addr) (c2 : Nat) (l2 : List Int) (w : World) (h0 : (Lit.int .u8 a0).wf = true) (hr : Kd.C (Kd.int .u8) w A1 l1.length l1) (hc : l1.length ≤ c1) (hg : Bys l1 ∧ l1.length ≤ 140737488351232) (hr2 : Kd.C (Kd.int .u8) w A2 l2.length l2) (hc2 : l2.length ≤ c2) (hg2 : Bys l2 ∧ l2.length ≤ 140737488351232) :
    Calls Try.prog 3 #[.int .u8 a0, .slice A1 l1.length c1, .slice A2 l2.length c2] w fun e w' => e = .returned (.bool true) ∧ Below w.heap.size w w' := by
  obtain ⟨n, rfl, hn⟩ := u8_of h0
  exact srcLex_any n A1 c1 l1 A2 c2 l2 w hn hr hc hg.1 hg.2 hr2 hc2 hg2.1 hg2.2
end Go.Proofs.Ytjbbogcoabgcnaa.Wk.SrcLex
