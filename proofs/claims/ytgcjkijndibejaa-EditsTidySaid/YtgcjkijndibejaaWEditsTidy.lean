/- The law EditsTidy, walked: it answers true. Conditions: none. -/
import Derived.Test.YtgcjkijndibejaaESome
import Derived.Test.YtgcjkijndibejaaERt
import Derived.Test.YtgcjkijndibejaaESame
set_option linter.unusedVariables false
set_option linter.unusedSimpArgs false
namespace Go.Proofs.Ytgcjkijndibejaa.Srt
open Go.Lib hiding bytesOf bytesOf_length
open Go.Shelf Go.RowKit Go.Proofs.YtgcjkijndibejaaW.PrintWords Go.Proofs.YtgcjkijndibejaaW.PrintLast

set_option maxRecDepth 100000 in
set_option maxHeartbeats 8000000 in
theorem editsTidy_any (A : Option Addr) (c : Nat) (b : List Int) (A1 : Option Addr) (c1 : Nat) (es : List Ed) (r0 : Nat) (w : World) (hC : Kd.C (Kd.int .u8) w A b.length b) (hc : b.length ≤ c) (hm : b.length ≤ 140737488351232) (hE : Kd.C kE w A1 es.length es) (hc1 : es.length ≤ c1) (hl : es.length ≤ 140737488351232) (hr : r0 < 256) :
    Calls Try.prog 3 #[.slice A b.length c, .slice A1 es.length c1, .int .u8 r0] w fun e w' => e = .returned (.bool true) ∧ Below w.heap.size w w' := by
  have HC := Lib.hid (And.intro hC hc)
  have HE := Lib.hid (And.intro hE hc1)
  clear hC hc hE hc1
  go_enter Try.func3, Try.ntmps3
  go_wp2_with fail
  refine (awake_any _).mono ?_
  rintro e w1 ⟨rfl, hb1⟩
  have HW := Lib.hid hb1
  clear hb1
  by_cases g1 : 500 < b.length
  · have h3 : decide ((500 : Int) < (b.length : Int)) = true := by simp; omega
    go_wp2_with fail
    go_ret
    exact ⟨rfl, HW.out⟩
  have h3 : decide ((500 : Int) < (b.length : Int)) = false := by simp; omega
  go_wp2_with fail
  refine (some_any A c b A1 c1 es r0 _ (Kd.C_below HC.out.1 HW.out) HC.out.2 (Kd.C_below HE.out.1 HW.out) HE.out.2 (by omega) hl hr).mono ?_
  rintro e w2 ⟨v2, S, rfl, hO, hS, hsz⟩
  have HW2 := Lib.hid (below_step HW.out hO.bel)
  have HES := Lib.hid (EdR.own hO.own)
  clear hO HW HE hsz
  go_wp2_with fail
  refine (tidy_any A c b _ S _ (Kd.C_below HC.out.1 HW2.out) HC.out.2 HES.out (by omega)).mono ?_
  rintro e w3 ⟨v3, rfl, ho3, hb3⟩
  have HE3 := Lib.hid (And.intro (EdR.own ho3) hb3)
  clear ho3 hb3
  go_wp2_with fail
  refine (refTidy_any A c b _ S _ (Kd.C_below HC.out.1 (below_step HW2.out HE3.out.2)) HC.out.2 (EdR.below HES.out HE3.out.2) (by omega) (by omega)).mono ?_
  rintro e w4 ⟨v4, rfl, ho4⟩
  have HE4 := Lib.hid (And.intro (EdR.below HE3.out.1 ho4.bel) (And.intro (EdR.own ho4.own) (below_step HW2.out (below_step HE3.out.2 ho4.bel))))
  have hkl := kept_len b S
  have HL := Lib.hid (show (tidy b S).2.length ≤ 1000000 from by
    unfold tidy
    have := srtE_length (kept b S)
    split
    · simp
    · split
      · split
        · show (srtE (kept b S)).length ≤ _
          omega
        · simp
      · simp)
  clear ho4 hkl
  generalize (tidy b S).1 = k at *
  generalize (tidy b S).2 = T at *
  go_wp2_with fail
  refine (same_any _ _ T _ HE4.out.1 HE4.out.2.1 HL.out).mono ?_
  rintro e w5 ⟨rfl, hb5⟩
  have HF := Lib.hid (below_step HE4.out.2.2 hb5)
  clear hb5
  go_wp2_with fail
  go_ret
  exact ⟨rfl, HF.out⟩
end Go.Proofs.Ytgcjkijndibejaa.Srt
namespace Go.Proofs.Ytgcjkijndibejaa.Wk.EditsTidy
open Go.RowKit Go.Proofs.YtgcjkijndibejaaW.PrintWords Go.Proofs.Ytgcjkijndibejaa.Srt
theorem walk (A : Option Addr) (c : Nat) (b : List Int) (A1 : Option Addr) (c1 : Nat) (es : List Ed) (r : Int) (w : World) (hC : Kd.C (Kd.int .u8) w A b.length b) (hc : b.length ≤ c) (hg : Bys b ∧ b.length ≤ 140737488351232) (hE : Kd.C kE w A1 es.length es) (hc1 : es.length ≤ c1) (hl : es.length ≤ 140737488351232) (hr : (Lit.int .u8 r).wf = true) :
    Calls Try.prog 3 #[.slice A b.length c, .slice A1 es.length c1, .int .u8 r] w fun e w' => e = .returned (.bool true) ∧ Below w.heap.size w w' := by
  obtain ⟨r, rfl, hr2⟩ := u8_of hr
  exact editsTidy_any A c b A1 c1 es r w hC hc hg.2 hE hc1 hl hr2
end Go.Proofs.Ytgcjkijndibejaa.Wk.EditsTidy
