/- group, walked. Conditions: as each lemma says. -/
import Derived.Test.YtkicpaodcmepmaaDoorTDoc
set_option linter.unusedVariables false
set_option linter.unusedSimpArgs false
namespace Go.Proofs.YtkicpaodcmepmaaDoor.T
open Go.RowKit Go.Proofs.YtkicpaodcmepmaaDoorW.PrintWords Go.Proofs.YtkicpaodcmepmaaDoor.L Go.Proofs.YtkicpaodcmepmaaDoor.S Go.Proofs.YtkicpaodcmepmaaDoor.Tex

def grpV : Option Nat → Value
  | none => .tuple #[.int .i64 0, .bool false]
  | some g => .tuple #[.int .i64 g, .bool true]
theorem grpN_step (b : List Int) (o s : Int) (n : Nat) (d : Int) (i : Nat) (hi : i < b.length) : grpN b o s (n + 1) d i =
    if b.getD i 0 = 92 then grpN b o s n d (i + 2)
      else if b.getD i 0 = o then (if 32 < d + 1 then none else grpN b o s n (d + 1) (i + 1))
      else if b.getD i 0 = s then (if d - 1 = 0 then some (i + 1) else grpN b o s n (d - 1) (i + 1))
      else grpN b o s n d (i + 1) := by
  conv => lhs; unfold grpN
  rw [if_pos hi]
theorem grpN_out (b : List Int) (o s : Int) (n : Nat) (d : Int) (i : Nat) (hi : b.length ≤ i) : grpN b o s n d i = none := by
  cases n with
  | zero => rfl
  | succ n => unfold grpN; rw [if_neg (by omega)]
theorem grp_not (b : List Int) (p : Nat) (h1 : b[p]? ≠ some 91) (h2 : b[p]? ≠ some 123) : grp b p = none := by
  unfold grp; rw [if_neg h1, if_neg h2]
theorem grp_sq (b : List Int) (p : Nat) (h : b[p]? = some 91) : grp b p = grpN b 91 93 b.length 0 p := by
  unfold grp; rw [if_pos h]
theorem grp_cu (b : List Int) (p : Nat) (h : b[p]? = some 123) : grp b p = grpN b 123 125 b.length 0 p := by
  unfold grp; rw [if_neg (by rw [h]; simp), if_pos h]
set_option maxHeartbeats 2000000 in
theorem group_any (E : Env) (W : World) (L : List Int) (p : Nat) (h : E.In W L) (hp : p ≤ E.b.length) :
    Calls Tryd.prog 42 #[.pointer (some ⟨E.d, 0, none⟩), .int .i64 p] W fun e w' => e = .returned (grpV (grp E.b p)) ∧ w' = W := by
  have hmax := h.ok.max
  have c1 := h.c1
  have HH := Lib.hid h
  clear h
  go_enter Tryd.func42, Tryd.ntmps42
  by_cases hlt0 : p < E.b.length
  · have hd0 : decide ((E.b.length : Int) ≤ (p : Int)) = false := by simp; omega
    have hd1 : decide (E.b.length ≤ p) = false := by simp; omega
    have k0 := HH.out.at_ p hlt0
    have hx : E.b[p]? = some (E.b.getD p 0) := by rw [List.getD_eq_getElem?_getD, List.getElem?_eq_getElem hlt0]; rfl
    have HX := Lib.hid hx
    clear hx
    generalize E.b.getD p 0 = x at *
    by_cases h91 : x = 91
    · subst h91
      have HG := Lib.hid (grp_sq E.b p HX.out)
      go_upto_block 4 with fail
      go_wp2_with fail
      go_loopg [8, 9] E.b.length (fun gn dv iv wr => ∃ (d : Int) (i : Nat), dv = .int .i64 d ∧ iv = .int .i64 i ∧ i ≤ E.b.length + 1 ∧ -(i : Int) ≤ d ∧ d ≤ 32 ∧ Hid (wr = W ∧ grpN E.b 91 93 gn d i = grp E.b p ∧ E.b.length ≤ i + gn))
      case atStart => exact ⟨0, p, rfl, by go_num, by omega, by omega, by omega, rfl, HG.out.symm, by omega⟩
      case round =>
        obtain ⟨d, i, rfl, rfl, hi, hd1, hd2, HQ⟩ := hrel
        obtain ⟨rfl, hq1, hq2⟩ := HQ.out
        have HF := Lib.hid hq1
        have HB := Lib.hid hq2
        clear HQ HG hq1 hq2 k0
        by_cases hlt : i < E.b.length
        · have hdl : decide ((i : Int) < (E.b.length : Int)) = true := by simp; omega
          obtain ⟨n, rfl⟩ : ∃ n, gk = n + 1 := ⟨gk - 1, by have := HB.out; omega⟩
          have k0 := HH.out.at_ i hlt
          have HT := Lib.hid ((grpN_step E.b 91 93 n d i hlt).symm.trans HF.out)
          clear HF
          generalize E.b.getD i 0 = y at *
          by_cases y1 : y = 92
          · subst y1
            have HT2 := Lib.hid (show grpN E.b 91 93 n d (i + 2) = grp E.b p from by have := HT.out; rwa [if_pos rfl] at this)
            go_wp2_with fail
            go_roundg n
            case measure => omega
            case rel => exact ⟨d, i + 2, rfl, by go_num, by omega, by omega, by omega, rfl, HT2.out, by have := HB.out; omega⟩
          · have yb1 : (y == 92) = false := by simp [y1]
            by_cases y2 : y = 91
            · subst y2
              by_cases h32 : 32 < d + 1
              · have hdc : decide (32 < d + 1) = true := by simp; omega
                have HT2 := Lib.hid (show none = grp E.b p from by have := HT.out; rwa [if_neg (by omega), if_pos rfl, if_pos h32] at this)
                go_wp2_with fail
                (try simp only [Exit.inBlock, Exit.then])
                refine bodyPost_ret (v := grpV none) ?_ rfl ⟨by rw [HT2.out], rfl⟩
                simp [results, Tryd.results42, go_sem, grpV]
              · have hdc : decide (32 < d + 1) = false := by simp; omega
                have HT2 := Lib.hid (show grpN E.b 91 93 n (d + 1) (i + 1) = grp E.b p from by have := HT.out; rwa [if_neg (by omega), if_pos rfl, if_neg h32] at this)
                go_wp2_with fail
                go_roundg n
                case measure => omega
                case rel => exact ⟨d + 1, i + 1, by go_num, by go_num, by omega, by omega, by omega, rfl, HT2.out, by have := HB.out; omega⟩
            · have yb2 : (y == 91) = false := by simp [y2]
              by_cases y3 : y = 93
              · subst y3
                by_cases h0 : d - 1 = 0
                · have HT2 := Lib.hid (show some (i + 1) = grp E.b p from by have := HT.out; rwa [if_neg (by omega), if_neg (by omega), if_pos rfl, if_pos h0] at this)
                  obtain rfl : d = 1 := by omega
                  go_wp2_with fail
                  (try simp only [Exit.inBlock, Exit.then])
                  refine bodyPost_ret (v := grpV (some (i + 1))) ?_ rfl ⟨by rw [HT2.out], rfl⟩
                  simp [results, Tryd.results42, go_sem, grpV]
                · have hdc : (d - 1 == 0) = false := by simp; omega
                  have HT2 := Lib.hid (show grpN E.b 91 93 n (d - 1) (i + 1) = grp E.b p from by have := HT.out; rwa [if_neg (by omega), if_neg (by omega), if_pos rfl, if_neg h0] at this)
                  clear h0
                  go_wp2_with fail
                  go_roundg n
                  case measure => omega
                  case rel => exact ⟨d - 1, i + 1, by go_num, by go_num, by omega, by omega, by omega, rfl, HT2.out, by have := HB.out; omega⟩
              · have yb3 : (y == 93) = false := by simp [y3]
                have HT2 := Lib.hid (show grpN E.b 91 93 n d (i + 1) = grp E.b p from by have := HT.out; rwa [if_neg y1, if_neg y2, if_neg y3] at this)
                clear y1 y2 y3
                go_wp2_with fail
                go_roundg n
                case measure => omega
                case rel => exact ⟨d, i + 1, rfl, by go_num, by omega, by omega, by omega, rfl, HT2.out, by have := HB.out; omega⟩
        · have hdl : decide ((i : Int) < (E.b.length : Int)) = false := by simp; omega
          have HT := Lib.hid ((grpN_out E.b 91 93 gk d i (by omega)).symm.trans HF.out)
          go_wp2_with fail
          (try simp only [Exit.inBlock, Exit.then])
          refine bodyPost_ret (v := grpV none) ?_ rfl ⟨by rw [HT.out], rfl⟩
          simp [results, Tryd.results42, go_sem, grpV]
    · have hb1 : (x == 91) = false := by simp [h91]
      by_cases h123 : x = 123
      · subst h123
        have HG := Lib.hid (grp_cu E.b p HX.out)
        go_upto_block 4 with fail
        go_wp2_with fail
        go_loopg [8, 9] E.b.length (fun gn dv iv wr => ∃ (d : Int) (i : Nat), dv = .int .i64 d ∧ iv = .int .i64 i ∧ i ≤ E.b.length + 1 ∧ -(i : Int) ≤ d ∧ d ≤ 32 ∧ Hid (wr = W ∧ grpN E.b 123 125 gn d i = grp E.b p ∧ E.b.length ≤ i + gn))
        case atStart => exact ⟨0, p, rfl, by go_num, by omega, by omega, by omega, rfl, HG.out.symm, by omega⟩
        case round =>
          obtain ⟨d, i, rfl, rfl, hi, hd1, hd2, HQ⟩ := hrel
          obtain ⟨rfl, hq1, hq2⟩ := HQ.out
          have HF := Lib.hid hq1
          have HB := Lib.hid hq2
          clear HQ HG hq1 hq2 k0
          by_cases hlt : i < E.b.length
          · have hdl : decide ((i : Int) < (E.b.length : Int)) = true := by simp; omega
            obtain ⟨n, rfl⟩ : ∃ n, gk = n + 1 := ⟨gk - 1, by have := HB.out; omega⟩
            have k0 := HH.out.at_ i hlt
            have HT := Lib.hid ((grpN_step E.b 123 125 n d i hlt).symm.trans HF.out)
            clear HF
            generalize E.b.getD i 0 = y at *
            by_cases y1 : y = 92
            · subst y1
              have HT2 := Lib.hid (show grpN E.b 123 125 n d (i + 2) = grp E.b p from by have := HT.out; rwa [if_pos rfl] at this)
              go_wp2_with fail
              go_roundg n
              case measure => omega
              case rel => exact ⟨d, i + 2, rfl, by go_num, by omega, by omega, by omega, rfl, HT2.out, by have := HB.out; omega⟩
            · have yb1 : (y == 92) = false := by simp [y1]
              by_cases y2 : y = 123
              · subst y2
                by_cases h32 : 32 < d + 1
                · have hdc : decide (32 < d + 1) = true := by simp; omega
                  have HT2 := Lib.hid (show none = grp E.b p from by have := HT.out; rwa [if_neg (by omega), if_pos rfl, if_pos h32] at this)
                  go_wp2_with fail
                  (try simp only [Exit.inBlock, Exit.then])
                  refine bodyPost_ret (v := grpV none) ?_ rfl ⟨by rw [HT2.out], rfl⟩
                  simp [results, Tryd.results42, go_sem, grpV]
                · have hdc : decide (32 < d + 1) = false := by simp; omega
                  have HT2 := Lib.hid (show grpN E.b 123 125 n (d + 1) (i + 1) = grp E.b p from by have := HT.out; rwa [if_neg (by omega), if_pos rfl, if_neg h32] at this)
                  go_wp2_with fail
                  go_roundg n
                  case measure => omega
                  case rel => exact ⟨d + 1, i + 1, by go_num, by go_num, by omega, by omega, by omega, rfl, HT2.out, by have := HB.out; omega⟩
              · have yb2 : (y == 123) = false := by simp [y2]
                by_cases y3 : y = 125
                · subst y3
                  by_cases h0 : d - 1 = 0
                  · have HT2 := Lib.hid (show some (i + 1) = grp E.b p from by have := HT.out; rwa [if_neg (by omega), if_neg (by omega), if_pos rfl, if_pos h0] at this)
                    obtain rfl : d = 1 := by omega
                    go_wp2_with fail
                    (try simp only [Exit.inBlock, Exit.then])
                    refine bodyPost_ret (v := grpV (some (i + 1))) ?_ rfl ⟨by rw [HT2.out], rfl⟩
                    simp [results, Tryd.results42, go_sem, grpV]
                  · have hdc : (d - 1 == 0) = false := by simp; omega
                    have HT2 := Lib.hid (show grpN E.b 123 125 n (d - 1) (i + 1) = grp E.b p from by have := HT.out; rwa [if_neg (by omega), if_neg (by omega), if_pos rfl, if_neg h0] at this)
                    clear h0
                    go_wp2_with fail
                    go_roundg n
                    case measure => omega
                    case rel => exact ⟨d - 1, i + 1, by go_num, by go_num, by omega, by omega, by omega, rfl, HT2.out, by have := HB.out; omega⟩
                · have yb3 : (y == 125) = false := by simp [y3]
                  have HT2 := Lib.hid (show grpN E.b 123 125 n d (i + 1) = grp E.b p from by have := HT.out; rwa [if_neg y1, if_neg y2, if_neg y3] at this)
                  clear y1 y2 y3
                  go_wp2_with fail
                  go_roundg n
                  case measure => omega
                  case rel => exact ⟨d, i + 1, rfl, by go_num, by omega, by omega, by omega, rfl, HT2.out, by have := HB.out; omega⟩
          · have hdl : decide ((i : Int) < (E.b.length : Int)) = false := by simp; omega
            have HT := Lib.hid ((grpN_out E.b 123 125 gk d i (by omega)).symm.trans HF.out)
            go_wp2_with fail
            (try simp only [Exit.inBlock, Exit.then])
            refine bodyPost_ret (v := grpV none) ?_ rfl ⟨by rw [HT.out], rfl⟩
            simp [results, Tryd.results42, go_sem, grpV]
      · have hb2 : (x == 123) = false := by simp [h123]
        have HG := Lib.hid (grp_not E.b p (by rw [HX.out]; simpa using h91) (by rw [HX.out]; simpa using h123))
        clear h91 h123
        go_wp2_with fail
        (try simp only [Exit.inBlock, Exit.then])
        refine bodyPost_ret (v := grpV none) ?_ rfl ⟨by rw [HG.out], rfl⟩
        simp [results, Tryd.results42, go_sem, grpV]
  · have hd0 : decide ((E.b.length : Int) ≤ (p : Int)) = true := by simp; omega
    have hd1 : decide (E.b.length ≤ p) = true := by simp; omega
    have HG := Lib.hid (grp_not E.b p (by rw [List.getElem?_eq_none (by omega)]; simp) (by rw [List.getElem?_eq_none (by omega)]; simp))
    go_wp2_with fail
    (try simp only [Exit.inBlock, Exit.then])
    refine bodyPost_ret (v := grpV none) ?_ rfl ⟨by rw [HG.out], rfl⟩
    simp [results, Tryd.results42, go_sem, grpV]
end Go.Proofs.YtkicpaodcmepmaaDoor.T
