/- Several texts in one: PBitsx0 PBitsx1 Ppiecesx0 Ppiecesx1 PSegsx0 PSegsx1 PSameSegsx0 PSameSegsx1 PSameSegsx2. Conditions: as each lemma says. -/
import Derived.Test.YtkicpaodcmepmaaDoorProg
import Derived.Below
import Derived.Deep.Draws
import Derived.Deep.AppendLies
import Derived.Maps.AppendAt
import Derived.OwnWalk
import Derived.Laws.BytesArg
import Derived.Laws.MakeOwn
import Derived.Laws.OwnMore
import Derived.Deep.OwnRows
import Derived.Tactics
import Derived.Lib.ConvBytes
import Derived.Laws.Slices
import Derived.WalkKit
import Derived.KernelRfl
import Derived.RowKit3
import Derived.Deep.LoopGhost
import Derived.Deep.QuietTactic
import Derived.BigQuiet
import Derived.WideLaws
import Derived.Deep.DeepCutAuto
import Derived.Deep.CutBlock
import Derived.Deep.RegionHeld3
import Derived.Laws.Rows
import Derived.Lib.AppendStr
import Derived.ArgAppend
import Derived.Laws.IdiomCopy
import Derived.OrdersHeld
import Derived.Laws.BitsLemmas
import Derived.RowKit
import Derived.Test.YtkicpaodcmepmaaDoorWWords
import Derived.Test.YtkicpaodcmepmaaDoorWLast
import Derived.Test.YtkicpaodcmepmaaDoorWTab
import Derived.Test.YtkicpaodcmepmaaDoorWFour
import Derived.Test.YtkicpaodcmepmaaDoorWQPut
import Derived.Test.YtkicpaodcmepmaaDoorWApart
import Derived.Test.YtkicpaodcmepmaaDoorWArr
import Derived.Test.YtkicpaodcmepmaaDoorWZeros
import Derived.Test.YtkicpaodcmepmaaDoorWFoot
import Derived.Test.YtkicpaodcmepmaaDoorWKept
import Derived.Test.YtkicpaodcmepmaaDoorWShare
import Derived.Test.YtkicpaodcmepmaaDoorWN
import Derived.Test.YtkicpaodcmepmaaDoorWFootNe
import Derived.Test.YtkicpaodcmepmaaDoorWAt
import Derived.Test.YtkicpaodcmepmaaDoorWEqStruct
import Derived.Test.YtkicpaodcmepmaaDoorWRepsOne
import Derived.Test.YtkicpaodcmepmaaDoorWInv
import Derived.Test.YtkicpaodcmepmaaDoorWInvWords
import Derived.Test.YtkicpaodcmepmaaDoorWGuard
import Derived.Test.YtkicpaodcmepmaaDoorWNEv
import Derived.Test.YtkicpaodcmepmaaDoorWMore
namespace Go.Proofs.YtkicpaodcmepmaaDoor.PBits
open Go.RowKit Go.Proofs.YtkicpaodcmepmaaDoorW.PrintWords Go.Proofs.YtkicpaodcmepmaaDoorW.PrintLast Go.Proofs.YtkicpaodcmepmaaDoorW.PrintMore
attribute [local go_sem] max2_int min2_int max_two min_two max_three min_three max_four min_four   -- for this text's walks alone
set_option linter.unusedVariables false
set_option linter.unusedSimpArgs false



def errW : Option Int → Value
  | none => .nilIface
  | some c => .iface 0 (.int .i64 c)
theorem errW_none : errW none = .nilIface := rfl
theorem errW_some (c : Int) : errW (some c) = .iface 0 (.int .i64 c) := rfl

theorem info5 : (Tryd.prog.info? 5).map (fun i => (i.zero, i.size, i.bytes)) = some (some (.int .u8 0), 1, 1) := by kernel_rfl
-- the values' own types

end Go.Proofs.YtkicpaodcmepmaaDoor.PBits

namespace Go.Proofs.YtkicpaodcmepmaaDoor.PBits
open Go.RowKit Go.Proofs.YtkicpaodcmepmaaDoorW.PrintWords Go.Proofs.YtkicpaodcmepmaaDoorW.PrintLast Go.Proofs.YtkicpaodcmepmaaDoorW.PrintMore
attribute [local go_sem] max2_int min2_int max_two min_two max_three min_three max_four min_four   -- for this text's walks alone
set_option linter.unusedVariables false
set_option linter.unusedSimpArgs false

/-! ### redpenlaw11_Bits: function 12 -/
def redpenlaw11_Bits.l0 : Nat → List ByteArray → List Int → List Int → List Int → Int → Int → Option (List Int)
  | 0, _, _, _, _, _, _ => none
  | k + 1, x0, x2, x7, x11, x12, x13 => if x13 < x12 then (if 0 ≤ x13 then (if x13 < (x11.length : Int) then (if x13 ≥ 60 then (some x7) else (if (wrap64 (rd x11 x13)) < (x0.length : Int) then (if 0 ≤ (wrap64 (rd x11 x13)) then (if x7.length + (rdOf ByteArray.empty x0 (wrap64 (rd x11 x13))).size < 140737488355328 then (redpenlaw11_Bits.l0 k x0 x2 (x7 ++ bytesOf (rdOf ByteArray.empty x0 (wrap64 (rd x11 x13)))) x11 x12 (wrap64 (x13 + 1))) else (none)) else (none)) else (if (x2.length : Int) > 0 then (if (x2.length : Int) = 0 then (none) else (if 0 ≤ (Int.tmod (wrap64 (rd x11 x13)) (x2.length : Int)) then (if (Int.tmod (wrap64 (rd x11 x13)) (x2.length : Int)) < (x2.length : Int) then (if x7.length < 140737488355328 then (redpenlaw11_Bits.l0 k x0 x2 (x7 ++ [rd x2 (Int.tmod (wrap64 (rd x11 x13)) (x2.length : Int))]) x11 x12 (wrap64 (x13 + 1))) else (none)) else (none)) else (none))) else (redpenlaw11_Bits.l0 k x0 x2 x7 x11 x12 (wrap64 (x13 + 1)))))) else (none)) else (none)) else (some x7)
def redpenlaw11_Bits.f (k : Nat) (l0 : List ByteArray) (l1 : List Int) (l2 : List Int) : Option (List Int) := redpenlaw11_Bits.l0 k l0 l2 ([] : List Int) l1 (l1.length : Int) 0
theorem redpenlaw11_Bits.mono_l : ∀ k, (∀ y0 y1 y2 y3 y4 y5, LeO (redpenlaw11_Bits.l0 k y0 y1 y2 y3 y4 y5) (redpenlaw11_Bits.l0 (k + 1) y0 y1 y2 y3 y4 y5))
  | 0 => fun _ _ _ _ _ _ r h => by simp [redpenlaw11_Bits.l0] at h
  | k + 1 => by
    have ih0 := redpenlaw11_Bits.mono_l k
    · intro y0 y1 y2 y3 y4 y5
      unfold redpenlaw11_Bits.l0
      repeat' first
      | (with_reducible exact ih0 _ _ _ _ _ _)
      | (with_reducible exact LeO.refl _)
      | (with_reducible exact LeO.none _)
      | (with_reducible refine LeO.ite ?_ ?_)
      | (with_reducible refine LeO.bind ?_ (fun _ => ?_))
      | exact ih0 _ _ _ _ _ _
      | exact LeO.none _
      | refine LeO.ite ?_ ?_
      | refine LeO.bind ?_ (fun _ => ?_)
theorem redpenlaw11_Bits.mono : ∀ a0 a1 a2 k, LeO (redpenlaw11_Bits.f k a0 a1 a2) (redpenlaw11_Bits.f (k + 1) a0 a1 a2) := by
  intro a0 a1 a2 k
  have ih0 := redpenlaw11_Bits.mono_l k
  unfold redpenlaw11_Bits.f
  repeat' first
      | (with_reducible exact ih0 _ _ _ _ _ _)
      | (with_reducible exact LeO.refl _)
      | (with_reducible exact LeO.none _)
      | (with_reducible refine LeO.ite ?_ ?_)
      | (with_reducible refine LeO.bind ?_ (fun _ => ?_))
      | exact ih0 _ _ _ _ _ _
      | exact LeO.none _
      | refine LeO.ite ?_ ?_
      | refine LeO.bind ?_ (fun _ => ?_)
set_option maxHeartbeats 8000000 in
set_option maxRecDepth 100000 in
theorem redpenlaw11_Bits.calls (k : Nat) (A0 : Option Addr) (c0 : Nat) (l0 : List ByteArray) (A1 : Option Addr) (c1 : Nat) (l1 : List Int) (A2 : Option Addr) (c2 : Nat) (l2 : List Int) (r : List Int) (w : World) (hr0 : Kd.C Kd.string w A0 l0.length l0) (hc0 : l0.length ≤ c0) (hr1 : Kd.C (Kd.int .u8) w A1 l1.length l1) (hc1 : l1.length ≤ c1) (hr2 : Kd.C (Kd.int .u8) w A2 l2.length l2) (hc2 : l2.length ≤ c2) (h : redpenlaw11_Bits.f k l0 l1 l2 = some r) :
    Calls Tryd.prog 12 #[.slice A0 l0.length c0, .slice A1 l1.length c1, .slice A2 l2.length c2] w fun e w' => ∃ v0_ : Value, e = .returned (v0_) ∧ Kd.R (Kd.int .u8) 5 w' w.heap.size (fun _ => True) v0_ r ∧ Below w.heap.size w w' := by
  have HR0 := Aside0.mk hr0
  have HC0 := Aside0.mk hc0
  clear hr0 hc0
  have HR1 := Aside0.mk hr1
  have HC1 := Aside0.mk hc1
  clear hr1 hc1
  have HR2 := Aside0.mk hr2
  have HC2 := Aside0.mk hc2
  clear hr2 hc2
  have HB := Aside0.mk (Below.refl w.heap.size w)
  have H : (redpenlaw11_Bits.l0 k l0 l2 ([] : List Int) l1 (l1.length : Int) 0) = some r := h
  clear h
  have H' := Aside0.mk H
  clear H
  go_enter Tryd.func12, Tryd.ntmps12
  go_wp2
  go_loopg [7, 13] k (fun kq v7 v13 w' => ∃ (x7_1 : List Int) (x13_1 : Int), v13 = .int .i64 x13_1 ∧ Aside0 (redpenlaw11_Bits.l0 kq l0 l2 x7_1 l1 (l1.length : Int) x13_1 = some r) ∧ Aside0 (kq ≤ k) ∧ Aside0 (Kd.R (Kd.int .u8) 5 w' w.heap.size (fun _ => True) v7 x7_1) ∧ Aside0 (Below w.heap.size w w'))
  case atStart => exact ⟨(([] : List Int)), (0), (by first | rfl | (simp; done) | (simp [*]; done)), H', ⟨Nat.le_refl _⟩, ⟨by first | exact Kd.R_nil _ _ _ _ _ | exact Kd.N_nil _ _ _ _ _ | exact Kd.V_nil _ _ _ _ _ | exact Kd.Q_nil _ _ _ _ _ | exact Kd.S_nil _ _ _ _ _⟩, ⟨by repeat (first | (with_reducible first | exact HB.out | apply below_alloc | apply pw_below_drewN | apply below_drew1) | exact HB.out)⟩⟩
  case round =>
    clear H'
    try clear c1
    try clear c2
    try clear p2
    obtain ⟨x7_1, x13_1, rfl, HA, HK1, HO_7, HB⟩ := hrel
    cases gk with
    | zero => exact absurd HA.out (by simp [redpenlaw11_Bits.l0])
    | succ k1 =>
      have H := HA.out
      clear HA
      simp only [redpenlaw11_Bits.l0] at H
      by_cases c4 : x13_1 < (l1.length : Int)
      · rw [if_pos c4] at H
        have c4b0 : decide (x13_1 < (l1.length : Int)) = true := decide_eq_true c4
        clear c4
        by_cases c5 : 0 ≤ x13_1
        · rw [if_pos c5] at H
          have c5b0 : decide (0 ≤ x13_1) = true := decide_eq_true c5
          clear c5
          by_cases c6 : x13_1 < (l1.length : Int)
          · rw [if_pos c6] at H
            have c6b0 : decide (x13_1 < (l1.length : Int)) = true := decide_eq_true c6
            clear c6
            by_cases c7 : x13_1 ≥ 60
            · rw [if_pos c7] at H
              have c7b0 : decide (60 ≤ x13_1) = true := decide_eq_true c7
              clear c7
              obtain rfl := Option.some.inj H
              have p101 : 0 ≤ (x13_1 : Int) := of_decide_eq_true (by first | (with_reducible assumption) | assumption)
              have q101 : x13_1 < (l1.length : Int) := of_decide_eq_true (by first | (with_reducible assumption) | assumption)
              obtain ⟨ad101, e101, hx101_0⟩ := Kd.at_int HR1.out x13_1 p101 q101
              cases e101
              replace hx101_0 := (HB.out.cell (World.block_lt_of_cell? w _ hx101_0)).trans hx101_0
              replace p101 := eq_true p101
              replace q101 := eq_true q101
              go_wp2
              go_ret
              exact ⟨_, by first | rfl | (simp [errW_none, errW_some] <;> rfl) | (simp [*, errW_none, errW_some] <;> rfl), by (with_reducible repeat (first | apply Kd.R_alloc | apply Kd.R_drewN | apply Kd.R_drew)); exact HO_7.out, by repeat (first | (with_reducible first | exact HB.out | apply below_alloc | apply pw_below_drewN | apply below_drew1) | exact HB.out)⟩
            · rw [if_neg c7] at H
              have c7b0 : decide (60 ≤ x13_1) = false := decide_eq_false c7
              clear c7
              by_cases c8 : (wrap64 (rd l1 x13_1)) < (l0.length : Int)
              · rw [if_pos c8] at H
                have c8b0 : decide ((wrap64 (rd l1 x13_1)) < (l0.length : Int)) = true := decide_eq_true c8
                clear c8
                obtain ⟨ji9, hji9⟩ : ∃ j_ : Int, (wrap64 (rd l1 x13_1)) = j_ := ⟨_, rfl⟩
                replace H : (if 0 ≤ (ji9) then (if x7_1.length + (rdOf ByteArray.empty l0 (ji9)).size < 140737488355328 then (redpenlaw11_Bits.l0 k1 l0 l2 (x7_1 ++ bytesOf (rdOf ByteArray.empty l0 (ji9))) l1 (l1.length : Int) (wrap64 (x13_1 + 1))) else (none)) else (none)) = some r := by first | (rw [hji9] at H; exact H) | (simp only [hji9] at H ⊢; exact H)
                (try rw [hji9] at c8b0)
                have hji9w : (IntKind.i64.wrap (rd l1 x13_1)) = ji9 := (i64_w _).trans hji9
                by_cases c10 : 0 ≤ (ji9)
                · rw [if_pos c10] at H
                  have c10b0 : decide (0 ≤ (ji9)) = true := decide_eq_true c10
                  clear c10
                  by_cases c11 : x7_1.length + (rdOf ByteArray.empty l0 (ji9)).size < 140737488355328
                  · rw [if_pos c11] at H
                    have LMc11 := Aside0.mk c11
                    clear c11
                    obtain ⟨y103, hy103⟩ : ∃ y_ : List Int, y_ = (x7_1 ++ bytesOf (rdOf ByteArray.empty l0 (ji9))) := ⟨_, rfl⟩
                    replace H : (redpenlaw11_Bits.l0 k1 l0 l2 y103 l1 (l1.length : Int) (wrap64 (x13_1 + 1))) = some r := by first | (rw [hy103]; with_reducible exact H) | (have H2_ := (Option.bind_some _ _).symm.trans H; rw [hy103]; with_reducible exact H2_) | (have H2_ := (Option.bind_some _ _).symm.trans H; with_reducible exact H2_) | with_reducible exact H | (rw [hy103]; exact H) | exact H
                    have Ny103 := Aside0.mk hy103
                    clear hy103
                    have H' := Aside0.mk H
                    clear H
                    have p101 : 0 ≤ (x13_1 : Int) := of_decide_eq_true (by first | (with_reducible assumption) | assumption)
                    have q101 : x13_1 < (l1.length : Int) := of_decide_eq_true (by first | (with_reducible assumption) | assumption)
                    obtain ⟨ad101, e101, hx101_0⟩ := Kd.at_int HR1.out x13_1 p101 q101
                    cases e101
                    replace hx101_0 := (HB.out.cell (World.block_lt_of_cell? w _ hx101_0)).trans hx101_0
                    replace p101 := eq_true p101
                    replace q101 := eq_true q101
                    have p102 : 0 ≤ ((ji9) : Int) := of_decide_eq_true (by first | (with_reducible assumption) | assumption)
                    have q102 : (ji9) < (l0.length : Int) := of_decide_eq_true (by first | (with_reducible assumption) | assumption)
                    obtain ⟨ad102, e102, hx102_0⟩ := Kd.at_string HR0.out (ji9) p102 q102
                    cases e102
                    replace hx102_0 := (HB.out.cell (World.block_lt_of_cell? w _ hx102_0)).trans hx102_0
                    replace p102 := eq_true p102
                    replace q102 := eq_true q102
                    go_wp2_with (first | (at_builtin; refine print_append_str (w0 := w) w.heap.size rfl (.tmp 26) _ 22 9 5 rfl Tryd.underlying22 Tryd.underlying9 info5 u7 x7_1 (rdOf ByteArray.empty l0 (ji9)) rfl rfl ?aO ?aB ?aS ?aL ?_; (case aB => exact (by repeat (first | (with_reducible first | exact HB.out | apply below_alloc | apply pw_below_drewN | apply below_drew1) | exact HB.out))); (case aO => exact (Kd.own_of_R (by (with_reducible repeat (first | apply Kd.R_alloc | apply Kd.R_drewN | apply Kd.R_drew)); exact HO_7.out))); (case aS => exact (below_size (by repeat (first | (with_reducible first | exact HB.out | apply below_alloc | apply pw_below_drewN | apply below_drew1) | exact HB.out)))); (case aL => have := LMc11.out; omega); intro v104 w12 ho0 hb hg; have ho := Kd.R_of_own (h1 := fun _ => rfl) (ok := fun _ => True) ho0 (fun _ _ => trivial); clear ho0; have hat := True.intro; rw [← Ny103.out] at ho; change Kd.R (Kd.int .u8) 5 w12 w.heap.size (fun _ => True) v104 y103 at ho; have n0_ := Aside0.mk (hb); have n1_ := Aside0.mk (ho); clear HB; clear HO_7; have HB := n0_; have HO105 := n1_; clear n0_ n1_; clear ho hb hg hat))
                    go_roundg k1
                    case measure => have := HK1.out; omega
                    case rel => exact ⟨(y103), (wrap64 (x13_1 + 1)), (by first | rfl | (simp; done) | (simp [*]; done)), H', ⟨by have := HK1.out; omega⟩, ⟨by (with_reducible repeat (first | apply Kd.R_alloc | apply Kd.R_drewN | apply Kd.R_drew)); exact HO105.out⟩, ⟨by repeat (first | (with_reducible first | exact HB.out | apply below_alloc | apply pw_below_drewN | apply below_drew1) | exact HB.out)⟩⟩
                  · rw [if_neg c11] at H
                    exact absurd H (by simp)
                · rw [if_neg c10] at H
                  exact absurd H (by simp)
              · rw [if_neg c8] at H
                have c8b0 : decide ((wrap64 (rd l1 x13_1)) < (l0.length : Int)) = false := decide_eq_false c8
                clear c8
                by_cases c13 : (l2.length : Int) > 0
                · rw [if_pos c13] at H
                  have c13b0 : decide (0 < (l2.length : Int)) = true := decide_eq_true c13
                  have c13b1 : decide (0 < l2.length) = true := decide_eq_true (by omega)
                  clear c13
                  by_cases c14 : (l2.length : Int) = 0
                  · rw [if_pos c14] at H
                    exact absurd H (by simp)
                  · rw [if_neg c14] at H
                    have c14b0 : ((l2.length : Int) == 0) = false := beq_eq_false_iff_ne.mpr c14
                    have c14b1 : ((l2.length : Int) != 0) = true := bne_iff_ne.mpr c14
                    have c14b2 : ¬ (l2 = []) := fun h_ => c14 (by rw [h_]; rfl)
                    obtain ⟨ji15, hji15⟩ : ∃ j_ : Int, (Int.tmod (wrap64 (rd l1 x13_1)) (l2.length : Int)) = j_ := ⟨_, rfl⟩
                    replace H : (if 0 ≤ (ji15) then (if (ji15) < (l2.length : Int) then (if x7_1.length < 140737488355328 then (redpenlaw11_Bits.l0 k1 l0 l2 (x7_1 ++ [rd l2 (ji15)]) l1 (l1.length : Int) (wrap64 (x13_1 + 1))) else (none)) else (none)) else (none)) = some r := by first | (rw [hji15] at H; exact H) | (simp only [hji15] at H ⊢; exact H)
                    by_cases c16 : 0 ≤ (ji15)
                    · rw [if_pos c16] at H
                      have c16b0 : decide (0 ≤ (ji15)) = true := decide_eq_true c16
                      clear c16
                      by_cases c17 : (ji15) < (l2.length : Int)
                      · rw [if_pos c17] at H
                        have c17b0 : decide ((ji15) < (l2.length : Int)) = true := decide_eq_true c17
                        clear c17
                        by_cases c18 : x7_1.length < 140737488355328
                        · rw [if_pos c18] at H
                          have LMc18 := Aside0.mk c18
                          clear c18
                          obtain ⟨y107, hy107⟩ : ∃ y_ : List Int, y_ = (x7_1 ++ [rd l2 (ji15)]) := ⟨_, rfl⟩
                          replace H : (redpenlaw11_Bits.l0 k1 l0 l2 y107 l1 (l1.length : Int) (wrap64 (x13_1 + 1))) = some r := by first | (rw [hy107]; with_reducible exact H) | (have H2_ := (Option.bind_some _ _).symm.trans H; rw [hy107]; with_reducible exact H2_) | (have H2_ := (Option.bind_some _ _).symm.trans H; with_reducible exact H2_) | with_reducible exact H | (rw [hy107]; exact H) | exact H
                          have Ny107 := Aside0.mk hy107
                          clear hy107
                          have H' := Aside0.mk H
                          clear H
                          have p101 : 0 ≤ (x13_1 : Int) := of_decide_eq_true (by first | (with_reducible assumption) | assumption)
                          have q101 : x13_1 < (l1.length : Int) := of_decide_eq_true (by first | (with_reducible assumption) | assumption)
                          obtain ⟨ad101, e101, hx101_0⟩ := Kd.at_int HR1.out x13_1 p101 q101
                          cases e101
                          replace hx101_0 := (HB.out.cell (World.block_lt_of_cell? w _ hx101_0)).trans hx101_0
                          replace p101 := eq_true p101
                          replace q101 := eq_true q101
                          have p106 : 0 ≤ ((ji15) : Int) := of_decide_eq_true (by first | (with_reducible assumption) | assumption)
                          have q106 : (ji15) < (l2.length : Int) := of_decide_eq_true (by first | (with_reducible assumption) | assumption)
                          obtain ⟨ad106, e106, hx106_0⟩ := Kd.at_int HR2.out (ji15) p106 q106
                          cases e106
                          replace hx106_0 := (HB.out.cell (World.block_lt_of_cell? w _ hx106_0)).trans hx106_0
                          replace p106 := eq_true p106
                          replace q106 := eq_true q106
                          go_wp2_with (first | ((with_reducible refine gate_builtin (b := .append) (xs := #[.tmp 35, .tmp 43]) rfl ?_); at_builtin; refine Kd.R_append (Kd.int .u8) (w0 := w) w.heap.size rfl (.tmp 35) (.tmp 43) 22 5 (.int .u8 0) 1 rfl Tryd.underlying22 info5 rfl (by decide) (by omega) u7 x7_1 (rd l2 (ji15)) [.int .u8 (rd l2 (ji15))] (fun _ => True) (fun _ => False) rfl rfl ?aP (fun _ hk => hk.elim) ?aF ?aO ?aB ?aS ?aL ?_; (case aP => exact rfl); (case aB => exact (by repeat (first | (with_reducible first | exact HB.out | apply below_alloc | apply pw_below_drewN | apply below_drew1) | exact HB.out))); (case aF => exact (fun _ _ => trivial)); (case aO => exact (by (with_reducible repeat (first | apply Kd.R_alloc | apply Kd.R_drewN | apply Kd.R_drew)); exact HO_7.out)); (case aS => exact (below_size (by repeat (first | (with_reducible first | exact HB.out | apply below_alloc | apply pw_below_drewN | apply below_drew1) | exact HB.out)))); (case aL => have := LMc18.out; omega); intro v108 w19 ho hb hg hat; rw [← Ny107.out] at ho; have n0_ := Aside0.mk (hb); have n1_ := Aside0.mk (ho); clear HB; clear HO_7; have HB := n0_; have HO109 := n1_; clear n0_ n1_; clear ho hb hg hat))
                          go_roundg k1
                          case measure => have := HK1.out; omega
                          case rel => exact ⟨(y107), (wrap64 (x13_1 + 1)), (by first | rfl | (simp; done) | (simp [*]; done)), H', ⟨by have := HK1.out; omega⟩, ⟨by (with_reducible repeat (first | apply Kd.R_alloc | apply Kd.R_drewN | apply Kd.R_drew)); exact HO109.out⟩, ⟨by repeat (first | (with_reducible first | exact HB.out | apply below_alloc | apply pw_below_drewN | apply below_drew1) | exact HB.out)⟩⟩
                        · rw [if_neg c18] at H
                          exact absurd H (by simp)
                      · rw [if_neg c17] at H
                        exact absurd H (by simp)
                    · rw [if_neg c16] at H
                      exact absurd H (by simp)
                · rw [if_neg c13] at H
                  have c13b0 : decide (0 < (l2.length : Int)) = false := decide_eq_false c13
                  have c13b1 : decide (0 < l2.length) = false := decide_eq_false (by omega)
                  clear c13
                  have H' := Aside0.mk H
                  clear H
                  have p101 : 0 ≤ (x13_1 : Int) := of_decide_eq_true (by first | (with_reducible assumption) | assumption)
                  have q101 : x13_1 < (l1.length : Int) := of_decide_eq_true (by first | (with_reducible assumption) | assumption)
                  obtain ⟨ad101, e101, hx101_0⟩ := Kd.at_int HR1.out x13_1 p101 q101
                  cases e101
                  replace hx101_0 := (HB.out.cell (World.block_lt_of_cell? w _ hx101_0)).trans hx101_0
                  replace p101 := eq_true p101
                  replace q101 := eq_true q101
                  go_wp2
                  go_roundg k1
                  case measure => have := HK1.out; omega
                  case rel => exact ⟨(x7_1), (wrap64 (x13_1 + 1)), (by first | rfl | (simp; done) | (simp [*]; done)), H', ⟨by have := HK1.out; omega⟩, ⟨by (with_reducible repeat (first | apply Kd.R_alloc | apply Kd.R_drewN | apply Kd.R_drew)); exact HO_7.out⟩, ⟨by repeat (first | (with_reducible first | exact HB.out | apply below_alloc | apply pw_below_drewN | apply below_drew1) | exact HB.out)⟩⟩
          · rw [if_neg c6] at H
            exact absurd H (by simp)
        · rw [if_neg c5] at H
          exact absurd H (by simp)
      · rw [if_neg c4] at H
        have c4b0 : decide (x13_1 < (l1.length : Int)) = false := decide_eq_false c4
        clear c4
        obtain rfl := Option.some.inj H
        go_wp2
        go_ret
        exact ⟨_, by first | rfl | (simp [errW_none, errW_some] <;> rfl) | (simp [*, errW_none, errW_some] <;> rfl), by (with_reducible repeat (first | apply Kd.R_alloc | apply Kd.R_drewN | apply Kd.R_drew)); exact HO_7.out, by repeat (first | (with_reducible first | exact HB.out | apply below_alloc | apply pw_below_drewN | apply below_drew1) | exact HB.out)⟩

end Go.Proofs.YtkicpaodcmepmaaDoor.PBits

namespace Go.Proofs.YtkicpaodcmepmaaDoor.Ppieces
open Go.RowKit Go.Proofs.YtkicpaodcmepmaaDoorW.PrintWords Go.Proofs.YtkicpaodcmepmaaDoorW.PrintLast Go.Proofs.YtkicpaodcmepmaaDoorW.PrintMore
attribute [local go_sem] max2_int min2_int max_two min_two max_three min_three max_four min_four   -- for this text's walks alone
set_option linter.unusedVariables false
set_option linter.unusedSimpArgs false



def errW : Option Int → Value
  | none => .nilIface
  | some c => .iface 0 (.int .i64 c)
theorem errW_none : errW none = .nilIface := rfl
theorem errW_some (c : Int) : errW (some c) = .iface 0 (.int .i64 c) := rfl

theorem info9 : (Tryd.prog.info? 9).map (fun i => (i.zero, i.size, i.bytes)) = some (some (.string ⟨#[]⟩), 1, 16) := by kernel_rfl
-- the values' own types

end Go.Proofs.YtkicpaodcmepmaaDoor.Ppieces

namespace Go.Proofs.YtkicpaodcmepmaaDoor.Ppieces
open Go.RowKit Go.Proofs.YtkicpaodcmepmaaDoorW.PrintWords Go.Proofs.YtkicpaodcmepmaaDoorW.PrintLast Go.Proofs.YtkicpaodcmepmaaDoorW.PrintMore
attribute [local go_sem] max2_int min2_int max_two min_two max_three min_three max_four min_four   -- for this text's walks alone
set_option linter.unusedVariables false
set_option linter.unusedSimpArgs false

/-! ### redpenlaw13_pieces: function 13 -/
def redpenlaw13_pieces.f  : Option (List ByteArray) := some (([(⟨#[92]⟩ : ByteArray), (⟨#[92, 92]⟩ : ByteArray), (⟨#[92, 98, 101, 103, 105, 110]⟩ : ByteArray), (⟨#[92, 101, 110, 100]⟩ : ByteArray), (⟨#[123, 118, 101, 114, 98, 97, 116, 105, 109, 125]⟩ : ByteArray), (⟨#[123, 101, 113, 117, 97, 116, 105, 111, 110, 42, 125]⟩ : ByteArray), (⟨#[123, 97, 108, 105, 103, 110, 125]⟩ : ByteArray), (⟨#[123, 120, 125]⟩ : ByteArray), (⟨#[92, 98, 101, 103, 105, 110, 123, 118, 101, 114, 98, 97, 116, 105, 109, 125]⟩ : ByteArray), (⟨#[92, 101, 110, 100, 123, 118, 101, 114, 98, 97, 116, 105, 109, 125]⟩ : ByteArray), (⟨#[92, 101, 110, 100, 123, 101, 113, 117, 97, 116, 105, 111, 110, 42, 125]⟩ : ByteArray), (⟨#[92, 99, 105, 116, 101]⟩ : ByteArray), (⟨#[92, 114, 101, 102, 123, 97, 125]⟩ : ByteArray), (⟨#[92, 105, 110, 112, 117, 116, 91, 98, 93, 123, 99, 125]⟩ : ByteArray), (⟨#[92, 101, 109, 112, 104, 123]⟩ : ByteArray), (⟨#[92, 118, 101, 114, 98]⟩ : ByteArray), (⟨#[92, 118, 101, 114, 98, 42]⟩ : ByteArray), (⟨#[124]⟩ : ByteArray), (⟨#[43]⟩ : ByteArray), (⟨#[123]⟩ : ByteArray), (⟨#[125]⟩ : ByteArray), (⟨#[91]⟩ : ByteArray), (⟨#[93]⟩ : ByteArray), (⟨#[36]⟩ : ByteArray), (⟨#[36, 36]⟩ : ByteArray), (⟨#[92, 36]⟩ : ByteArray), (⟨#[92, 40]⟩ : ByteArray), (⟨#[92, 41]⟩ : ByteArray), (⟨#[92, 91]⟩ : ByteArray), (⟨#[92, 93]⟩ : ByteArray), (⟨#[37]⟩ : ByteArray), (⟨#[10]⟩ : ByteArray), (⟨#[126]⟩ : ByteArray), (⟨#[38]⟩ : ByteArray), (⟨#[35]⟩ : ByteArray), (⟨#[94]⟩ : ByteArray), (⟨#[95]⟩ : ByteArray), (⟨#[119, 111, 114, 100]⟩ : ByteArray), (⟨#[32]⟩ : ByteArray), (⟨#[195, 169]⟩ : ByteArray), (⟨#[92, 195, 169]⟩ : ByteArray), (⟨#[92, 98, 101, 103, 105, 110, 123, 108, 115, 116, 108, 105, 115, 116, 105, 110, 103, 125, 91, 97, 93]⟩ : ByteArray)] : List ByteArray))
set_option maxHeartbeats 8000000 in
set_option maxRecDepth 100000 in
theorem redpenlaw13_pieces.calls  (r : List ByteArray) (w : World) (h : redpenlaw13_pieces.f  = some r) :
    Calls Tryd.prog 13 #[] w fun e w' => ∃ v0_ : Value, e = .returned (v0_) ∧ Kd.R Kd.string 9 w' w.heap.size (fun _ => True) v0_ r ∧ Below w.heap.size w w' := by
  have HB := Aside0.mk (Below.refl w.heap.size w)
  have H : (some (([(⟨#[92]⟩ : ByteArray), (⟨#[92, 92]⟩ : ByteArray), (⟨#[92, 98, 101, 103, 105, 110]⟩ : ByteArray), (⟨#[92, 101, 110, 100]⟩ : ByteArray), (⟨#[123, 118, 101, 114, 98, 97, 116, 105, 109, 125]⟩ : ByteArray), (⟨#[123, 101, 113, 117, 97, 116, 105, 111, 110, 42, 125]⟩ : ByteArray), (⟨#[123, 97, 108, 105, 103, 110, 125]⟩ : ByteArray), (⟨#[123, 120, 125]⟩ : ByteArray), (⟨#[92, 98, 101, 103, 105, 110, 123, 118, 101, 114, 98, 97, 116, 105, 109, 125]⟩ : ByteArray), (⟨#[92, 101, 110, 100, 123, 118, 101, 114, 98, 97, 116, 105, 109, 125]⟩ : ByteArray), (⟨#[92, 101, 110, 100, 123, 101, 113, 117, 97, 116, 105, 111, 110, 42, 125]⟩ : ByteArray), (⟨#[92, 99, 105, 116, 101]⟩ : ByteArray), (⟨#[92, 114, 101, 102, 123, 97, 125]⟩ : ByteArray), (⟨#[92, 105, 110, 112, 117, 116, 91, 98, 93, 123, 99, 125]⟩ : ByteArray), (⟨#[92, 101, 109, 112, 104, 123]⟩ : ByteArray), (⟨#[92, 118, 101, 114, 98]⟩ : ByteArray), (⟨#[92, 118, 101, 114, 98, 42]⟩ : ByteArray), (⟨#[124]⟩ : ByteArray), (⟨#[43]⟩ : ByteArray), (⟨#[123]⟩ : ByteArray), (⟨#[125]⟩ : ByteArray), (⟨#[91]⟩ : ByteArray), (⟨#[93]⟩ : ByteArray), (⟨#[36]⟩ : ByteArray), (⟨#[36, 36]⟩ : ByteArray), (⟨#[92, 36]⟩ : ByteArray), (⟨#[92, 40]⟩ : ByteArray), (⟨#[92, 41]⟩ : ByteArray), (⟨#[92, 91]⟩ : ByteArray), (⟨#[92, 93]⟩ : ByteArray), (⟨#[37]⟩ : ByteArray), (⟨#[10]⟩ : ByteArray), (⟨#[126]⟩ : ByteArray), (⟨#[38]⟩ : ByteArray), (⟨#[35]⟩ : ByteArray), (⟨#[94]⟩ : ByteArray), (⟨#[95]⟩ : ByteArray), (⟨#[119, 111, 114, 100]⟩ : ByteArray), (⟨#[32]⟩ : ByteArray), (⟨#[195, 169]⟩ : ByteArray), (⟨#[92, 195, 169]⟩ : ByteArray), (⟨#[92, 98, 101, 103, 105, 110, 123, 108, 115, 116, 108, 105, 115, 116, 105, 110, 103, 125, 91, 97, 93]⟩ : ByteArray)] : List ByteArray))) = some r := h
  clear h
  obtain ⟨y101, hy101⟩ : ∃ y_ : List ByteArray, y_ = (([(⟨#[92]⟩ : ByteArray), (⟨#[92, 92]⟩ : ByteArray), (⟨#[92, 98, 101, 103, 105, 110]⟩ : ByteArray), (⟨#[92, 101, 110, 100]⟩ : ByteArray), (⟨#[123, 118, 101, 114, 98, 97, 116, 105, 109, 125]⟩ : ByteArray), (⟨#[123, 101, 113, 117, 97, 116, 105, 111, 110, 42, 125]⟩ : ByteArray), (⟨#[123, 97, 108, 105, 103, 110, 125]⟩ : ByteArray), (⟨#[123, 120, 125]⟩ : ByteArray), (⟨#[92, 98, 101, 103, 105, 110, 123, 118, 101, 114, 98, 97, 116, 105, 109, 125]⟩ : ByteArray), (⟨#[92, 101, 110, 100, 123, 118, 101, 114, 98, 97, 116, 105, 109, 125]⟩ : ByteArray), (⟨#[92, 101, 110, 100, 123, 101, 113, 117, 97, 116, 105, 111, 110, 42, 125]⟩ : ByteArray), (⟨#[92, 99, 105, 116, 101]⟩ : ByteArray), (⟨#[92, 114, 101, 102, 123, 97, 125]⟩ : ByteArray), (⟨#[92, 105, 110, 112, 117, 116, 91, 98, 93, 123, 99, 125]⟩ : ByteArray), (⟨#[92, 101, 109, 112, 104, 123]⟩ : ByteArray), (⟨#[92, 118, 101, 114, 98]⟩ : ByteArray), (⟨#[92, 118, 101, 114, 98, 42]⟩ : ByteArray), (⟨#[124]⟩ : ByteArray), (⟨#[43]⟩ : ByteArray), (⟨#[123]⟩ : ByteArray), (⟨#[125]⟩ : ByteArray), (⟨#[91]⟩ : ByteArray), (⟨#[93]⟩ : ByteArray), (⟨#[36]⟩ : ByteArray), (⟨#[36, 36]⟩ : ByteArray), (⟨#[92, 36]⟩ : ByteArray), (⟨#[92, 40]⟩ : ByteArray), (⟨#[92, 41]⟩ : ByteArray), (⟨#[92, 91]⟩ : ByteArray), (⟨#[92, 93]⟩ : ByteArray), (⟨#[37]⟩ : ByteArray), (⟨#[10]⟩ : ByteArray), (⟨#[126]⟩ : ByteArray), (⟨#[38]⟩ : ByteArray), (⟨#[35]⟩ : ByteArray), (⟨#[94]⟩ : ByteArray), (⟨#[95]⟩ : ByteArray), (⟨#[119, 111, 114, 100]⟩ : ByteArray), (⟨#[32]⟩ : ByteArray), (⟨#[195, 169]⟩ : ByteArray), (⟨#[92, 195, 169]⟩ : ByteArray), (⟨#[92, 98, 101, 103, 105, 110, 123, 108, 115, 116, 108, 105, 115, 116, 105, 110, 103, 125, 91, 97, 93]⟩ : ByteArray)] : List ByteArray)) := ⟨_, rfl⟩
  replace H : (some y101) = some r := by first | (rw [hy101]; with_reducible exact H) | (have H2_ := (Option.bind_some _ _).symm.trans H; rw [hy101]; with_reducible exact H2_) | (have H2_ := (Option.bind_some _ _).symm.trans H; with_reducible exact H2_) | with_reducible exact H | (rw [hy101]; exact H) | exact H
  have Ny101 := Aside0.mk hy101
  clear hy101
  obtain rfl := Option.some.inj H
  go_enter Tryd.func13, Tryd.ntmps13
  go_wp2_with (first | ((with_reducible refine gate_dst (N := 1) rfl ?_); refine Kd.R_lit Kd.string _ 9 ?hg (N := 1) ?hd (xs := ([(⟨#[92]⟩ : ByteArray), (⟨#[92, 92]⟩ : ByteArray), (⟨#[92, 98, 101, 103, 105, 110]⟩ : ByteArray), (⟨#[92, 101, 110, 100]⟩ : ByteArray), (⟨#[123, 118, 101, 114, 98, 97, 116, 105, 109, 125]⟩ : ByteArray), (⟨#[123, 101, 113, 117, 97, 116, 105, 111, 110, 42, 125]⟩ : ByteArray), (⟨#[123, 97, 108, 105, 103, 110, 125]⟩ : ByteArray), (⟨#[123, 120, 125]⟩ : ByteArray), (⟨#[92, 98, 101, 103, 105, 110, 123, 118, 101, 114, 98, 97, 116, 105, 109, 125]⟩ : ByteArray), (⟨#[92, 101, 110, 100, 123, 118, 101, 114, 98, 97, 116, 105, 109, 125]⟩ : ByteArray), (⟨#[92, 101, 110, 100, 123, 101, 113, 117, 97, 116, 105, 111, 110, 42, 125]⟩ : ByteArray), (⟨#[92, 99, 105, 116, 101]⟩ : ByteArray), (⟨#[92, 114, 101, 102, 123, 97, 125]⟩ : ByteArray), (⟨#[92, 105, 110, 112, 117, 116, 91, 98, 93, 123, 99, 125]⟩ : ByteArray), (⟨#[92, 101, 109, 112, 104, 123]⟩ : ByteArray), (⟨#[92, 118, 101, 114, 98]⟩ : ByteArray), (⟨#[92, 118, 101, 114, 98, 42]⟩ : ByteArray), (⟨#[124]⟩ : ByteArray), (⟨#[43]⟩ : ByteArray), (⟨#[123]⟩ : ByteArray), (⟨#[125]⟩ : ByteArray), (⟨#[91]⟩ : ByteArray), (⟨#[93]⟩ : ByteArray), (⟨#[36]⟩ : ByteArray), (⟨#[36, 36]⟩ : ByteArray), (⟨#[92, 36]⟩ : ByteArray), (⟨#[92, 40]⟩ : ByteArray), (⟨#[92, 41]⟩ : ByteArray), (⟨#[92, 91]⟩ : ByteArray), (⟨#[92, 93]⟩ : ByteArray), (⟨#[37]⟩ : ByteArray), (⟨#[10]⟩ : ByteArray), (⟨#[126]⟩ : ByteArray), (⟨#[38]⟩ : ByteArray), (⟨#[35]⟩ : ByteArray), (⟨#[94]⟩ : ByteArray), (⟨#[95]⟩ : ByteArray), (⟨#[119, 111, 114, 100]⟩ : ByteArray), (⟨#[32]⟩ : ByteArray), (⟨#[195, 169]⟩ : ByteArray), (⟨#[92, 195, 169]⟩ : ByteArray), (⟨#[92, 98, 101, 103, 105, 110, 123, 108, 115, 116, 108, 105, 115, 116, 105, 110, 103, 125, 91, 97, 93]⟩ : ByteArray)] : List ByteArray)) (inner := [.string (⟨#[92]⟩ : ByteArray), .string (⟨#[92, 92]⟩ : ByteArray), .string (⟨#[92, 98, 101, 103, 105, 110]⟩ : ByteArray), .string (⟨#[92, 101, 110, 100]⟩ : ByteArray), .string (⟨#[123, 118, 101, 114, 98, 97, 116, 105, 109, 125]⟩ : ByteArray), .string (⟨#[123, 101, 113, 117, 97, 116, 105, 111, 110, 42, 125]⟩ : ByteArray), .string (⟨#[123, 97, 108, 105, 103, 110, 125]⟩ : ByteArray), .string (⟨#[123, 120, 125]⟩ : ByteArray), .string (⟨#[92, 98, 101, 103, 105, 110, 123, 118, 101, 114, 98, 97, 116, 105, 109, 125]⟩ : ByteArray), .string (⟨#[92, 101, 110, 100, 123, 118, 101, 114, 98, 97, 116, 105, 109, 125]⟩ : ByteArray), .string (⟨#[92, 101, 110, 100, 123, 101, 113, 117, 97, 116, 105, 111, 110, 42, 125]⟩ : ByteArray), .string (⟨#[92, 99, 105, 116, 101]⟩ : ByteArray), .string (⟨#[92, 114, 101, 102, 123, 97, 125]⟩ : ByteArray), .string (⟨#[92, 105, 110, 112, 117, 116, 91, 98, 93, 123, 99, 125]⟩ : ByteArray), .string (⟨#[92, 101, 109, 112, 104, 123]⟩ : ByteArray), .string (⟨#[92, 118, 101, 114, 98]⟩ : ByteArray), .string (⟨#[92, 118, 101, 114, 98, 42]⟩ : ByteArray), .string (⟨#[124]⟩ : ByteArray), .string (⟨#[43]⟩ : ByteArray), .string (⟨#[123]⟩ : ByteArray), .string (⟨#[125]⟩ : ByteArray), .string (⟨#[91]⟩ : ByteArray), .string (⟨#[93]⟩ : ByteArray), .string (⟨#[36]⟩ : ByteArray), .string (⟨#[36, 36]⟩ : ByteArray), .string (⟨#[92, 36]⟩ : ByteArray), .string (⟨#[92, 40]⟩ : ByteArray), .string (⟨#[92, 41]⟩ : ByteArray), .string (⟨#[92, 91]⟩ : ByteArray), .string (⟨#[92, 93]⟩ : ByteArray), .string (⟨#[37]⟩ : ByteArray), .string (⟨#[10]⟩ : ByteArray), .string (⟨#[126]⟩ : ByteArray), .string (⟨#[38]⟩ : ByteArray), .string (⟨#[35]⟩ : ByteArray), .string (⟨#[94]⟩ : ByteArray), .string (⟨#[95]⟩ : ByteArray), .string (⟨#[119, 111, 114, 100]⟩ : ByteArray), .string (⟨#[32]⟩ : ByteArray), .string (⟨#[195, 169]⟩ : ByteArray), .string (⟨#[92, 195, 169]⟩ : ByteArray), .string (⟨#[92, 98, 101, 103, 105, 110, 123, 108, 115, 116, 108, 105, 115, 116, 105, 110, 103, 125, 91, 97, 93]⟩ : ByteArray)]) (ok := fun _ => True) (okp := fun _ => True) ?hr ?hp (fun _ hk => hk) trivial (Below.refl _ _) (Nat.le_refl _) (by simp) ?_; (case hd => rfl); (case hg => rfl); (case hr => first | (go_simp; done) | (go_simp; rfl)); (case hp => exact (Reps.one (show Kd.M Kd.string _ _ _ (⟨#[92]⟩ : ByteArray) [.string (⟨#[92]⟩ : ByteArray)] from rfl) (Reps.one (show Kd.M Kd.string _ _ _ (⟨#[92, 92]⟩ : ByteArray) [.string (⟨#[92, 92]⟩ : ByteArray)] from rfl) (Reps.one (show Kd.M Kd.string _ _ _ (⟨#[92, 98, 101, 103, 105, 110]⟩ : ByteArray) [.string (⟨#[92, 98, 101, 103, 105, 110]⟩ : ByteArray)] from rfl) (Reps.one (show Kd.M Kd.string _ _ _ (⟨#[92, 101, 110, 100]⟩ : ByteArray) [.string (⟨#[92, 101, 110, 100]⟩ : ByteArray)] from rfl) (Reps.one (show Kd.M Kd.string _ _ _ (⟨#[123, 118, 101, 114, 98, 97, 116, 105, 109, 125]⟩ : ByteArray) [.string (⟨#[123, 118, 101, 114, 98, 97, 116, 105, 109, 125]⟩ : ByteArray)] from rfl) (Reps.one (show Kd.M Kd.string _ _ _ (⟨#[123, 101, 113, 117, 97, 116, 105, 111, 110, 42, 125]⟩ : ByteArray) [.string (⟨#[123, 101, 113, 117, 97, 116, 105, 111, 110, 42, 125]⟩ : ByteArray)] from rfl) (Reps.one (show Kd.M Kd.string _ _ _ (⟨#[123, 97, 108, 105, 103, 110, 125]⟩ : ByteArray) [.string (⟨#[123, 97, 108, 105, 103, 110, 125]⟩ : ByteArray)] from rfl) (Reps.one (show Kd.M Kd.string _ _ _ (⟨#[123, 120, 125]⟩ : ByteArray) [.string (⟨#[123, 120, 125]⟩ : ByteArray)] from rfl) (Reps.one (show Kd.M Kd.string _ _ _ (⟨#[92, 98, 101, 103, 105, 110, 123, 118, 101, 114, 98, 97, 116, 105, 109, 125]⟩ : ByteArray) [.string (⟨#[92, 98, 101, 103, 105, 110, 123, 118, 101, 114, 98, 97, 116, 105, 109, 125]⟩ : ByteArray)] from rfl) (Reps.one (show Kd.M Kd.string _ _ _ (⟨#[92, 101, 110, 100, 123, 118, 101, 114, 98, 97, 116, 105, 109, 125]⟩ : ByteArray) [.string (⟨#[92, 101, 110, 100, 123, 118, 101, 114, 98, 97, 116, 105, 109, 125]⟩ : ByteArray)] from rfl) (Reps.one (show Kd.M Kd.string _ _ _ (⟨#[92, 101, 110, 100, 123, 101, 113, 117, 97, 116, 105, 111, 110, 42, 125]⟩ : ByteArray) [.string (⟨#[92, 101, 110, 100, 123, 101, 113, 117, 97, 116, 105, 111, 110, 42, 125]⟩ : ByteArray)] from rfl) (Reps.one (show Kd.M Kd.string _ _ _ (⟨#[92, 99, 105, 116, 101]⟩ : ByteArray) [.string (⟨#[92, 99, 105, 116, 101]⟩ : ByteArray)] from rfl) (Reps.one (show Kd.M Kd.string _ _ _ (⟨#[92, 114, 101, 102, 123, 97, 125]⟩ : ByteArray) [.string (⟨#[92, 114, 101, 102, 123, 97, 125]⟩ : ByteArray)] from rfl) (Reps.one (show Kd.M Kd.string _ _ _ (⟨#[92, 105, 110, 112, 117, 116, 91, 98, 93, 123, 99, 125]⟩ : ByteArray) [.string (⟨#[92, 105, 110, 112, 117, 116, 91, 98, 93, 123, 99, 125]⟩ : ByteArray)] from rfl) (Reps.one (show Kd.M Kd.string _ _ _ (⟨#[92, 101, 109, 112, 104, 123]⟩ : ByteArray) [.string (⟨#[92, 101, 109, 112, 104, 123]⟩ : ByteArray)] from rfl) (Reps.one (show Kd.M Kd.string _ _ _ (⟨#[92, 118, 101, 114, 98]⟩ : ByteArray) [.string (⟨#[92, 118, 101, 114, 98]⟩ : ByteArray)] from rfl) (Reps.one (show Kd.M Kd.string _ _ _ (⟨#[92, 118, 101, 114, 98, 42]⟩ : ByteArray) [.string (⟨#[92, 118, 101, 114, 98, 42]⟩ : ByteArray)] from rfl) (Reps.one (show Kd.M Kd.string _ _ _ (⟨#[124]⟩ : ByteArray) [.string (⟨#[124]⟩ : ByteArray)] from rfl) (Reps.one (show Kd.M Kd.string _ _ _ (⟨#[43]⟩ : ByteArray) [.string (⟨#[43]⟩ : ByteArray)] from rfl) (Reps.one (show Kd.M Kd.string _ _ _ (⟨#[123]⟩ : ByteArray) [.string (⟨#[123]⟩ : ByteArray)] from rfl) (Reps.one (show Kd.M Kd.string _ _ _ (⟨#[125]⟩ : ByteArray) [.string (⟨#[125]⟩ : ByteArray)] from rfl) (Reps.one (show Kd.M Kd.string _ _ _ (⟨#[91]⟩ : ByteArray) [.string (⟨#[91]⟩ : ByteArray)] from rfl) (Reps.one (show Kd.M Kd.string _ _ _ (⟨#[93]⟩ : ByteArray) [.string (⟨#[93]⟩ : ByteArray)] from rfl) (Reps.one (show Kd.M Kd.string _ _ _ (⟨#[36]⟩ : ByteArray) [.string (⟨#[36]⟩ : ByteArray)] from rfl) (Reps.one (show Kd.M Kd.string _ _ _ (⟨#[36, 36]⟩ : ByteArray) [.string (⟨#[36, 36]⟩ : ByteArray)] from rfl) (Reps.one (show Kd.M Kd.string _ _ _ (⟨#[92, 36]⟩ : ByteArray) [.string (⟨#[92, 36]⟩ : ByteArray)] from rfl) (Reps.one (show Kd.M Kd.string _ _ _ (⟨#[92, 40]⟩ : ByteArray) [.string (⟨#[92, 40]⟩ : ByteArray)] from rfl) (Reps.one (show Kd.M Kd.string _ _ _ (⟨#[92, 41]⟩ : ByteArray) [.string (⟨#[92, 41]⟩ : ByteArray)] from rfl) (Reps.one (show Kd.M Kd.string _ _ _ (⟨#[92, 91]⟩ : ByteArray) [.string (⟨#[92, 91]⟩ : ByteArray)] from rfl) (Reps.one (show Kd.M Kd.string _ _ _ (⟨#[92, 93]⟩ : ByteArray) [.string (⟨#[92, 93]⟩ : ByteArray)] from rfl) (Reps.one (show Kd.M Kd.string _ _ _ (⟨#[37]⟩ : ByteArray) [.string (⟨#[37]⟩ : ByteArray)] from rfl) (Reps.one (show Kd.M Kd.string _ _ _ (⟨#[10]⟩ : ByteArray) [.string (⟨#[10]⟩ : ByteArray)] from rfl) (Reps.one (show Kd.M Kd.string _ _ _ (⟨#[126]⟩ : ByteArray) [.string (⟨#[126]⟩ : ByteArray)] from rfl) (Reps.one (show Kd.M Kd.string _ _ _ (⟨#[38]⟩ : ByteArray) [.string (⟨#[38]⟩ : ByteArray)] from rfl) (Reps.one (show Kd.M Kd.string _ _ _ (⟨#[35]⟩ : ByteArray) [.string (⟨#[35]⟩ : ByteArray)] from rfl) (Reps.one (show Kd.M Kd.string _ _ _ (⟨#[94]⟩ : ByteArray) [.string (⟨#[94]⟩ : ByteArray)] from rfl) (Reps.one (show Kd.M Kd.string _ _ _ (⟨#[95]⟩ : ByteArray) [.string (⟨#[95]⟩ : ByteArray)] from rfl) (Reps.one (show Kd.M Kd.string _ _ _ (⟨#[119, 111, 114, 100]⟩ : ByteArray) [.string (⟨#[119, 111, 114, 100]⟩ : ByteArray)] from rfl) (Reps.one (show Kd.M Kd.string _ _ _ (⟨#[32]⟩ : ByteArray) [.string (⟨#[32]⟩ : ByteArray)] from rfl) (Reps.one (show Kd.M Kd.string _ _ _ (⟨#[195, 169]⟩ : ByteArray) [.string (⟨#[195, 169]⟩ : ByteArray)] from rfl) (Reps.one (show Kd.M Kd.string _ _ _ (⟨#[92, 195, 169]⟩ : ByteArray) [.string (⟨#[92, 195, 169]⟩ : ByteArray)] from rfl) (Reps.one (show Kd.M Kd.string _ _ _ (⟨#[92, 98, 101, 103, 105, 110, 123, 108, 115, 116, 108, 105, 115, 116, 105, 110, 103, 125, 91, 97, 93]⟩ : ByteArray) [.string (⟨#[92, 98, 101, 103, 105, 110, 123, 108, 115, 116, 108, 105, 115, 116, 105, 110, 103, 125, 91, 97, 93]⟩ : ByteArray)] from rfl) (Reps.none _ _)))))))))))))))))))))))))))))))))))))))))))); intro v102 w1 ho2 hb hg_ hnew_; clear hg_ hnew_; (first | rw [← Ny101.out] at ho2 | (simp only [Int.reduceToNat] at ho2; rw [← Ny101.out] at ho2)); have n0_ := Aside0.mk (Kd.R_lower ho2 (below_size (by repeat (first | (with_reducible first | exact HB.out | apply below_alloc | apply pw_below_drewN | apply below_drew1) | exact HB.out)))); have n1_ := Aside0.mk (below_step (by repeat (first | (with_reducible first | exact HB.out | apply below_alloc | apply pw_below_drewN | apply below_drew1) | exact HB.out)) hb); clear HB; have HO103 := n0_; have HB := n1_; clear n0_ n1_; clear hb ho2))
  go_ret
  exact ⟨_, by first | rfl | (simp [errW_none, errW_some] <;> rfl) | (simp [*, errW_none, errW_some] <;> rfl), by (with_reducible repeat (first | apply Kd.R_alloc | apply Kd.R_drewN | apply Kd.R_drew)); exact HO103.out, by repeat (first | (with_reducible first | exact HB.out | apply below_alloc | apply pw_below_drewN | apply below_drew1) | exact HB.out)⟩

end Go.Proofs.YtkicpaodcmepmaaDoor.Ppieces

namespace Go.Proofs.YtkicpaodcmepmaaDoor.PSegs
open Go.RowKit Go.Proofs.YtkicpaodcmepmaaDoorW.PrintWords Go.Proofs.YtkicpaodcmepmaaDoorW.PrintLast Go.Proofs.YtkicpaodcmepmaaDoorW.PrintMore
attribute [local go_sem] max2_int min2_int max_two min_two max_three min_three max_four min_four   -- for this text's walks alone
set_option linter.unusedVariables false
set_option linter.unusedSimpArgs false



def errW : Option Int → Value
  | none => .nilIface
  | some c => .iface 0 (.int .i64 c)
theorem errW_none : errW none = .nilIface := rfl
theorem errW_some (c : Int) : errW (some c) = .iface 0 (.int .i64 c) := rfl

theorem info55 : (Tryd.prog.info? 55).map (fun i => (i.zero, i.size, i.bytes)) = some (some (.agg #[(.int .u8 0), (.int .i64 0), (.int .i64 0)]), 3, 24) := by kernel_rfl
-- the values' own types
/-! #### struct type 53 -/
structure S53 where
  f0 : Int
  f1 : Int
def z53 : S53 := ⟨(0 : Int), (0 : Int)⟩
def k53 : Kd S53 := Kd.iso (Kd.pair (Kd.int .i64) (Kd.int .i64)) (fun x : S53 => (x.f0, x.f1))
theorem k53_open {w : World} {x : S53} {cs : List Value} (h : k53.K w x cs) : cs = [.int .i64 x.f0, .int .i64 x.f1] := by
  obtain ⟨_, _, rfl, rfl, rfl⟩ := h
  exact rfl
theorem k53_openM {w : World} {base : Nat} {ok : Nat → Prop} {x : S53} {cs : List Value} (h : k53.M w base ok x cs) : cs = [.int .i64 x.f0, .int .i64 x.f1] := by
  obtain ⟨_, _, rfl, rfl, rfl⟩ := h
  exact rfl
theorem k53_mk (w : World) (x : S53)  : k53.K w x [.int .i64 x.f0, .int .i64 x.f1] := ⟨[.int .i64 x.f0], [.int .i64 x.f1], rfl, rfl, rfl⟩
theorem k53_mkM (w : World) (base : Nat) (ok : Nat → Prop) (x : S53)  : k53.M w base ok x [.int .i64 x.f0, .int .i64 x.f1] := ⟨[.int .i64 x.f0], [.int .i64 x.f1], rfl, rfl, rfl⟩
def rd_T53 (xs : List S53) (i : Int) : S53 := xs.getD i.toNat z53
theorem at_T53 {w : World} {A : Option Addr} {n : Nat} {xs : List S53} (h : Kd.C k53 w A n xs) (i : Int) (h0 : 0 ≤ i) (h1 : i < n) : ∃ ad , A = some ad ∧ w.cell? (ad.add (i.toNat * 2)) = some (.int .i64 (rd_T53 xs i).f0) ∧ w.cell? ⟨(ad.add (i.toNat * 2)).block, (ad.add (i.toNat * 2)).off + 1, none⟩ = some (.int .i64 (rd_T53 xs i).f1) := by
  obtain ⟨ad, c, e, _, hK, hc0⟩ := Kd.C_get h z53 i h0 h1
  have hc : ∀ j u, c[j]? = some u → w.cell? (ad.add (i.toNat * 2 + j)) = some u := hc0
  obtain rfl := k53_open hK
  exact ⟨ad, e, hc 0 _ rfl, by rw [← add_field _ _ 1 (by omega)]; exact hc 1 _ rfl⟩

/-! #### struct type 55 -/
structure S55 where
  f0 : Int
  f1 : S53
def z55 : S55 := ⟨(0 : Int), z53⟩
def k55 : Kd S55 := Kd.iso (Kd.pair (Kd.int .u8) k53) (fun x : S55 => (x.f0, x.f1))
theorem k55_open {w : World} {x : S55} {cs : List Value} (h : k55.K w x cs) : cs = [.int .u8 x.f0, .int .i64 x.f1.f0, .int .i64 x.f1.f1] := by
  obtain ⟨_, _, rfl, rfl, s1⟩ := h
  obtain rfl := k53_open s1
  exact rfl
theorem k55_openM {w : World} {base : Nat} {ok : Nat → Prop} {x : S55} {cs : List Value} (h : k55.M w base ok x cs) : cs = [.int .u8 x.f0, .int .i64 x.f1.f0, .int .i64 x.f1.f1] := by
  obtain ⟨_, _, rfl, rfl, s1⟩ := h
  obtain rfl := k53_openM s1
  exact rfl
theorem k55_mk (w : World) (x : S55)  : k55.K w x [.int .u8 x.f0, .int .i64 x.f1.f0, .int .i64 x.f1.f1] := ⟨[.int .u8 x.f0], [.int .i64 x.f1.f0, .int .i64 x.f1.f1], rfl, rfl, (k53_mk w x.f1 )⟩
theorem k55_mkM (w : World) (base : Nat) (ok : Nat → Prop) (x : S55)  : k55.M w base ok x [.int .u8 x.f0, .int .i64 x.f1.f0, .int .i64 x.f1.f1] := ⟨[.int .u8 x.f0], [.int .i64 x.f1.f0, .int .i64 x.f1.f1], rfl, rfl, (k53_mkM w base ok x.f1 )⟩
def rd_T55 (xs : List S55) (i : Int) : S55 := xs.getD i.toNat z55
theorem at_T55 {w : World} {A : Option Addr} {n : Nat} {xs : List S55} (h : Kd.C k55 w A n xs) (i : Int) (h0 : 0 ≤ i) (h1 : i < n) : ∃ ad , A = some ad ∧ w.cell? (ad.add (i.toNat * 3)) = some (.int .u8 (rd_T55 xs i).f0) ∧ w.cell? ⟨(ad.add (i.toNat * 3)).block, (ad.add (i.toNat * 3)).off + 1, none⟩ = some (.int .i64 (rd_T55 xs i).f1.f0) ∧ w.cell? ⟨(ad.add (i.toNat * 3)).block, (ad.add (i.toNat * 3)).off + 2, none⟩ = some (.int .i64 (rd_T55 xs i).f1.f1) := by
  obtain ⟨ad, c, e, _, hK, hc0⟩ := Kd.C_get h z55 i h0 h1
  have hc : ∀ j u, c[j]? = some u → w.cell? (ad.add (i.toNat * 3 + j)) = some u := hc0
  obtain rfl := k55_open hK
  exact ⟨ad, e, hc 0 _ rfl, by rw [← add_field _ _ 1 (by omega)]; exact hc 1 _ rfl, by rw [← add_field _ _ 2 (by omega)]; exact hc 2 _ rfl⟩

end Go.Proofs.YtkicpaodcmepmaaDoor.PSegs

namespace Go.Proofs.YtkicpaodcmepmaaDoor.PSegs
open Go.RowKit Go.Proofs.YtkicpaodcmepmaaDoorW.PrintWords Go.Proofs.YtkicpaodcmepmaaDoorW.PrintLast Go.Proofs.YtkicpaodcmepmaaDoorW.PrintMore
attribute [local go_sem] max2_int min2_int max_two min_two max_three min_three max_four min_four   -- for this text's walks alone
set_option linter.unusedVariables false
set_option linter.unusedSimpArgs false

/-! ### redpenref10_Segs: function 16 -/
mutual
def redpenref10_Segs.l0 : Nat → List Int → List (S55) → Int → Option ((List (S55)))
  | 0, _, _, _ => none
  | k + 1, x0, x3, x4 => if x4 < (x0.length : Int) then (redpenref10_Segs.l1 k x0 x3 x4 x4) else (some x3)
def redpenref10_Segs.l1 : Nat → List Int → List (S55) → Int → Int → Option ((List (S55)))
  | 0, _, _, _, _ => none
  | k + 1, x0, x3, x4, x5 => if x5 < (x0.length : Int) then (if 0 ≤ x5 then (if 0 ≤ x4 then (if x4 < (x0.length : Int) then (if (rd x0 x5) = (rd x0 x4) then (redpenref10_Segs.l1 k x0 x3 x4 (wrap64 (x5 + 1))) else (if x3.length < 5864062014805 then (redpenref10_Segs.l0 k x0 (x3 ++ [(⟨rd x0 x4, (⟨x4, wrap64 (x5 - x4)⟩ : S53)⟩ : S55)]) x5) else (none))) else (none)) else (none)) else (none)) else (if 0 ≤ x4 then (if x4 < (x0.length : Int) then (if x3.length < 5864062014805 then (redpenref10_Segs.l0 k x0 (x3 ++ [(⟨rd x0 x4, (⟨x4, wrap64 (x5 - x4)⟩ : S53)⟩ : S55)]) x5) else (none)) else (none)) else (none))
end
def redpenref10_Segs.f (k : Nat) (l0 : List Int) : Option ((List (S55))) := redpenref10_Segs.l0 k l0 ([] : List (S55)) 0
theorem redpenref10_Segs.mono_l : ∀ k, (∀ y0 y1 y2, LeO (redpenref10_Segs.l0 k y0 y1 y2) (redpenref10_Segs.l0 (k + 1) y0 y1 y2)) ∧ (∀ y0 y1 y2 y3, LeO (redpenref10_Segs.l1 k y0 y1 y2 y3) (redpenref10_Segs.l1 (k + 1) y0 y1 y2 y3))
  | 0 => ⟨fun _ _ _ r h => by simp [redpenref10_Segs.l0] at h, fun _ _ _ _ r h => by simp [redpenref10_Segs.l1] at h⟩
  | k + 1 => by
    obtain ⟨ih0, ih1⟩ := redpenref10_Segs.mono_l k
    refine ⟨?_, ?_⟩
    · intro y0 y1 y2
      unfold redpenref10_Segs.l0
      repeat' first
      | (with_reducible exact ih0 _ _ _)
      | (with_reducible exact ih1 _ _ _ _)
      | (with_reducible exact LeO.refl _)
      | (with_reducible exact LeO.none _)
      | (with_reducible refine LeO.ite ?_ ?_)
      | (with_reducible refine LeO.bind ?_ (fun _ => ?_))
      | exact ih0 _ _ _
      | exact ih1 _ _ _ _
      | exact LeO.none _
      | refine LeO.ite ?_ ?_
      | refine LeO.bind ?_ (fun _ => ?_)
    · intro y0 y1 y2 y3
      unfold redpenref10_Segs.l1
      repeat' first
      | (with_reducible exact ih0 _ _ _)
      | (with_reducible exact ih1 _ _ _ _)
      | (with_reducible exact LeO.refl _)
      | (with_reducible exact LeO.none _)
      | (with_reducible refine LeO.ite ?_ ?_)
      | (with_reducible refine LeO.bind ?_ (fun _ => ?_))
      | exact ih0 _ _ _
      | exact ih1 _ _ _ _
      | exact LeO.none _
      | refine LeO.ite ?_ ?_
      | refine LeO.bind ?_ (fun _ => ?_)
theorem redpenref10_Segs.mono : ∀ a0 k, LeO (redpenref10_Segs.f k a0) (redpenref10_Segs.f (k + 1) a0) := by
  intro a0 k
  obtain ⟨ih0, ih1⟩ := redpenref10_Segs.mono_l k
  unfold redpenref10_Segs.f
  repeat' first
      | (with_reducible exact ih0 _ _ _)
      | (with_reducible exact ih1 _ _ _ _)
      | (with_reducible exact LeO.refl _)
      | (with_reducible exact LeO.none _)
      | (with_reducible refine LeO.ite ?_ ?_)
      | (with_reducible refine LeO.bind ?_ (fun _ => ?_))
      | exact ih0 _ _ _
      | exact ih1 _ _ _ _
      | exact LeO.none _
      | refine LeO.ite ?_ ?_
      | refine LeO.bind ?_ (fun _ => ?_)
set_option maxHeartbeats 8000000 in
set_option maxRecDepth 100000 in
theorem redpenref10_Segs.calls (k : Nat) (A0 : Option Addr) (c0 : Nat) (l0 : List Int) (r : List (S55)) (w : World) (hr0 : Kd.C (Kd.int .u8) w A0 l0.length l0) (hc0 : l0.length ≤ c0) (h : redpenref10_Segs.f k l0 = some r) :
    Calls Tryd.prog 16 #[.slice A0 l0.length c0] w fun e w' => ∃ v0_ : Value, e = .returned (v0_) ∧ Kd.R k55 55 w' w.heap.size (fun _ => True) v0_ r ∧ Below w.heap.size w w' := by
  have hu53 := Tryd.underlying53
  have hu55 := Tryd.underlying55
  have HR0 := Aside0.mk hr0
  have HC0 := Aside0.mk hc0
  clear hr0 hc0
  have HB := Aside0.mk (Below.refl w.heap.size w)
  have H : (redpenref10_Segs.l0 k l0 ([] : List (S55)) 0) = some r := h
  clear h
  have H' := Aside0.mk H
  clear H
  go_enter Tryd.func16, Tryd.ntmps16
  go_wp2
  repeat (go_quiet (fail); try go_wp2)
  go_loopg [3, 4] k (fun kq v3 v4 w' => ∃ (x3_1 : List (S55)) (x4_1 : Int), v4 = .int .i64 x4_1 ∧ Aside0 (redpenref10_Segs.l0 kq l0 x3_1 x4_1 = some r) ∧ Aside0 (kq ≤ k) ∧ Aside0 (Kd.R k55 55 w' w.heap.size (fun _ => True) v3 x3_1) ∧ Aside0 (Below w.heap.size w w'))
  case atStart => exact ⟨(([] : List (S55))), (0), (by first | rfl | (simp; done) | (simp [*]; done)), H', ⟨Nat.le_refl _⟩, ⟨by first | exact Kd.R_nil _ _ _ _ _ | exact Kd.N_nil _ _ _ _ _ | exact Kd.V_nil _ _ _ _ _ | exact Kd.Q_nil _ _ _ _ _ | exact Kd.S_nil _ _ _ _ _⟩, ⟨by repeat (first | (with_reducible first | exact HB.out | apply below_alloc | apply pw_below_drewN | apply below_drew1) | exact HB.out)⟩⟩
  case round =>
    clear H'
    try clear c1
    obtain ⟨x3_1, x4_1, rfl, HA, HK1, HO_3, HB⟩ := hrel
    cases gk with
    | zero => exact absurd HA.out (by simp [redpenref10_Segs.l0])
    | succ k1 =>
      have H := HA.out
      clear HA
      simp only [redpenref10_Segs.l0] at H
      by_cases c2 : x4_1 < (l0.length : Int)
      · rw [if_pos c2] at H
        have c2b0 : decide (x4_1 < (l0.length : Int)) = true := decide_eq_true c2
        clear c2
        have H' := Aside0.mk H
        clear H
        go_wp2
        repeat (go_quiet (fail); try go_wp2)
        go_loopg [5] k1 (fun kq v5 w' => ∃ (x5_2 : Int), v5 = .int .i64 x5_2 ∧ Aside0 (redpenref10_Segs.l1 kq l0 x3_1 x4_1 x5_2 = some r) ∧ Aside0 (kq ≤ k1) ∧ Aside0 (Kd.R k55 55 w' w.heap.size (fun _ => True) u3 x3_1) ∧ Aside0 (Below w.heap.size w w'))
        case atStart => exact ⟨(x4_1), (by first | rfl | (simp; done) | (simp [*]; done)), H', ⟨Nat.le_refl _⟩, ⟨by (with_reducible repeat (first | apply Kd.R_alloc | apply Kd.R_drewN | apply Kd.R_drew)); exact HO_3.out⟩, ⟨by repeat (first | (with_reducible first | exact HB.out | apply below_alloc | apply pw_below_drewN | apply below_drew1) | exact HB.out)⟩⟩
        case round =>
          clear H'
          try clear c1
          try clear c2
          try clear c2b0
          try clear p2
          obtain ⟨x5_2, rfl, HA, HK2, HO_3, HB⟩ := hrel
          cases gk with
          | zero => exact absurd HA.out (by simp [redpenref10_Segs.l1])
          | succ k2 =>
            have H := HA.out
            clear HA
            simp only [redpenref10_Segs.l1] at H
            by_cases c3 : x5_2 < (l0.length : Int)
            · rw [if_pos c3] at H
              have c3b0 : decide (x5_2 < (l0.length : Int)) = true := decide_eq_true c3
              clear c3
              by_cases c4 : 0 ≤ x5_2
              · rw [if_pos c4] at H
                have c4b0 : decide (0 ≤ x5_2) = true := decide_eq_true c4
                clear c4
                by_cases c5 : 0 ≤ x4_1
                · rw [if_pos c5] at H
                  have c5b0 : decide (0 ≤ x4_1) = true := decide_eq_true c5
                  clear c5
                  by_cases c6 : x4_1 < (l0.length : Int)
                  · rw [if_pos c6] at H
                    have c6b0 : decide (x4_1 < (l0.length : Int)) = true := decide_eq_true c6
                    clear c6
                    by_cases c7 : (rd l0 x5_2) = (rd l0 x4_1)
                    · rw [if_pos c7] at H
                      have c7b0 : ((rd l0 x5_2) == (rd l0 x4_1)) = true := beq_iff_eq.mpr c7
                      have c7b1 : ((rd l0 x5_2) != (rd l0 x4_1)) = false := bne_eq_false_iff_eq.mpr c7
                      clear c7
                      have H' := Aside0.mk H
                      clear H
                      have p101 : 0 ≤ (x5_2 : Int) := of_decide_eq_true (by first | (with_reducible assumption) | assumption)
                      have q101 : x5_2 < (l0.length : Int) := of_decide_eq_true (by first | (with_reducible assumption) | assumption)
                      obtain ⟨ad101, e101, hx101_0⟩ := Kd.at_int HR0.out x5_2 p101 q101
                      cases e101
                      replace hx101_0 := (HB.out.cell (World.block_lt_of_cell? w _ hx101_0)).trans hx101_0
                      replace p101 := eq_true p101
                      replace q101 := eq_true q101
                      have p102 : 0 ≤ (x4_1 : Int) := of_decide_eq_true (by first | (with_reducible assumption) | assumption)
                      have q102 : x4_1 < (l0.length : Int) := of_decide_eq_true (by first | (with_reducible assumption) | assumption)
                      obtain ⟨ad102, e102, hx102_0⟩ := Kd.at_int HR0.out x4_1 p102 q102
                      obtain rfl : ad101 = ad102 := (by injection e102)
                      replace hx102_0 := (HB.out.cell (World.block_lt_of_cell? w _ hx102_0)).trans hx102_0
                      replace p102 := eq_true p102
                      replace q102 := eq_true q102
                      go_wp2
                      repeat (go_quiet (fail); try go_wp2)
                      go_roundg k2
                      case measure => have := HK1.out; have := HK2.out; omega
                      case rel => exact ⟨(wrap64 (x5_2 + 1)), (by first | rfl | (simp; done) | (simp [*]; done)), H', ⟨by have := HK1.out; have := HK2.out; omega⟩, ⟨by (with_reducible repeat (first | apply Kd.R_alloc | apply Kd.R_drewN | apply Kd.R_drew)); exact HO_3.out⟩, ⟨by repeat (first | (with_reducible first | exact HB.out | apply below_alloc | apply pw_below_drewN | apply below_drew1) | exact HB.out)⟩⟩
                    · rw [if_neg c7] at H
                      have c7b0 : ((rd l0 x5_2) == (rd l0 x4_1)) = false := beq_eq_false_iff_ne.mpr c7
                      have c7b1 : ((rd l0 x5_2) != (rd l0 x4_1)) = true := bne_iff_ne.mpr c7
                      by_cases c8 : x3_1.length < 5864062014805
                      · rw [if_pos c8] at H
                        have LMc8 := Aside0.mk c8
                        clear c8
                        obtain ⟨y104, hy104⟩ : ∃ y_ : List (S55), y_ = (x3_1 ++ [(⟨rd l0 x4_1, (⟨x4_1, wrap64 (x5_2 - x4_1)⟩ : S53)⟩ : S55)]) := ⟨_, rfl⟩
                        replace H : (redpenref10_Segs.l0 k2 l0 y104 x5_2) = some r := by first | (rw [hy104]; with_reducible exact H) | (have H2_ := (Option.bind_some _ _).symm.trans H; rw [hy104]; with_reducible exact H2_) | (have H2_ := (Option.bind_some _ _).symm.trans H; with_reducible exact H2_) | with_reducible exact H | (rw [hy104]; exact H) | exact H
                        have Ny104 := Aside0.mk hy104
                        clear hy104
                        have H' := Aside0.mk H
                        clear H
                        have p101 : 0 ≤ (x5_2 : Int) := of_decide_eq_true (by first | (with_reducible assumption) | assumption)
                        have q101 : x5_2 < (l0.length : Int) := of_decide_eq_true (by first | (with_reducible assumption) | assumption)
                        obtain ⟨ad101, e101, hx101_0⟩ := Kd.at_int HR0.out x5_2 p101 q101
                        cases e101
                        replace hx101_0 := (HB.out.cell (World.block_lt_of_cell? w _ hx101_0)).trans hx101_0
                        replace p101 := eq_true p101
                        replace q101 := eq_true q101
                        have p102 : 0 ≤ (x4_1 : Int) := of_decide_eq_true (by first | (with_reducible assumption) | assumption)
                        have q102 : x4_1 < (l0.length : Int) := of_decide_eq_true (by first | (with_reducible assumption) | assumption)
                        obtain ⟨ad102, e102, hx102_0⟩ := Kd.at_int HR0.out x4_1 p102 q102
                        obtain rfl : ad101 = ad102 := (by injection e102)
                        replace hx102_0 := (HB.out.cell (World.block_lt_of_cell? w _ hx102_0)).trans hx102_0
                        replace p102 := eq_true p102
                        replace q102 := eq_true q102
                        have p103 : 0 ≤ (x4_1 : Int) := of_decide_eq_true (by first | (with_reducible assumption) | assumption)
                        have q103 : x4_1 < (l0.length : Int) := of_decide_eq_true (by first | (with_reducible assumption) | assumption)
                        obtain ⟨ad103, e103, hx103_0⟩ := Kd.at_int HR0.out x4_1 p103 q103
                        obtain rfl : ad101 = ad103 := (by injection e103)
                        replace hx103_0 := (HB.out.cell (World.block_lt_of_cell? w _ hx103_0)).trans hx103_0
                        replace p103 := eq_true p103
                        replace q103 := eq_true q103
                        go_wp2_with (first | ((with_reducible refine gate_builtin (b := .append) (xs := #[.tmp 28, .tmp 39]) rfl ?_); at_builtin; refine Kd.R_append k55 (w0 := w) w.heap.size rfl (.tmp 28) (.tmp 39) 36 55 (.agg #[(.int .u8 0), (.int .i64 0), (.int .i64 0)]) 24 rfl Tryd.underlying36 info55 rfl (by decide) (by omega) u3 x3_1 (⟨rd l0 x4_1, (⟨x4_1, wrap64 (x5_2 - x4_1)⟩ : S53)⟩ : S55) [.int .u8 (rd l0 x4_1), .int .i64 x4_1, .int .i64 (wrap64 (x5_2 - x4_1))] (fun _ => True) (fun _ => False) rfl rfl ?aP (fun _ hk => hk.elim) ?aF ?aO ?aB ?aS ?aL ?_; (case aP => exact k55_mkM _ _ _ (⟨rd l0 x4_1, (⟨x4_1, wrap64 (x5_2 - x4_1)⟩ : S53)⟩ : S55)); (case aB => exact (by repeat (first | (with_reducible first | exact HB.out | apply below_alloc | apply pw_below_drewN | apply below_drew1) | exact HB.out))); (case aF => exact (fun _ _ => trivial)); (case aO => exact (by (with_reducible repeat (first | apply Kd.R_alloc | apply Kd.R_drewN | apply Kd.R_drew)); exact HO_3.out)); (case aS => exact (below_size (by repeat (first | (with_reducible first | exact HB.out | apply below_alloc | apply pw_below_drewN | apply below_drew1) | exact HB.out)))); (case aL => have := LMc8.out; omega); intro v105 w9 ho hb hg hat; rw [← Ny104.out] at ho; have n0_ := Aside0.mk (hb); have n1_ := Aside0.mk (ho); clear HB; clear HO_3; have HB := n0_; have HO106 := n1_; clear n0_ n1_; clear ho hb hg hat))
                        repeat (go_quiet (first | ((with_reducible refine gate_builtin (b := .append) (xs := #[.tmp 28, .tmp 39]) rfl ?_); at_builtin; refine Kd.R_append k55 (w0 := w) w.heap.size rfl (.tmp 28) (.tmp 39) 36 55 (.agg #[(.int .u8 0), (.int .i64 0), (.int .i64 0)]) 24 rfl Tryd.underlying36 info55 rfl (by decide) (by omega) u3 x3_1 (⟨rd l0 x4_1, (⟨x4_1, wrap64 (x5_2 - x4_1)⟩ : S53)⟩ : S55) [.int .u8 (rd l0 x4_1), .int .i64 x4_1, .int .i64 (wrap64 (x5_2 - x4_1))] (fun _ => True) (fun _ => False) rfl rfl ?aP (fun _ hk => hk.elim) ?aF ?aO ?aB ?aS ?aL ?_; (case aP => exact k55_mkM _ _ _ (⟨rd l0 x4_1, (⟨x4_1, wrap64 (x5_2 - x4_1)⟩ : S53)⟩ : S55)); (case aB => exact (by repeat (first | (with_reducible first | exact HB.out | apply below_alloc | apply pw_below_drewN | apply below_drew1) | exact HB.out))); (case aF => exact (fun _ _ => trivial)); (case aO => exact (by (with_reducible repeat (first | apply Kd.R_alloc | apply Kd.R_drewN | apply Kd.R_drew)); exact HO_3.out)); (case aS => exact (below_size (by repeat (first | (with_reducible first | exact HB.out | apply below_alloc | apply pw_below_drewN | apply below_drew1) | exact HB.out)))); (case aL => have := LMc8.out; omega); intro v105 w9 ho hb hg hat; rw [← Ny104.out] at ho; have n0_ := Aside0.mk (hb); have n1_ := Aside0.mk (ho); clear HB; clear HO_3; have HB := n0_; have HO106 := n1_; clear n0_ n1_; clear ho hb hg hat)); try go_wp2_with (first | ((with_reducible refine gate_builtin (b := .append) (xs := #[.tmp 28, .tmp 39]) rfl ?_); at_builtin; refine Kd.R_append k55 (w0 := w) w.heap.size rfl (.tmp 28) (.tmp 39) 36 55 (.agg #[(.int .u8 0), (.int .i64 0), (.int .i64 0)]) 24 rfl Tryd.underlying36 info55 rfl (by decide) (by omega) u3 x3_1 (⟨rd l0 x4_1, (⟨x4_1, wrap64 (x5_2 - x4_1)⟩ : S53)⟩ : S55) [.int .u8 (rd l0 x4_1), .int .i64 x4_1, .int .i64 (wrap64 (x5_2 - x4_1))] (fun _ => True) (fun _ => False) rfl rfl ?aP (fun _ hk => hk.elim) ?aF ?aO ?aB ?aS ?aL ?_; (case aP => exact k55_mkM _ _ _ (⟨rd l0 x4_1, (⟨x4_1, wrap64 (x5_2 - x4_1)⟩ : S53)⟩ : S55)); (case aB => exact (by repeat (first | (with_reducible first | exact HB.out | apply below_alloc | apply pw_below_drewN | apply below_drew1) | exact HB.out))); (case aF => exact (fun _ _ => trivial)); (case aO => exact (by (with_reducible repeat (first | apply Kd.R_alloc | apply Kd.R_drewN | apply Kd.R_drew)); exact HO_3.out)); (case aS => exact (below_size (by repeat (first | (with_reducible first | exact HB.out | apply below_alloc | apply pw_below_drewN | apply below_drew1) | exact HB.out)))); (case aL => have := LMc8.out; omega); intro v105 w9 ho hb hg hat; rw [← Ny104.out] at ho; have n0_ := Aside0.mk (hb); have n1_ := Aside0.mk (ho); clear HB; clear HO_3; have HB := n0_; have HO106 := n1_; clear n0_ n1_; clear ho hb hg hat)))
                        go_roundg k2
                        case measure => have := HK1.out; have := HK2.out; omega
                        case rel => exact ⟨(y104), (x5_2), (by first | rfl | (simp; done) | (simp [*]; done)), H', ⟨by have := HK1.out; have := HK2.out; omega⟩, ⟨by (with_reducible repeat (first | apply Kd.R_alloc | apply Kd.R_drewN | apply Kd.R_drew)); exact HO106.out⟩, ⟨by repeat (first | (with_reducible first | exact HB.out | apply below_alloc | apply pw_below_drewN | apply below_drew1) | exact HB.out)⟩⟩
                      · rw [if_neg c8] at H
                        exact absurd H (by simp)
                  · rw [if_neg c6] at H
                    exact absurd H (by simp)
                · rw [if_neg c5] at H
                  exact absurd H (by simp)
              · rw [if_neg c4] at H
                exact absurd H (by simp)
            · rw [if_neg c3] at H
              have c3b0 : decide (x5_2 < (l0.length : Int)) = false := decide_eq_false c3
              clear c3
              by_cases c10 : 0 ≤ x4_1
              · rw [if_pos c10] at H
                have c10b0 : decide (0 ≤ x4_1) = true := decide_eq_true c10
                clear c10
                by_cases c11 : x4_1 < (l0.length : Int)
                · rw [if_pos c11] at H
                  have c11b0 : decide (x4_1 < (l0.length : Int)) = true := decide_eq_true c11
                  clear c11
                  by_cases c12 : x3_1.length < 5864062014805
                  · rw [if_pos c12] at H
                    have LMc12 := Aside0.mk c12
                    clear c12
                    obtain ⟨y108, hy108⟩ : ∃ y_ : List (S55), y_ = (x3_1 ++ [(⟨rd l0 x4_1, (⟨x4_1, wrap64 (x5_2 - x4_1)⟩ : S53)⟩ : S55)]) := ⟨_, rfl⟩
                    replace H : (redpenref10_Segs.l0 k2 l0 y108 x5_2) = some r := by first | (rw [hy108]; with_reducible exact H) | (have H2_ := (Option.bind_some _ _).symm.trans H; rw [hy108]; with_reducible exact H2_) | (have H2_ := (Option.bind_some _ _).symm.trans H; with_reducible exact H2_) | with_reducible exact H | (rw [hy108]; exact H) | exact H
                    have Ny108 := Aside0.mk hy108
                    clear hy108
                    have H' := Aside0.mk H
                    clear H
                    have p107 : 0 ≤ (x4_1 : Int) := of_decide_eq_true (by first | (with_reducible assumption) | assumption)
                    have q107 : x4_1 < (l0.length : Int) := of_decide_eq_true (by first | (with_reducible assumption) | assumption)
                    obtain ⟨ad107, e107, hx107_0⟩ := Kd.at_int HR0.out x4_1 p107 q107
                    cases e107
                    replace hx107_0 := (HB.out.cell (World.block_lt_of_cell? w _ hx107_0)).trans hx107_0
                    replace p107 := eq_true p107
                    replace q107 := eq_true q107
                    go_wp2_with (first | ((with_reducible refine gate_builtin (b := .append) (xs := #[.tmp 28, .tmp 39]) rfl ?_); at_builtin; refine Kd.R_append k55 (w0 := w) w.heap.size rfl (.tmp 28) (.tmp 39) 36 55 (.agg #[(.int .u8 0), (.int .i64 0), (.int .i64 0)]) 24 rfl Tryd.underlying36 info55 rfl (by decide) (by omega) u3 x3_1 (⟨rd l0 x4_1, (⟨x4_1, wrap64 (x5_2 - x4_1)⟩ : S53)⟩ : S55) [.int .u8 (rd l0 x4_1), .int .i64 x4_1, .int .i64 (wrap64 (x5_2 - x4_1))] (fun _ => True) (fun _ => False) rfl rfl ?aP (fun _ hk => hk.elim) ?aF ?aO ?aB ?aS ?aL ?_; (case aP => exact k55_mkM _ _ _ (⟨rd l0 x4_1, (⟨x4_1, wrap64 (x5_2 - x4_1)⟩ : S53)⟩ : S55)); (case aB => exact (by repeat (first | (with_reducible first | exact HB.out | apply below_alloc | apply pw_below_drewN | apply below_drew1) | exact HB.out))); (case aF => exact (fun _ _ => trivial)); (case aO => exact (by (with_reducible repeat (first | apply Kd.R_alloc | apply Kd.R_drewN | apply Kd.R_drew)); exact HO_3.out)); (case aS => exact (below_size (by repeat (first | (with_reducible first | exact HB.out | apply below_alloc | apply pw_below_drewN | apply below_drew1) | exact HB.out)))); (case aL => have := LMc12.out; omega); intro v109 w13 ho hb hg hat; rw [← Ny108.out] at ho; have n0_ := Aside0.mk (hb); have n1_ := Aside0.mk (ho); clear HB; clear HO_3; have HB := n0_; have HO110 := n1_; clear n0_ n1_; clear ho hb hg hat))
                    repeat (go_quiet (first | ((with_reducible refine gate_builtin (b := .append) (xs := #[.tmp 28, .tmp 39]) rfl ?_); at_builtin; refine Kd.R_append k55 (w0 := w) w.heap.size rfl (.tmp 28) (.tmp 39) 36 55 (.agg #[(.int .u8 0), (.int .i64 0), (.int .i64 0)]) 24 rfl Tryd.underlying36 info55 rfl (by decide) (by omega) u3 x3_1 (⟨rd l0 x4_1, (⟨x4_1, wrap64 (x5_2 - x4_1)⟩ : S53)⟩ : S55) [.int .u8 (rd l0 x4_1), .int .i64 x4_1, .int .i64 (wrap64 (x5_2 - x4_1))] (fun _ => True) (fun _ => False) rfl rfl ?aP (fun _ hk => hk.elim) ?aF ?aO ?aB ?aS ?aL ?_; (case aP => exact k55_mkM _ _ _ (⟨rd l0 x4_1, (⟨x4_1, wrap64 (x5_2 - x4_1)⟩ : S53)⟩ : S55)); (case aB => exact (by repeat (first | (with_reducible first | exact HB.out | apply below_alloc | apply pw_below_drewN | apply below_drew1) | exact HB.out))); (case aF => exact (fun _ _ => trivial)); (case aO => exact (by (with_reducible repeat (first | apply Kd.R_alloc | apply Kd.R_drewN | apply Kd.R_drew)); exact HO_3.out)); (case aS => exact (below_size (by repeat (first | (with_reducible first | exact HB.out | apply below_alloc | apply pw_below_drewN | apply below_drew1) | exact HB.out)))); (case aL => have := LMc12.out; omega); intro v109 w13 ho hb hg hat; rw [← Ny108.out] at ho; have n0_ := Aside0.mk (hb); have n1_ := Aside0.mk (ho); clear HB; clear HO_3; have HB := n0_; have HO110 := n1_; clear n0_ n1_; clear ho hb hg hat)); try go_wp2_with (first | ((with_reducible refine gate_builtin (b := .append) (xs := #[.tmp 28, .tmp 39]) rfl ?_); at_builtin; refine Kd.R_append k55 (w0 := w) w.heap.size rfl (.tmp 28) (.tmp 39) 36 55 (.agg #[(.int .u8 0), (.int .i64 0), (.int .i64 0)]) 24 rfl Tryd.underlying36 info55 rfl (by decide) (by omega) u3 x3_1 (⟨rd l0 x4_1, (⟨x4_1, wrap64 (x5_2 - x4_1)⟩ : S53)⟩ : S55) [.int .u8 (rd l0 x4_1), .int .i64 x4_1, .int .i64 (wrap64 (x5_2 - x4_1))] (fun _ => True) (fun _ => False) rfl rfl ?aP (fun _ hk => hk.elim) ?aF ?aO ?aB ?aS ?aL ?_; (case aP => exact k55_mkM _ _ _ (⟨rd l0 x4_1, (⟨x4_1, wrap64 (x5_2 - x4_1)⟩ : S53)⟩ : S55)); (case aB => exact (by repeat (first | (with_reducible first | exact HB.out | apply below_alloc | apply pw_below_drewN | apply below_drew1) | exact HB.out))); (case aF => exact (fun _ _ => trivial)); (case aO => exact (by (with_reducible repeat (first | apply Kd.R_alloc | apply Kd.R_drewN | apply Kd.R_drew)); exact HO_3.out)); (case aS => exact (below_size (by repeat (first | (with_reducible first | exact HB.out | apply below_alloc | apply pw_below_drewN | apply below_drew1) | exact HB.out)))); (case aL => have := LMc12.out; omega); intro v109 w13 ho hb hg hat; rw [← Ny108.out] at ho; have n0_ := Aside0.mk (hb); have n1_ := Aside0.mk (ho); clear HB; clear HO_3; have HB := n0_; have HO110 := n1_; clear n0_ n1_; clear ho hb hg hat)))
                    go_roundg k2
                    case measure => have := HK1.out; have := HK2.out; omega
                    case rel => exact ⟨(y108), (x5_2), (by first | rfl | (simp; done) | (simp [*]; done)), H', ⟨by have := HK1.out; have := HK2.out; omega⟩, ⟨by (with_reducible repeat (first | apply Kd.R_alloc | apply Kd.R_drewN | apply Kd.R_drew)); exact HO110.out⟩, ⟨by repeat (first | (with_reducible first | exact HB.out | apply below_alloc | apply pw_below_drewN | apply below_drew1) | exact HB.out)⟩⟩
                  · rw [if_neg c12] at H
                    exact absurd H (by simp)
                · rw [if_neg c11] at H
                  exact absurd H (by simp)
              · rw [if_neg c10] at H
                exact absurd H (by simp)
      · rw [if_neg c2] at H
        have c2b0 : decide (x4_1 < (l0.length : Int)) = false := decide_eq_false c2
        clear c2
        obtain rfl := Option.some.inj H
        go_wp2
        repeat (go_quiet (fail); try go_wp2)
        go_ret
        exact ⟨_, by first | rfl | (simp [errW_none, errW_some] <;> rfl) | (simp [*, errW_none, errW_some] <;> rfl), by (with_reducible repeat (first | apply Kd.R_alloc | apply Kd.R_drewN | apply Kd.R_drew)); exact HO_3.out, by repeat (first | (with_reducible first | exact HB.out | apply below_alloc | apply pw_below_drewN | apply below_drew1) | exact HB.out)⟩

end Go.Proofs.YtkicpaodcmepmaaDoor.PSegs

namespace Go.Proofs.YtkicpaodcmepmaaDoor.PSameSegs
open Go.RowKit Go.Proofs.YtkicpaodcmepmaaDoorW.PrintWords Go.Proofs.YtkicpaodcmepmaaDoorW.PrintLast Go.Proofs.YtkicpaodcmepmaaDoorW.PrintMore
attribute [local go_sem] max2_int min2_int max_two min_two max_three min_three max_four min_four   -- for this text's walks alone
set_option linter.unusedVariables false
set_option linter.unusedSimpArgs false



def errW : Option Int → Value
  | none => .nilIface
  | some c => .iface 0 (.int .i64 c)
theorem errW_none : errW none = .nilIface := rfl
theorem errW_some (c : Int) : errW (some c) = .iface 0 (.int .i64 c) := rfl

-- the values' own types
/-! #### struct type 53 -/
structure S53 where
  f0 : Int
  f1 : Int
def z53 : S53 := ⟨(0 : Int), (0 : Int)⟩
def k53 : Kd S53 := Kd.iso (Kd.pair (Kd.int .i64) (Kd.int .i64)) (fun x : S53 => (x.f0, x.f1))
theorem k53_open {w : World} {x : S53} {cs : List Value} (h : k53.K w x cs) : cs = [.int .i64 x.f0, .int .i64 x.f1] := by
  obtain ⟨_, _, rfl, rfl, rfl⟩ := h
  exact rfl
theorem k53_openM {w : World} {base : Nat} {ok : Nat → Prop} {x : S53} {cs : List Value} (h : k53.M w base ok x cs) : cs = [.int .i64 x.f0, .int .i64 x.f1] := by
  obtain ⟨_, _, rfl, rfl, rfl⟩ := h
  exact rfl
theorem k53_mk (w : World) (x : S53)  : k53.K w x [.int .i64 x.f0, .int .i64 x.f1] := ⟨[.int .i64 x.f0], [.int .i64 x.f1], rfl, rfl, rfl⟩
theorem k53_mkM (w : World) (base : Nat) (ok : Nat → Prop) (x : S53)  : k53.M w base ok x [.int .i64 x.f0, .int .i64 x.f1] := ⟨[.int .i64 x.f0], [.int .i64 x.f1], rfl, rfl, rfl⟩
def rd_T53 (xs : List S53) (i : Int) : S53 := xs.getD i.toNat z53
theorem at_T53 {w : World} {A : Option Addr} {n : Nat} {xs : List S53} (h : Kd.C k53 w A n xs) (i : Int) (h0 : 0 ≤ i) (h1 : i < n) : ∃ ad , A = some ad ∧ w.cell? (ad.add (i.toNat * 2)) = some (.int .i64 (rd_T53 xs i).f0) ∧ w.cell? ⟨(ad.add (i.toNat * 2)).block, (ad.add (i.toNat * 2)).off + 1, none⟩ = some (.int .i64 (rd_T53 xs i).f1) := by
  obtain ⟨ad, c, e, _, hK, hc0⟩ := Kd.C_get h z53 i h0 h1
  have hc : ∀ j u, c[j]? = some u → w.cell? (ad.add (i.toNat * 2 + j)) = some u := hc0
  obtain rfl := k53_open hK
  exact ⟨ad, e, hc 0 _ rfl, by rw [← add_field _ _ 1 (by omega)]; exact hc 1 _ rfl⟩

/-! #### struct type 55 -/
structure S55 where
  f0 : Int
  f1 : S53
def z55 : S55 := ⟨(0 : Int), z53⟩
def k55 : Kd S55 := Kd.iso (Kd.pair (Kd.int .u8) k53) (fun x : S55 => (x.f0, x.f1))
theorem k55_open {w : World} {x : S55} {cs : List Value} (h : k55.K w x cs) : cs = [.int .u8 x.f0, .int .i64 x.f1.f0, .int .i64 x.f1.f1] := by
  obtain ⟨_, _, rfl, rfl, s1⟩ := h
  obtain rfl := k53_open s1
  exact rfl
theorem k55_openM {w : World} {base : Nat} {ok : Nat → Prop} {x : S55} {cs : List Value} (h : k55.M w base ok x cs) : cs = [.int .u8 x.f0, .int .i64 x.f1.f0, .int .i64 x.f1.f1] := by
  obtain ⟨_, _, rfl, rfl, s1⟩ := h
  obtain rfl := k53_openM s1
  exact rfl
theorem k55_mk (w : World) (x : S55)  : k55.K w x [.int .u8 x.f0, .int .i64 x.f1.f0, .int .i64 x.f1.f1] := ⟨[.int .u8 x.f0], [.int .i64 x.f1.f0, .int .i64 x.f1.f1], rfl, rfl, (k53_mk w x.f1 )⟩
theorem k55_mkM (w : World) (base : Nat) (ok : Nat → Prop) (x : S55)  : k55.M w base ok x [.int .u8 x.f0, .int .i64 x.f1.f0, .int .i64 x.f1.f1] := ⟨[.int .u8 x.f0], [.int .i64 x.f1.f0, .int .i64 x.f1.f1], rfl, rfl, (k53_mkM w base ok x.f1 )⟩
def rd_T55 (xs : List S55) (i : Int) : S55 := xs.getD i.toNat z55
theorem at_T55 {w : World} {A : Option Addr} {n : Nat} {xs : List S55} (h : Kd.C k55 w A n xs) (i : Int) (h0 : 0 ≤ i) (h1 : i < n) : ∃ ad , A = some ad ∧ w.cell? (ad.add (i.toNat * 3)) = some (.int .u8 (rd_T55 xs i).f0) ∧ w.cell? ⟨(ad.add (i.toNat * 3)).block, (ad.add (i.toNat * 3)).off + 1, none⟩ = some (.int .i64 (rd_T55 xs i).f1.f0) ∧ w.cell? ⟨(ad.add (i.toNat * 3)).block, (ad.add (i.toNat * 3)).off + 2, none⟩ = some (.int .i64 (rd_T55 xs i).f1.f1) := by
  obtain ⟨ad, c, e, _, hK, hc0⟩ := Kd.C_get h z55 i h0 h1
  have hc : ∀ j u, c[j]? = some u → w.cell? (ad.add (i.toNat * 3 + j)) = some u := hc0
  obtain rfl := k55_open hK
  exact ⟨ad, e, hc 0 _ rfl, by rw [← add_field _ _ 1 (by omega)]; exact hc 1 _ rfl, by rw [← add_field _ _ 2 (by omega)]; exact hc 2 _ rfl⟩

end Go.Proofs.YtkicpaodcmepmaaDoor.PSameSegs

namespace Go.Proofs.YtkicpaodcmepmaaDoor.PSameSegs
open Go.RowKit Go.Proofs.YtkicpaodcmepmaaDoorW.PrintWords Go.Proofs.YtkicpaodcmepmaaDoorW.PrintLast Go.Proofs.YtkicpaodcmepmaaDoorW.PrintMore
attribute [local go_sem] max2_int min2_int max_two min_two max_three min_three max_four min_four   -- for this text's walks alone
set_option linter.unusedVariables false
set_option linter.unusedSimpArgs false

theorem eqA53 (d : Nat) (w : World) (x0 y0 : Int) (x1 y1 : Int) :
    (Op.equalIn (d + 2) 53 (.agg #[.int .i64 x0, .int .i64 x1]) (.agg #[.int .i64 y0, .int .i64 y1])).run Tryd.prog w = .ok (x0 == y0 && (x1 == y1)) w := by
  refine eqA_of Tryd.underlying53 (by kernel_rfl) ?_
  refine eqf_cons (by rfl) (by go_simp; rfl) (by go_simp; rfl) (by go_simp) ?_
  exact eqf_last (by rfl) (by go_simp; rfl) (by go_simp; rfl) (by go_simp)
theorem eqA55 (d : Nat) (w : World) (x0 y0 : Int) (x1 y1 : Int) (x2 y2 : Int) :
    (Op.equalIn (d + 3) 55 (.agg #[.int .u8 x0, .int .i64 x1, .int .i64 x2]) (.agg #[.int .u8 y0, .int .i64 y1, .int .i64 y2])).run Tryd.prog w = .ok (x0 == y0 && ((x1 == y1 && (x2 == y2)))) w := by
  refine eqA_of Tryd.underlying55 (by kernel_rfl) ?_
  refine eqf_cons (by rfl) (by go_simp; rfl) (by go_simp; rfl) (by go_simp) ?_
  exact eqf_last (by rfl) (by go_simp) (by go_simp) (eqA53 (d + 0) w _ _ _ _)
end Go.Proofs.YtkicpaodcmepmaaDoor.PSameSegs

namespace Go.Proofs.YtkicpaodcmepmaaDoor.PSameSegs
open Go.RowKit Go.Proofs.YtkicpaodcmepmaaDoorW.PrintWords Go.Proofs.YtkicpaodcmepmaaDoorW.PrintLast Go.Proofs.YtkicpaodcmepmaaDoorW.PrintMore
attribute [local go_sem] max2_int min2_int max_two min_two max_three min_three max_four min_four   -- for this text's walks alone
set_option linter.unusedVariables false
set_option linter.unusedSimpArgs false

attribute [local go_sem high] eqA55
/-! ### redpenref10_SameSegs: function 14 -/
def redpenref10_SameSegs.l0 : Nat → List (S55) → List (S55) → Int → Option (Bool)
  | 0, _, _, _ => none
  | k + 1, x0, x1, x5 => if x5 < (x0.length : Int) then (if 0 ≤ x5 then (if x5 < (x1.length : Int) then (if (!(((rd_T55 x0 x5).f0) == ((rd_T55 x1 x5).f0)) || ((!(((rd_T55 x0 x5).f1.f0) == ((rd_T55 x1 x5).f1.f0)) || (!(((rd_T55 x0 x5).f1.f1) == ((rd_T55 x1 x5).f1.f1)))))) = true then (some false) else (redpenref10_SameSegs.l0 k x0 x1 (wrap64 (x5 + 1)))) else (none)) else (none)) else (some true)
def redpenref10_SameSegs.f (k : Nat) (l0 : List (S55)) (l1 : List (S55)) : Option (Bool) := if (l0.length : Int) = (l1.length : Int) then (redpenref10_SameSegs.l0 k l0 l1 0) else (some false)
theorem redpenref10_SameSegs.mono_l : ∀ k, (∀ y0 y1 y2, LeO (redpenref10_SameSegs.l0 k y0 y1 y2) (redpenref10_SameSegs.l0 (k + 1) y0 y1 y2))
  | 0 => fun _ _ _ r h => by simp [redpenref10_SameSegs.l0] at h
  | k + 1 => by
    have ih0 := redpenref10_SameSegs.mono_l k
    · intro y0 y1 y2
      unfold redpenref10_SameSegs.l0
      repeat' first
      | (with_reducible exact ih0 _ _ _)
      | (with_reducible exact LeO.refl _)
      | (with_reducible exact LeO.none _)
      | (with_reducible refine LeO.ite ?_ ?_)
      | (with_reducible refine LeO.bind ?_ (fun _ => ?_))
      | exact ih0 _ _ _
      | exact LeO.none _
      | refine LeO.ite ?_ ?_
      | refine LeO.bind ?_ (fun _ => ?_)
theorem redpenref10_SameSegs.mono : ∀ a0 a1 k, LeO (redpenref10_SameSegs.f k a0 a1) (redpenref10_SameSegs.f (k + 1) a0 a1) := by
  intro a0 a1 k
  have ih0 := redpenref10_SameSegs.mono_l k
  unfold redpenref10_SameSegs.f
  repeat' first
      | (with_reducible exact ih0 _ _ _)
      | (with_reducible exact LeO.refl _)
      | (with_reducible exact LeO.none _)
      | (with_reducible refine LeO.ite ?_ ?_)
      | (with_reducible refine LeO.bind ?_ (fun _ => ?_))
      | exact ih0 _ _ _
      | exact LeO.none _
      | refine LeO.ite ?_ ?_
      | refine LeO.bind ?_ (fun _ => ?_)
set_option maxHeartbeats 8000000 in
set_option maxRecDepth 100000 in
theorem redpenref10_SameSegs.calls (k : Nat) (A0 : Option Addr) (c0 : Nat) (l0 : List (S55)) (A1 : Option Addr) (c1 : Nat) (l1 : List (S55)) (r : Bool) (w : World) (hr0 : Kd.C k55 w A0 l0.length l0) (hc0 : l0.length ≤ c0) (hr1 : Kd.C k55 w A1 l1.length l1) (hc1 : l1.length ≤ c1) (h : redpenref10_SameSegs.f k l0 l1 = some r) :
    Calls Tryd.prog 14 #[.slice A0 l0.length c0, .slice A1 l1.length c1] w fun e w' => e = .returned (.bool r) ∧ Drawn0 w w' := by
  have hu55 := Tryd.underlying55
  have HR0 := Aside0.mk hr0
  have HC0 := Aside0.mk hc0
  clear hr0 hc0
  have HR1 := Aside0.mk hr1
  have HC1 := Aside0.mk hc1
  clear hr1 hc1
  have H : (if (l0.length : Int) = (l1.length : Int) then (redpenref10_SameSegs.l0 k l0 l1 0) else (some false)) = some r := h
  clear h
  by_cases c3 : (l0.length : Int) = (l1.length : Int)
  · rw [if_pos c3] at H
    have c3b0 : ((l0.length : Int) == (l1.length : Int)) = true := beq_iff_eq.mpr c3
    have c3b1 : ((l0.length : Int) != (l1.length : Int)) = false := bne_eq_false_iff_eq.mpr c3
    have c3b2 : (l0.length == l1.length) = true := by first | simpa using c3 | (simp at c3 ⊢; omega)
    clear c3
    have H' := Aside0.mk H
    clear H
    go_enter Tryd.func14, Tryd.ntmps14
    go_wp2
    repeat (go_quiet (fail); try go_wp2)
    go_loopg [5] k (fun kq v5 w' => ∃ (x5_1 : Int), v5 = .int .i64 x5_1 ∧ Aside0 (redpenref10_SameSegs.l0 kq l0 l1 x5_1 = some r) ∧ Aside0 (kq ≤ k) ∧ Drawn0 w w')
    case atStart => exact ⟨(0), (by first | rfl | (simp; done) | (simp [*]; done)), H', ⟨Nat.le_refl _⟩, by repeat (first | exact Drawn0.refl _ | apply Drawn0.step)⟩
    case round =>
      clear H'
      try clear c1
      try clear p2
      try clear c3
      try clear c3b0
      try clear c3b1
      try clear c3b2
      obtain ⟨x5_1, rfl, HA, HK1, ⟨m1, rfl⟩⟩ := hrel
      cases gk with
      | zero => exact absurd HA.out (by simp [redpenref10_SameSegs.l0])
      | succ k1 =>
        have H := HA.out
        clear HA
        simp only [redpenref10_SameSegs.l0] at H
        by_cases c4 : x5_1 < (l0.length : Int)
        · rw [if_pos c4] at H
          have c4b0 : decide (x5_1 < (l0.length : Int)) = true := decide_eq_true c4
          clear c4
          by_cases c5 : 0 ≤ x5_1
          · rw [if_pos c5] at H
            have c5b0 : decide (0 ≤ x5_1) = true := decide_eq_true c5
            clear c5
            by_cases c6 : x5_1 < (l1.length : Int)
            · rw [if_pos c6] at H
              have c6b0 : decide (x5_1 < (l1.length : Int)) = true := decide_eq_true c6
              clear c6
              by_cases c7 : (!(((rd_T55 l0 x5_1).f0) == ((rd_T55 l1 x5_1).f0)) || ((!(((rd_T55 l0 x5_1).f1.f0) == ((rd_T55 l1 x5_1).f1.f0)) || (!(((rd_T55 l0 x5_1).f1.f1) == ((rd_T55 l1 x5_1).f1.f1)))))) = true
              · rw [if_pos c7] at H
                have c7b0 : (!(((rd_T55 l0 x5_1).f0) == ((rd_T55 l1 x5_1).f0)) || ((!(((rd_T55 l0 x5_1).f1.f0) == ((rd_T55 l1 x5_1).f1.f0)) || (!(((rd_T55 l0 x5_1).f1.f1) == ((rd_T55 l1 x5_1).f1.f1)))))) = true := c7
                clear c7
                obtain rfl := Option.some.inj H
                have p101 : 0 ≤ (x5_1 : Int) := of_decide_eq_true (by first | (with_reducible assumption) | assumption)
                have q101 : x5_1 < (l0.length : Int) := of_decide_eq_true (by first | (with_reducible assumption) | assumption)
                obtain ⟨ad101, e101, hx101_0, hx101_1, hx101_2⟩ := at_T55 HR0.out x5_1 p101 q101
                cases e101
                replace p101 := eq_true p101
                replace q101 := eq_true q101
                have p102 : 0 ≤ (x5_1 : Int) := of_decide_eq_true (by first | (with_reducible assumption) | assumption)
                have q102 : x5_1 < (l1.length : Int) := of_decide_eq_true (by first | (with_reducible assumption) | assumption)
                obtain ⟨ad102, e102, hx102_0, hx102_1, hx102_2⟩ := at_T55 HR1.out x5_1 p102 q102
                cases e102
                replace p102 := eq_true p102
                replace q102 := eq_true q102
                go_wp2
                repeat (go_quiet (fail); try go_wp2)
                go_ret
                exact ⟨by first | rfl | (simp; done) | (simp [*]; done), by repeat (first | exact Drawn0.refl _ | apply Drawn0.step)⟩
              · rw [if_neg c7] at H
                have c7b0 : (!(((rd_T55 l0 x5_1).f0) == ((rd_T55 l1 x5_1).f0)) || ((!(((rd_T55 l0 x5_1).f1.f0) == ((rd_T55 l1 x5_1).f1.f0)) || (!(((rd_T55 l0 x5_1).f1.f1) == ((rd_T55 l1 x5_1).f1.f1)))))) = false := by simpa using c7
                clear c7
                have H' := Aside0.mk H
                clear H
                have p101 : 0 ≤ (x5_1 : Int) := of_decide_eq_true (by first | (with_reducible assumption) | assumption)
                have q101 : x5_1 < (l0.length : Int) := of_decide_eq_true (by first | (with_reducible assumption) | assumption)
                obtain ⟨ad101, e101, hx101_0, hx101_1, hx101_2⟩ := at_T55 HR0.out x5_1 p101 q101
                cases e101
                replace p101 := eq_true p101
                replace q101 := eq_true q101
                have p102 : 0 ≤ (x5_1 : Int) := of_decide_eq_true (by first | (with_reducible assumption) | assumption)
                have q102 : x5_1 < (l1.length : Int) := of_decide_eq_true (by first | (with_reducible assumption) | assumption)
                obtain ⟨ad102, e102, hx102_0, hx102_1, hx102_2⟩ := at_T55 HR1.out x5_1 p102 q102
                cases e102
                replace p102 := eq_true p102
                replace q102 := eq_true q102
                go_wp2
                repeat (go_quiet (fail); try go_wp2)
                go_roundg k1
                case measure => have := HK1.out; omega
                case rel => exact ⟨(wrap64 (x5_1 + 1)), (by first | rfl | (simp; done) | (simp [*]; done)), H', ⟨by have := HK1.out; omega⟩, by repeat (first | exact Drawn0.refl _ | apply Drawn0.step)⟩
            · rw [if_neg c6] at H
              exact absurd H (by simp)
          · rw [if_neg c5] at H
            exact absurd H (by simp)
        · rw [if_neg c4] at H
          have c4b0 : decide (x5_1 < (l0.length : Int)) = false := decide_eq_false c4
          clear c4
          obtain rfl := Option.some.inj H
          go_wp2
          repeat (go_quiet (fail); try go_wp2)
          go_ret
          exact ⟨by first | rfl | (simp; done) | (simp [*]; done), by repeat (first | exact Drawn0.refl _ | apply Drawn0.step)⟩
  · rw [if_neg c3] at H
    have c3b0 : ((l0.length : Int) == (l1.length : Int)) = false := beq_eq_false_iff_ne.mpr c3
    have c3b1 : ((l0.length : Int) != (l1.length : Int)) = true := bne_iff_ne.mpr c3
    have c3b2 : (l0.length == l1.length) = false := by first | simpa using c3 | (simp at c3 ⊢; omega)
    obtain rfl := Option.some.inj H
    go_enter Tryd.func14, Tryd.ntmps14
    go_wp2
    repeat (go_quiet (fail); try go_wp2)
    go_ret
    exact ⟨by first | rfl | (simp; done) | (simp [*]; done), by repeat (first | exact Drawn0.refl _ | apply Drawn0.step)⟩

end Go.Proofs.YtkicpaodcmepmaaDoor.PSameSegs
