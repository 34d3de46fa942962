/- Several texts in one: PBitsx0 PBitsx1 Ppiecesx0 Ppiecesx1 PSegsx0 PSegsx1 PSameSegsx0 PSameSegsx1 PSameSegsx2 PSameTagx0 PSameTagx1 PSameTagx2 PHtmlx0 PHtmlx1 PHtmlx2. Conditions: as each lemma says. -/
import Derived.Test.YtcbibbdkjhkmoaaProg
import Derived.Below
import Derived.Deep.Draws
import Derived.Deep.AppendLies
import Derived.Maps.AppendAt
import Derived.OwnWalk
import Derived.Laws.BytesArg
import Derived.Laws.MakeOwn
import Derived.Laws.OwnMore
import Derived.Deep.OwnRows
import Derived.Tactics
import Derived.Lib.ConvBytes
import Derived.Laws.Slices
import Derived.WalkKit
import Derived.KernelRfl
import Derived.RowKit3
import Derived.Deep.LoopGhost
import Derived.Deep.QuietTactic
import Derived.BigQuiet
import Derived.WideLaws
import Derived.Deep.DeepCutAuto
import Derived.Deep.CutBlock
import Derived.Deep.RegionHeld3
import Derived.Laws.Rows
import Derived.Lib.AppendStr
import Derived.ArgAppend
import Derived.Laws.IdiomCopy
import Derived.OrdersHeld
import Derived.Laws.BitsLemmas
import Derived.RowKit
import Derived.Test.YtcbibbdkjhkmoaaWWords
import Derived.Test.YtcbibbdkjhkmoaaWLast
import Derived.Test.YtcbibbdkjhkmoaaWTab
import Derived.Test.YtcbibbdkjhkmoaaWFour
import Derived.Test.YtcbibbdkjhkmoaaWQPut
import Derived.Test.YtcbibbdkjhkmoaaWApart
import Derived.Test.YtcbibbdkjhkmoaaWArr
import Derived.Test.YtcbibbdkjhkmoaaWZeros
import Derived.Test.YtcbibbdkjhkmoaaWFoot
import Derived.Test.YtcbibbdkjhkmoaaWKept
import Derived.Test.YtcbibbdkjhkmoaaWShare
import Derived.Test.YtcbibbdkjhkmoaaWN
import Derived.Test.YtcbibbdkjhkmoaaWFootNe
import Derived.Test.YtcbibbdkjhkmoaaWAt
import Derived.Test.YtcbibbdkjhkmoaaWEqStruct
import Derived.Test.YtcbibbdkjhkmoaaWRepsOne
import Derived.Test.YtcbibbdkjhkmoaaWInv
import Derived.Test.YtcbibbdkjhkmoaaWInvWords
import Derived.Test.YtcbibbdkjhkmoaaWGuard
import Derived.Test.YtcbibbdkjhkmoaaWNEv
import Derived.Test.YtcbibbdkjhkmoaaWMore
namespace Go.Proofs.Ytcbibbdkjhkmoaa.PBits
open Go.RowKit Go.Proofs.YtcbibbdkjhkmoaaW.PrintWords Go.Proofs.YtcbibbdkjhkmoaaW.PrintLast Go.Proofs.YtcbibbdkjhkmoaaW.PrintMore
attribute [local go_sem] max2_int min2_int max_two min_two max_three min_three max_four min_four   -- for this text's walks alone
set_option linter.unusedVariables false
set_option linter.unusedSimpArgs false



def errW : Option Int → Value
  | none => .nilIface
  | some c => .iface 0 (.int .i64 c)
theorem errW_none : errW none = .nilIface := rfl
theorem errW_some (c : Int) : errW (some c) = .iface 0 (.int .i64 c) := rfl

theorem info5 : (Try.prog.info? 5).map (fun i => (i.zero, i.size, i.bytes)) = some (some (.int .u8 0), 1, 1) := by kernel_rfl
-- the values' own types

end Go.Proofs.Ytcbibbdkjhkmoaa.PBits

namespace Go.Proofs.Ytcbibbdkjhkmoaa.PBits
open Go.RowKit Go.Proofs.YtcbibbdkjhkmoaaW.PrintWords Go.Proofs.YtcbibbdkjhkmoaaW.PrintLast Go.Proofs.YtcbibbdkjhkmoaaW.PrintMore
attribute [local go_sem] max2_int min2_int max_two min_two max_three min_three max_four min_four   -- for this text's walks alone
set_option linter.unusedVariables false
set_option linter.unusedSimpArgs false

/-! ### redpenlaw11_Bits: function 10 -/
def redpenlaw11_Bits.l0 : Nat → List ByteArray → List Int → List Int → List Int → Int → Int → Option (List Int)
  | 0, _, _, _, _, _, _ => none
  | k + 1, x0, x2, x7, x11, x12, x13 => if x13 < x12 then (if 0 ≤ x13 then (if x13 < (x11.length : Int) then (if x13 ≥ 60 then (some x7) else (if (wrap64 (rd x11 x13)) < (x0.length : Int) then (if 0 ≤ (wrap64 (rd x11 x13)) then (if x7.length + (rdOf ByteArray.empty x0 (wrap64 (rd x11 x13))).size < 140737488355328 then (redpenlaw11_Bits.l0 k x0 x2 (x7 ++ bytesOf (rdOf ByteArray.empty x0 (wrap64 (rd x11 x13)))) x11 x12 (wrap64 (x13 + 1))) else (none)) else (none)) else (if (x2.length : Int) > 0 then (if (x2.length : Int) = 0 then (none) else (if 0 ≤ (Int.tmod (wrap64 (rd x11 x13)) (x2.length : Int)) then (if (Int.tmod (wrap64 (rd x11 x13)) (x2.length : Int)) < (x2.length : Int) then (if x7.length < 140737488355328 then (redpenlaw11_Bits.l0 k x0 x2 (x7 ++ [rd x2 (Int.tmod (wrap64 (rd x11 x13)) (x2.length : Int))]) x11 x12 (wrap64 (x13 + 1))) else (none)) else (none)) else (none))) else (redpenlaw11_Bits.l0 k x0 x2 x7 x11 x12 (wrap64 (x13 + 1)))))) else (none)) else (none)) else (some x7)
def redpenlaw11_Bits.f (k : Nat) (l0 : List ByteArray) (l1 : List Int) (l2 : List Int) : Option (List Int) := redpenlaw11_Bits.l0 k l0 l2 ([] : List Int) l1 (l1.length : Int) 0
theorem redpenlaw11_Bits.mono_l : ∀ k, (∀ y0 y1 y2 y3 y4 y5, LeO (redpenlaw11_Bits.l0 k y0 y1 y2 y3 y4 y5) (redpenlaw11_Bits.l0 (k + 1) y0 y1 y2 y3 y4 y5))
  | 0 => fun _ _ _ _ _ _ r h => by simp [redpenlaw11_Bits.l0] at h
  | k + 1 => by
    have ih0 := redpenlaw11_Bits.mono_l k
    · intro y0 y1 y2 y3 y4 y5
      unfold redpenlaw11_Bits.l0
      repeat' first
      | (with_reducible exact ih0 _ _ _ _ _ _)
      | (with_reducible exact LeO.refl _)
      | (with_reducible exact LeO.none _)
      | (with_reducible refine LeO.ite ?_ ?_)
      | (with_reducible refine LeO.bind ?_ (fun _ => ?_))
      | exact ih0 _ _ _ _ _ _
      | exact LeO.none _
      | refine LeO.ite ?_ ?_
      | refine LeO.bind ?_ (fun _ => ?_)
theorem redpenlaw11_Bits.mono : ∀ a0 a1 a2 k, LeO (redpenlaw11_Bits.f k a0 a1 a2) (redpenlaw11_Bits.f (k + 1) a0 a1 a2) := by
  intro a0 a1 a2 k
  have ih0 := redpenlaw11_Bits.mono_l k
  unfold redpenlaw11_Bits.f
  repeat' first
      | (with_reducible exact ih0 _ _ _ _ _ _)
      | (with_reducible exact LeO.refl _)
      | (with_reducible exact LeO.none _)
      | (with_reducible refine LeO.ite ?_ ?_)
      | (with_reducible refine LeO.bind ?_ (fun _ => ?_))
      | exact ih0 _ _ _ _ _ _
      | exact LeO.none _
      | refine LeO.ite ?_ ?_
      | refine LeO.bind ?_ (fun _ => ?_)
set_option maxHeartbeats 8000000 in
set_option maxRecDepth 100000 in
theorem redpenlaw11_Bits.calls (k : Nat) (A0 : Option Addr) (c0 : Nat) (l0 : List ByteArray) (A1 : Option Addr) (c1 : Nat) (l1 : List Int) (A2 : Option Addr) (c2 : Nat) (l2 : List Int) (r : List Int) (w : World) (hr0 : Kd.C Kd.string w A0 l0.length l0) (hc0 : l0.length ≤ c0) (hr1 : Kd.C (Kd.int .u8) w A1 l1.length l1) (hc1 : l1.length ≤ c1) (hr2 : Kd.C (Kd.int .u8) w A2 l2.length l2) (hc2 : l2.length ≤ c2) (h : redpenlaw11_Bits.f k l0 l1 l2 = some r) :
    Calls Try.prog 10 #[.slice A0 l0.length c0, .slice A1 l1.length c1, .slice A2 l2.length c2] w fun e w' => ∃ v0_ : Value, e = .returned (v0_) ∧ Kd.R (Kd.int .u8) 5 w' w.heap.size (fun _ => True) v0_ r ∧ Below w.heap.size w w' := by
  have HR0 := Aside0.mk hr0
  have HC0 := Aside0.mk hc0
  clear hr0 hc0
  have HR1 := Aside0.mk hr1
  have HC1 := Aside0.mk hc1
  clear hr1 hc1
  have HR2 := Aside0.mk hr2
  have HC2 := Aside0.mk hc2
  clear hr2 hc2
  have HB := Aside0.mk (Below.refl w.heap.size w)
  have H : (redpenlaw11_Bits.l0 k l0 l2 ([] : List Int) l1 (l1.length : Int) 0) = some r := h
  clear h
  have H' := Aside0.mk H
  clear H
  go_enter Try.func10, Try.ntmps10
  go_wp2
  go_loopg [7, 13] k (fun kq v7 v13 w' => ∃ (x7_1 : List Int) (x13_1 : Int), v13 = .int .i64 x13_1 ∧ Aside0 (redpenlaw11_Bits.l0 kq l0 l2 x7_1 l1 (l1.length : Int) x13_1 = some r) ∧ Aside0 (kq ≤ k) ∧ Aside0 (Kd.R (Kd.int .u8) 5 w' w.heap.size (fun _ => True) v7 x7_1) ∧ Aside0 (Below w.heap.size w w'))
  case atStart => exact ⟨(([] : List Int)), (0), (by first | rfl | (simp; done) | (simp [*]; done)), H', ⟨Nat.le_refl _⟩, ⟨by first | exact Kd.R_nil _ _ _ _ _ | exact Kd.N_nil _ _ _ _ _ | exact Kd.V_nil _ _ _ _ _ | exact Kd.Q_nil _ _ _ _ _ | exact Kd.S_nil _ _ _ _ _⟩, ⟨by repeat (first | (with_reducible first | exact HB.out | apply below_alloc | apply pw_below_drewN | apply below_drew1) | exact HB.out)⟩⟩
  case round =>
    clear H'
    try clear c1
    try clear c2
    try clear p2
    obtain ⟨x7_1, x13_1, rfl, HA, HK1, HO_7, HB⟩ := hrel
    cases gk with
    | zero => exact absurd HA.out (by simp [redpenlaw11_Bits.l0])
    | succ k1 =>
      have H := HA.out
      clear HA
      simp only [redpenlaw11_Bits.l0] at H
      by_cases c4 : x13_1 < (l1.length : Int)
      · rw [if_pos c4] at H
        have c4b0 : decide (x13_1 < (l1.length : Int)) = true := decide_eq_true c4
        clear c4
        by_cases c5 : 0 ≤ x13_1
        · rw [if_pos c5] at H
          have c5b0 : decide (0 ≤ x13_1) = true := decide_eq_true c5
          clear c5
          by_cases c6 : x13_1 < (l1.length : Int)
          · rw [if_pos c6] at H
            have c6b0 : decide (x13_1 < (l1.length : Int)) = true := decide_eq_true c6
            clear c6
            by_cases c7 : x13_1 ≥ 60
            · rw [if_pos c7] at H
              have c7b0 : decide (60 ≤ x13_1) = true := decide_eq_true c7
              clear c7
              obtain rfl := Option.some.inj H
              have p101 : 0 ≤ (x13_1 : Int) := of_decide_eq_true (by first | (with_reducible assumption) | assumption)
              have q101 : x13_1 < (l1.length : Int) := of_decide_eq_true (by first | (with_reducible assumption) | assumption)
              obtain ⟨ad101, e101, hx101_0⟩ := Kd.at_int HR1.out x13_1 p101 q101
              cases e101
              replace hx101_0 := (HB.out.cell (World.block_lt_of_cell? w _ hx101_0)).trans hx101_0
              replace p101 := eq_true p101
              replace q101 := eq_true q101
              go_wp2
              go_ret
              exact ⟨_, by first | rfl | (simp [errW_none, errW_some] <;> rfl) | (simp [*, errW_none, errW_some] <;> rfl), by (with_reducible repeat (first | apply Kd.R_alloc | apply Kd.R_drewN | apply Kd.R_drew)); exact HO_7.out, by repeat (first | (with_reducible first | exact HB.out | apply below_alloc | apply pw_below_drewN | apply below_drew1) | exact HB.out)⟩
            · rw [if_neg c7] at H
              have c7b0 : decide (60 ≤ x13_1) = false := decide_eq_false c7
              clear c7
              by_cases c8 : (wrap64 (rd l1 x13_1)) < (l0.length : Int)
              · rw [if_pos c8] at H
                have c8b0 : decide ((wrap64 (rd l1 x13_1)) < (l0.length : Int)) = true := decide_eq_true c8
                clear c8
                obtain ⟨ji9, hji9⟩ : ∃ j_ : Int, (wrap64 (rd l1 x13_1)) = j_ := ⟨_, rfl⟩
                replace H : (if 0 ≤ (ji9) then (if x7_1.length + (rdOf ByteArray.empty l0 (ji9)).size < 140737488355328 then (redpenlaw11_Bits.l0 k1 l0 l2 (x7_1 ++ bytesOf (rdOf ByteArray.empty l0 (ji9))) l1 (l1.length : Int) (wrap64 (x13_1 + 1))) else (none)) else (none)) = some r := by first | (rw [hji9] at H; exact H) | (simp only [hji9] at H ⊢; exact H)
                (try rw [hji9] at c8b0)
                have hji9w : (IntKind.i64.wrap (rd l1 x13_1)) = ji9 := (i64_w _).trans hji9
                by_cases c10 : 0 ≤ (ji9)
                · rw [if_pos c10] at H
                  have c10b0 : decide (0 ≤ (ji9)) = true := decide_eq_true c10
                  clear c10
                  by_cases c11 : x7_1.length + (rdOf ByteArray.empty l0 (ji9)).size < 140737488355328
                  · rw [if_pos c11] at H
                    have LMc11 := Aside0.mk c11
                    clear c11
                    obtain ⟨y103, hy103⟩ : ∃ y_ : List Int, y_ = (x7_1 ++ bytesOf (rdOf ByteArray.empty l0 (ji9))) := ⟨_, rfl⟩
                    replace H : (redpenlaw11_Bits.l0 k1 l0 l2 y103 l1 (l1.length : Int) (wrap64 (x13_1 + 1))) = some r := by first | (rw [hy103]; with_reducible exact H) | (have H2_ := (Option.bind_some _ _).symm.trans H; rw [hy103]; with_reducible exact H2_) | (have H2_ := (Option.bind_some _ _).symm.trans H; with_reducible exact H2_) | with_reducible exact H | (rw [hy103]; exact H) | exact H
                    have Ny103 := Aside0.mk hy103
                    clear hy103
                    have H' := Aside0.mk H
                    clear H
                    have p101 : 0 ≤ (x13_1 : Int) := of_decide_eq_true (by first | (with_reducible assumption) | assumption)
                    have q101 : x13_1 < (l1.length : Int) := of_decide_eq_true (by first | (with_reducible assumption) | assumption)
                    obtain ⟨ad101, e101, hx101_0⟩ := Kd.at_int HR1.out x13_1 p101 q101
                    cases e101
                    replace hx101_0 := (HB.out.cell (World.block_lt_of_cell? w _ hx101_0)).trans hx101_0
                    replace p101 := eq_true p101
                    replace q101 := eq_true q101
                    have p102 : 0 ≤ ((ji9) : Int) := of_decide_eq_true (by first | (with_reducible assumption) | assumption)
                    have q102 : (ji9) < (l0.length : Int) := of_decide_eq_true (by first | (with_reducible assumption) | assumption)
                    obtain ⟨ad102, e102, hx102_0⟩ := Kd.at_string HR0.out (ji9) p102 q102
                    cases e102
                    replace hx102_0 := (HB.out.cell (World.block_lt_of_cell? w _ hx102_0)).trans hx102_0
                    replace p102 := eq_true p102
                    replace q102 := eq_true q102
                    go_wp2_with (first | (at_builtin; refine print_append_str (w0 := w) w.heap.size rfl (.tmp 26) _ 22 9 5 rfl Try.underlying22 Try.underlying9 info5 u7 x7_1 (rdOf ByteArray.empty l0 (ji9)) rfl rfl ?aO ?aB ?aS ?aL ?_; (case aB => exact (by repeat (first | (with_reducible first | exact HB.out | apply below_alloc | apply pw_below_drewN | apply below_drew1) | exact HB.out))); (case aO => exact (Kd.own_of_R (by (with_reducible repeat (first | apply Kd.R_alloc | apply Kd.R_drewN | apply Kd.R_drew)); exact HO_7.out))); (case aS => exact (below_size (by repeat (first | (with_reducible first | exact HB.out | apply below_alloc | apply pw_below_drewN | apply below_drew1) | exact HB.out)))); (case aL => have := LMc11.out; omega); intro v104 w12 ho0 hb hg; have ho := Kd.R_of_own (h1 := fun _ => rfl) (ok := fun _ => True) ho0 (fun _ _ => trivial); clear ho0; have hat := True.intro; rw [← Ny103.out] at ho; change Kd.R (Kd.int .u8) 5 w12 w.heap.size (fun _ => True) v104 y103 at ho; have n0_ := Aside0.mk (hb); have n1_ := Aside0.mk (ho); clear HB; clear HO_7; have HB := n0_; have HO105 := n1_; clear n0_ n1_; clear ho hb hg hat))
                    go_roundg k1
                    case measure => have := HK1.out; omega
                    case rel => exact ⟨(y103), (wrap64 (x13_1 + 1)), (by first | rfl | (simp; done) | (simp [*]; done)), H', ⟨by have := HK1.out; omega⟩, ⟨by (with_reducible repeat (first | apply Kd.R_alloc | apply Kd.R_drewN | apply Kd.R_drew)); exact HO105.out⟩, ⟨by repeat (first | (with_reducible first | exact HB.out | apply below_alloc | apply pw_below_drewN | apply below_drew1) | exact HB.out)⟩⟩
                  · rw [if_neg c11] at H
                    exact absurd H (by simp)
                · rw [if_neg c10] at H
                  exact absurd H (by simp)
              · rw [if_neg c8] at H
                have c8b0 : decide ((wrap64 (rd l1 x13_1)) < (l0.length : Int)) = false := decide_eq_false c8
                clear c8
                by_cases c13 : (l2.length : Int) > 0
                · rw [if_pos c13] at H
                  have c13b0 : decide (0 < (l2.length : Int)) = true := decide_eq_true c13
                  have c13b1 : decide (0 < l2.length) = true := decide_eq_true (by omega)
                  clear c13
                  by_cases c14 : (l2.length : Int) = 0
                  · rw [if_pos c14] at H
                    exact absurd H (by simp)
                  · rw [if_neg c14] at H
                    have c14b0 : ((l2.length : Int) == 0) = false := beq_eq_false_iff_ne.mpr c14
                    have c14b1 : ((l2.length : Int) != 0) = true := bne_iff_ne.mpr c14
                    have c14b2 : ¬ (l2 = []) := fun h_ => c14 (by rw [h_]; rfl)
                    obtain ⟨ji15, hji15⟩ : ∃ j_ : Int, (Int.tmod (wrap64 (rd l1 x13_1)) (l2.length : Int)) = j_ := ⟨_, rfl⟩
                    replace H : (if 0 ≤ (ji15) then (if (ji15) < (l2.length : Int) then (if x7_1.length < 140737488355328 then (redpenlaw11_Bits.l0 k1 l0 l2 (x7_1 ++ [rd l2 (ji15)]) l1 (l1.length : Int) (wrap64 (x13_1 + 1))) else (none)) else (none)) else (none)) = some r := by first | (rw [hji15] at H; exact H) | (simp only [hji15] at H ⊢; exact H)
                    by_cases c16 : 0 ≤ (ji15)
                    · rw [if_pos c16] at H
                      have c16b0 : decide (0 ≤ (ji15)) = true := decide_eq_true c16
                      clear c16
                      by_cases c17 : (ji15) < (l2.length : Int)
                      · rw [if_pos c17] at H
                        have c17b0 : decide ((ji15) < (l2.length : Int)) = true := decide_eq_true c17
                        clear c17
                        by_cases c18 : x7_1.length < 140737488355328
                        · rw [if_pos c18] at H
                          have LMc18 := Aside0.mk c18
                          clear c18
                          obtain ⟨y107, hy107⟩ : ∃ y_ : List Int, y_ = (x7_1 ++ [rd l2 (ji15)]) := ⟨_, rfl⟩
                          replace H : (redpenlaw11_Bits.l0 k1 l0 l2 y107 l1 (l1.length : Int) (wrap64 (x13_1 + 1))) = some r := by first | (rw [hy107]; with_reducible exact H) | (have H2_ := (Option.bind_some _ _).symm.trans H; rw [hy107]; with_reducible exact H2_) | (have H2_ := (Option.bind_some _ _).symm.trans H; with_reducible exact H2_) | with_reducible exact H | (rw [hy107]; exact H) | exact H
                          have Ny107 := Aside0.mk hy107
                          clear hy107
                          have H' := Aside0.mk H
                          clear H
                          have p101 : 0 ≤ (x13_1 : Int) := of_decide_eq_true (by first | (with_reducible assumption) | assumption)
                          have q101 : x13_1 < (l1.length : Int) := of_decide_eq_true (by first | (with_reducible assumption) | assumption)
                          obtain ⟨ad101, e101, hx101_0⟩ := Kd.at_int HR1.out x13_1 p101 q101
                          cases e101
                          replace hx101_0 := (HB.out.cell (World.block_lt_of_cell? w _ hx101_0)).trans hx101_0
                          replace p101 := eq_true p101
                          replace q101 := eq_true q101
                          have p106 : 0 ≤ ((ji15) : Int) := of_decide_eq_true (by first | (with_reducible assumption) | assumption)
                          have q106 : (ji15) < (l2.length : Int) := of_decide_eq_true (by first | (with_reducible assumption) | assumption)
                          obtain ⟨ad106, e106, hx106_0⟩ := Kd.at_int HR2.out (ji15) p106 q106
                          cases e106
                          replace hx106_0 := (HB.out.cell (World.block_lt_of_cell? w _ hx106_0)).trans hx106_0
                          replace p106 := eq_true p106
                          replace q106 := eq_true q106
                          go_wp2_with (first | ((with_reducible refine gate_builtin (b := .append) (xs := #[.tmp 35, .tmp 43]) rfl ?_); at_builtin; refine Kd.R_append (Kd.int .u8) (w0 := w) w.heap.size rfl (.tmp 35) (.tmp 43) 22 5 (.int .u8 0) 1 rfl Try.underlying22 info5 rfl (by decide) (by omega) u7 x7_1 (rd l2 (ji15)) [.int .u8 (rd l2 (ji15))] (fun _ => True) (fun _ => False) rfl rfl ?aP (fun _ hk => hk.elim) ?aF ?aO ?aB ?aS ?aL ?_; (case aP => exact rfl); (case aB => exact (by repeat (first | (with_reducible first | exact HB.out | apply below_alloc | apply pw_below_drewN | apply below_drew1) | exact HB.out))); (case aF => exact (fun _ _ => trivial)); (case aO => exact (by (with_reducible repeat (first | apply Kd.R_alloc | apply Kd.R_drewN | apply Kd.R_drew)); exact HO_7.out)); (case aS => exact (below_size (by repeat (first | (with_reducible first | exact HB.out | apply below_alloc | apply pw_below_drewN | apply below_drew1) | exact HB.out)))); (case aL => have := LMc18.out; omega); intro v108 w19 ho hb hg hat; rw [← Ny107.out] at ho; have n0_ := Aside0.mk (hb); have n1_ := Aside0.mk (ho); clear HB; clear HO_7; have HB := n0_; have HO109 := n1_; clear n0_ n1_; clear ho hb hg hat))
                          go_roundg k1
                          case measure => have := HK1.out; omega
                          case rel => exact ⟨(y107), (wrap64 (x13_1 + 1)), (by first | rfl | (simp; done) | (simp [*]; done)), H', ⟨by have := HK1.out; omega⟩, ⟨by (with_reducible repeat (first | apply Kd.R_alloc | apply Kd.R_drewN | apply Kd.R_drew)); exact HO109.out⟩, ⟨by repeat (first | (with_reducible first | exact HB.out | apply below_alloc | apply pw_below_drewN | apply below_drew1) | exact HB.out)⟩⟩
                        · rw [if_neg c18] at H
                          exact absurd H (by simp)
                      · rw [if_neg c17] at H
                        exact absurd H (by simp)
                    · rw [if_neg c16] at H
                      exact absurd H (by simp)
                · rw [if_neg c13] at H
                  have c13b0 : decide (0 < (l2.length : Int)) = false := decide_eq_false c13
                  have c13b1 : decide (0 < l2.length) = false := decide_eq_false (by omega)
                  clear c13
                  have H' := Aside0.mk H
                  clear H
                  have p101 : 0 ≤ (x13_1 : Int) := of_decide_eq_true (by first | (with_reducible assumption) | assumption)
                  have q101 : x13_1 < (l1.length : Int) := of_decide_eq_true (by first | (with_reducible assumption) | assumption)
                  obtain ⟨ad101, e101, hx101_0⟩ := Kd.at_int HR1.out x13_1 p101 q101
                  cases e101
                  replace hx101_0 := (HB.out.cell (World.block_lt_of_cell? w _ hx101_0)).trans hx101_0
                  replace p101 := eq_true p101
                  replace q101 := eq_true q101
                  go_wp2
                  go_roundg k1
                  case measure => have := HK1.out; omega
                  case rel => exact ⟨(x7_1), (wrap64 (x13_1 + 1)), (by first | rfl | (simp; done) | (simp [*]; done)), H', ⟨by have := HK1.out; omega⟩, ⟨by (with_reducible repeat (first | apply Kd.R_alloc | apply Kd.R_drewN | apply Kd.R_drew)); exact HO_7.out⟩, ⟨by repeat (first | (with_reducible first | exact HB.out | apply below_alloc | apply pw_below_drewN | apply below_drew1) | exact HB.out)⟩⟩
          · rw [if_neg c6] at H
            exact absurd H (by simp)
        · rw [if_neg c5] at H
          exact absurd H (by simp)
      · rw [if_neg c4] at H
        have c4b0 : decide (x13_1 < (l1.length : Int)) = false := decide_eq_false c4
        clear c4
        obtain rfl := Option.some.inj H
        go_wp2
        go_ret
        exact ⟨_, by first | rfl | (simp [errW_none, errW_some] <;> rfl) | (simp [*, errW_none, errW_some] <;> rfl), by (with_reducible repeat (first | apply Kd.R_alloc | apply Kd.R_drewN | apply Kd.R_drew)); exact HO_7.out, by repeat (first | (with_reducible first | exact HB.out | apply below_alloc | apply pw_below_drewN | apply below_drew1) | exact HB.out)⟩

end Go.Proofs.Ytcbibbdkjhkmoaa.PBits

namespace Go.Proofs.Ytcbibbdkjhkmoaa.Ppieces
open Go.RowKit Go.Proofs.YtcbibbdkjhkmoaaW.PrintWords Go.Proofs.YtcbibbdkjhkmoaaW.PrintLast Go.Proofs.YtcbibbdkjhkmoaaW.PrintMore
attribute [local go_sem] max2_int min2_int max_two min_two max_three min_three max_four min_four   -- for this text's walks alone
set_option linter.unusedVariables false
set_option linter.unusedSimpArgs false



def errW : Option Int → Value
  | none => .nilIface
  | some c => .iface 0 (.int .i64 c)
theorem errW_none : errW none = .nilIface := rfl
theorem errW_some (c : Int) : errW (some c) = .iface 0 (.int .i64 c) := rfl

theorem info9 : (Try.prog.info? 9).map (fun i => (i.zero, i.size, i.bytes)) = some (some (.string ⟨#[]⟩), 1, 16) := by kernel_rfl
-- the values' own types

end Go.Proofs.Ytcbibbdkjhkmoaa.Ppieces

namespace Go.Proofs.Ytcbibbdkjhkmoaa.Ppieces
open Go.RowKit Go.Proofs.YtcbibbdkjhkmoaaW.PrintWords Go.Proofs.YtcbibbdkjhkmoaaW.PrintLast Go.Proofs.YtcbibbdkjhkmoaaW.PrintMore
attribute [local go_sem] max2_int min2_int max_two min_two max_three min_three max_four min_four   -- for this text's walks alone
set_option linter.unusedVariables false
set_option linter.unusedSimpArgs false

/-! ### redpenlaw11_pieces: function 11 -/
def redpenlaw11_pieces.f  : Option (List ByteArray) := some (([(⟨#[60]⟩ : ByteArray), (⟨#[62]⟩ : ByteArray), (⟨#[60, 47]⟩ : ByteArray), (⟨#[47, 62]⟩ : ByteArray), (⟨#[60, 98, 32]⟩ : ByteArray), (⟨#[60, 105, 62]⟩ : ByteArray), (⟨#[60, 47, 105, 62]⟩ : ByteArray), (⟨#[60, 105, 109, 103, 32]⟩ : ByteArray), (⟨#[97, 108, 116, 61]⟩ : ByteArray), (⟨#[84, 73, 84, 76, 69, 32, 61, 32]⟩ : ByteArray), (⟨#[116, 105, 116, 108, 101, 61, 39, 120, 32, 121, 39]⟩ : ByteArray), (⟨#[97, 108, 116, 61, 34, 122, 34]⟩ : ByteArray), (⟨#[99, 108, 97, 115, 115, 61, 113]⟩ : ByteArray), (⟨#[34]⟩ : ByteArray), (⟨#[39]⟩ : ByteArray), (⟨#[61]⟩ : ByteArray), (⟨#[32]⟩ : ByteArray), (⟨#[10]⟩ : ByteArray), (⟨#[60, 33, 45, 45]⟩ : ByteArray), (⟨#[45, 45, 62]⟩ : ByteArray), (⟨#[45, 45]⟩ : ByteArray), (⟨#[60, 33, 91, 67, 68, 65, 84, 65, 91]⟩ : ByteArray), (⟨#[93, 93, 62]⟩ : ByteArray), (⟨#[60, 33, 68, 79, 67, 84, 89, 80, 69, 32, 120]⟩ : ByteArray), (⟨#[60, 63]⟩ : ByteArray), (⟨#[60, 115, 99, 114, 105, 112, 116, 62]⟩ : ByteArray), (⟨#[60, 47, 115, 99, 114, 105, 112, 116, 62]⟩ : ByteArray), (⟨#[60, 47, 83, 67, 82, 73, 80, 84, 32]⟩ : ByteArray), (⟨#[60, 115, 116, 121, 108, 101, 32, 97, 62]⟩ : ByteArray), (⟨#[60, 47, 115, 116, 121, 108, 101]⟩ : ByteArray), (⟨#[60, 116, 105, 116, 108, 101, 62]⟩ : ByteArray), (⟨#[60, 47, 116, 105, 116, 108, 101, 62]⟩ : ByteArray), (⟨#[60, 116, 101, 120, 116, 97, 114, 101, 97, 62]⟩ : ByteArray), (⟨#[60, 47, 116, 101, 120, 116, 97, 114, 101, 97, 47]⟩ : ByteArray), (⟨#[119, 111, 114, 100]⟩ : ByteArray), (⟨#[97]⟩ : ByteArray), (⟨#[38, 97, 109, 112, 59]⟩ : ByteArray), (⟨#[60, 33]⟩ : ByteArray), (⟨#[60, 115, 99, 114, 105, 112, 116]⟩ : ByteArray), (⟨#[195, 169]⟩ : ByteArray)] : List ByteArray))
set_option maxHeartbeats 8000000 in
set_option maxRecDepth 100000 in
theorem redpenlaw11_pieces.calls  (r : List ByteArray) (w : World) (h : redpenlaw11_pieces.f  = some r) :
    Calls Try.prog 11 #[] w fun e w' => ∃ v0_ : Value, e = .returned (v0_) ∧ Kd.R Kd.string 9 w' w.heap.size (fun _ => True) v0_ r ∧ Below w.heap.size w w' := by
  have HB := Aside0.mk (Below.refl w.heap.size w)
  have H : (some (([(⟨#[60]⟩ : ByteArray), (⟨#[62]⟩ : ByteArray), (⟨#[60, 47]⟩ : ByteArray), (⟨#[47, 62]⟩ : ByteArray), (⟨#[60, 98, 32]⟩ : ByteArray), (⟨#[60, 105, 62]⟩ : ByteArray), (⟨#[60, 47, 105, 62]⟩ : ByteArray), (⟨#[60, 105, 109, 103, 32]⟩ : ByteArray), (⟨#[97, 108, 116, 61]⟩ : ByteArray), (⟨#[84, 73, 84, 76, 69, 32, 61, 32]⟩ : ByteArray), (⟨#[116, 105, 116, 108, 101, 61, 39, 120, 32, 121, 39]⟩ : ByteArray), (⟨#[97, 108, 116, 61, 34, 122, 34]⟩ : ByteArray), (⟨#[99, 108, 97, 115, 115, 61, 113]⟩ : ByteArray), (⟨#[34]⟩ : ByteArray), (⟨#[39]⟩ : ByteArray), (⟨#[61]⟩ : ByteArray), (⟨#[32]⟩ : ByteArray), (⟨#[10]⟩ : ByteArray), (⟨#[60, 33, 45, 45]⟩ : ByteArray), (⟨#[45, 45, 62]⟩ : ByteArray), (⟨#[45, 45]⟩ : ByteArray), (⟨#[60, 33, 91, 67, 68, 65, 84, 65, 91]⟩ : ByteArray), (⟨#[93, 93, 62]⟩ : ByteArray), (⟨#[60, 33, 68, 79, 67, 84, 89, 80, 69, 32, 120]⟩ : ByteArray), (⟨#[60, 63]⟩ : ByteArray), (⟨#[60, 115, 99, 114, 105, 112, 116, 62]⟩ : ByteArray), (⟨#[60, 47, 115, 99, 114, 105, 112, 116, 62]⟩ : ByteArray), (⟨#[60, 47, 83, 67, 82, 73, 80, 84, 32]⟩ : ByteArray), (⟨#[60, 115, 116, 121, 108, 101, 32, 97, 62]⟩ : ByteArray), (⟨#[60, 47, 115, 116, 121, 108, 101]⟩ : ByteArray), (⟨#[60, 116, 105, 116, 108, 101, 62]⟩ : ByteArray), (⟨#[60, 47, 116, 105, 116, 108, 101, 62]⟩ : ByteArray), (⟨#[60, 116, 101, 120, 116, 97, 114, 101, 97, 62]⟩ : ByteArray), (⟨#[60, 47, 116, 101, 120, 116, 97, 114, 101, 97, 47]⟩ : ByteArray), (⟨#[119, 111, 114, 100]⟩ : ByteArray), (⟨#[97]⟩ : ByteArray), (⟨#[38, 97, 109, 112, 59]⟩ : ByteArray), (⟨#[60, 33]⟩ : ByteArray), (⟨#[60, 115, 99, 114, 105, 112, 116]⟩ : ByteArray), (⟨#[195, 169]⟩ : ByteArray)] : List ByteArray))) = some r := h
  clear h
  obtain ⟨y101, hy101⟩ : ∃ y_ : List ByteArray, y_ = (([(⟨#[60]⟩ : ByteArray), (⟨#[62]⟩ : ByteArray), (⟨#[60, 47]⟩ : ByteArray), (⟨#[47, 62]⟩ : ByteArray), (⟨#[60, 98, 32]⟩ : ByteArray), (⟨#[60, 105, 62]⟩ : ByteArray), (⟨#[60, 47, 105, 62]⟩ : ByteArray), (⟨#[60, 105, 109, 103, 32]⟩ : ByteArray), (⟨#[97, 108, 116, 61]⟩ : ByteArray), (⟨#[84, 73, 84, 76, 69, 32, 61, 32]⟩ : ByteArray), (⟨#[116, 105, 116, 108, 101, 61, 39, 120, 32, 121, 39]⟩ : ByteArray), (⟨#[97, 108, 116, 61, 34, 122, 34]⟩ : ByteArray), (⟨#[99, 108, 97, 115, 115, 61, 113]⟩ : ByteArray), (⟨#[34]⟩ : ByteArray), (⟨#[39]⟩ : ByteArray), (⟨#[61]⟩ : ByteArray), (⟨#[32]⟩ : ByteArray), (⟨#[10]⟩ : ByteArray), (⟨#[60, 33, 45, 45]⟩ : ByteArray), (⟨#[45, 45, 62]⟩ : ByteArray), (⟨#[45, 45]⟩ : ByteArray), (⟨#[60, 33, 91, 67, 68, 65, 84, 65, 91]⟩ : ByteArray), (⟨#[93, 93, 62]⟩ : ByteArray), (⟨#[60, 33, 68, 79, 67, 84, 89, 80, 69, 32, 120]⟩ : ByteArray), (⟨#[60, 63]⟩ : ByteArray), (⟨#[60, 115, 99, 114, 105, 112, 116, 62]⟩ : ByteArray), (⟨#[60, 47, 115, 99, 114, 105, 112, 116, 62]⟩ : ByteArray), (⟨#[60, 47, 83, 67, 82, 73, 80, 84, 32]⟩ : ByteArray), (⟨#[60, 115, 116, 121, 108, 101, 32, 97, 62]⟩ : ByteArray), (⟨#[60, 47, 115, 116, 121, 108, 101]⟩ : ByteArray), (⟨#[60, 116, 105, 116, 108, 101, 62]⟩ : ByteArray), (⟨#[60, 47, 116, 105, 116, 108, 101, 62]⟩ : ByteArray), (⟨#[60, 116, 101, 120, 116, 97, 114, 101, 97, 62]⟩ : ByteArray), (⟨#[60, 47, 116, 101, 120, 116, 97, 114, 101, 97, 47]⟩ : ByteArray), (⟨#[119, 111, 114, 100]⟩ : ByteArray), (⟨#[97]⟩ : ByteArray), (⟨#[38, 97, 109, 112, 59]⟩ : ByteArray), (⟨#[60, 33]⟩ : ByteArray), (⟨#[60, 115, 99, 114, 105, 112, 116]⟩ : ByteArray), (⟨#[195, 169]⟩ : ByteArray)] : List ByteArray)) := ⟨_, rfl⟩
  replace H : (some y101) = some r := by first | (rw [hy101]; with_reducible exact H) | (have H2_ := (Option.bind_some _ _).symm.trans H; rw [hy101]; with_reducible exact H2_) | (have H2_ := (Option.bind_some _ _).symm.trans H; with_reducible exact H2_) | with_reducible exact H | (rw [hy101]; exact H) | exact H
  have Ny101 := Aside0.mk hy101
  clear hy101
  obtain rfl := Option.some.inj H
  go_enter Try.func11, Try.ntmps11
  go_wp2_with (first | ((with_reducible refine gate_dst (N := 1) rfl ?_); refine Kd.R_lit Kd.string _ 9 ?hg (N := 1) ?hd (xs := ([(⟨#[60]⟩ : ByteArray), (⟨#[62]⟩ : ByteArray), (⟨#[60, 47]⟩ : ByteArray), (⟨#[47, 62]⟩ : ByteArray), (⟨#[60, 98, 32]⟩ : ByteArray), (⟨#[60, 105, 62]⟩ : ByteArray), (⟨#[60, 47, 105, 62]⟩ : ByteArray), (⟨#[60, 105, 109, 103, 32]⟩ : ByteArray), (⟨#[97, 108, 116, 61]⟩ : ByteArray), (⟨#[84, 73, 84, 76, 69, 32, 61, 32]⟩ : ByteArray), (⟨#[116, 105, 116, 108, 101, 61, 39, 120, 32, 121, 39]⟩ : ByteArray), (⟨#[97, 108, 116, 61, 34, 122, 34]⟩ : ByteArray), (⟨#[99, 108, 97, 115, 115, 61, 113]⟩ : ByteArray), (⟨#[34]⟩ : ByteArray), (⟨#[39]⟩ : ByteArray), (⟨#[61]⟩ : ByteArray), (⟨#[32]⟩ : ByteArray), (⟨#[10]⟩ : ByteArray), (⟨#[60, 33, 45, 45]⟩ : ByteArray), (⟨#[45, 45, 62]⟩ : ByteArray), (⟨#[45, 45]⟩ : ByteArray), (⟨#[60, 33, 91, 67, 68, 65, 84, 65, 91]⟩ : ByteArray), (⟨#[93, 93, 62]⟩ : ByteArray), (⟨#[60, 33, 68, 79, 67, 84, 89, 80, 69, 32, 120]⟩ : ByteArray), (⟨#[60, 63]⟩ : ByteArray), (⟨#[60, 115, 99, 114, 105, 112, 116, 62]⟩ : ByteArray), (⟨#[60, 47, 115, 99, 114, 105, 112, 116, 62]⟩ : ByteArray), (⟨#[60, 47, 83, 67, 82, 73, 80, 84, 32]⟩ : ByteArray), (⟨#[60, 115, 116, 121, 108, 101, 32, 97, 62]⟩ : ByteArray), (⟨#[60, 47, 115, 116, 121, 108, 101]⟩ : ByteArray), (⟨#[60, 116, 105, 116, 108, 101, 62]⟩ : ByteArray), (⟨#[60, 47, 116, 105, 116, 108, 101, 62]⟩ : ByteArray), (⟨#[60, 116, 101, 120, 116, 97, 114, 101, 97, 62]⟩ : ByteArray), (⟨#[60, 47, 116, 101, 120, 116, 97, 114, 101, 97, 47]⟩ : ByteArray), (⟨#[119, 111, 114, 100]⟩ : ByteArray), (⟨#[97]⟩ : ByteArray), (⟨#[38, 97, 109, 112, 59]⟩ : ByteArray), (⟨#[60, 33]⟩ : ByteArray), (⟨#[60, 115, 99, 114, 105, 112, 116]⟩ : ByteArray), (⟨#[195, 169]⟩ : ByteArray)] : List ByteArray)) (inner := [.string (⟨#[60]⟩ : ByteArray), .string (⟨#[62]⟩ : ByteArray), .string (⟨#[60, 47]⟩ : ByteArray), .string (⟨#[47, 62]⟩ : ByteArray), .string (⟨#[60, 98, 32]⟩ : ByteArray), .string (⟨#[60, 105, 62]⟩ : ByteArray), .string (⟨#[60, 47, 105, 62]⟩ : ByteArray), .string (⟨#[60, 105, 109, 103, 32]⟩ : ByteArray), .string (⟨#[97, 108, 116, 61]⟩ : ByteArray), .string (⟨#[84, 73, 84, 76, 69, 32, 61, 32]⟩ : ByteArray), .string (⟨#[116, 105, 116, 108, 101, 61, 39, 120, 32, 121, 39]⟩ : ByteArray), .string (⟨#[97, 108, 116, 61, 34, 122, 34]⟩ : ByteArray), .string (⟨#[99, 108, 97, 115, 115, 61, 113]⟩ : ByteArray), .string (⟨#[34]⟩ : ByteArray), .string (⟨#[39]⟩ : ByteArray), .string (⟨#[61]⟩ : ByteArray), .string (⟨#[32]⟩ : ByteArray), .string (⟨#[10]⟩ : ByteArray), .string (⟨#[60, 33, 45, 45]⟩ : ByteArray), .string (⟨#[45, 45, 62]⟩ : ByteArray), .string (⟨#[45, 45]⟩ : ByteArray), .string (⟨#[60, 33, 91, 67, 68, 65, 84, 65, 91]⟩ : ByteArray), .string (⟨#[93, 93, 62]⟩ : ByteArray), .string (⟨#[60, 33, 68, 79, 67, 84, 89, 80, 69, 32, 120]⟩ : ByteArray), .string (⟨#[60, 63]⟩ : ByteArray), .string (⟨#[60, 115, 99, 114, 105, 112, 116, 62]⟩ : ByteArray), .string (⟨#[60, 47, 115, 99, 114, 105, 112, 116, 62]⟩ : ByteArray), .string (⟨#[60, 47, 83, 67, 82, 73, 80, 84, 32]⟩ : ByteArray), .string (⟨#[60, 115, 116, 121, 108, 101, 32, 97, 62]⟩ : ByteArray), .string (⟨#[60, 47, 115, 116, 121, 108, 101]⟩ : ByteArray), .string (⟨#[60, 116, 105, 116, 108, 101, 62]⟩ : ByteArray), .string (⟨#[60, 47, 116, 105, 116, 108, 101, 62]⟩ : ByteArray), .string (⟨#[60, 116, 101, 120, 116, 97, 114, 101, 97, 62]⟩ : ByteArray), .string (⟨#[60, 47, 116, 101, 120, 116, 97, 114, 101, 97, 47]⟩ : ByteArray), .string (⟨#[119, 111, 114, 100]⟩ : ByteArray), .string (⟨#[97]⟩ : ByteArray), .string (⟨#[38, 97, 109, 112, 59]⟩ : ByteArray), .string (⟨#[60, 33]⟩ : ByteArray), .string (⟨#[60, 115, 99, 114, 105, 112, 116]⟩ : ByteArray), .string (⟨#[195, 169]⟩ : ByteArray)]) (ok := fun _ => True) (okp := fun _ => True) ?hr ?hp (fun _ hk => hk) trivial (Below.refl _ _) (Nat.le_refl _) (by simp) ?_; (case hd => rfl); (case hg => rfl); (case hr => first | (go_simp; done) | (go_simp; rfl)); (case hp => exact (Reps.one (show Kd.M Kd.string _ _ _ (⟨#[60]⟩ : ByteArray) [.string (⟨#[60]⟩ : ByteArray)] from rfl) (Reps.one (show Kd.M Kd.string _ _ _ (⟨#[62]⟩ : ByteArray) [.string (⟨#[62]⟩ : ByteArray)] from rfl) (Reps.one (show Kd.M Kd.string _ _ _ (⟨#[60, 47]⟩ : ByteArray) [.string (⟨#[60, 47]⟩ : ByteArray)] from rfl) (Reps.one (show Kd.M Kd.string _ _ _ (⟨#[47, 62]⟩ : ByteArray) [.string (⟨#[47, 62]⟩ : ByteArray)] from rfl) (Reps.one (show Kd.M Kd.string _ _ _ (⟨#[60, 98, 32]⟩ : ByteArray) [.string (⟨#[60, 98, 32]⟩ : ByteArray)] from rfl) (Reps.one (show Kd.M Kd.string _ _ _ (⟨#[60, 105, 62]⟩ : ByteArray) [.string (⟨#[60, 105, 62]⟩ : ByteArray)] from rfl) (Reps.one (show Kd.M Kd.string _ _ _ (⟨#[60, 47, 105, 62]⟩ : ByteArray) [.string (⟨#[60, 47, 105, 62]⟩ : ByteArray)] from rfl) (Reps.one (show Kd.M Kd.string _ _ _ (⟨#[60, 105, 109, 103, 32]⟩ : ByteArray) [.string (⟨#[60, 105, 109, 103, 32]⟩ : ByteArray)] from rfl) (Reps.one (show Kd.M Kd.string _ _ _ (⟨#[97, 108, 116, 61]⟩ : ByteArray) [.string (⟨#[97, 108, 116, 61]⟩ : ByteArray)] from rfl) (Reps.one (show Kd.M Kd.string _ _ _ (⟨#[84, 73, 84, 76, 69, 32, 61, 32]⟩ : ByteArray) [.string (⟨#[84, 73, 84, 76, 69, 32, 61, 32]⟩ : ByteArray)] from rfl) (Reps.one (show Kd.M Kd.string _ _ _ (⟨#[116, 105, 116, 108, 101, 61, 39, 120, 32, 121, 39]⟩ : ByteArray) [.string (⟨#[116, 105, 116, 108, 101, 61, 39, 120, 32, 121, 39]⟩ : ByteArray)] from rfl) (Reps.one (show Kd.M Kd.string _ _ _ (⟨#[97, 108, 116, 61, 34, 122, 34]⟩ : ByteArray) [.string (⟨#[97, 108, 116, 61, 34, 122, 34]⟩ : ByteArray)] from rfl) (Reps.one (show Kd.M Kd.string _ _ _ (⟨#[99, 108, 97, 115, 115, 61, 113]⟩ : ByteArray) [.string (⟨#[99, 108, 97, 115, 115, 61, 113]⟩ : ByteArray)] from rfl) (Reps.one (show Kd.M Kd.string _ _ _ (⟨#[34]⟩ : ByteArray) [.string (⟨#[34]⟩ : ByteArray)] from rfl) (Reps.one (show Kd.M Kd.string _ _ _ (⟨#[39]⟩ : ByteArray) [.string (⟨#[39]⟩ : ByteArray)] from rfl) (Reps.one (show Kd.M Kd.string _ _ _ (⟨#[61]⟩ : ByteArray) [.string (⟨#[61]⟩ : ByteArray)] from rfl) (Reps.one (show Kd.M Kd.string _ _ _ (⟨#[32]⟩ : ByteArray) [.string (⟨#[32]⟩ : ByteArray)] from rfl) (Reps.one (show Kd.M Kd.string _ _ _ (⟨#[10]⟩ : ByteArray) [.string (⟨#[10]⟩ : ByteArray)] from rfl) (Reps.one (show Kd.M Kd.string _ _ _ (⟨#[60, 33, 45, 45]⟩ : ByteArray) [.string (⟨#[60, 33, 45, 45]⟩ : ByteArray)] from rfl) (Reps.one (show Kd.M Kd.string _ _ _ (⟨#[45, 45, 62]⟩ : ByteArray) [.string (⟨#[45, 45, 62]⟩ : ByteArray)] from rfl) (Reps.one (show Kd.M Kd.string _ _ _ (⟨#[45, 45]⟩ : ByteArray) [.string (⟨#[45, 45]⟩ : ByteArray)] from rfl) (Reps.one (show Kd.M Kd.string _ _ _ (⟨#[60, 33, 91, 67, 68, 65, 84, 65, 91]⟩ : ByteArray) [.string (⟨#[60, 33, 91, 67, 68, 65, 84, 65, 91]⟩ : ByteArray)] from rfl) (Reps.one (show Kd.M Kd.string _ _ _ (⟨#[93, 93, 62]⟩ : ByteArray) [.string (⟨#[93, 93, 62]⟩ : ByteArray)] from rfl) (Reps.one (show Kd.M Kd.string _ _ _ (⟨#[60, 33, 68, 79, 67, 84, 89, 80, 69, 32, 120]⟩ : ByteArray) [.string (⟨#[60, 33, 68, 79, 67, 84, 89, 80, 69, 32, 120]⟩ : ByteArray)] from rfl) (Reps.one (show Kd.M Kd.string _ _ _ (⟨#[60, 63]⟩ : ByteArray) [.string (⟨#[60, 63]⟩ : ByteArray)] from rfl) (Reps.one (show Kd.M Kd.string _ _ _ (⟨#[60, 115, 99, 114, 105, 112, 116, 62]⟩ : ByteArray) [.string (⟨#[60, 115, 99, 114, 105, 112, 116, 62]⟩ : ByteArray)] from rfl) (Reps.one (show Kd.M Kd.string _ _ _ (⟨#[60, 47, 115, 99, 114, 105, 112, 116, 62]⟩ : ByteArray) [.string (⟨#[60, 47, 115, 99, 114, 105, 112, 116, 62]⟩ : ByteArray)] from rfl) (Reps.one (show Kd.M Kd.string _ _ _ (⟨#[60, 47, 83, 67, 82, 73, 80, 84, 32]⟩ : ByteArray) [.string (⟨#[60, 47, 83, 67, 82, 73, 80, 84, 32]⟩ : ByteArray)] from rfl) (Reps.one (show Kd.M Kd.string _ _ _ (⟨#[60, 115, 116, 121, 108, 101, 32, 97, 62]⟩ : ByteArray) [.string (⟨#[60, 115, 116, 121, 108, 101, 32, 97, 62]⟩ : ByteArray)] from rfl) (Reps.one (show Kd.M Kd.string _ _ _ (⟨#[60, 47, 115, 116, 121, 108, 101]⟩ : ByteArray) [.string (⟨#[60, 47, 115, 116, 121, 108, 101]⟩ : ByteArray)] from rfl) (Reps.one (show Kd.M Kd.string _ _ _ (⟨#[60, 116, 105, 116, 108, 101, 62]⟩ : ByteArray) [.string (⟨#[60, 116, 105, 116, 108, 101, 62]⟩ : ByteArray)] from rfl) (Reps.one (show Kd.M Kd.string _ _ _ (⟨#[60, 47, 116, 105, 116, 108, 101, 62]⟩ : ByteArray) [.string (⟨#[60, 47, 116, 105, 116, 108, 101, 62]⟩ : ByteArray)] from rfl) (Reps.one (show Kd.M Kd.string _ _ _ (⟨#[60, 116, 101, 120, 116, 97, 114, 101, 97, 62]⟩ : ByteArray) [.string (⟨#[60, 116, 101, 120, 116, 97, 114, 101, 97, 62]⟩ : ByteArray)] from rfl) (Reps.one (show Kd.M Kd.string _ _ _ (⟨#[60, 47, 116, 101, 120, 116, 97, 114, 101, 97, 47]⟩ : ByteArray) [.string (⟨#[60, 47, 116, 101, 120, 116, 97, 114, 101, 97, 47]⟩ : ByteArray)] from rfl) (Reps.one (show Kd.M Kd.string _ _ _ (⟨#[119, 111, 114, 100]⟩ : ByteArray) [.string (⟨#[119, 111, 114, 100]⟩ : ByteArray)] from rfl) (Reps.one (show Kd.M Kd.string _ _ _ (⟨#[97]⟩ : ByteArray) [.string (⟨#[97]⟩ : ByteArray)] from rfl) (Reps.one (show Kd.M Kd.string _ _ _ (⟨#[38, 97, 109, 112, 59]⟩ : ByteArray) [.string (⟨#[38, 97, 109, 112, 59]⟩ : ByteArray)] from rfl) (Reps.one (show Kd.M Kd.string _ _ _ (⟨#[60, 33]⟩ : ByteArray) [.string (⟨#[60, 33]⟩ : ByteArray)] from rfl) (Reps.one (show Kd.M Kd.string _ _ _ (⟨#[60, 115, 99, 114, 105, 112, 116]⟩ : ByteArray) [.string (⟨#[60, 115, 99, 114, 105, 112, 116]⟩ : ByteArray)] from rfl) (Reps.one (show Kd.M Kd.string _ _ _ (⟨#[195, 169]⟩ : ByteArray) [.string (⟨#[195, 169]⟩ : ByteArray)] from rfl) (Reps.none _ _)))))))))))))))))))))))))))))))))))))))))); intro v102 w1 ho2 hb hg_ hnew_; clear hg_ hnew_; (first | rw [← Ny101.out] at ho2 | (simp only [Int.reduceToNat] at ho2; rw [← Ny101.out] at ho2)); have n0_ := Aside0.mk (Kd.R_lower ho2 (below_size (by repeat (first | (with_reducible first | exact HB.out | apply below_alloc | apply pw_below_drewN | apply below_drew1) | exact HB.out)))); have n1_ := Aside0.mk (below_step (by repeat (first | (with_reducible first | exact HB.out | apply below_alloc | apply pw_below_drewN | apply below_drew1) | exact HB.out)) hb); clear HB; have HO103 := n0_; have HB := n1_; clear n0_ n1_; clear hb ho2))
  go_ret
  exact ⟨_, by first | rfl | (simp [errW_none, errW_some] <;> rfl) | (simp [*, errW_none, errW_some] <;> rfl), by (with_reducible repeat (first | apply Kd.R_alloc | apply Kd.R_drewN | apply Kd.R_drew)); exact HO103.out, by repeat (first | (with_reducible first | exact HB.out | apply below_alloc | apply pw_below_drewN | apply below_drew1) | exact HB.out)⟩

end Go.Proofs.Ytcbibbdkjhkmoaa.Ppieces

namespace Go.Proofs.Ytcbibbdkjhkmoaa.PSegs
open Go.RowKit Go.Proofs.YtcbibbdkjhkmoaaW.PrintWords Go.Proofs.YtcbibbdkjhkmoaaW.PrintLast Go.Proofs.YtcbibbdkjhkmoaaW.PrintMore
attribute [local go_sem] max2_int min2_int max_two min_two max_three min_three max_four min_four   -- for this text's walks alone
set_option linter.unusedVariables false
set_option linter.unusedSimpArgs false



def errW : Option Int → Value
  | none => .nilIface
  | some c => .iface 0 (.int .i64 c)
theorem errW_none : errW none = .nilIface := rfl
theorem errW_some (c : Int) : errW (some c) = .iface 0 (.int .i64 c) := rfl

theorem info66 : (Try.prog.info? 66).map (fun i => (i.zero, i.size, i.bytes)) = some (some (.agg #[(.int .u8 0), (.int .i64 0), (.int .i64 0)]), 3, 24) := by kernel_rfl
-- the values' own types
/-! #### struct type 54 -/
structure S54 where
  f0 : Int
  f1 : Int
def z54 : S54 := ⟨(0 : Int), (0 : Int)⟩
def k54 : Kd S54 := Kd.iso (Kd.pair (Kd.int .i64) (Kd.int .i64)) (fun x : S54 => (x.f0, x.f1))
theorem k54_open {w : World} {x : S54} {cs : List Value} (h : k54.K w x cs) : cs = [.int .i64 x.f0, .int .i64 x.f1] := by
  obtain ⟨_, _, rfl, rfl, rfl⟩ := h
  exact rfl
theorem k54_openM {w : World} {base : Nat} {ok : Nat → Prop} {x : S54} {cs : List Value} (h : k54.M w base ok x cs) : cs = [.int .i64 x.f0, .int .i64 x.f1] := by
  obtain ⟨_, _, rfl, rfl, rfl⟩ := h
  exact rfl
theorem k54_mk (w : World) (x : S54)  : k54.K w x [.int .i64 x.f0, .int .i64 x.f1] := ⟨[.int .i64 x.f0], [.int .i64 x.f1], rfl, rfl, rfl⟩
theorem k54_mkM (w : World) (base : Nat) (ok : Nat → Prop) (x : S54)  : k54.M w base ok x [.int .i64 x.f0, .int .i64 x.f1] := ⟨[.int .i64 x.f0], [.int .i64 x.f1], rfl, rfl, rfl⟩
def rd_T54 (xs : List S54) (i : Int) : S54 := xs.getD i.toNat z54
theorem at_T54 {w : World} {A : Option Addr} {n : Nat} {xs : List S54} (h : Kd.C k54 w A n xs) (i : Int) (h0 : 0 ≤ i) (h1 : i < n) : ∃ ad , A = some ad ∧ w.cell? (ad.add (i.toNat * 2)) = some (.int .i64 (rd_T54 xs i).f0) ∧ w.cell? ⟨(ad.add (i.toNat * 2)).block, (ad.add (i.toNat * 2)).off + 1, none⟩ = some (.int .i64 (rd_T54 xs i).f1) := by
  obtain ⟨ad, c, e, _, hK, hc0⟩ := Kd.C_get h z54 i h0 h1
  have hc : ∀ j u, c[j]? = some u → w.cell? (ad.add (i.toNat * 2 + j)) = some u := hc0
  obtain rfl := k54_open hK
  exact ⟨ad, e, hc 0 _ rfl, by rw [← add_field _ _ 1 (by omega)]; exact hc 1 _ rfl⟩

/-! #### struct type 66 -/
structure S66 where
  f0 : Int
  f1 : S54
def z66 : S66 := ⟨(0 : Int), z54⟩
def k66 : Kd S66 := Kd.iso (Kd.pair (Kd.int .u8) k54) (fun x : S66 => (x.f0, x.f1))
theorem k66_open {w : World} {x : S66} {cs : List Value} (h : k66.K w x cs) : cs = [.int .u8 x.f0, .int .i64 x.f1.f0, .int .i64 x.f1.f1] := by
  obtain ⟨_, _, rfl, rfl, s1⟩ := h
  obtain rfl := k54_open s1
  exact rfl
theorem k66_openM {w : World} {base : Nat} {ok : Nat → Prop} {x : S66} {cs : List Value} (h : k66.M w base ok x cs) : cs = [.int .u8 x.f0, .int .i64 x.f1.f0, .int .i64 x.f1.f1] := by
  obtain ⟨_, _, rfl, rfl, s1⟩ := h
  obtain rfl := k54_openM s1
  exact rfl
theorem k66_mk (w : World) (x : S66)  : k66.K w x [.int .u8 x.f0, .int .i64 x.f1.f0, .int .i64 x.f1.f1] := ⟨[.int .u8 x.f0], [.int .i64 x.f1.f0, .int .i64 x.f1.f1], rfl, rfl, (k54_mk w x.f1 )⟩
theorem k66_mkM (w : World) (base : Nat) (ok : Nat → Prop) (x : S66)  : k66.M w base ok x [.int .u8 x.f0, .int .i64 x.f1.f0, .int .i64 x.f1.f1] := ⟨[.int .u8 x.f0], [.int .i64 x.f1.f0, .int .i64 x.f1.f1], rfl, rfl, (k54_mkM w base ok x.f1 )⟩
def rd_T66 (xs : List S66) (i : Int) : S66 := xs.getD i.toNat z66
theorem at_T66 {w : World} {A : Option Addr} {n : Nat} {xs : List S66} (h : Kd.C k66 w A n xs) (i : Int) (h0 : 0 ≤ i) (h1 : i < n) : ∃ ad , A = some ad ∧ w.cell? (ad.add (i.toNat * 3)) = some (.int .u8 (rd_T66 xs i).f0) ∧ w.cell? ⟨(ad.add (i.toNat * 3)).block, (ad.add (i.toNat * 3)).off + 1, none⟩ = some (.int .i64 (rd_T66 xs i).f1.f0) ∧ w.cell? ⟨(ad.add (i.toNat * 3)).block, (ad.add (i.toNat * 3)).off + 2, none⟩ = some (.int .i64 (rd_T66 xs i).f1.f1) := by
  obtain ⟨ad, c, e, _, hK, hc0⟩ := Kd.C_get h z66 i h0 h1
  have hc : ∀ j u, c[j]? = some u → w.cell? (ad.add (i.toNat * 3 + j)) = some u := hc0
  obtain rfl := k66_open hK
  exact ⟨ad, e, hc 0 _ rfl, by rw [← add_field _ _ 1 (by omega)]; exact hc 1 _ rfl, by rw [← add_field _ _ 2 (by omega)]; exact hc 2 _ rfl⟩

end Go.Proofs.Ytcbibbdkjhkmoaa.PSegs

namespace Go.Proofs.Ytcbibbdkjhkmoaa.PSegs
open Go.RowKit Go.Proofs.YtcbibbdkjhkmoaaW.PrintWords Go.Proofs.YtcbibbdkjhkmoaaW.PrintLast Go.Proofs.YtcbibbdkjhkmoaaW.PrintMore
attribute [local go_sem] max2_int min2_int max_two min_two max_three min_three max_four min_four   -- for this text's walks alone
set_option linter.unusedVariables false
set_option linter.unusedSimpArgs false

/-! ### redpenref10_Segs: function 15 -/
mutual
def redpenref10_Segs.l0 : Nat → List Int → List (S66) → Int → Option ((List (S66)))
  | 0, _, _, _ => none
  | k + 1, x0, x3, x4 => if x4 < (x0.length : Int) then (redpenref10_Segs.l1 k x0 x3 x4 x4) else (some x3)
def redpenref10_Segs.l1 : Nat → List Int → List (S66) → Int → Int → Option ((List (S66)))
  | 0, _, _, _, _ => none
  | k + 1, x0, x3, x4, x5 => if x5 < (x0.length : Int) then (if 0 ≤ x5 then (if 0 ≤ x4 then (if x4 < (x0.length : Int) then (if (rd x0 x5) = (rd x0 x4) then (redpenref10_Segs.l1 k x0 x3 x4 (wrap64 (x5 + 1))) else (if x3.length < 5864062014805 then (redpenref10_Segs.l0 k x0 (x3 ++ [(⟨rd x0 x4, (⟨x4, wrap64 (x5 - x4)⟩ : S54)⟩ : S66)]) x5) else (none))) else (none)) else (none)) else (none)) else (if 0 ≤ x4 then (if x4 < (x0.length : Int) then (if x3.length < 5864062014805 then (redpenref10_Segs.l0 k x0 (x3 ++ [(⟨rd x0 x4, (⟨x4, wrap64 (x5 - x4)⟩ : S54)⟩ : S66)]) x5) else (none)) else (none)) else (none))
end
def redpenref10_Segs.f (k : Nat) (l0 : List Int) : Option ((List (S66))) := redpenref10_Segs.l0 k l0 ([] : List (S66)) 0
theorem redpenref10_Segs.mono_l : ∀ k, (∀ y0 y1 y2, LeO (redpenref10_Segs.l0 k y0 y1 y2) (redpenref10_Segs.l0 (k + 1) y0 y1 y2)) ∧ (∀ y0 y1 y2 y3, LeO (redpenref10_Segs.l1 k y0 y1 y2 y3) (redpenref10_Segs.l1 (k + 1) y0 y1 y2 y3))
  | 0 => ⟨fun _ _ _ r h => by simp [redpenref10_Segs.l0] at h, fun _ _ _ _ r h => by simp [redpenref10_Segs.l1] at h⟩
  | k + 1 => by
    obtain ⟨ih0, ih1⟩ := redpenref10_Segs.mono_l k
    refine ⟨?_, ?_⟩
    · intro y0 y1 y2
      unfold redpenref10_Segs.l0
      repeat' first
      | (with_reducible exact ih0 _ _ _)
      | (with_reducible exact ih1 _ _ _ _)
      | (with_reducible exact LeO.refl _)
      | (with_reducible exact LeO.none _)
      | (with_reducible refine LeO.ite ?_ ?_)
      | (with_reducible refine LeO.bind ?_ (fun _ => ?_))
      | exact ih0 _ _ _
      | exact ih1 _ _ _ _
      | exact LeO.none _
      | refine LeO.ite ?_ ?_
      | refine LeO.bind ?_ (fun _ => ?_)
    · intro y0 y1 y2 y3
      unfold redpenref10_Segs.l1
      repeat' first
      | (with_reducible exact ih0 _ _ _)
      | (with_reducible exact ih1 _ _ _ _)
      | (with_reducible exact LeO.refl _)
      | (with_reducible exact LeO.none _)
      | (with_reducible refine LeO.ite ?_ ?_)
      | (with_reducible refine LeO.bind ?_ (fun _ => ?_))
      | exact ih0 _ _ _
      | exact ih1 _ _ _ _
      | exact LeO.none _
      | refine LeO.ite ?_ ?_
      | refine LeO.bind ?_ (fun _ => ?_)
theorem redpenref10_Segs.mono : ∀ a0 k, LeO (redpenref10_Segs.f k a0) (redpenref10_Segs.f (k + 1) a0) := by
  intro a0 k
  obtain ⟨ih0, ih1⟩ := redpenref10_Segs.mono_l k
  unfold redpenref10_Segs.f
  repeat' first
      | (with_reducible exact ih0 _ _ _)
      | (with_reducible exact ih1 _ _ _ _)
      | (with_reducible exact LeO.refl _)
      | (with_reducible exact LeO.none _)
      | (with_reducible refine LeO.ite ?_ ?_)
      | (with_reducible refine LeO.bind ?_ (fun _ => ?_))
      | exact ih0 _ _ _
      | exact ih1 _ _ _ _
      | exact LeO.none _
      | refine LeO.ite ?_ ?_
      | refine LeO.bind ?_ (fun _ => ?_)
set_option maxHeartbeats 8000000 in
set_option maxRecDepth 100000 in
theorem redpenref10_Segs.calls (k : Nat) (A0 : Option Addr) (c0 : Nat) (l0 : List Int) (r : List (S66)) (w : World) (hr0 : Kd.C (Kd.int .u8) w A0 l0.length l0) (hc0 : l0.length ≤ c0) (h : redpenref10_Segs.f k l0 = some r) :
    Calls Try.prog 15 #[.slice A0 l0.length c0] w fun e w' => ∃ v0_ : Value, e = .returned (v0_) ∧ Kd.R k66 66 w' w.heap.size (fun _ => True) v0_ r ∧ Below w.heap.size w w' := by
  have hu54 := Try.underlying54
  have hu66 := Try.underlying66
  have HR0 := Aside0.mk hr0
  have HC0 := Aside0.mk hc0
  clear hr0 hc0
  have HB := Aside0.mk (Below.refl w.heap.size w)
  have H : (redpenref10_Segs.l0 k l0 ([] : List (S66)) 0) = some r := h
  clear h
  have H' := Aside0.mk H
  clear H
  go_enter Try.func15, Try.ntmps15
  go_wp2
  repeat (go_quiet (fail); try go_wp2)
  go_loopg [3, 4] k (fun kq v3 v4 w' => ∃ (x3_1 : List (S66)) (x4_1 : Int), v4 = .int .i64 x4_1 ∧ Aside0 (redpenref10_Segs.l0 kq l0 x3_1 x4_1 = some r) ∧ Aside0 (kq ≤ k) ∧ Aside0 (Kd.R k66 66 w' w.heap.size (fun _ => True) v3 x3_1) ∧ Aside0 (Below w.heap.size w w'))
  case atStart => exact ⟨(([] : List (S66))), (0), (by first | rfl | (simp; done) | (simp [*]; done)), H', ⟨Nat.le_refl _⟩, ⟨by first | exact Kd.R_nil _ _ _ _ _ | exact Kd.N_nil _ _ _ _ _ | exact Kd.V_nil _ _ _ _ _ | exact Kd.Q_nil _ _ _ _ _ | exact Kd.S_nil _ _ _ _ _⟩, ⟨by repeat (first | (with_reducible first | exact HB.out | apply below_alloc | apply pw_below_drewN | apply below_drew1) | exact HB.out)⟩⟩
  case round =>
    clear H'
    try clear c1
    obtain ⟨x3_1, x4_1, rfl, HA, HK1, HO_3, HB⟩ := hrel
    cases gk with
    | zero => exact absurd HA.out (by simp [redpenref10_Segs.l0])
    | succ k1 =>
      have H := HA.out
      clear HA
      simp only [redpenref10_Segs.l0] at H
      by_cases c2 : x4_1 < (l0.length : Int)
      · rw [if_pos c2] at H
        have c2b0 : decide (x4_1 < (l0.length : Int)) = true := decide_eq_true c2
        clear c2
        have H' := Aside0.mk H
        clear H
        go_wp2
        repeat (go_quiet (fail); try go_wp2)
        go_loopg [5] k1 (fun kq v5 w' => ∃ (x5_2 : Int), v5 = .int .i64 x5_2 ∧ Aside0 (redpenref10_Segs.l1 kq l0 x3_1 x4_1 x5_2 = some r) ∧ Aside0 (kq ≤ k1) ∧ Aside0 (Kd.R k66 66 w' w.heap.size (fun _ => True) u3 x3_1) ∧ Aside0 (Below w.heap.size w w'))
        case atStart => exact ⟨(x4_1), (by first | rfl | (simp; done) | (simp [*]; done)), H', ⟨Nat.le_refl _⟩, ⟨by (with_reducible repeat (first | apply Kd.R_alloc | apply Kd.R_drewN | apply Kd.R_drew)); exact HO_3.out⟩, ⟨by repeat (first | (with_reducible first | exact HB.out | apply below_alloc | apply pw_below_drewN | apply below_drew1) | exact HB.out)⟩⟩
        case round =>
          clear H'
          try clear c1
          try clear c2
          try clear c2b0
          try clear p2
          obtain ⟨x5_2, rfl, HA, HK2, HO_3, HB⟩ := hrel
          cases gk with
          | zero => exact absurd HA.out (by simp [redpenref10_Segs.l1])
          | succ k2 =>
            have H := HA.out
            clear HA
            simp only [redpenref10_Segs.l1] at H
            by_cases c3 : x5_2 < (l0.length : Int)
            · rw [if_pos c3] at H
              have c3b0 : decide (x5_2 < (l0.length : Int)) = true := decide_eq_true c3
              clear c3
              by_cases c4 : 0 ≤ x5_2
              · rw [if_pos c4] at H
                have c4b0 : decide (0 ≤ x5_2) = true := decide_eq_true c4
                clear c4
                by_cases c5 : 0 ≤ x4_1
                · rw [if_pos c5] at H
                  have c5b0 : decide (0 ≤ x4_1) = true := decide_eq_true c5
                  clear c5
                  by_cases c6 : x4_1 < (l0.length : Int)
                  · rw [if_pos c6] at H
                    have c6b0 : decide (x4_1 < (l0.length : Int)) = true := decide_eq_true c6
                    clear c6
                    by_cases c7 : (rd l0 x5_2) = (rd l0 x4_1)
                    · rw [if_pos c7] at H
                      have c7b0 : ((rd l0 x5_2) == (rd l0 x4_1)) = true := beq_iff_eq.mpr c7
                      have c7b1 : ((rd l0 x5_2) != (rd l0 x4_1)) = false := bne_eq_false_iff_eq.mpr c7
                      clear c7
                      have H' := Aside0.mk H
                      clear H
                      have p101 : 0 ≤ (x5_2 : Int) := of_decide_eq_true (by first | (with_reducible assumption) | assumption)
                      have q101 : x5_2 < (l0.length : Int) := of_decide_eq_true (by first | (with_reducible assumption) | assumption)
                      obtain ⟨ad101, e101, hx101_0⟩ := Kd.at_int HR0.out x5_2 p101 q101
                      cases e101
                      replace hx101_0 := (HB.out.cell (World.block_lt_of_cell? w _ hx101_0)).trans hx101_0
                      replace p101 := eq_true p101
                      replace q101 := eq_true q101
                      have p102 : 0 ≤ (x4_1 : Int) := of_decide_eq_true (by first | (with_reducible assumption) | assumption)
                      have q102 : x4_1 < (l0.length : Int) := of_decide_eq_true (by first | (with_reducible assumption) | assumption)
                      obtain ⟨ad102, e102, hx102_0⟩ := Kd.at_int HR0.out x4_1 p102 q102
                      obtain rfl : ad101 = ad102 := (by injection e102)
                      replace hx102_0 := (HB.out.cell (World.block_lt_of_cell? w _ hx102_0)).trans hx102_0
                      replace p102 := eq_true p102
                      replace q102 := eq_true q102
                      go_wp2
                      repeat (go_quiet (fail); try go_wp2)
                      go_roundg k2
                      case measure => have := HK1.out; have := HK2.out; omega
                      case rel => exact ⟨(wrap64 (x5_2 + 1)), (by first | rfl | (simp; done) | (simp [*]; done)), H', ⟨by have := HK1.out; have := HK2.out; omega⟩, ⟨by (with_reducible repeat (first | apply Kd.R_alloc | apply Kd.R_drewN | apply Kd.R_drew)); exact HO_3.out⟩, ⟨by repeat (first | (with_reducible first | exact HB.out | apply below_alloc | apply pw_below_drewN | apply below_drew1) | exact HB.out)⟩⟩
                    · rw [if_neg c7] at H
                      have c7b0 : ((rd l0 x5_2) == (rd l0 x4_1)) = false := beq_eq_false_iff_ne.mpr c7
                      have c7b1 : ((rd l0 x5_2) != (rd l0 x4_1)) = true := bne_iff_ne.mpr c7
                      by_cases c8 : x3_1.length < 5864062014805
                      · rw [if_pos c8] at H
                        have LMc8 := Aside0.mk c8
                        clear c8
                        obtain ⟨y104, hy104⟩ : ∃ y_ : List (S66), y_ = (x3_1 ++ [(⟨rd l0 x4_1, (⟨x4_1, wrap64 (x5_2 - x4_1)⟩ : S54)⟩ : S66)]) := ⟨_, rfl⟩
                        replace H : (redpenref10_Segs.l0 k2 l0 y104 x5_2) = some r := by first | (rw [hy104]; with_reducible exact H) | (have H2_ := (Option.bind_some _ _).symm.trans H; rw [hy104]; with_reducible exact H2_) | (have H2_ := (Option.bind_some _ _).symm.trans H; with_reducible exact H2_) | with_reducible exact H | (rw [hy104]; exact H) | exact H
                        have Ny104 := Aside0.mk hy104
                        clear hy104
                        have H' := Aside0.mk H
                        clear H
                        have p101 : 0 ≤ (x5_2 : Int) := of_decide_eq_true (by first | (with_reducible assumption) | assumption)
                        have q101 : x5_2 < (l0.length : Int) := of_decide_eq_true (by first | (with_reducible assumption) | assumption)
                        obtain ⟨ad101, e101, hx101_0⟩ := Kd.at_int HR0.out x5_2 p101 q101
                        cases e101
                        replace hx101_0 := (HB.out.cell (World.block_lt_of_cell? w _ hx101_0)).trans hx101_0
                        replace p101 := eq_true p101
                        replace q101 := eq_true q101
                        have p102 : 0 ≤ (x4_1 : Int) := of_decide_eq_true (by first | (with_reducible assumption) | assumption)
                        have q102 : x4_1 < (l0.length : Int) := of_decide_eq_true (by first | (with_reducible assumption) | assumption)
                        obtain ⟨ad102, e102, hx102_0⟩ := Kd.at_int HR0.out x4_1 p102 q102
                        obtain rfl : ad101 = ad102 := (by injection e102)
                        replace hx102_0 := (HB.out.cell (World.block_lt_of_cell? w _ hx102_0)).trans hx102_0
                        replace p102 := eq_true p102
                        replace q102 := eq_true q102
                        have p103 : 0 ≤ (x4_1 : Int) := of_decide_eq_true (by first | (with_reducible assumption) | assumption)
                        have q103 : x4_1 < (l0.length : Int) := of_decide_eq_true (by first | (with_reducible assumption) | assumption)
                        obtain ⟨ad103, e103, hx103_0⟩ := Kd.at_int HR0.out x4_1 p103 q103
                        obtain rfl : ad101 = ad103 := (by injection e103)
                        replace hx103_0 := (HB.out.cell (World.block_lt_of_cell? w _ hx103_0)).trans hx103_0
                        replace p103 := eq_true p103
                        replace q103 := eq_true q103
                        go_wp2_with (first | ((with_reducible refine gate_builtin (b := .append) (xs := #[.tmp 28, .tmp 39]) rfl ?_); at_builtin; refine Kd.R_append k66 (w0 := w) w.heap.size rfl (.tmp 28) (.tmp 39) 33 66 (.agg #[(.int .u8 0), (.int .i64 0), (.int .i64 0)]) 24 rfl Try.underlying33 info66 rfl (by decide) (by omega) u3 x3_1 (⟨rd l0 x4_1, (⟨x4_1, wrap64 (x5_2 - x4_1)⟩ : S54)⟩ : S66) [.int .u8 (rd l0 x4_1), .int .i64 x4_1, .int .i64 (wrap64 (x5_2 - x4_1))] (fun _ => True) (fun _ => False) rfl rfl ?aP (fun _ hk => hk.elim) ?aF ?aO ?aB ?aS ?aL ?_; (case aP => exact k66_mkM _ _ _ (⟨rd l0 x4_1, (⟨x4_1, wrap64 (x5_2 - x4_1)⟩ : S54)⟩ : S66)); (case aB => exact (by repeat (first | (with_reducible first | exact HB.out | apply below_alloc | apply pw_below_drewN | apply below_drew1) | exact HB.out))); (case aF => exact (fun _ _ => trivial)); (case aO => exact (by (with_reducible repeat (first | apply Kd.R_alloc | apply Kd.R_drewN | apply Kd.R_drew)); exact HO_3.out)); (case aS => exact (below_size (by repeat (first | (with_reducible first | exact HB.out | apply below_alloc | apply pw_below_drewN | apply below_drew1) | exact HB.out)))); (case aL => have := LMc8.out; omega); intro v105 w9 ho hb hg hat; rw [← Ny104.out] at ho; have n0_ := Aside0.mk (hb); have n1_ := Aside0.mk (ho); clear HB; clear HO_3; have HB := n0_; have HO106 := n1_; clear n0_ n1_; clear ho hb hg hat))
                        repeat (go_quiet (first | ((with_reducible refine gate_builtin (b := .append) (xs := #[.tmp 28, .tmp 39]) rfl ?_); at_builtin; refine Kd.R_append k66 (w0 := w) w.heap.size rfl (.tmp 28) (.tmp 39) 33 66 (.agg #[(.int .u8 0), (.int .i64 0), (.int .i64 0)]) 24 rfl Try.underlying33 info66 rfl (by decide) (by omega) u3 x3_1 (⟨rd l0 x4_1, (⟨x4_1, wrap64 (x5_2 - x4_1)⟩ : S54)⟩ : S66) [.int .u8 (rd l0 x4_1), .int .i64 x4_1, .int .i64 (wrap64 (x5_2 - x4_1))] (fun _ => True) (fun _ => False) rfl rfl ?aP (fun _ hk => hk.elim) ?aF ?aO ?aB ?aS ?aL ?_; (case aP => exact k66_mkM _ _ _ (⟨rd l0 x4_1, (⟨x4_1, wrap64 (x5_2 - x4_1)⟩ : S54)⟩ : S66)); (case aB => exact (by repeat (first | (with_reducible first | exact HB.out | apply below_alloc | apply pw_below_drewN | apply below_drew1) | exact HB.out))); (case aF => exact (fun _ _ => trivial)); (case aO => exact (by (with_reducible repeat (first | apply Kd.R_alloc | apply Kd.R_drewN | apply Kd.R_drew)); exact HO_3.out)); (case aS => exact (below_size (by repeat (first | (with_reducible first | exact HB.out | apply below_alloc | apply pw_below_drewN | apply below_drew1) | exact HB.out)))); (case aL => have := LMc8.out; omega); intro v105 w9 ho hb hg hat; rw [← Ny104.out] at ho; have n0_ := Aside0.mk (hb); have n1_ := Aside0.mk (ho); clear HB; clear HO_3; have HB := n0_; have HO106 := n1_; clear n0_ n1_; clear ho hb hg hat)); try go_wp2_with (first | ((with_reducible refine gate_builtin (b := .append) (xs := #[.tmp 28, .tmp 39]) rfl ?_); at_builtin; refine Kd.R_append k66 (w0 := w) w.heap.size rfl (.tmp 28) (.tmp 39) 33 66 (.agg #[(.int .u8 0), (.int .i64 0), (.int .i64 0)]) 24 rfl Try.underlying33 info66 rfl (by decide) (by omega) u3 x3_1 (⟨rd l0 x4_1, (⟨x4_1, wrap64 (x5_2 - x4_1)⟩ : S54)⟩ : S66) [.int .u8 (rd l0 x4_1), .int .i64 x4_1, .int .i64 (wrap64 (x5_2 - x4_1))] (fun _ => True) (fun _ => False) rfl rfl ?aP (fun _ hk => hk.elim) ?aF ?aO ?aB ?aS ?aL ?_; (case aP => exact k66_mkM _ _ _ (⟨rd l0 x4_1, (⟨x4_1, wrap64 (x5_2 - x4_1)⟩ : S54)⟩ : S66)); (case aB => exact (by repeat (first | (with_reducible first | exact HB.out | apply below_alloc | apply pw_below_drewN | apply below_drew1) | exact HB.out))); (case aF => exact (fun _ _ => trivial)); (case aO => exact (by (with_reducible repeat (first | apply Kd.R_alloc | apply Kd.R_drewN | apply Kd.R_drew)); exact HO_3.out)); (case aS => exact (below_size (by repeat (first | (with_reducible first | exact HB.out | apply below_alloc | apply pw_below_drewN | apply below_drew1) | exact HB.out)))); (case aL => have := LMc8.out; omega); intro v105 w9 ho hb hg hat; rw [← Ny104.out] at ho; have n0_ := Aside0.mk (hb); have n1_ := Aside0.mk (ho); clear HB; clear HO_3; have HB := n0_; have HO106 := n1_; clear n0_ n1_; clear ho hb hg hat)))
                        go_roundg k2
                        case measure => have := HK1.out; have := HK2.out; omega
                        case rel => exact ⟨(y104), (x5_2), (by first | rfl | (simp; done) | (simp [*]; done)), H', ⟨by have := HK1.out; have := HK2.out; omega⟩, ⟨by (with_reducible repeat (first | apply Kd.R_alloc | apply Kd.R_drewN | apply Kd.R_drew)); exact HO106.out⟩, ⟨by repeat (first | (with_reducible first | exact HB.out | apply below_alloc | apply pw_below_drewN | apply below_drew1) | exact HB.out)⟩⟩
                      · rw [if_neg c8] at H
                        exact absurd H (by simp)
                  · rw [if_neg c6] at H
                    exact absurd H (by simp)
                · rw [if_neg c5] at H
                  exact absurd H (by simp)
              · rw [if_neg c4] at H
                exact absurd H (by simp)
            · rw [if_neg c3] at H
              have c3b0 : decide (x5_2 < (l0.length : Int)) = false := decide_eq_false c3
              clear c3
              by_cases c10 : 0 ≤ x4_1
              · rw [if_pos c10] at H
                have c10b0 : decide (0 ≤ x4_1) = true := decide_eq_true c10
                clear c10
                by_cases c11 : x4_1 < (l0.length : Int)
                · rw [if_pos c11] at H
                  have c11b0 : decide (x4_1 < (l0.length : Int)) = true := decide_eq_true c11
                  clear c11
                  by_cases c12 : x3_1.length < 5864062014805
                  · rw [if_pos c12] at H
                    have LMc12 := Aside0.mk c12
                    clear c12
                    obtain ⟨y108, hy108⟩ : ∃ y_ : List (S66), y_ = (x3_1 ++ [(⟨rd l0 x4_1, (⟨x4_1, wrap64 (x5_2 - x4_1)⟩ : S54)⟩ : S66)]) := ⟨_, rfl⟩
                    replace H : (redpenref10_Segs.l0 k2 l0 y108 x5_2) = some r := by first | (rw [hy108]; with_reducible exact H) | (have H2_ := (Option.bind_some _ _).symm.trans H; rw [hy108]; with_reducible exact H2_) | (have H2_ := (Option.bind_some _ _).symm.trans H; with_reducible exact H2_) | with_reducible exact H | (rw [hy108]; exact H) | exact H
                    have Ny108 := Aside0.mk hy108
                    clear hy108
                    have H' := Aside0.mk H
                    clear H
                    have p107 : 0 ≤ (x4_1 : Int) := of_decide_eq_true (by first | (with_reducible assumption) | assumption)
                    have q107 : x4_1 < (l0.length : Int) := of_decide_eq_true (by first | (with_reducible assumption) | assumption)
                    obtain ⟨ad107, e107, hx107_0⟩ := Kd.at_int HR0.out x4_1 p107 q107
                    cases e107
                    replace hx107_0 := (HB.out.cell (World.block_lt_of_cell? w _ hx107_0)).trans hx107_0
                    replace p107 := eq_true p107
                    replace q107 := eq_true q107
                    go_wp2_with (first | ((with_reducible refine gate_builtin (b := .append) (xs := #[.tmp 28, .tmp 39]) rfl ?_); at_builtin; refine Kd.R_append k66 (w0 := w) w.heap.size rfl (.tmp 28) (.tmp 39) 33 66 (.agg #[(.int .u8 0), (.int .i64 0), (.int .i64 0)]) 24 rfl Try.underlying33 info66 rfl (by decide) (by omega) u3 x3_1 (⟨rd l0 x4_1, (⟨x4_1, wrap64 (x5_2 - x4_1)⟩ : S54)⟩ : S66) [.int .u8 (rd l0 x4_1), .int .i64 x4_1, .int .i64 (wrap64 (x5_2 - x4_1))] (fun _ => True) (fun _ => False) rfl rfl ?aP (fun _ hk => hk.elim) ?aF ?aO ?aB ?aS ?aL ?_; (case aP => exact k66_mkM _ _ _ (⟨rd l0 x4_1, (⟨x4_1, wrap64 (x5_2 - x4_1)⟩ : S54)⟩ : S66)); (case aB => exact (by repeat (first | (with_reducible first | exact HB.out | apply below_alloc | apply pw_below_drewN | apply below_drew1) | exact HB.out))); (case aF => exact (fun _ _ => trivial)); (case aO => exact (by (with_reducible repeat (first | apply Kd.R_alloc | apply Kd.R_drewN | apply Kd.R_drew)); exact HO_3.out)); (case aS => exact (below_size (by repeat (first | (with_reducible first | exact HB.out | apply below_alloc | apply pw_below_drewN | apply below_drew1) | exact HB.out)))); (case aL => have := LMc12.out; omega); intro v109 w13 ho hb hg hat; rw [← Ny108.out] at ho; have n0_ := Aside0.mk (hb); have n1_ := Aside0.mk (ho); clear HB; clear HO_3; have HB := n0_; have HO110 := n1_; clear n0_ n1_; clear ho hb hg hat))
                    repeat (go_quiet (first | ((with_reducible refine gate_builtin (b := .append) (xs := #[.tmp 28, .tmp 39]) rfl ?_); at_builtin; refine Kd.R_append k66 (w0 := w) w.heap.size rfl (.tmp 28) (.tmp 39) 33 66 (.agg #[(.int .u8 0), (.int .i64 0), (.int .i64 0)]) 24 rfl Try.underlying33 info66 rfl (by decide) (by omega) u3 x3_1 (⟨rd l0 x4_1, (⟨x4_1, wrap64 (x5_2 - x4_1)⟩ : S54)⟩ : S66) [.int .u8 (rd l0 x4_1), .int .i64 x4_1, .int .i64 (wrap64 (x5_2 - x4_1))] (fun _ => True) (fun _ => False) rfl rfl ?aP (fun _ hk => hk.elim) ?aF ?aO ?aB ?aS ?aL ?_; (case aP => exact k66_mkM _ _ _ (⟨rd l0 x4_1, (⟨x4_1, wrap64 (x5_2 - x4_1)⟩ : S54)⟩ : S66)); (case aB => exact (by repeat (first | (with_reducible first | exact HB.out | apply below_alloc | apply pw_below_drewN | apply below_drew1) | exact HB.out))); (case aF => exact (fun _ _ => trivial)); (case aO => exact (by (with_reducible repeat (first | apply Kd.R_alloc | apply Kd.R_drewN | apply Kd.R_drew)); exact HO_3.out)); (case aS => exact (below_size (by repeat (first | (with_reducible first | exact HB.out | apply below_alloc | apply pw_below_drewN | apply below_drew1) | exact HB.out)))); (case aL => have := LMc12.out; omega); intro v109 w13 ho hb hg hat; rw [← Ny108.out] at ho; have n0_ := Aside0.mk (hb); have n1_ := Aside0.mk (ho); clear HB; clear HO_3; have HB := n0_; have HO110 := n1_; clear n0_ n1_; clear ho hb hg hat)); try go_wp2_with (first | ((with_reducible refine gate_builtin (b := .append) (xs := #[.tmp 28, .tmp 39]) rfl ?_); at_builtin; refine Kd.R_append k66 (w0 := w) w.heap.size rfl (.tmp 28) (.tmp 39) 33 66 (.agg #[(.int .u8 0), (.int .i64 0), (.int .i64 0)]) 24 rfl Try.underlying33 info66 rfl (by decide) (by omega) u3 x3_1 (⟨rd l0 x4_1, (⟨x4_1, wrap64 (x5_2 - x4_1)⟩ : S54)⟩ : S66) [.int .u8 (rd l0 x4_1), .int .i64 x4_1, .int .i64 (wrap64 (x5_2 - x4_1))] (fun _ => True) (fun _ => False) rfl rfl ?aP (fun _ hk => hk.elim) ?aF ?aO ?aB ?aS ?aL ?_; (case aP => exact k66_mkM _ _ _ (⟨rd l0 x4_1, (⟨x4_1, wrap64 (x5_2 - x4_1)⟩ : S54)⟩ : S66)); (case aB => exact (by repeat (first | (with_reducible first | exact HB.out | apply below_alloc | apply pw_below_drewN | apply below_drew1) | exact HB.out))); (case aF => exact (fun _ _ => trivial)); (case aO => exact (by (with_reducible repeat (first | apply Kd.R_alloc | apply Kd.R_drewN | apply Kd.R_drew)); exact HO_3.out)); (case aS => exact (below_size (by repeat (first | (with_reducible first | exact HB.out | apply below_alloc | apply pw_below_drewN | apply below_drew1) | exact HB.out)))); (case aL => have := LMc12.out; omega); intro v109 w13 ho hb hg hat; rw [← Ny108.out] at ho; have n0_ := Aside0.mk (hb); have n1_ := Aside0.mk (ho); clear HB; clear HO_3; have HB := n0_; have HO110 := n1_; clear n0_ n1_; clear ho hb hg hat)))
                    go_roundg k2
                    case measure => have := HK1.out; have := HK2.out; omega
                    case rel => exact ⟨(y108), (x5_2), (by first | rfl | (simp; done) | (simp [*]; done)), H', ⟨by have := HK1.out; have := HK2.out; omega⟩, ⟨by (with_reducible repeat (first | apply Kd.R_alloc | apply Kd.R_drewN | apply Kd.R_drew)); exact HO110.out⟩, ⟨by repeat (first | (with_reducible first | exact HB.out | apply below_alloc | apply pw_below_drewN | apply below_drew1) | exact HB.out)⟩⟩
                  · rw [if_neg c12] at H
                    exact absurd H (by simp)
                · rw [if_neg c11] at H
                  exact absurd H (by simp)
              · rw [if_neg c10] at H
                exact absurd H (by simp)
      · rw [if_neg c2] at H
        have c2b0 : decide (x4_1 < (l0.length : Int)) = false := decide_eq_false c2
        clear c2
        obtain rfl := Option.some.inj H
        go_wp2
        repeat (go_quiet (fail); try go_wp2)
        go_ret
        exact ⟨_, by first | rfl | (simp [errW_none, errW_some] <;> rfl) | (simp [*, errW_none, errW_some] <;> rfl), by (with_reducible repeat (first | apply Kd.R_alloc | apply Kd.R_drewN | apply Kd.R_drew)); exact HO_3.out, by repeat (first | (with_reducible first | exact HB.out | apply below_alloc | apply pw_below_drewN | apply below_drew1) | exact HB.out)⟩

end Go.Proofs.Ytcbibbdkjhkmoaa.PSegs

namespace Go.Proofs.Ytcbibbdkjhkmoaa.PSameSegs
open Go.RowKit Go.Proofs.YtcbibbdkjhkmoaaW.PrintWords Go.Proofs.YtcbibbdkjhkmoaaW.PrintLast Go.Proofs.YtcbibbdkjhkmoaaW.PrintMore
attribute [local go_sem] max2_int min2_int max_two min_two max_three min_three max_four min_four   -- for this text's walks alone
set_option linter.unusedVariables false
set_option linter.unusedSimpArgs false



def errW : Option Int → Value
  | none => .nilIface
  | some c => .iface 0 (.int .i64 c)
theorem errW_none : errW none = .nilIface := rfl
theorem errW_some (c : Int) : errW (some c) = .iface 0 (.int .i64 c) := rfl

-- the values' own types
/-! #### struct type 54 -/
structure S54 where
  f0 : Int
  f1 : Int
def z54 : S54 := ⟨(0 : Int), (0 : Int)⟩
def k54 : Kd S54 := Kd.iso (Kd.pair (Kd.int .i64) (Kd.int .i64)) (fun x : S54 => (x.f0, x.f1))
theorem k54_open {w : World} {x : S54} {cs : List Value} (h : k54.K w x cs) : cs = [.int .i64 x.f0, .int .i64 x.f1] := by
  obtain ⟨_, _, rfl, rfl, rfl⟩ := h
  exact rfl
theorem k54_openM {w : World} {base : Nat} {ok : Nat → Prop} {x : S54} {cs : List Value} (h : k54.M w base ok x cs) : cs = [.int .i64 x.f0, .int .i64 x.f1] := by
  obtain ⟨_, _, rfl, rfl, rfl⟩ := h
  exact rfl
theorem k54_mk (w : World) (x : S54)  : k54.K w x [.int .i64 x.f0, .int .i64 x.f1] := ⟨[.int .i64 x.f0], [.int .i64 x.f1], rfl, rfl, rfl⟩
theorem k54_mkM (w : World) (base : Nat) (ok : Nat → Prop) (x : S54)  : k54.M w base ok x [.int .i64 x.f0, .int .i64 x.f1] := ⟨[.int .i64 x.f0], [.int .i64 x.f1], rfl, rfl, rfl⟩
def rd_T54 (xs : List S54) (i : Int) : S54 := xs.getD i.toNat z54
theorem at_T54 {w : World} {A : Option Addr} {n : Nat} {xs : List S54} (h : Kd.C k54 w A n xs) (i : Int) (h0 : 0 ≤ i) (h1 : i < n) : ∃ ad , A = some ad ∧ w.cell? (ad.add (i.toNat * 2)) = some (.int .i64 (rd_T54 xs i).f0) ∧ w.cell? ⟨(ad.add (i.toNat * 2)).block, (ad.add (i.toNat * 2)).off + 1, none⟩ = some (.int .i64 (rd_T54 xs i).f1) := by
  obtain ⟨ad, c, e, _, hK, hc0⟩ := Kd.C_get h z54 i h0 h1
  have hc : ∀ j u, c[j]? = some u → w.cell? (ad.add (i.toNat * 2 + j)) = some u := hc0
  obtain rfl := k54_open hK
  exact ⟨ad, e, hc 0 _ rfl, by rw [← add_field _ _ 1 (by omega)]; exact hc 1 _ rfl⟩

/-! #### struct type 66 -/
structure S66 where
  f0 : Int
  f1 : S54
def z66 : S66 := ⟨(0 : Int), z54⟩
def k66 : Kd S66 := Kd.iso (Kd.pair (Kd.int .u8) k54) (fun x : S66 => (x.f0, x.f1))
theorem k66_open {w : World} {x : S66} {cs : List Value} (h : k66.K w x cs) : cs = [.int .u8 x.f0, .int .i64 x.f1.f0, .int .i64 x.f1.f1] := by
  obtain ⟨_, _, rfl, rfl, s1⟩ := h
  obtain rfl := k54_open s1
  exact rfl
theorem k66_openM {w : World} {base : Nat} {ok : Nat → Prop} {x : S66} {cs : List Value} (h : k66.M w base ok x cs) : cs = [.int .u8 x.f0, .int .i64 x.f1.f0, .int .i64 x.f1.f1] := by
  obtain ⟨_, _, rfl, rfl, s1⟩ := h
  obtain rfl := k54_openM s1
  exact rfl
theorem k66_mk (w : World) (x : S66)  : k66.K w x [.int .u8 x.f0, .int .i64 x.f1.f0, .int .i64 x.f1.f1] := ⟨[.int .u8 x.f0], [.int .i64 x.f1.f0, .int .i64 x.f1.f1], rfl, rfl, (k54_mk w x.f1 )⟩
theorem k66_mkM (w : World) (base : Nat) (ok : Nat → Prop) (x : S66)  : k66.M w base ok x [.int .u8 x.f0, .int .i64 x.f1.f0, .int .i64 x.f1.f1] := ⟨[.int .u8 x.f0], [.int .i64 x.f1.f0, .int .i64 x.f1.f1], rfl, rfl, (k54_mkM w base ok x.f1 )⟩
def rd_T66 (xs : List S66) (i : Int) : S66 := xs.getD i.toNat z66
theorem at_T66 {w : World} {A : Option Addr} {n : Nat} {xs : List S66} (h : Kd.C k66 w A n xs) (i : Int) (h0 : 0 ≤ i) (h1 : i < n) : ∃ ad , A = some ad ∧ w.cell? (ad.add (i.toNat * 3)) = some (.int .u8 (rd_T66 xs i).f0) ∧ w.cell? ⟨(ad.add (i.toNat * 3)).block, (ad.add (i.toNat * 3)).off + 1, none⟩ = some (.int .i64 (rd_T66 xs i).f1.f0) ∧ w.cell? ⟨(ad.add (i.toNat * 3)).block, (ad.add (i.toNat * 3)).off + 2, none⟩ = some (.int .i64 (rd_T66 xs i).f1.f1) := by
  obtain ⟨ad, c, e, _, hK, hc0⟩ := Kd.C_get h z66 i h0 h1
  have hc : ∀ j u, c[j]? = some u → w.cell? (ad.add (i.toNat * 3 + j)) = some u := hc0
  obtain rfl := k66_open hK
  exact ⟨ad, e, hc 0 _ rfl, by rw [← add_field _ _ 1 (by omega)]; exact hc 1 _ rfl, by rw [← add_field _ _ 2 (by omega)]; exact hc 2 _ rfl⟩

end Go.Proofs.Ytcbibbdkjhkmoaa.PSameSegs

namespace Go.Proofs.Ytcbibbdkjhkmoaa.PSameSegs
open Go.RowKit Go.Proofs.YtcbibbdkjhkmoaaW.PrintWords Go.Proofs.YtcbibbdkjhkmoaaW.PrintLast Go.Proofs.YtcbibbdkjhkmoaaW.PrintMore
attribute [local go_sem] max2_int min2_int max_two min_two max_three min_three max_four min_four   -- for this text's walks alone
set_option linter.unusedVariables false
set_option linter.unusedSimpArgs false

theorem eqA54 (d : Nat) (w : World) (x0 y0 : Int) (x1 y1 : Int) :
    (Op.equalIn (d + 2) 54 (.agg #[.int .i64 x0, .int .i64 x1]) (.agg #[.int .i64 y0, .int .i64 y1])).run Try.prog w = .ok (x0 == y0 && (x1 == y1)) w := by
  refine eqA_of Try.underlying54 (by kernel_rfl) ?_
  refine eqf_cons (by rfl) (by go_simp; rfl) (by go_simp; rfl) (by go_simp) ?_
  exact eqf_last (by rfl) (by go_simp; rfl) (by go_simp; rfl) (by go_simp)
theorem eqA66 (d : Nat) (w : World) (x0 y0 : Int) (x1 y1 : Int) (x2 y2 : Int) :
    (Op.equalIn (d + 3) 66 (.agg #[.int .u8 x0, .int .i64 x1, .int .i64 x2]) (.agg #[.int .u8 y0, .int .i64 y1, .int .i64 y2])).run Try.prog w = .ok (x0 == y0 && ((x1 == y1 && (x2 == y2)))) w := by
  refine eqA_of Try.underlying66 (by kernel_rfl) ?_
  refine eqf_cons (by rfl) (by go_simp; rfl) (by go_simp; rfl) (by go_simp) ?_
  exact eqf_last (by rfl) (by go_simp) (by go_simp) (eqA54 (d + 0) w _ _ _ _)
end Go.Proofs.Ytcbibbdkjhkmoaa.PSameSegs

namespace Go.Proofs.Ytcbibbdkjhkmoaa.PSameSegs
open Go.RowKit Go.Proofs.YtcbibbdkjhkmoaaW.PrintWords Go.Proofs.YtcbibbdkjhkmoaaW.PrintLast Go.Proofs.YtcbibbdkjhkmoaaW.PrintMore
attribute [local go_sem] max2_int min2_int max_two min_two max_three min_three max_four min_four   -- for this text's walks alone
set_option linter.unusedVariables false
set_option linter.unusedSimpArgs false

attribute [local go_sem high] eqA66
/-! ### redpenref10_SameSegs: function 13 -/
def redpenref10_SameSegs.l0 : Nat → List (S66) → List (S66) → Int → Option (Bool)
  | 0, _, _, _ => none
  | k + 1, x0, x1, x5 => if x5 < (x0.length : Int) then (if 0 ≤ x5 then (if x5 < (x1.length : Int) then (if (!(((rd_T66 x0 x5).f0) == ((rd_T66 x1 x5).f0)) || ((!(((rd_T66 x0 x5).f1.f0) == ((rd_T66 x1 x5).f1.f0)) || (!(((rd_T66 x0 x5).f1.f1) == ((rd_T66 x1 x5).f1.f1)))))) = true then (some false) else (redpenref10_SameSegs.l0 k x0 x1 (wrap64 (x5 + 1)))) else (none)) else (none)) else (some true)
def redpenref10_SameSegs.f (k : Nat) (l0 : List (S66)) (l1 : List (S66)) : Option (Bool) := if (l0.length : Int) = (l1.length : Int) then (redpenref10_SameSegs.l0 k l0 l1 0) else (some false)
theorem redpenref10_SameSegs.mono_l : ∀ k, (∀ y0 y1 y2, LeO (redpenref10_SameSegs.l0 k y0 y1 y2) (redpenref10_SameSegs.l0 (k + 1) y0 y1 y2))
  | 0 => fun _ _ _ r h => by simp [redpenref10_SameSegs.l0] at h
  | k + 1 => by
    have ih0 := redpenref10_SameSegs.mono_l k
    · intro y0 y1 y2
      unfold redpenref10_SameSegs.l0
      repeat' first
      | (with_reducible exact ih0 _ _ _)
      | (with_reducible exact LeO.refl _)
      | (with_reducible exact LeO.none _)
      | (with_reducible refine LeO.ite ?_ ?_)
      | (with_reducible refine LeO.bind ?_ (fun _ => ?_))
      | exact ih0 _ _ _
      | exact LeO.none _
      | refine LeO.ite ?_ ?_
      | refine LeO.bind ?_ (fun _ => ?_)
theorem redpenref10_SameSegs.mono : ∀ a0 a1 k, LeO (redpenref10_SameSegs.f k a0 a1) (redpenref10_SameSegs.f (k + 1) a0 a1) := by
  intro a0 a1 k
  have ih0 := redpenref10_SameSegs.mono_l k
  unfold redpenref10_SameSegs.f
  repeat' first
      | (with_reducible exact ih0 _ _ _)
      | (with_reducible exact LeO.refl _)
      | (with_reducible exact LeO.none _)
      | (with_reducible refine LeO.ite ?_ ?_)
      | (with_reducible refine LeO.bind ?_ (fun _ => ?_))
      | exact ih0 _ _ _
      | exact LeO.none _
      | refine LeO.ite ?_ ?_
      | refine LeO.bind ?_ (fun _ => ?_)
set_option maxHeartbeats 8000000 in
set_option maxRecDepth 100000 in
theorem redpenref10_SameSegs.calls (k : Nat) (A0 : Option Addr) (c0 : Nat) (l0 : List (S66)) (A1 : Option Addr) (c1 : Nat) (l1 : List (S66)) (r : Bool) (w : World) (hr0 : Kd.C k66 w A0 l0.length l0) (hc0 : l0.length ≤ c0) (hr1 : Kd.C k66 w A1 l1.length l1) (hc1 : l1.length ≤ c1) (h : redpenref10_SameSegs.f k l0 l1 = some r) :
    Calls Try.prog 13 #[.slice A0 l0.length c0, .slice A1 l1.length c1] w fun e w' => e = .returned (.bool r) ∧ Drawn0 w w' := by
  have hu66 := Try.underlying66
  have HR0 := Aside0.mk hr0
  have HC0 := Aside0.mk hc0
  clear hr0 hc0
  have HR1 := Aside0.mk hr1
  have HC1 := Aside0.mk hc1
  clear hr1 hc1
  have H : (if (l0.length : Int) = (l1.length : Int) then (redpenref10_SameSegs.l0 k l0 l1 0) else (some false)) = some r := h
  clear h
  by_cases c3 : (l0.length : Int) = (l1.length : Int)
  · rw [if_pos c3] at H
    have c3b0 : ((l0.length : Int) == (l1.length : Int)) = true := beq_iff_eq.mpr c3
    have c3b1 : ((l0.length : Int) != (l1.length : Int)) = false := bne_eq_false_iff_eq.mpr c3
    have c3b2 : (l0.length == l1.length) = true := by first | simpa using c3 | (simp at c3 ⊢; omega)
    clear c3
    have H' := Aside0.mk H
    clear H
    go_enter Try.func13, Try.ntmps13
    go_wp2
    repeat (go_quiet (fail); try go_wp2)
    go_loopg [5] k (fun kq v5 w' => ∃ (x5_1 : Int), v5 = .int .i64 x5_1 ∧ Aside0 (redpenref10_SameSegs.l0 kq l0 l1 x5_1 = some r) ∧ Aside0 (kq ≤ k) ∧ Drawn0 w w')
    case atStart => exact ⟨(0), (by first | rfl | (simp; done) | (simp [*]; done)), H', ⟨Nat.le_refl _⟩, by repeat (first | exact Drawn0.refl _ | apply Drawn0.step)⟩
    case round =>
      clear H'
      try clear c1
      try clear p2
      try clear c3
      try clear c3b0
      try clear c3b1
      try clear c3b2
      obtain ⟨x5_1, rfl, HA, HK1, ⟨m1, rfl⟩⟩ := hrel
      cases gk with
      | zero => exact absurd HA.out (by simp [redpenref10_SameSegs.l0])
      | succ k1 =>
        have H := HA.out
        clear HA
        simp only [redpenref10_SameSegs.l0] at H
        by_cases c4 : x5_1 < (l0.length : Int)
        · rw [if_pos c4] at H
          have c4b0 : decide (x5_1 < (l0.length : Int)) = true := decide_eq_true c4
          clear c4
          by_cases c5 : 0 ≤ x5_1
          · rw [if_pos c5] at H
            have c5b0 : decide (0 ≤ x5_1) = true := decide_eq_true c5
            clear c5
            by_cases c6 : x5_1 < (l1.length : Int)
            · rw [if_pos c6] at H
              have c6b0 : decide (x5_1 < (l1.length : Int)) = true := decide_eq_true c6
              clear c6
              by_cases c7 : (!(((rd_T66 l0 x5_1).f0) == ((rd_T66 l1 x5_1).f0)) || ((!(((rd_T66 l0 x5_1).f1.f0) == ((rd_T66 l1 x5_1).f1.f0)) || (!(((rd_T66 l0 x5_1).f1.f1) == ((rd_T66 l1 x5_1).f1.f1)))))) = true
              · rw [if_pos c7] at H
                have c7b0 : (!(((rd_T66 l0 x5_1).f0) == ((rd_T66 l1 x5_1).f0)) || ((!(((rd_T66 l0 x5_1).f1.f0) == ((rd_T66 l1 x5_1).f1.f0)) || (!(((rd_T66 l0 x5_1).f1.f1) == ((rd_T66 l1 x5_1).f1.f1)))))) = true := c7
                clear c7
                obtain rfl := Option.some.inj H
                have p101 : 0 ≤ (x5_1 : Int) := of_decide_eq_true (by first | (with_reducible assumption) | assumption)
                have q101 : x5_1 < (l0.length : Int) := of_decide_eq_true (by first | (with_reducible assumption) | assumption)
                obtain ⟨ad101, e101, hx101_0, hx101_1, hx101_2⟩ := at_T66 HR0.out x5_1 p101 q101
                cases e101
                replace p101 := eq_true p101
                replace q101 := eq_true q101
                have p102 : 0 ≤ (x5_1 : Int) := of_decide_eq_true (by first | (with_reducible assumption) | assumption)
                have q102 : x5_1 < (l1.length : Int) := of_decide_eq_true (by first | (with_reducible assumption) | assumption)
                obtain ⟨ad102, e102, hx102_0, hx102_1, hx102_2⟩ := at_T66 HR1.out x5_1 p102 q102
                cases e102
                replace p102 := eq_true p102
                replace q102 := eq_true q102
                go_wp2
                repeat (go_quiet (fail); try go_wp2)
                go_ret
                exact ⟨by first | rfl | (simp; done) | (simp [*]; done), by repeat (first | exact Drawn0.refl _ | apply Drawn0.step)⟩
              · rw [if_neg c7] at H
                have c7b0 : (!(((rd_T66 l0 x5_1).f0) == ((rd_T66 l1 x5_1).f0)) || ((!(((rd_T66 l0 x5_1).f1.f0) == ((rd_T66 l1 x5_1).f1.f0)) || (!(((rd_T66 l0 x5_1).f1.f1) == ((rd_T66 l1 x5_1).f1.f1)))))) = false := by simpa using c7
                clear c7
                have H' := Aside0.mk H
                clear H
                have p101 : 0 ≤ (x5_1 : Int) := of_decide_eq_true (by first | (with_reducible assumption) | assumption)
                have q101 : x5_1 < (l0.length : Int) := of_decide_eq_true (by first | (with_reducible assumption) | assumption)
                obtain ⟨ad101, e101, hx101_0, hx101_1, hx101_2⟩ := at_T66 HR0.out x5_1 p101 q101
                cases e101
                replace p101 := eq_true p101
                replace q101 := eq_true q101
                have p102 : 0 ≤ (x5_1 : Int) := of_decide_eq_true (by first | (with_reducible assumption) | assumption)
                have q102 : x5_1 < (l1.length : Int) := of_decide_eq_true (by first | (with_reducible assumption) | assumption)
                obtain ⟨ad102, e102, hx102_0, hx102_1, hx102_2⟩ := at_T66 HR1.out x5_1 p102 q102
                cases e102
                replace p102 := eq_true p102
                replace q102 := eq_true q102
                go_wp2
                repeat (go_quiet (fail); try go_wp2)
                go_roundg k1
                case measure => have := HK1.out; omega
                case rel => exact ⟨(wrap64 (x5_1 + 1)), (by first | rfl | (simp; done) | (simp [*]; done)), H', ⟨by have := HK1.out; omega⟩, by repeat (first | exact Drawn0.refl _ | apply Drawn0.step)⟩
            · rw [if_neg c6] at H
              exact absurd H (by simp)
          · rw [if_neg c5] at H
            exact absurd H (by simp)
        · rw [if_neg c4] at H
          have c4b0 : decide (x5_1 < (l0.length : Int)) = false := decide_eq_false c4
          clear c4
          obtain rfl := Option.some.inj H
          go_wp2
          repeat (go_quiet (fail); try go_wp2)
          go_ret
          exact ⟨by first | rfl | (simp; done) | (simp [*]; done), by repeat (first | exact Drawn0.refl _ | apply Drawn0.step)⟩
  · rw [if_neg c3] at H
    have c3b0 : ((l0.length : Int) == (l1.length : Int)) = false := beq_eq_false_iff_ne.mpr c3
    have c3b1 : ((l0.length : Int) != (l1.length : Int)) = true := bne_iff_ne.mpr c3
    have c3b2 : (l0.length == l1.length) = false := by first | simpa using c3 | (simp at c3 ⊢; omega)
    obtain rfl := Option.some.inj H
    go_enter Try.func13, Try.ntmps13
    go_wp2
    repeat (go_quiet (fail); try go_wp2)
    go_ret
    exact ⟨by first | rfl | (simp; done) | (simp [*]; done), by repeat (first | exact Drawn0.refl _ | apply Drawn0.step)⟩

end Go.Proofs.Ytcbibbdkjhkmoaa.PSameSegs

namespace Go.Proofs.Ytcbibbdkjhkmoaa.PSameTag
open Go.RowKit Go.Proofs.YtcbibbdkjhkmoaaW.PrintWords Go.Proofs.YtcbibbdkjhkmoaaW.PrintLast Go.Proofs.YtcbibbdkjhkmoaaW.PrintMore
attribute [local go_sem] max2_int min2_int max_two min_two max_three min_three max_four min_four   -- for this text's walks alone
set_option linter.unusedVariables false
set_option linter.unusedSimpArgs false



def errW : Option Int → Value
  | none => .nilIface
  | some c => .iface 0 (.int .i64 c)
theorem errW_none : errW none = .nilIface := rfl
theorem errW_some (c : Int) : errW (some c) = .iface 0 (.int .i64 c) := rfl

-- the values' own types
/-! #### struct type 54 -/
structure S54 where
  f0 : Int
  f1 : Int
def z54 : S54 := ⟨(0 : Int), (0 : Int)⟩
def k54 : Kd S54 := Kd.iso (Kd.pair (Kd.int .i64) (Kd.int .i64)) (fun x : S54 => (x.f0, x.f1))
theorem k54_open {w : World} {x : S54} {cs : List Value} (h : k54.K w x cs) : cs = [.int .i64 x.f0, .int .i64 x.f1] := by
  obtain ⟨_, _, rfl, rfl, rfl⟩ := h
  exact rfl
theorem k54_openM {w : World} {base : Nat} {ok : Nat → Prop} {x : S54} {cs : List Value} (h : k54.M w base ok x cs) : cs = [.int .i64 x.f0, .int .i64 x.f1] := by
  obtain ⟨_, _, rfl, rfl, rfl⟩ := h
  exact rfl
theorem k54_mk (w : World) (x : S54)  : k54.K w x [.int .i64 x.f0, .int .i64 x.f1] := ⟨[.int .i64 x.f0], [.int .i64 x.f1], rfl, rfl, rfl⟩
theorem k54_mkM (w : World) (base : Nat) (ok : Nat → Prop) (x : S54)  : k54.M w base ok x [.int .i64 x.f0, .int .i64 x.f1] := ⟨[.int .i64 x.f0], [.int .i64 x.f1], rfl, rfl, rfl⟩
def rd_T54 (xs : List S54) (i : Int) : S54 := xs.getD i.toNat z54
theorem at_T54 {w : World} {A : Option Addr} {n : Nat} {xs : List S54} (h : Kd.C k54 w A n xs) (i : Int) (h0 : 0 ≤ i) (h1 : i < n) : ∃ ad , A = some ad ∧ w.cell? (ad.add (i.toNat * 2)) = some (.int .i64 (rd_T54 xs i).f0) ∧ w.cell? ⟨(ad.add (i.toNat * 2)).block, (ad.add (i.toNat * 2)).off + 1, none⟩ = some (.int .i64 (rd_T54 xs i).f1) := by
  obtain ⟨ad, c, e, _, hK, hc0⟩ := Kd.C_get h z54 i h0 h1
  have hc : ∀ j u, c[j]? = some u → w.cell? (ad.add (i.toNat * 2 + j)) = some u := hc0
  obtain rfl := k54_open hK
  exact ⟨ad, e, hc 0 _ rfl, by rw [← add_field _ _ 1 (by omega)]; exact hc 1 _ rfl⟩

end Go.Proofs.Ytcbibbdkjhkmoaa.PSameTag

namespace Go.Proofs.Ytcbibbdkjhkmoaa.PSameTag
open Go.RowKit Go.Proofs.YtcbibbdkjhkmoaaW.PrintWords Go.Proofs.YtcbibbdkjhkmoaaW.PrintLast Go.Proofs.YtcbibbdkjhkmoaaW.PrintMore
attribute [local go_sem] max2_int min2_int max_two min_two max_three min_three max_four min_four   -- for this text's walks alone
set_option linter.unusedVariables false
set_option linter.unusedSimpArgs false

theorem eqA54 (d : Nat) (w : World) (x0 y0 : Int) (x1 y1 : Int) :
    (Op.equalIn (d + 2) 54 (.agg #[.int .i64 x0, .int .i64 x1]) (.agg #[.int .i64 y0, .int .i64 y1])).run Try.prog w = .ok (x0 == y0 && (x1 == y1)) w := by
  refine eqA_of Try.underlying54 (by kernel_rfl) ?_
  refine eqf_cons (by rfl) (by go_simp; rfl) (by go_simp; rfl) (by go_simp) ?_
  exact eqf_last (by rfl) (by go_simp; rfl) (by go_simp; rfl) (by go_simp)
end Go.Proofs.Ytcbibbdkjhkmoaa.PSameTag

namespace Go.Proofs.Ytcbibbdkjhkmoaa.PSameTag
open Go.RowKit Go.Proofs.YtcbibbdkjhkmoaaW.PrintWords Go.Proofs.YtcbibbdkjhkmoaaW.PrintLast Go.Proofs.YtcbibbdkjhkmoaaW.PrintMore
attribute [local go_sem] max2_int min2_int max_two min_two max_three min_three max_four min_four   -- for this text's walks alone
set_option linter.unusedVariables false
set_option linter.unusedSimpArgs false

attribute [local go_sem high] eqA54
/-! ### redpenref10_SameTag: function 19 -/
mutual
def redpenref10_SameTag.j0 : Nat → Bool → Int → ByteArray → Bool → List (S54) → Int → ByteArray → Bool → List (S54) → Option (Bool)
  | 0, _, _, _, _, _, _, _, _, _ => none
  | k + 1, x33, x102000, x102001, x102002, x102003, x103000, x103001, x103002, x103003 => if x33 = true then (some false) else (redpenref10_SameTag.l0 k 0 x102000 x102001 x102002 x102003 x103000 x103001 x103002 x103003)
def redpenref10_SameTag.l0 : Nat → Int → Int → ByteArray → Bool → List (S54) → Int → ByteArray → Bool → List (S54) → Option (Bool)
  | 0, _, _, _, _, _, _, _, _, _ => none
  | k + 1, x5, x102000, x102001, x102002, x102003, x103000, x103001, x103002, x103003 => if x5 < (x102003.length : Int) then (if 0 ≤ x5 then (if x5 < (x103003.length : Int) then (if (!(((rd_T54 x102003 x5).f0) == ((rd_T54 x103003 x5).f0)) || (!(((rd_T54 x102003 x5).f1) == ((rd_T54 x103003 x5).f1)))) = true then (some false) else (redpenref10_SameTag.l0 k (wrap64 (x5 + 1)) x102000 x102001 x102002 x102003 x103000 x103001 x103002 x103003)) else (none)) else (none)) else (some true)
end
def redpenref10_SameTag.f (k : Nat) (a0_0 : Int) (a0_1 : ByteArray) (a0_2 : Bool) (l0_3 : List (S54)) (a1_0 : Int) (a1_1 : ByteArray) (a1_2 : Bool) (l1_3 : List (S54)) : Option (Bool) := if a0_0 = a1_0 then (if a0_1.toList = a1_1.toList then (if (a0_2 != a1_2) = true then (redpenref10_SameTag.j0 k true a0_0 a0_1 a0_2 l0_3 a1_0 a1_1 a1_2 l1_3) else (redpenref10_SameTag.j0 k ((l0_3.length : Int) != (l1_3.length : Int)) a0_0 a0_1 a0_2 l0_3 a1_0 a1_1 a1_2 l1_3)) else (redpenref10_SameTag.j0 k true a0_0 a0_1 a0_2 l0_3 a1_0 a1_1 a1_2 l1_3)) else (redpenref10_SameTag.j0 k true a0_0 a0_1 a0_2 l0_3 a1_0 a1_1 a1_2 l1_3)
theorem redpenref10_SameTag.mono_l : ∀ k, (∀ y0 y1 y2 y3 y4 y5 y6 y7 y8, LeO (redpenref10_SameTag.j0 k y0 y1 y2 y3 y4 y5 y6 y7 y8) (redpenref10_SameTag.j0 (k + 1) y0 y1 y2 y3 y4 y5 y6 y7 y8)) ∧ (∀ y0 y1 y2 y3 y4 y5 y6 y7 y8, LeO (redpenref10_SameTag.l0 k y0 y1 y2 y3 y4 y5 y6 y7 y8) (redpenref10_SameTag.l0 (k + 1) y0 y1 y2 y3 y4 y5 y6 y7 y8))
  | 0 => ⟨fun _ _ _ _ _ _ _ _ _ r h => by simp [redpenref10_SameTag.j0] at h, fun _ _ _ _ _ _ _ _ _ r h => by simp [redpenref10_SameTag.l0] at h⟩
  | k + 1 => by
    obtain ⟨ih0, ih1⟩ := redpenref10_SameTag.mono_l k
    refine ⟨?_, ?_⟩
    · intro y0 y1 y2 y3 y4 y5 y6 y7 y8
      unfold redpenref10_SameTag.j0
      repeat' first
      | (with_reducible exact ih0 _ _ _ _ _ _ _ _ _)
      | (with_reducible exact ih1 _ _ _ _ _ _ _ _ _)
      | (with_reducible exact LeO.refl _)
      | (with_reducible exact LeO.none _)
      | (with_reducible refine LeO.ite ?_ ?_)
      | (with_reducible refine LeO.bind ?_ (fun _ => ?_))
      | exact ih0 _ _ _ _ _ _ _ _ _
      | exact ih1 _ _ _ _ _ _ _ _ _
      | exact LeO.none _
      | refine LeO.ite ?_ ?_
      | refine LeO.bind ?_ (fun _ => ?_)
    · intro y0 y1 y2 y3 y4 y5 y6 y7 y8
      unfold redpenref10_SameTag.l0
      repeat' first
      | (with_reducible exact ih0 _ _ _ _ _ _ _ _ _)
      | (with_reducible exact ih1 _ _ _ _ _ _ _ _ _)
      | (with_reducible exact LeO.refl _)
      | (with_reducible exact LeO.none _)
      | (with_reducible refine LeO.ite ?_ ?_)
      | (with_reducible refine LeO.bind ?_ (fun _ => ?_))
      | exact ih0 _ _ _ _ _ _ _ _ _
      | exact ih1 _ _ _ _ _ _ _ _ _
      | exact LeO.none _
      | refine LeO.ite ?_ ?_
      | refine LeO.bind ?_ (fun _ => ?_)
theorem redpenref10_SameTag.mono : ∀ a0 a1 a2 a3 a4 a5 a6 a7 k, LeO (redpenref10_SameTag.f k a0 a1 a2 a3 a4 a5 a6 a7) (redpenref10_SameTag.f (k + 1) a0 a1 a2 a3 a4 a5 a6 a7) := by
  intro a0 a1 a2 a3 a4 a5 a6 a7 k
  obtain ⟨ih0, ih1⟩ := redpenref10_SameTag.mono_l k
  unfold redpenref10_SameTag.f
  repeat' first
      | (with_reducible exact ih0 _ _ _ _ _ _ _ _ _)
      | (with_reducible exact ih1 _ _ _ _ _ _ _ _ _)
      | (with_reducible exact LeO.refl _)
      | (with_reducible exact LeO.none _)
      | (with_reducible refine LeO.ite ?_ ?_)
      | (with_reducible refine LeO.bind ?_ (fun _ => ?_))
      | exact ih0 _ _ _ _ _ _ _ _ _
      | exact ih1 _ _ _ _ _ _ _ _ _
      | exact LeO.none _
      | refine LeO.ite ?_ ?_
      | refine LeO.bind ?_ (fun _ => ?_)
set_option maxHeartbeats 8000000 in
set_option maxRecDepth 100000 in
theorem redpenref10_SameTag.calls (k : Nat) (a0_0 : Int) (a0_1 : ByteArray) (a0_2 : Bool) (A0_3 : Option Addr) (c0_3 : Nat) (l0_3 : List (S54)) (a1_0 : Int) (a1_1 : ByteArray) (a1_2 : Bool) (A1_3 : Option Addr) (c1_3 : Nat) (l1_3 : List (S54)) (r : Bool) (w : World) (hr0_3 : Kd.C k54 w A0_3 l0_3.length l0_3) (hc0_3 : l0_3.length ≤ c0_3) (hr1_3 : Kd.C k54 w A1_3 l1_3.length l1_3) (hc1_3 : l1_3.length ≤ c1_3) (h : redpenref10_SameTag.f k a0_0 a0_1 a0_2 l0_3 a1_0 a1_1 a1_2 l1_3 = some r) :
    Calls Try.prog 19 #[.agg #[.int .i64 a0_0, .string a0_1, .bool a0_2, .slice A0_3 l0_3.length c0_3], .agg #[.int .i64 a1_0, .string a1_1, .bool a1_2, .slice A1_3 l1_3.length c1_3]] w fun e w' => e = .returned (.bool r) ∧ Below w.heap.size w w' := by
  have hu46 := Try.underlying46
  have hu54 := Try.underlying54
  have HR0_3 := Aside0.mk hr0_3
  have HC0_3 := Aside0.mk hc0_3
  clear hr0_3 hc0_3
  have HR1_3 := Aside0.mk hr1_3
  have HC1_3 := Aside0.mk hc1_3
  clear hr1_3 hc1_3
  have HB := Aside0.mk (Below.refl w.heap.size w)
  have H : (if a0_0 = a1_0 then (if a0_1.toList = a1_1.toList then (if (a0_2 != a1_2) = true then (redpenref10_SameTag.j0 k true a0_0 a0_1 a0_2 l0_3 a1_0 a1_1 a1_2 l1_3) else (redpenref10_SameTag.j0 k ((l0_3.length : Int) != (l1_3.length : Int)) a0_0 a0_1 a0_2 l0_3 a1_0 a1_1 a1_2 l1_3)) else (redpenref10_SameTag.j0 k true a0_0 a0_1 a0_2 l0_3 a1_0 a1_1 a1_2 l1_3)) else (redpenref10_SameTag.j0 k true a0_0 a0_1 a0_2 l0_3 a1_0 a1_1 a1_2 l1_3)) = some r := h
  clear h
  have HC3 := Aside0.mk H
  clear H
  go_enter Try.func19, Try.ntmps19
  go_upto_region 1 with (first | ((with_reducible refine gate_dst (N := 2) rfl ?_); (try (refine gate_guard (by rfl) ?_; dsimp only)); refine box_event ?hg (N := 2) ?hd (cs := #[.int .i64 a0_0, .string a0_1, .bool a0_2, .slice A0_3 l0_3.length c0_3]) (t := 46) ?hr ?_; (case hd => rfl); (case hg => rfl); (case hr => first | (go_simp; done) | (go_simp; rfl)); intro gb101 hg w4 hbox hb; have n0_ := Aside0.mk (below_step (by repeat (first | (with_reducible first | exact HB.out | apply below_alloc | apply pw_below_drewN | apply below_drew1) | exact HB.out)) hb); have n1_ := Aside0.mk (hbox); have n2_ := Aside0.mk ((by rw [hg]; exact (below_size (by repeat (first | (with_reducible first | exact HB.out | apply below_alloc | apply pw_below_drewN | apply below_drew1) | exact HB.out))) : w.heap.size ≤ gb101)); have n3_ := Aside0.mk ((by rw [hg]; exact (below_size (by repeat (first | (with_reducible first | exact HB.out | apply below_alloc | apply pw_below_drewN | apply below_drew1) | exact HB.out))) : w.heap.size ≤ gb101)); clear HB; have HB := n0_; have BK101 := n1_; have GW101 := n2_; have GE101 := n3_; clear n0_ n1_ n2_ n3_; clear hb hbox hg) | ((with_reducible refine gate_dst (N := 3) rfl ?_); (try (refine gate_guard (by rfl) ?_; dsimp only)); refine box_event ?hg (N := 3) ?hd (cs := #[.int .i64 a1_0, .string a1_1, .bool a1_2, .slice A1_3 l1_3.length c1_3]) (t := 46) ?hr ?_; (case hd => rfl); (case hg => rfl); (case hr => first | (go_simp; done) | (go_simp; rfl)); intro gb102 hg w5 hbox hb; have n0_ := Aside0.mk (blk_below (g := gb101) (o := .cells #[.int .i64 a0_0, .string a0_1, .bool a0_2, .slice A0_3 l0_3.length c0_3] 46 (0, 0)) (by (with_reducible repeat (first | refine blk_drewN ?_ _ | refine blk_drew ?_ | refine blk_alloc ?_ _)); exact BK101.out) hb); have n1_ := Aside0.mk (below_step (by repeat (first | (with_reducible first | exact HB.out | apply below_alloc | apply pw_below_drewN | apply below_drew1 | refine below_set ?_ GE101.out) | exact HB.out)) hb); have n2_ := Aside0.mk (hbox); have n3_ := Aside0.mk ((by rw [hg]; exact (below_size (by repeat (first | (with_reducible first | exact HB.out | apply below_alloc | apply pw_below_drewN | apply below_drew1 | refine below_set ?_ GE101.out) | exact HB.out))) : w.heap.size ≤ gb102)); have n4_ := Aside0.mk ((by rw [hg]; exact (below_size (by repeat (first | (with_reducible first | exact HB.out | apply below_alloc | apply pw_below_drewN | apply below_drew1 | refine below_set ?_ GE101.out) | exact HB.out))) : w.heap.size ≤ gb102)); have n5_ := Aside0.mk ((by rw [hg]; exact Nat.ne_of_lt (blk_lt (g := gb101) (o := .cells #[.int .i64 a0_0, .string a0_1, .bool a0_2, .slice A0_3 l0_3.length c0_3] 46 (0, 0)) (by (with_reducible repeat (first | refine blk_drewN ?_ _ | refine blk_drew ?_ | refine blk_alloc ?_ _)); exact BK101.out)) : gb101 ≠ gb102)); have n6_ := Aside0.mk ((by rw [hg]; exact Nat.ne_of_gt (blk_lt (g := gb101) (o := .cells #[.int .i64 a0_0, .string a0_1, .bool a0_2, .slice A0_3 l0_3.length c0_3] 46 (0, 0)) (by (with_reducible repeat (first | refine blk_drewN ?_ _ | refine blk_drew ?_ | refine blk_alloc ?_ _)); exact BK101.out)) : gb102 ≠ gb101)); clear BK101; clear HB; have BK101 := n0_; have HB := n1_; have BK102 := n2_; have GW102 := n3_; have GE102 := n4_; have NB101_102 := n5_; have NB102_101 := n6_; clear n0_ n1_ n2_ n3_ n4_ n5_ n6_; clear hb hbox hg))
  repeat (go_quiet (first | ((with_reducible refine gate_dst (N := 2) rfl ?_); (try (refine gate_guard (by rfl) ?_; dsimp only)); refine box_event ?hg (N := 2) ?hd (cs := #[.int .i64 a0_0, .string a0_1, .bool a0_2, .slice A0_3 l0_3.length c0_3]) (t := 46) ?hr ?_; (case hd => rfl); (case hg => rfl); (case hr => first | (go_simp; done) | (go_simp; rfl)); intro gb101 hg w4 hbox hb; have n0_ := Aside0.mk (below_step (by repeat (first | (with_reducible first | exact HB.out | apply below_alloc | apply pw_below_drewN | apply below_drew1) | exact HB.out)) hb); have n1_ := Aside0.mk (hbox); have n2_ := Aside0.mk ((by rw [hg]; exact (below_size (by repeat (first | (with_reducible first | exact HB.out | apply below_alloc | apply pw_below_drewN | apply below_drew1) | exact HB.out))) : w.heap.size ≤ gb101)); have n3_ := Aside0.mk ((by rw [hg]; exact (below_size (by repeat (first | (with_reducible first | exact HB.out | apply below_alloc | apply pw_below_drewN | apply below_drew1) | exact HB.out))) : w.heap.size ≤ gb101)); clear HB; have HB := n0_; have BK101 := n1_; have GW101 := n2_; have GE101 := n3_; clear n0_ n1_ n2_ n3_; clear hb hbox hg) | ((with_reducible refine gate_dst (N := 3) rfl ?_); (try (refine gate_guard (by rfl) ?_; dsimp only)); refine box_event ?hg (N := 3) ?hd (cs := #[.int .i64 a1_0, .string a1_1, .bool a1_2, .slice A1_3 l1_3.length c1_3]) (t := 46) ?hr ?_; (case hd => rfl); (case hg => rfl); (case hr => first | (go_simp; done) | (go_simp; rfl)); intro gb102 hg w5 hbox hb; have n0_ := Aside0.mk (blk_below (g := gb101) (o := .cells #[.int .i64 a0_0, .string a0_1, .bool a0_2, .slice A0_3 l0_3.length c0_3] 46 (0, 0)) (by (with_reducible repeat (first | refine blk_drewN ?_ _ | refine blk_drew ?_ | refine blk_alloc ?_ _)); exact BK101.out) hb); have n1_ := Aside0.mk (below_step (by repeat (first | (with_reducible first | exact HB.out | apply below_alloc | apply pw_below_drewN | apply below_drew1 | refine below_set ?_ GE101.out) | exact HB.out)) hb); have n2_ := Aside0.mk (hbox); have n3_ := Aside0.mk ((by rw [hg]; exact (below_size (by repeat (first | (with_reducible first | exact HB.out | apply below_alloc | apply pw_below_drewN | apply below_drew1 | refine below_set ?_ GE101.out) | exact HB.out))) : w.heap.size ≤ gb102)); have n4_ := Aside0.mk ((by rw [hg]; exact (below_size (by repeat (first | (with_reducible first | exact HB.out | apply below_alloc | apply pw_below_drewN | apply below_drew1 | refine below_set ?_ GE101.out) | exact HB.out))) : w.heap.size ≤ gb102)); have n5_ := Aside0.mk ((by rw [hg]; exact Nat.ne_of_lt (blk_lt (g := gb101) (o := .cells #[.int .i64 a0_0, .string a0_1, .bool a0_2, .slice A0_3 l0_3.length c0_3] 46 (0, 0)) (by (with_reducible repeat (first | refine blk_drewN ?_ _ | refine blk_drew ?_ | refine blk_alloc ?_ _)); exact BK101.out)) : gb101 ≠ gb102)); have n6_ := Aside0.mk ((by rw [hg]; exact Nat.ne_of_gt (blk_lt (g := gb101) (o := .cells #[.int .i64 a0_0, .string a0_1, .bool a0_2, .slice A0_3 l0_3.length c0_3] 46 (0, 0)) (by (with_reducible repeat (first | refine blk_drewN ?_ _ | refine blk_drew ?_ | refine blk_alloc ?_ _)); exact BK101.out)) : gb102 ≠ gb101)); clear BK101; clear HB; have BK101 := n0_; have HB := n1_; have BK102 := n2_; have GW102 := n3_; have GE102 := n4_; have NB101_102 := n5_; have NB102_101 := n6_; clear n0_ n1_ n2_ n3_ n4_ n5_ n6_; clear hb hbox hg)); go_upto_region 1 with (first | ((with_reducible refine gate_dst (N := 2) rfl ?_); (try (refine gate_guard (by rfl) ?_; dsimp only)); refine box_event ?hg (N := 2) ?hd (cs := #[.int .i64 a0_0, .string a0_1, .bool a0_2, .slice A0_3 l0_3.length c0_3]) (t := 46) ?hr ?_; (case hd => rfl); (case hg => rfl); (case hr => first | (go_simp; done) | (go_simp; rfl)); intro gb101 hg w4 hbox hb; have n0_ := Aside0.mk (below_step (by repeat (first | (with_reducible first | exact HB.out | apply below_alloc | apply pw_below_drewN | apply below_drew1) | exact HB.out)) hb); have n1_ := Aside0.mk (hbox); have n2_ := Aside0.mk ((by rw [hg]; exact (below_size (by repeat (first | (with_reducible first | exact HB.out | apply below_alloc | apply pw_below_drewN | apply below_drew1) | exact HB.out))) : w.heap.size ≤ gb101)); have n3_ := Aside0.mk ((by rw [hg]; exact (below_size (by repeat (first | (with_reducible first | exact HB.out | apply below_alloc | apply pw_below_drewN | apply below_drew1) | exact HB.out))) : w.heap.size ≤ gb101)); clear HB; have HB := n0_; have BK101 := n1_; have GW101 := n2_; have GE101 := n3_; clear n0_ n1_ n2_ n3_; clear hb hbox hg) | ((with_reducible refine gate_dst (N := 3) rfl ?_); (try (refine gate_guard (by rfl) ?_; dsimp only)); refine box_event ?hg (N := 3) ?hd (cs := #[.int .i64 a1_0, .string a1_1, .bool a1_2, .slice A1_3 l1_3.length c1_3]) (t := 46) ?hr ?_; (case hd => rfl); (case hg => rfl); (case hr => first | (go_simp; done) | (go_simp; rfl)); intro gb102 hg w5 hbox hb; have n0_ := Aside0.mk (blk_below (g := gb101) (o := .cells #[.int .i64 a0_0, .string a0_1, .bool a0_2, .slice A0_3 l0_3.length c0_3] 46 (0, 0)) (by (with_reducible repeat (first | refine blk_drewN ?_ _ | refine blk_drew ?_ | refine blk_alloc ?_ _)); exact BK101.out) hb); have n1_ := Aside0.mk (below_step (by repeat (first | (with_reducible first | exact HB.out | apply below_alloc | apply pw_below_drewN | apply below_drew1 | refine below_set ?_ GE101.out) | exact HB.out)) hb); have n2_ := Aside0.mk (hbox); have n3_ := Aside0.mk ((by rw [hg]; exact (below_size (by repeat (first | (with_reducible first | exact HB.out | apply below_alloc | apply pw_below_drewN | apply below_drew1 | refine below_set ?_ GE101.out) | exact HB.out))) : w.heap.size ≤ gb102)); have n4_ := Aside0.mk ((by rw [hg]; exact (below_size (by repeat (first | (with_reducible first | exact HB.out | apply below_alloc | apply pw_below_drewN | apply below_drew1 | refine below_set ?_ GE101.out) | exact HB.out))) : w.heap.size ≤ gb102)); have n5_ := Aside0.mk ((by rw [hg]; exact Nat.ne_of_lt (blk_lt (g := gb101) (o := .cells #[.int .i64 a0_0, .string a0_1, .bool a0_2, .slice A0_3 l0_3.length c0_3] 46 (0, 0)) (by (with_reducible repeat (first | refine blk_drewN ?_ _ | refine blk_drew ?_ | refine blk_alloc ?_ _)); exact BK101.out)) : gb101 ≠ gb102)); have n6_ := Aside0.mk ((by rw [hg]; exact Nat.ne_of_gt (blk_lt (g := gb101) (o := .cells #[.int .i64 a0_0, .string a0_1, .bool a0_2, .slice A0_3 l0_3.length c0_3] 46 (0, 0)) (by (with_reducible repeat (first | refine blk_drewN ?_ _ | refine blk_drew ?_ | refine blk_alloc ?_ _)); exact BK101.out)) : gb102 ≠ gb101)); clear BK101; clear HB; have BK101 := n0_; have HB := n1_; have BK102 := n2_; have GW102 := n3_; have GE102 := n4_; have NB101_102 := n5_; have NB102_101 := n6_; clear n0_ n1_ n2_ n3_ n4_ n5_ n6_; clear hb hbox hg)))
  (try simp only [Act.put, List.setIfInBounds_toArray, List.set_cons_zero, List.set_cons_succ])
  go_cut [33] (fun v33 wc => ∃ (kq : Nat) (x33_2 : Bool), v33 = .bool x33_2 ∧ Aside0 (redpenref10_SameTag.j0 kq x33_2 a0_0 a0_1 a0_2 l0_3 a1_0 a1_1 a1_2 l1_3 = some r) ∧ Aside0 (kq ≤ k) ∧ Aside0 (wc.heap[gb101]? = some (.cells #[.int .i64 a0_0, .string a0_1, .bool a0_2, (.slice A0_3 l0_3.length c0_3)] 46 (0, 0))) ∧ Aside0 (wc.heap[gb102]? = some (.cells #[.int .i64 a1_0, .string a1_1, .bool a1_2, (.slice A1_3 l1_3.length c1_3)] 46 (0, 0))) ∧ Aside0 (Below w.heap.size w wc))
  case first =>
    have H := HC3.out
    clear HC3
    by_cases c6 : a0_0 = a1_0
    · rw [if_pos c6] at H
      have c6b0 : (a0_0 == a1_0) = true := beq_iff_eq.mpr c6
      have c6b1 : (a0_0 != a1_0) = false := bne_eq_false_iff_eq.mpr c6
      clear c6
      (first | rw [c6b0] | (simp only [i64_w, i32_w]; rw [c6b0]) | skip)
      by_cases c7 : a0_1.toList = a1_1.toList
      · rw [if_pos c7] at H
        have c7b0 : (a0_1.toList == a1_1.toList) = true := beq_iff_eq.mpr c7
        have c7b1 : (a0_1.toList != a1_1.toList) = false := bne_eq_false_iff_eq.mpr c7
        clear c7
        by_cases c8 : (a0_2 != a1_2) = true
        · rw [if_pos c8] at H
          have c8b0 : (a0_2 != a1_2) = true := c8
          (try (have c8b1 : decide (a0_2 = a1_2) = false := by simpa using c8))
          (try (have c8b2 : (a0_2 == a1_2) = false := by simpa using c8))
          (try (have c8b3 : ¬ (a0_2 = a1_2) := by simpa using c8))
          clear c8
          have H' := Aside0.mk H
          clear H
          have hnb9 := NB101_102.out
          have hnc9 := NB102_101.out
          have hcz10_0 : w5.cell? ⟨gb101, 0, none⟩ = some (.int .i64 a0_0) := (blk_cell BK101.out 0).trans rfl
          have hcz10_1 : w5.cell? ⟨gb101, 1, none⟩ = some (.string a0_1) := (blk_cell BK101.out 1).trans rfl
          have hcz10_2 : w5.cell? ⟨gb101, 2, none⟩ = some (.bool a0_2) := (blk_cell BK101.out 2).trans rfl
          have hcz10_3 : w5.cell? ⟨gb101, 3, none⟩ = some (.slice A0_3 l0_3.length c0_3) := (blk_cell BK101.out 3).trans rfl
          have hfz10_0 := blk_frozen BK101.out 0
          have hfz10_1 := blk_frozen BK101.out 1
          have hfz10_2 := blk_frozen BK101.out 2
          have hfz10_3 := blk_frozen BK101.out 3
          have hcz11_0 : w5.cell? ⟨gb102, 0, none⟩ = some (.int .i64 a1_0) := (blk_cell BK102.out 0).trans rfl
          have hcz11_1 : w5.cell? ⟨gb102, 1, none⟩ = some (.string a1_1) := (blk_cell BK102.out 1).trans rfl
          have hcz11_2 : w5.cell? ⟨gb102, 2, none⟩ = some (.bool a1_2) := (blk_cell BK102.out 2).trans rfl
          have hcz11_3 : w5.cell? ⟨gb102, 3, none⟩ = some (.slice A1_3 l1_3.length c1_3) := (blk_cell BK102.out 3).trans rfl
          have hfz11_0 := blk_frozen BK102.out 0
          have hfz11_1 := blk_frozen BK102.out 1
          have hfz11_2 := blk_frozen BK102.out 2
          have hfz11_3 := blk_frozen BK102.out 3
          go_wp2
          repeat (go_quiet (fail); try go_wp2)
          go_meet
          case rel => exact ⟨_, (true), (by first | rfl | (simp; done) | (simp [*]; done)), H', ⟨by first | omega | exact Nat.le_refl _⟩, ⟨by (with_reducible repeat (first | refine blk_drewN ?_ _ | refine blk_drew ?_ | refine blk_alloc ?_ _)); exact BK101.out⟩, ⟨by (with_reducible repeat (first | refine blk_drewN ?_ _ | refine blk_drew ?_ | refine blk_alloc ?_ _)); exact BK102.out⟩, ⟨by repeat (first | (with_reducible first | exact HB.out | apply below_alloc | apply pw_below_drewN | apply below_drew1 | refine below_set ?_ GE101.out | refine below_set ?_ GE102.out) | exact HB.out)⟩⟩
        · rw [if_neg c8] at H
          have c8b0 : (a0_2 != a1_2) = false := by simpa using c8
          (try (have c8b1 : decide (a0_2 = a1_2) = true := by simpa using c8))
          (try (have c8b2 : (a0_2 == a1_2) = true := by simpa using c8))
          clear c8
          have H' := Aside0.mk H
          clear H
          have hnb12 := NB101_102.out
          have hnc12 := NB102_101.out
          have hcz13_0 : w5.cell? ⟨gb101, 0, none⟩ = some (.int .i64 a0_0) := (blk_cell BK101.out 0).trans rfl
          have hcz13_1 : w5.cell? ⟨gb101, 1, none⟩ = some (.string a0_1) := (blk_cell BK101.out 1).trans rfl
          have hcz13_2 : w5.cell? ⟨gb101, 2, none⟩ = some (.bool a0_2) := (blk_cell BK101.out 2).trans rfl
          have hcz13_3 : w5.cell? ⟨gb101, 3, none⟩ = some (.slice A0_3 l0_3.length c0_3) := (blk_cell BK101.out 3).trans rfl
          have hfz13_0 := blk_frozen BK101.out 0
          have hfz13_1 := blk_frozen BK101.out 1
          have hfz13_2 := blk_frozen BK101.out 2
          have hfz13_3 := blk_frozen BK101.out 3
          have hcz14_0 : w5.cell? ⟨gb102, 0, none⟩ = some (.int .i64 a1_0) := (blk_cell BK102.out 0).trans rfl
          have hcz14_1 : w5.cell? ⟨gb102, 1, none⟩ = some (.string a1_1) := (blk_cell BK102.out 1).trans rfl
          have hcz14_2 : w5.cell? ⟨gb102, 2, none⟩ = some (.bool a1_2) := (blk_cell BK102.out 2).trans rfl
          have hcz14_3 : w5.cell? ⟨gb102, 3, none⟩ = some (.slice A1_3 l1_3.length c1_3) := (blk_cell BK102.out 3).trans rfl
          have hfz14_0 := blk_frozen BK102.out 0
          have hfz14_1 := blk_frozen BK102.out 1
          have hfz14_2 := blk_frozen BK102.out 2
          have hfz14_3 := blk_frozen BK102.out 3
          go_wp2
          repeat (go_quiet (fail); try go_wp2)
          go_meet
          case rel => exact ⟨_, (((l0_3.length : Int) != (l1_3.length : Int))), (by first | rfl | (simp; done) | (simp [*]; done)), H', ⟨by first | omega | exact Nat.le_refl _⟩, ⟨by (with_reducible repeat (first | refine blk_drewN ?_ _ | refine blk_drew ?_ | refine blk_alloc ?_ _)); exact BK101.out⟩, ⟨by (with_reducible repeat (first | refine blk_drewN ?_ _ | refine blk_drew ?_ | refine blk_alloc ?_ _)); exact BK102.out⟩, ⟨by repeat (first | (with_reducible first | exact HB.out | apply below_alloc | apply pw_below_drewN | apply below_drew1 | refine below_set ?_ GE101.out | refine below_set ?_ GE102.out) | exact HB.out)⟩⟩
      · rw [if_neg c7] at H
        have c7b0 : (a0_1.toList == a1_1.toList) = false := beq_eq_false_iff_ne.mpr c7
        have c7b1 : (a0_1.toList != a1_1.toList) = true := bne_iff_ne.mpr c7
        have H' := Aside0.mk H
        clear H
        have hnb15 := NB101_102.out
        have hnc15 := NB102_101.out
        have hcz16_0 : w5.cell? ⟨gb101, 0, none⟩ = some (.int .i64 a0_0) := (blk_cell BK101.out 0).trans rfl
        have hcz16_1 : w5.cell? ⟨gb101, 1, none⟩ = some (.string a0_1) := (blk_cell BK101.out 1).trans rfl
        have hcz16_2 : w5.cell? ⟨gb101, 2, none⟩ = some (.bool a0_2) := (blk_cell BK101.out 2).trans rfl
        have hcz16_3 : w5.cell? ⟨gb101, 3, none⟩ = some (.slice A0_3 l0_3.length c0_3) := (blk_cell BK101.out 3).trans rfl
        have hfz16_0 := blk_frozen BK101.out 0
        have hfz16_1 := blk_frozen BK101.out 1
        have hfz16_2 := blk_frozen BK101.out 2
        have hfz16_3 := blk_frozen BK101.out 3
        have hcz17_0 : w5.cell? ⟨gb102, 0, none⟩ = some (.int .i64 a1_0) := (blk_cell BK102.out 0).trans rfl
        have hcz17_1 : w5.cell? ⟨gb102, 1, none⟩ = some (.string a1_1) := (blk_cell BK102.out 1).trans rfl
        have hcz17_2 : w5.cell? ⟨gb102, 2, none⟩ = some (.bool a1_2) := (blk_cell BK102.out 2).trans rfl
        have hcz17_3 : w5.cell? ⟨gb102, 3, none⟩ = some (.slice A1_3 l1_3.length c1_3) := (blk_cell BK102.out 3).trans rfl
        have hfz17_0 := blk_frozen BK102.out 0
        have hfz17_1 := blk_frozen BK102.out 1
        have hfz17_2 := blk_frozen BK102.out 2
        have hfz17_3 := blk_frozen BK102.out 3
        go_wp2
        repeat (go_quiet (fail); try go_wp2)
        go_meet
        case rel => exact ⟨_, (true), (by first | rfl | (simp; done) | (simp [*]; done)), H', ⟨by first | omega | exact Nat.le_refl _⟩, ⟨by (with_reducible repeat (first | refine blk_drewN ?_ _ | refine blk_drew ?_ | refine blk_alloc ?_ _)); exact BK101.out⟩, ⟨by (with_reducible repeat (first | refine blk_drewN ?_ _ | refine blk_drew ?_ | refine blk_alloc ?_ _)); exact BK102.out⟩, ⟨by repeat (first | (with_reducible first | exact HB.out | apply below_alloc | apply pw_below_drewN | apply below_drew1 | refine below_set ?_ GE101.out | refine below_set ?_ GE102.out) | exact HB.out)⟩⟩
    · rw [if_neg c6] at H
      have c6b0 : (a0_0 == a1_0) = false := beq_eq_false_iff_ne.mpr c6
      have c6b1 : (a0_0 != a1_0) = true := bne_iff_ne.mpr c6
      (first | rw [c6b0] | (simp only [i64_w, i32_w]; rw [c6b0]) | skip)
      have H' := Aside0.mk H
      clear H
      have hnb18 := NB101_102.out
      have hnc18 := NB102_101.out
      have hcz19_0 : w5.cell? ⟨gb101, 0, none⟩ = some (.int .i64 a0_0) := (blk_cell BK101.out 0).trans rfl
      have hcz19_1 : w5.cell? ⟨gb101, 1, none⟩ = some (.string a0_1) := (blk_cell BK101.out 1).trans rfl
      have hcz19_2 : w5.cell? ⟨gb101, 2, none⟩ = some (.bool a0_2) := (blk_cell BK101.out 2).trans rfl
      have hcz19_3 : w5.cell? ⟨gb101, 3, none⟩ = some (.slice A0_3 l0_3.length c0_3) := (blk_cell BK101.out 3).trans rfl
      have hfz19_0 := blk_frozen BK101.out 0
      have hfz19_1 := blk_frozen BK101.out 1
      have hfz19_2 := blk_frozen BK101.out 2
      have hfz19_3 := blk_frozen BK101.out 3
      have hcz20_0 : w5.cell? ⟨gb102, 0, none⟩ = some (.int .i64 a1_0) := (blk_cell BK102.out 0).trans rfl
      have hcz20_1 : w5.cell? ⟨gb102, 1, none⟩ = some (.string a1_1) := (blk_cell BK102.out 1).trans rfl
      have hcz20_2 : w5.cell? ⟨gb102, 2, none⟩ = some (.bool a1_2) := (blk_cell BK102.out 2).trans rfl
      have hcz20_3 : w5.cell? ⟨gb102, 3, none⟩ = some (.slice A1_3 l1_3.length c1_3) := (blk_cell BK102.out 3).trans rfl
      have hfz20_0 := blk_frozen BK102.out 0
      have hfz20_1 := blk_frozen BK102.out 1
      have hfz20_2 := blk_frozen BK102.out 2
      have hfz20_3 := blk_frozen BK102.out 3
      go_wp2
      repeat (go_quiet (fail); try go_wp2)
      go_meet
      case rel => exact ⟨_, (true), (by first | rfl | (simp; done) | (simp [*]; done)), H', ⟨by first | omega | exact Nat.le_refl _⟩, ⟨by (with_reducible repeat (first | refine blk_drewN ?_ _ | refine blk_drew ?_ | refine blk_alloc ?_ _)); exact BK101.out⟩, ⟨by (with_reducible repeat (first | refine blk_drewN ?_ _ | refine blk_drew ?_ | refine blk_alloc ?_ _)); exact BK102.out⟩, ⟨by repeat (first | (with_reducible first | exact HB.out | apply below_alloc | apply pw_below_drewN | apply below_drew1 | refine below_set ?_ GE101.out | refine below_set ?_ GE102.out) | exact HB.out)⟩⟩
  case rest =>
    clear HC3
    try clear c1
    try clear p2
    try clear c6
    try clear c6b0
    try clear c6b1
    try clear c7
    try clear c7b0
    try clear c7b1
    try clear c8
    try clear c8b0
    try clear c8b1
    try clear c8b2
    try clear c9
    try clear c12
    try clear c15
    try clear c18
    try clear c19
    try clear hcz10_0
    try clear hcz10_1
    try clear hcz10_2
    try clear hcz10_3
    try clear hcz11_0
    try clear hcz11_1
    try clear hcz11_2
    try clear hcz11_3
    try clear hcz13_0
    try clear hcz13_1
    try clear hcz13_2
    try clear hcz13_3
    try clear hcz14_0
    try clear hcz14_1
    try clear hcz14_2
    try clear hcz14_3
    try clear hcz16_0
    try clear hcz16_1
    try clear hcz16_2
    try clear hcz16_3
    try clear hcz17_0
    try clear hcz17_1
    try clear hcz17_2
    try clear hcz17_3
    try clear hcz19_0
    try clear hcz19_1
    try clear hcz19_2
    try clear hcz19_3
    try clear hcz20_0
    try clear hcz20_1
    try clear hcz20_2
    try clear hcz20_3
    try clear hfz10_0
    try clear hfz10_1
    try clear hfz10_2
    try clear hfz10_3
    try clear hfz11_0
    try clear hfz11_1
    try clear hfz11_2
    try clear hfz11_3
    try clear hfz13_0
    try clear hfz13_1
    try clear hfz13_2
    try clear hfz13_3
    try clear hfz14_0
    try clear hfz14_1
    try clear hfz14_2
    try clear hfz14_3
    try clear hfz16_0
    try clear hfz16_1
    try clear hfz16_2
    try clear hfz16_3
    try clear hfz17_0
    try clear hfz17_1
    try clear hfz17_2
    try clear hfz17_3
    try clear hfz19_0
    try clear hfz19_1
    try clear hfz19_2
    try clear hfz19_3
    try clear hfz20_0
    try clear hfz20_1
    try clear hfz20_2
    try clear hfz20_3
    obtain ⟨kq, x33_2, rfl, HA, HJ2, BK101, BK102, HB⟩ := hcut
    cases kq with
    | zero => exact absurd HA.out (by simp [redpenref10_SameTag.j0])
    | succ kj2 =>
      have H := HA.out
      clear HA
      simp only [redpenref10_SameTag.j0] at H
      by_cases c21 : x33_2 = true
      · subst c21
        have H1 : (some false) = some r := by rw [if_pos rfl] at H; exact H
        clear H
        have H := H1
        clear H1
        obtain rfl := Option.some.inj H
        go_wp2
        repeat (go_quiet (fail); try go_wp2)
        go_ret
        exact ⟨by first | rfl | (simp [errW_none, errW_some] <;> rfl) | (simp [*, errW_none, errW_some] <;> rfl), by repeat (first | (with_reducible first | exact HB.out | apply below_alloc | apply pw_below_drewN | apply below_drew1 | refine below_set ?_ GE101.out | refine below_set ?_ GE102.out) | exact HB.out)⟩
      · replace c21 := Bool.eq_false_iff.mpr c21
        subst c21
        have H1 : (redpenref10_SameTag.l0 kj2 0 a0_0 a0_1 a0_2 l0_3 a1_0 a1_1 a1_2 l1_3) = some r := by rw [if_neg (show ¬ (false = true) by decide)] at H; exact H
        clear H
        have H := H1
        clear H1
        have H' := Aside0.mk H
        clear H
        go_wp2
        repeat (go_quiet (fail); try go_wp2)
        go_loopg [5] kj2 (fun kq v5 w' => ∃ (x5_2 : Int), v5 = .int .i64 x5_2 ∧ Aside0 (redpenref10_SameTag.l0 kq x5_2 a0_0 a0_1 a0_2 l0_3 a1_0 a1_1 a1_2 l1_3 = some r) ∧ Aside0 (kq ≤ kj2) ∧ Aside0 (w'.heap[gb101]? = some (.cells #[.int .i64 a0_0, .string a0_1, .bool a0_2, (.slice A0_3 l0_3.length c0_3)] 46 (0, 0))) ∧ Aside0 (w'.heap[gb102]? = some (.cells #[.int .i64 a1_0, .string a1_1, .bool a1_2, (.slice A1_3 l1_3.length c1_3)] 46 (0, 0))) ∧ Aside0 (Below w.heap.size w w'))
        case atStart => exact ⟨(0), (by first | rfl | (simp; done) | (simp [*]; done)), H', ⟨Nat.le_refl _⟩, ⟨by (with_reducible repeat (first | refine blk_drewN ?_ _ | refine blk_drew ?_ | refine blk_alloc ?_ _)); exact BK101.out⟩, ⟨by (with_reducible repeat (first | refine blk_drewN ?_ _ | refine blk_drew ?_ | refine blk_alloc ?_ _)); exact BK102.out⟩, ⟨by repeat (first | (with_reducible first | exact HB.out | apply below_alloc | apply pw_below_drewN | apply below_drew1 | refine below_set ?_ GE101.out | refine below_set ?_ GE102.out) | exact HB.out)⟩⟩
        case round =>
          clear H'
          try clear c1
          try clear c2
          try clear p2
          try clear c6
          try clear c6b0
          try clear c6b1
          try clear c7
          try clear c7b0
          try clear c7b1
          try clear c8
          try clear c8b0
          try clear c8b1
          try clear c8b2
          try clear c9
          try clear c12
          try clear c15
          try clear c18
          try clear c19
          try clear c21
          try clear hcz10_0
          try clear hcz10_1
          try clear hcz10_2
          try clear hcz10_3
          try clear hcz11_0
          try clear hcz11_1
          try clear hcz11_2
          try clear hcz11_3
          try clear hcz13_0
          try clear hcz13_1
          try clear hcz13_2
          try clear hcz13_3
          try clear hcz14_0
          try clear hcz14_1
          try clear hcz14_2
          try clear hcz14_3
          try clear hcz16_0
          try clear hcz16_1
          try clear hcz16_2
          try clear hcz16_3
          try clear hcz17_0
          try clear hcz17_1
          try clear hcz17_2
          try clear hcz17_3
          try clear hcz19_0
          try clear hcz19_1
          try clear hcz19_2
          try clear hcz19_3
          try clear hcz20_0
          try clear hcz20_1
          try clear hcz20_2
          try clear hcz20_3
          try clear hfz10_0
          try clear hfz10_1
          try clear hfz10_2
          try clear hfz10_3
          try clear hfz11_0
          try clear hfz11_1
          try clear hfz11_2
          try clear hfz11_3
          try clear hfz13_0
          try clear hfz13_1
          try clear hfz13_2
          try clear hfz13_3
          try clear hfz14_0
          try clear hfz14_1
          try clear hfz14_2
          try clear hfz14_3
          try clear hfz16_0
          try clear hfz16_1
          try clear hfz16_2
          try clear hfz16_3
          try clear hfz17_0
          try clear hfz17_1
          try clear hfz17_2
          try clear hfz17_3
          try clear hfz19_0
          try clear hfz19_1
          try clear hfz19_2
          try clear hfz19_3
          try clear hfz20_0
          try clear hfz20_1
          try clear hfz20_2
          try clear hfz20_3
          try clear p2
          obtain ⟨x5_2, rfl, HA, HK2, BK101, BK102, HB⟩ := hrel
          cases gk with
          | zero => exact absurd HA.out (by simp [redpenref10_SameTag.l0])
          | succ k2 =>
            have H := HA.out
            clear HA
            simp only [redpenref10_SameTag.l0] at H
            by_cases c22 : x5_2 < (l0_3.length : Int)
            · rw [if_pos c22] at H
              have c22b0 : decide (x5_2 < (l0_3.length : Int)) = true := decide_eq_true c22
              clear c22
              by_cases c23 : 0 ≤ x5_2
              · rw [if_pos c23] at H
                have c23b0 : decide (0 ≤ x5_2) = true := decide_eq_true c23
                clear c23
                by_cases c24 : x5_2 < (l1_3.length : Int)
                · rw [if_pos c24] at H
                  have c24b0 : decide (x5_2 < (l1_3.length : Int)) = true := decide_eq_true c24
                  clear c24
                  by_cases c25 : (!(((rd_T54 l0_3 x5_2).f0) == ((rd_T54 l1_3 x5_2).f0)) || (!(((rd_T54 l0_3 x5_2).f1) == ((rd_T54 l1_3 x5_2).f1)))) = true
                  · rw [if_pos c25] at H
                    have c25b0 : (!(((rd_T54 l0_3 x5_2).f0) == ((rd_T54 l1_3 x5_2).f0)) || (!(((rd_T54 l0_3 x5_2).f1) == ((rd_T54 l1_3 x5_2).f1)))) = true := c25
                    clear c25
                    obtain rfl := Option.some.inj H
                    have hnb26 := NB101_102.out
                    have hnc26 := NB102_101.out
                    have hcz27_0 : wr.cell? ⟨gb101, 0, none⟩ = some (.int .i64 a0_0) := (blk_cell BK101.out 0).trans rfl
                    have hcz27_1 : wr.cell? ⟨gb101, 1, none⟩ = some (.string a0_1) := (blk_cell BK101.out 1).trans rfl
                    have hcz27_2 : wr.cell? ⟨gb101, 2, none⟩ = some (.bool a0_2) := (blk_cell BK101.out 2).trans rfl
                    have hcz27_3 : wr.cell? ⟨gb101, 3, none⟩ = some (.slice A0_3 l0_3.length c0_3) := (blk_cell BK101.out 3).trans rfl
                    have hfz27_0 := blk_frozen BK101.out 0
                    have hfz27_1 := blk_frozen BK101.out 1
                    have hfz27_2 := blk_frozen BK101.out 2
                    have hfz27_3 := blk_frozen BK101.out 3
                    have p103 : 0 ≤ (x5_2 : Int) := of_decide_eq_true (by first | (with_reducible assumption) | assumption)
                    have q103 : x5_2 < (l0_3.length : Int) := of_decide_eq_true (by first | (with_reducible assumption) | assumption)
                    obtain ⟨ad103, e103, hx103_0, hx103_1⟩ := at_T54 HR0_3.out x5_2 p103 q103
                    cases e103
                    replace hx103_0 := (HB.out.cell (World.block_lt_of_cell? w _ hx103_0)).trans hx103_0
                    replace hx103_1 := (HB.out.cell (World.block_lt_of_cell? w _ hx103_1)).trans hx103_1
                    replace p103 := eq_true p103
                    replace q103 := eq_true q103
                    have hcz28_0 : wr.cell? ⟨gb102, 0, none⟩ = some (.int .i64 a1_0) := (blk_cell BK102.out 0).trans rfl
                    have hcz28_1 : wr.cell? ⟨gb102, 1, none⟩ = some (.string a1_1) := (blk_cell BK102.out 1).trans rfl
                    have hcz28_2 : wr.cell? ⟨gb102, 2, none⟩ = some (.bool a1_2) := (blk_cell BK102.out 2).trans rfl
                    have hcz28_3 : wr.cell? ⟨gb102, 3, none⟩ = some (.slice A1_3 l1_3.length c1_3) := (blk_cell BK102.out 3).trans rfl
                    have hfz28_0 := blk_frozen BK102.out 0
                    have hfz28_1 := blk_frozen BK102.out 1
                    have hfz28_2 := blk_frozen BK102.out 2
                    have hfz28_3 := blk_frozen BK102.out 3
                    have p104 : 0 ≤ (x5_2 : Int) := of_decide_eq_true (by first | (with_reducible assumption) | assumption)
                    have q104 : x5_2 < (l1_3.length : Int) := of_decide_eq_true (by first | (with_reducible assumption) | assumption)
                    obtain ⟨ad104, e104, hx104_0, hx104_1⟩ := at_T54 HR1_3.out x5_2 p104 q104
                    cases e104
                    replace hx104_0 := (HB.out.cell (World.block_lt_of_cell? w _ hx104_0)).trans hx104_0
                    replace hx104_1 := (HB.out.cell (World.block_lt_of_cell? w _ hx104_1)).trans hx104_1
                    replace p104 := eq_true p104
                    replace q104 := eq_true q104
                    go_wp2
                    repeat (go_quiet (fail); try go_wp2)
                    go_ret
                    exact ⟨by first | rfl | (simp [errW_none, errW_some] <;> rfl) | (simp [*, errW_none, errW_some] <;> rfl), by repeat (first | (with_reducible first | exact HB.out | apply below_alloc | apply pw_below_drewN | apply below_drew1 | refine below_set ?_ GE101.out | refine below_set ?_ GE102.out) | exact HB.out)⟩
                  · rw [if_neg c25] at H
                    have c25b0 : (!(((rd_T54 l0_3 x5_2).f0) == ((rd_T54 l1_3 x5_2).f0)) || (!(((rd_T54 l0_3 x5_2).f1) == ((rd_T54 l1_3 x5_2).f1)))) = false := by simpa using c25
                    clear c25
                    have H' := Aside0.mk H
                    clear H
                    have hnb29 := NB101_102.out
                    have hnc29 := NB102_101.out
                    have hcz30_0 : wr.cell? ⟨gb101, 0, none⟩ = some (.int .i64 a0_0) := (blk_cell BK101.out 0).trans rfl
                    have hcz30_1 : wr.cell? ⟨gb101, 1, none⟩ = some (.string a0_1) := (blk_cell BK101.out 1).trans rfl
                    have hcz30_2 : wr.cell? ⟨gb101, 2, none⟩ = some (.bool a0_2) := (blk_cell BK101.out 2).trans rfl
                    have hcz30_3 : wr.cell? ⟨gb101, 3, none⟩ = some (.slice A0_3 l0_3.length c0_3) := (blk_cell BK101.out 3).trans rfl
                    have hfz30_0 := blk_frozen BK101.out 0
                    have hfz30_1 := blk_frozen BK101.out 1
                    have hfz30_2 := blk_frozen BK101.out 2
                    have hfz30_3 := blk_frozen BK101.out 3
                    have p103 : 0 ≤ (x5_2 : Int) := of_decide_eq_true (by first | (with_reducible assumption) | assumption)
                    have q103 : x5_2 < (l0_3.length : Int) := of_decide_eq_true (by first | (with_reducible assumption) | assumption)
                    obtain ⟨ad103, e103, hx103_0, hx103_1⟩ := at_T54 HR0_3.out x5_2 p103 q103
                    cases e103
                    replace hx103_0 := (HB.out.cell (World.block_lt_of_cell? w _ hx103_0)).trans hx103_0
                    replace hx103_1 := (HB.out.cell (World.block_lt_of_cell? w _ hx103_1)).trans hx103_1
                    replace p103 := eq_true p103
                    replace q103 := eq_true q103
                    have hcz31_0 : wr.cell? ⟨gb102, 0, none⟩ = some (.int .i64 a1_0) := (blk_cell BK102.out 0).trans rfl
                    have hcz31_1 : wr.cell? ⟨gb102, 1, none⟩ = some (.string a1_1) := (blk_cell BK102.out 1).trans rfl
                    have hcz31_2 : wr.cell? ⟨gb102, 2, none⟩ = some (.bool a1_2) := (blk_cell BK102.out 2).trans rfl
                    have hcz31_3 : wr.cell? ⟨gb102, 3, none⟩ = some (.slice A1_3 l1_3.length c1_3) := (blk_cell BK102.out 3).trans rfl
                    have hfz31_0 := blk_frozen BK102.out 0
                    have hfz31_1 := blk_frozen BK102.out 1
                    have hfz31_2 := blk_frozen BK102.out 2
                    have hfz31_3 := blk_frozen BK102.out 3
                    have p104 : 0 ≤ (x5_2 : Int) := of_decide_eq_true (by first | (with_reducible assumption) | assumption)
                    have q104 : x5_2 < (l1_3.length : Int) := of_decide_eq_true (by first | (with_reducible assumption) | assumption)
                    obtain ⟨ad104, e104, hx104_0, hx104_1⟩ := at_T54 HR1_3.out x5_2 p104 q104
                    cases e104
                    replace hx104_0 := (HB.out.cell (World.block_lt_of_cell? w _ hx104_0)).trans hx104_0
                    replace hx104_1 := (HB.out.cell (World.block_lt_of_cell? w _ hx104_1)).trans hx104_1
                    replace p104 := eq_true p104
                    replace q104 := eq_true q104
                    go_wp2
                    repeat (go_quiet (fail); try go_wp2)
                    go_roundg k2
                    case measure => have := HJ2.out; have := HK2.out; omega
                    case rel => exact ⟨(wrap64 (x5_2 + 1)), (by first | rfl | (simp; done) | (simp [*]; done)), H', ⟨by have := HJ2.out; have := HK2.out; omega⟩, ⟨by (with_reducible repeat (first | refine blk_drewN ?_ _ | refine blk_drew ?_ | refine blk_alloc ?_ _)); exact BK101.out⟩, ⟨by (with_reducible repeat (first | refine blk_drewN ?_ _ | refine blk_drew ?_ | refine blk_alloc ?_ _)); exact BK102.out⟩, ⟨by repeat (first | (with_reducible first | exact HB.out | apply below_alloc | apply pw_below_drewN | apply below_drew1 | refine below_set ?_ GE101.out | refine below_set ?_ GE102.out) | exact HB.out)⟩⟩
                · rw [if_neg c24] at H
                  exact absurd H (by simp)
              · rw [if_neg c23] at H
                exact absurd H (by simp)
            · rw [if_neg c22] at H
              have c22b0 : decide (x5_2 < (l0_3.length : Int)) = false := decide_eq_false c22
              clear c22
              obtain rfl := Option.some.inj H
              have hnb32 := NB101_102.out
              have hnc32 := NB102_101.out
              have hcz33_0 : wr.cell? ⟨gb101, 0, none⟩ = some (.int .i64 a0_0) := (blk_cell BK101.out 0).trans rfl
              have hcz33_1 : wr.cell? ⟨gb101, 1, none⟩ = some (.string a0_1) := (blk_cell BK101.out 1).trans rfl
              have hcz33_2 : wr.cell? ⟨gb101, 2, none⟩ = some (.bool a0_2) := (blk_cell BK101.out 2).trans rfl
              have hcz33_3 : wr.cell? ⟨gb101, 3, none⟩ = some (.slice A0_3 l0_3.length c0_3) := (blk_cell BK101.out 3).trans rfl
              have hfz33_0 := blk_frozen BK101.out 0
              have hfz33_1 := blk_frozen BK101.out 1
              have hfz33_2 := blk_frozen BK101.out 2
              have hfz33_3 := blk_frozen BK101.out 3
              go_wp2
              repeat (go_quiet (fail); try go_wp2)
              go_ret
              exact ⟨by first | rfl | (simp [errW_none, errW_some] <;> rfl) | (simp [*, errW_none, errW_some] <;> rfl), by repeat (first | (with_reducible first | exact HB.out | apply below_alloc | apply pw_below_drewN | apply below_drew1 | refine below_set ?_ GE101.out | refine below_set ?_ GE102.out) | exact HB.out)⟩

end Go.Proofs.Ytcbibbdkjhkmoaa.PSameTag

namespace Go.Proofs.Ytcbibbdkjhkmoaa.PHtml
open Go.RowKit Go.Proofs.YtcbibbdkjhkmoaaW.PrintWords Go.Proofs.YtcbibbdkjhkmoaaW.PrintLast Go.Proofs.YtcbibbdkjhkmoaaW.PrintMore
attribute [local go_sem] max2_int min2_int max_two min_two max_three min_three max_four min_four   -- for this text's walks alone
set_option linter.unusedVariables false
set_option linter.unusedSimpArgs false



def errW : Option Int → Value
  | none => .nilIface
  | some c => .iface 0 (.int .i64 c)
theorem errW_none : errW none = .nilIface := rfl
theorem errW_some (c : Int) : errW (some c) = .iface 0 (.int .i64 c) := rfl

theorem info57 : (Try.prog.info? 57).map (fun i => (i.zero, i.size, i.bytes)) = some (some (.int .u8 0), 1, 1) := by kernel_rfl
-- the values' own types
/-! #### struct type 54 -/
structure S54 where
  f0 : Int
  f1 : Int
def z54 : S54 := ⟨(0 : Int), (0 : Int)⟩
def k54 : Kd S54 := Kd.iso (Kd.pair (Kd.int .i64) (Kd.int .i64)) (fun x : S54 => (x.f0, x.f1))
theorem k54_open {w : World} {x : S54} {cs : List Value} (h : k54.K w x cs) : cs = [.int .i64 x.f0, .int .i64 x.f1] := by
  obtain ⟨_, _, rfl, rfl, rfl⟩ := h
  exact rfl
theorem k54_openM {w : World} {base : Nat} {ok : Nat → Prop} {x : S54} {cs : List Value} (h : k54.M w base ok x cs) : cs = [.int .i64 x.f0, .int .i64 x.f1] := by
  obtain ⟨_, _, rfl, rfl, rfl⟩ := h
  exact rfl
theorem k54_mk (w : World) (x : S54)  : k54.K w x [.int .i64 x.f0, .int .i64 x.f1] := ⟨[.int .i64 x.f0], [.int .i64 x.f1], rfl, rfl, rfl⟩
theorem k54_mkM (w : World) (base : Nat) (ok : Nat → Prop) (x : S54)  : k54.M w base ok x [.int .i64 x.f0, .int .i64 x.f1] := ⟨[.int .i64 x.f0], [.int .i64 x.f1], rfl, rfl, rfl⟩
def rd_T54 (xs : List S54) (i : Int) : S54 := xs.getD i.toNat z54
theorem at_T54 {w : World} {A : Option Addr} {n : Nat} {xs : List S54} (h : Kd.C k54 w A n xs) (i : Int) (h0 : 0 ≤ i) (h1 : i < n) : ∃ ad , A = some ad ∧ w.cell? (ad.add (i.toNat * 2)) = some (.int .i64 (rd_T54 xs i).f0) ∧ w.cell? ⟨(ad.add (i.toNat * 2)).block, (ad.add (i.toNat * 2)).off + 1, none⟩ = some (.int .i64 (rd_T54 xs i).f1) := by
  obtain ⟨ad, c, e, _, hK, hc0⟩ := Kd.C_get h z54 i h0 h1
  have hc : ∀ j u, c[j]? = some u → w.cell? (ad.add (i.toNat * 2 + j)) = some u := hc0
  obtain rfl := k54_open hK
  exact ⟨ad, e, hc 0 _ rfl, by rw [← add_field _ _ 1 (by omega)]; exact hc 1 _ rfl⟩

end Go.Proofs.Ytcbibbdkjhkmoaa.PHtml

namespace Go.Proofs.Ytcbibbdkjhkmoaa.PHtml
open Go.RowKit Go.Proofs.YtcbibbdkjhkmoaaW.PrintWords Go.Proofs.YtcbibbdkjhkmoaaW.PrintLast Go.Proofs.YtcbibbdkjhkmoaaW.PrintMore
attribute [local go_sem] max2_int min2_int max_two min_two max_three min_three max_four min_four   -- for this text's walks alone
set_option linter.unusedVariables false
set_option linter.unusedSimpArgs false

/-! ### redpenref10_at: function 32 -/
def redpenref10_at.f (a0 : ByteArray) (a1 : Int) (a2 : ByteArray) : Option (Bool) := if (wrap64 (a1 + (a2.size : Int))) ≤ (a0.size : Int) then (if 0 ≤ a1 then (if a1 ≤ (wrap64 (a1 + (a2.size : Int))) then (some ((a0.extract (a1 : Int).toNat ((wrap64 (a1 + (a2.size : Int))) : Int).toNat).toList == a2.toList)) else (none)) else (none)) else (some false)
set_option maxHeartbeats 8000000 in
set_option maxRecDepth 100000 in
theorem redpenref10_at.calls (a0 : ByteArray) (a1 : Int) (a2 : ByteArray) (r : Bool) (w : World) (h : redpenref10_at.f a0 a1 a2 = some r) :
    Calls Try.prog 32 #[.string a0, .int .i64 a1, .string a2] w fun e w' => e = .returned (.bool r) ∧ Drawn0 w w' := by
  have H : (if (wrap64 (a1 + (a2.size : Int))) ≤ (a0.size : Int) then (if 0 ≤ a1 then (if a1 ≤ (wrap64 (a1 + (a2.size : Int))) then (some ((a0.extract (a1 : Int).toNat ((wrap64 (a1 + (a2.size : Int))) : Int).toNat).toList == a2.toList)) else (none)) else (none)) else (some false)) = some r := h
  clear h
  by_cases c4 : (wrap64 (a1 + (a2.size : Int))) ≤ (a0.size : Int)
  · rw [if_pos c4] at H
    have c4b0 : decide ((wrap64 (a1 + (a2.size : Int))) ≤ (a0.size : Int)) = true := decide_eq_true c4
    clear c4
    by_cases c5 : 0 ≤ a1
    · rw [if_pos c5] at H
      have c5b0 := eq_true c5
      have c5b1 : decide (0 ≤ a1) = true := decide_eq_true c5
      clear c5
      by_cases c6 : a1 ≤ (wrap64 (a1 + (a2.size : Int)))
      · rw [if_pos c6] at H
        have c6b0 := eq_true c6
        have c6b1 : decide (a1 ≤ (wrap64 (a1 + (a2.size : Int)))) = true := decide_eq_true c6
        have c7b0 := eq_true (of_decide_eq_true (by first | (with_reducible assumption) | assumption) : (wrap64 (a1 + (a2.size : Int))) ≤ (a0.size : Int))
        obtain rfl := Option.some.inj H
        go_enter Try.func32, Try.ntmps32
        go_wp2
        go_ret
        exact ⟨by first | rfl | (simp; done) | (simp [*]; done), by repeat (first | exact Drawn0.refl _ | apply Drawn0.step)⟩
      · rw [if_neg c6] at H
        exact absurd H (by simp)
    · rw [if_neg c5] at H
      exact absurd H (by simp)
  · rw [if_neg c4] at H
    have c4b0 : decide ((wrap64 (a1 + (a2.size : Int))) ≤ (a0.size : Int)) = false := decide_eq_false c4
    clear c4
    obtain rfl := Option.some.inj H
    go_enter Try.func32, Try.ntmps32
    go_wp2
    go_ret
    exact ⟨by first | rfl | (simp; done) | (simp [*]; done), by repeat (first | exact Drawn0.refl _ | apply Drawn0.step)⟩

/-! ### redpenref10_letter: function 35 -/
def redpenref10_letter.f (a0 : ByteArray) (a1 : Int) : Option (Bool) := if a1 < 0 then (some false) else (if a1 ≥ (a0.size : Int) then (some false) else (if 0 ≤ a1 then (if a1 < (a0.size : Int) then (if (Go.bits .or .u8 (bt a0 a1) 32) ≥ 97 then (some (decide ((Go.bits .or .u8 (bt a0 a1) 32) ≤ 122))) else (some false)) else (none)) else (none)))
set_option maxHeartbeats 8000000 in
set_option maxRecDepth 100000 in
theorem redpenref10_letter.calls (a0 : ByteArray) (a1 : Int) (r : Bool) (w : World) (h : redpenref10_letter.f a0 a1 = some r) :
    Calls Try.prog 35 #[.string a0, .int .i64 a1] w fun e w' => e = .returned (.bool r) ∧ Drawn0 w w' := by
  have H : (if a1 < 0 then (some false) else (if a1 ≥ (a0.size : Int) then (some false) else (if 0 ≤ a1 then (if a1 < (a0.size : Int) then (if (Go.bits .or .u8 (bt a0 a1) 32) ≥ 97 then (some (decide ((Go.bits .or .u8 (bt a0 a1) 32) ≤ 122))) else (some false)) else (none)) else (none)))) = some r := h
  clear h
  by_cases c3 : a1 < 0
  · rw [if_pos c3] at H
    have c3b0 : decide (a1 < 0) = true := decide_eq_true c3
    clear c3
    obtain rfl := Option.some.inj H
    go_enter Try.func35, Try.ntmps35
    go_wp2
    go_ret
    exact ⟨by first | rfl | (simp; done) | (simp [*]; done), by repeat (first | exact Drawn0.refl _ | apply Drawn0.step)⟩
  · rw [if_neg c3] at H
    have c3b0 : decide (a1 < 0) = false := decide_eq_false c3
    clear c3
    by_cases c4 : a1 ≥ (a0.size : Int)
    · rw [if_pos c4] at H
      have c4b0 : decide ((a0.size : Int) ≤ a1) = true := decide_eq_true c4
      clear c4
      obtain rfl := Option.some.inj H
      go_enter Try.func35, Try.ntmps35
      go_wp2
      go_ret
      exact ⟨by first | rfl | (simp; done) | (simp [*]; done), by repeat (first | exact Drawn0.refl _ | apply Drawn0.step)⟩
    · rw [if_neg c4] at H
      have c4b0 : decide ((a0.size : Int) ≤ a1) = false := decide_eq_false c4
      clear c4
      by_cases c5 : 0 ≤ a1
      · rw [if_pos c5] at H
        have c5b0 : decide (0 ≤ a1) = true := decide_eq_true c5
        clear c5
        by_cases c6 : a1 < (a0.size : Int)
        · rw [if_pos c6] at H
          have c6b0 : decide (a1 < (a0.size : Int)) = true := decide_eq_true c6
          clear c6
          by_cases c8 : (Go.bits .or .u8 (bt a0 a1) 32) ≥ 97
          · rw [if_pos c8] at H
            have c8b0 : decide (97 ≤ (Go.bits .or .u8 (bt a0 a1) 32)) = true := decide_eq_true c8
            clear c8
            obtain rfl := Option.some.inj H
            have p7 : 0 ≤ (a1 : Int) := of_decide_eq_true (by first | (with_reducible assumption) | assumption)
            have q7 : a1 < (a0.size : Int) := of_decide_eq_true (by first | (with_reducible assumption) | assumption)
            have hx7 := bt_at a0 a1
            replace p7 := eq_true p7
            replace q7 := eq_true q7
            go_enter Try.func35, Try.ntmps35
            go_wp2
            go_ret
            exact ⟨by first | rfl | (simp; done) | (simp [*]; done), by repeat (first | exact Drawn0.refl _ | apply Drawn0.step)⟩
          · rw [if_neg c8] at H
            have c8b0 : decide (97 ≤ (Go.bits .or .u8 (bt a0 a1) 32)) = false := decide_eq_false c8
            clear c8
            obtain rfl := Option.some.inj H
            have p7 : 0 ≤ (a1 : Int) := of_decide_eq_true (by first | (with_reducible assumption) | assumption)
            have q7 : a1 < (a0.size : Int) := of_decide_eq_true (by first | (with_reducible assumption) | assumption)
            have hx7 := bt_at a0 a1
            replace p7 := eq_true p7
            replace q7 := eq_true q7
            go_enter Try.func35, Try.ntmps35
            go_wp2
            go_ret
            exact ⟨by first | rfl | (simp; done) | (simp [*]; done), by repeat (first | exact Drawn0.refl _ | apply Drawn0.step)⟩
        · rw [if_neg c6] at H
          exact absurd H (by simp)
      · rw [if_neg c5] at H
        exact absurd H (by simp)

-- NOT PRINTED: function 45 (redpenref10_low)

/-! ### redpenref10_blank: function 46 -/
def redpenref10_blank.f (a0 : ByteArray) (a1 : Int) : Option (Bool) := if a1 < (a0.size : Int) then (if 0 ≤ a1 then (if (bt a0 a1) = 32 then (some true) else (if (bt a0 a1) = 9 then (some true) else (if (bt a0 a1) = 10 then (some true) else (if (bt a0 a1) = 13 then (some true) else (some ((bt a0 a1) == 12)))))) else (none)) else (some false)
set_option maxHeartbeats 8000000 in
set_option maxRecDepth 100000 in
theorem redpenref10_blank.calls (a0 : ByteArray) (a1 : Int) (r : Bool) (w : World) (h : redpenref10_blank.f a0 a1 = some r) :
    Calls Try.prog 46 #[.string a0, .int .i64 a1] w fun e w' => e = .returned (.bool r) ∧ Drawn0 w w' := by
  have H : (if a1 < (a0.size : Int) then (if 0 ≤ a1 then (if (bt a0 a1) = 32 then (some true) else (if (bt a0 a1) = 9 then (some true) else (if (bt a0 a1) = 10 then (some true) else (if (bt a0 a1) = 13 then (some true) else (some ((bt a0 a1) == 12)))))) else (none)) else (some false)) = some r := h
  clear h
  by_cases c3 : a1 < (a0.size : Int)
  · rw [if_pos c3] at H
    have c3b0 : decide (a1 < (a0.size : Int)) = true := decide_eq_true c3
    clear c3
    by_cases c4 : 0 ≤ a1
    · rw [if_pos c4] at H
      have c4b0 : decide (0 ≤ a1) = true := decide_eq_true c4
      clear c4
      by_cases c6 : (bt a0 a1) = 32
      · rw [if_pos c6] at H
        have c6b0 : ((bt a0 a1) == 32) = true := beq_iff_eq.mpr c6
        have c6b1 : ((bt a0 a1) != 32) = false := bne_eq_false_iff_eq.mpr c6
        clear c6
        obtain rfl := Option.some.inj H
        have p5 : 0 ≤ (a1 : Int) := of_decide_eq_true (by first | (with_reducible assumption) | assumption)
        have q5 : a1 < (a0.size : Int) := of_decide_eq_true (by first | (with_reducible assumption) | assumption)
        have hx5 := bt_at a0 a1
        replace p5 := eq_true p5
        replace q5 := eq_true q5
        go_enter Try.func46, Try.ntmps46
        go_wp2
        go_ret
        exact ⟨by first | rfl | (simp; done) | (simp [*]; done), by repeat (first | exact Drawn0.refl _ | apply Drawn0.step)⟩
      · rw [if_neg c6] at H
        have c6b0 : ((bt a0 a1) == 32) = false := beq_eq_false_iff_ne.mpr c6
        have c6b1 : ((bt a0 a1) != 32) = true := bne_iff_ne.mpr c6
        by_cases c8 : (bt a0 a1) = 9
        · rw [if_pos c8] at H
          have c8b0 : ((bt a0 a1) == 9) = true := beq_iff_eq.mpr c8
          have c8b1 : ((bt a0 a1) != 9) = false := bne_eq_false_iff_eq.mpr c8
          clear c8
          obtain rfl := Option.some.inj H
          have p5 : 0 ≤ (a1 : Int) := of_decide_eq_true (by first | (with_reducible assumption) | assumption)
          have q5 : a1 < (a0.size : Int) := of_decide_eq_true (by first | (with_reducible assumption) | assumption)
          have hx5 := bt_at a0 a1
          replace p5 := eq_true p5
          replace q5 := eq_true q5
          have p7 : 0 ≤ (a1 : Int) := of_decide_eq_true (by first | (with_reducible assumption) | assumption)
          have q7 : a1 < (a0.size : Int) := of_decide_eq_true (by first | (with_reducible assumption) | assumption)
          have hx7 := bt_at a0 a1
          replace p7 := eq_true p7
          replace q7 := eq_true q7
          go_enter Try.func46, Try.ntmps46
          go_wp2
          go_ret
          exact ⟨by first | rfl | (simp; done) | (simp [*]; done), by repeat (first | exact Drawn0.refl _ | apply Drawn0.step)⟩
        · rw [if_neg c8] at H
          have c8b0 : ((bt a0 a1) == 9) = false := beq_eq_false_iff_ne.mpr c8
          have c8b1 : ((bt a0 a1) != 9) = true := bne_iff_ne.mpr c8
          by_cases c10 : (bt a0 a1) = 10
          · rw [if_pos c10] at H
            have c10b0 : ((bt a0 a1) == 10) = true := beq_iff_eq.mpr c10
            have c10b1 : ((bt a0 a1) != 10) = false := bne_eq_false_iff_eq.mpr c10
            clear c10
            obtain rfl := Option.some.inj H
            have p5 : 0 ≤ (a1 : Int) := of_decide_eq_true (by first | (with_reducible assumption) | assumption)
            have q5 : a1 < (a0.size : Int) := of_decide_eq_true (by first | (with_reducible assumption) | assumption)
            have hx5 := bt_at a0 a1
            replace p5 := eq_true p5
            replace q5 := eq_true q5
            have p7 : 0 ≤ (a1 : Int) := of_decide_eq_true (by first | (with_reducible assumption) | assumption)
            have q7 : a1 < (a0.size : Int) := of_decide_eq_true (by first | (with_reducible assumption) | assumption)
            have hx7 := bt_at a0 a1
            replace p7 := eq_true p7
            replace q7 := eq_true q7
            have p9 : 0 ≤ (a1 : Int) := of_decide_eq_true (by first | (with_reducible assumption) | assumption)
            have q9 : a1 < (a0.size : Int) := of_decide_eq_true (by first | (with_reducible assumption) | assumption)
            have hx9 := bt_at a0 a1
            replace p9 := eq_true p9
            replace q9 := eq_true q9
            go_enter Try.func46, Try.ntmps46
            go_wp2
            go_ret
            exact ⟨by first | rfl | (simp; done) | (simp [*]; done), by repeat (first | exact Drawn0.refl _ | apply Drawn0.step)⟩
          · rw [if_neg c10] at H
            have c10b0 : ((bt a0 a1) == 10) = false := beq_eq_false_iff_ne.mpr c10
            have c10b1 : ((bt a0 a1) != 10) = true := bne_iff_ne.mpr c10
            by_cases c12 : (bt a0 a1) = 13
            · rw [if_pos c12] at H
              have c12b0 : ((bt a0 a1) == 13) = true := beq_iff_eq.mpr c12
              have c12b1 : ((bt a0 a1) != 13) = false := bne_eq_false_iff_eq.mpr c12
              clear c12
              obtain rfl := Option.some.inj H
              have p5 : 0 ≤ (a1 : Int) := of_decide_eq_true (by first | (with_reducible assumption) | assumption)
              have q5 : a1 < (a0.size : Int) := of_decide_eq_true (by first | (with_reducible assumption) | assumption)
              have hx5 := bt_at a0 a1
              replace p5 := eq_true p5
              replace q5 := eq_true q5
              have p7 : 0 ≤ (a1 : Int) := of_decide_eq_true (by first | (with_reducible assumption) | assumption)
              have q7 : a1 < (a0.size : Int) := of_decide_eq_true (by first | (with_reducible assumption) | assumption)
              have hx7 := bt_at a0 a1
              replace p7 := eq_true p7
              replace q7 := eq_true q7
              have p9 : 0 ≤ (a1 : Int) := of_decide_eq_true (by first | (with_reducible assumption) | assumption)
              have q9 : a1 < (a0.size : Int) := of_decide_eq_true (by first | (with_reducible assumption) | assumption)
              have hx9 := bt_at a0 a1
              replace p9 := eq_true p9
              replace q9 := eq_true q9
              have p11 : 0 ≤ (a1 : Int) := of_decide_eq_true (by first | (with_reducible assumption) | assumption)
              have q11 : a1 < (a0.size : Int) := of_decide_eq_true (by first | (with_reducible assumption) | assumption)
              have hx11 := bt_at a0 a1
              replace p11 := eq_true p11
              replace q11 := eq_true q11
              go_enter Try.func46, Try.ntmps46
              go_wp2
              go_ret
              exact ⟨by first | rfl | (simp; done) | (simp [*]; done), by repeat (first | exact Drawn0.refl _ | apply Drawn0.step)⟩
            · rw [if_neg c12] at H
              have c12b0 : ((bt a0 a1) == 13) = false := beq_eq_false_iff_ne.mpr c12
              have c12b1 : ((bt a0 a1) != 13) = true := bne_iff_ne.mpr c12
              obtain rfl := Option.some.inj H
              have p5 : 0 ≤ (a1 : Int) := of_decide_eq_true (by first | (with_reducible assumption) | assumption)
              have q5 : a1 < (a0.size : Int) := of_decide_eq_true (by first | (with_reducible assumption) | assumption)
              have hx5 := bt_at a0 a1
              replace p5 := eq_true p5
              replace q5 := eq_true q5
              have p7 : 0 ≤ (a1 : Int) := of_decide_eq_true (by first | (with_reducible assumption) | assumption)
              have q7 : a1 < (a0.size : Int) := of_decide_eq_true (by first | (with_reducible assumption) | assumption)
              have hx7 := bt_at a0 a1
              replace p7 := eq_true p7
              replace q7 := eq_true q7
              have p9 : 0 ≤ (a1 : Int) := of_decide_eq_true (by first | (with_reducible assumption) | assumption)
              have q9 : a1 < (a0.size : Int) := of_decide_eq_true (by first | (with_reducible assumption) | assumption)
              have hx9 := bt_at a0 a1
              replace p9 := eq_true p9
              replace q9 := eq_true q9
              have p11 : 0 ≤ (a1 : Int) := of_decide_eq_true (by first | (with_reducible assumption) | assumption)
              have q11 : a1 < (a0.size : Int) := of_decide_eq_true (by first | (with_reducible assumption) | assumption)
              have hx11 := bt_at a0 a1
              replace p11 := eq_true p11
              replace q11 := eq_true q11
              have p13 : 0 ≤ (a1 : Int) := of_decide_eq_true (by first | (with_reducible assumption) | assumption)
              have q13 : a1 < (a0.size : Int) := of_decide_eq_true (by first | (with_reducible assumption) | assumption)
              have hx13 := bt_at a0 a1
              replace p13 := eq_true p13
              replace q13 := eq_true q13
              go_enter Try.func46, Try.ntmps46
              go_wp2
              go_ret
              exact ⟨by first | rfl | (simp; done) | (simp [*]; done), by repeat (first | exact Drawn0.refl _ | apply Drawn0.step)⟩
    · rw [if_neg c4] at H
      exact absurd H (by simp)
  · rw [if_neg c3] at H
    have c3b0 : decide (a1 < (a0.size : Int)) = false := decide_eq_false c3
    clear c3
    obtain rfl := Option.some.inj H
    go_enter Try.func46, Try.ntmps46
    go_wp2
    go_ret
    exact ⟨by first | rfl | (simp; done) | (simp [*]; done), by repeat (first | exact Drawn0.refl _ | apply Drawn0.step)⟩

-- NOT PRINTED: function 18 (redpenref10_Read)

/-! ### redpenref10_All: function 31 -/
def redpenref10_All.l0 : Nat → Int → Int → List Int → Int → Option (List Int)
  | 0, _, _, _, _ => none
  | k + 1, x0, x1, x5, x6 => if x6 < x0 then (if 0 ≤ x6 then (if x6 < (x5.length : Int) then (redpenref10_All.l0 k x0 x1 (x5.set (x6 : Int).toNat x1) (wrap64 (x6 + 1))) else (none)) else (none)) else (some x5)
def redpenref10_All.f (k : Nat) (a0 : Int) (a1 : Int) : Option (List Int) := if 0 ≤ a0 then (if (a0 : Int).toNat ≤ 281474976710656 then (redpenref10_All.l0 k a0 a1 (List.replicate (a0 : Int).toNat 0) 0) else (none)) else (none)
theorem redpenref10_All.mono_l : ∀ k, (∀ y0 y1 y2 y3, LeO (redpenref10_All.l0 k y0 y1 y2 y3) (redpenref10_All.l0 (k + 1) y0 y1 y2 y3))
  | 0 => fun _ _ _ _ r h => by simp [redpenref10_All.l0] at h
  | k + 1 => by
    have ih0 := redpenref10_All.mono_l k
    · intro y0 y1 y2 y3
      unfold redpenref10_All.l0
      repeat' first
      | (with_reducible exact ih0 _ _ _ _)
      | (with_reducible exact LeO.refl _)
      | (with_reducible exact LeO.none _)
      | (with_reducible refine LeO.ite ?_ ?_)
      | (with_reducible refine LeO.bind ?_ (fun _ => ?_))
      | exact ih0 _ _ _ _
      | exact LeO.none _
      | refine LeO.ite ?_ ?_
      | refine LeO.bind ?_ (fun _ => ?_)
theorem redpenref10_All.mono : ∀ a0 a1 k, LeO (redpenref10_All.f k a0 a1) (redpenref10_All.f (k + 1) a0 a1) := by
  intro a0 a1 k
  have ih0 := redpenref10_All.mono_l k
  unfold redpenref10_All.f
  repeat' first
      | (with_reducible exact ih0 _ _ _ _)
      | (with_reducible exact LeO.refl _)
      | (with_reducible exact LeO.none _)
      | (with_reducible refine LeO.ite ?_ ?_)
      | (with_reducible refine LeO.bind ?_ (fun _ => ?_))
      | exact ih0 _ _ _ _
      | exact LeO.none _
      | refine LeO.ite ?_ ?_
      | refine LeO.bind ?_ (fun _ => ?_)
set_option maxHeartbeats 8000000 in
set_option maxRecDepth 100000 in
theorem redpenref10_All.calls (k : Nat) (a0 : Int) (a1 : Int) (r : List Int) (w : World) (h : redpenref10_All.f k a0 a1 = some r) :
    Calls Try.prog 31 #[.int .i64 a0, .int .u8 a1] w fun e w' => ∃ v0_ : Value, e = .returned (v0_) ∧ Kd.R (Kd.int .u8) 57 w' w.heap.size (fun _ => True) v0_ r ∧ Below w.heap.size w w' := by
  have HB := Aside0.mk (Below.refl w.heap.size w)
  have H : (if 0 ≤ a0 then (if (a0 : Int).toNat ≤ 281474976710656 then (redpenref10_All.l0 k a0 a1 (List.replicate (a0 : Int).toNat 0) 0) else (none)) else (none)) = some r := h
  clear h
  by_cases c3 : 0 ≤ a0
  · rw [if_pos c3] at H
    have c3b0 := eq_true c3
    have c3b1 : decide (0 ≤ a0) = true := decide_eq_true c3
    clear c3
    by_cases c4 : (a0 : Int).toNat ≤ 281474976710656
    · rw [if_pos c4] at H
      have c4b0 := eq_true c4
      have c4b1 : decide ((a0 : Int).toNat ≤ 281474976710656) = true := decide_eq_true c4
      clear c4
      obtain ⟨y106, hy106⟩ : ∃ y_ : List Int, y_ = (List.replicate (a0 : Int).toNat 0) := ⟨_, rfl⟩
      replace H : (redpenref10_All.l0 k a0 a1 y106 0) = some r := by first | (rw [hy106]; with_reducible exact H) | (have H2_ := (Option.bind_some _ _).symm.trans H; rw [hy106]; with_reducible exact H2_) | (have H2_ := (Option.bind_some _ _).symm.trans H; with_reducible exact H2_) | with_reducible exact H | (rw [hy106]; exact H) | exact H
      have Ny106 := Aside0.mk hy106
      clear hy106
      have H' := Aside0.mk H
      clear H
      go_enter Try.func31, Try.ntmps31
      go_wp2_with (first | ((with_reducible refine gate_dst (N := 8) rfl ?_); refine Kd.R_make (Kd.int .u8) _ 57 rfl (N := 8) rfl 37 _ _ rfl a0 rfl rfl Try.underlying37 (.int .u8 0) 1 info57 rfl (by decide) (by omega) 0 (ok := fun _ => True) (okp := fun _ => True) rfl (fun _ hk => hk) trivial (of_decide_eq_true (by first | (with_reducible assumption) | assumption)) (Nat.le_trans (Nat.mul_le_mul_right _ (of_decide_eq_true (by first | (with_reducible assumption) | assumption) : a0.toNat ≤ 281474976710656)) (by omega)) (Below.refl _ _) (Nat.le_refl _) ?_; intro v107 w5 ho6 hb hg_ hnew_; clear hg_ hnew_; (first | rw [← Ny106.out] at ho6 | (simp only [Int.reduceToNat] at ho6; rw [← Ny106.out] at ho6)); have n0_ := Aside0.mk (Kd.R_lower ho6 (below_size (by repeat (first | (with_reducible first | exact HB.out | apply below_alloc | apply pw_below_drewN | apply below_drew1) | exact HB.out)))); have n1_ := Aside0.mk (below_step (by repeat (first | (with_reducible first | exact HB.out | apply below_alloc | apply pw_below_drewN | apply below_drew1) | exact HB.out)) hb); clear HB; have HO108 := n0_; have HB := n1_; clear n0_ n1_; clear hb ho6))
      go_loopg [6] k (fun kq v6 w' => ∃ (x5_1 : List Int) (x6_1 : Int), v6 = .int .i64 x6_1 ∧ Aside0 (redpenref10_All.l0 kq a0 a1 x5_1 x6_1 = some r) ∧ Aside0 (kq ≤ k) ∧ Aside0 (Kd.R (Kd.int .u8) 57 w' w.heap.size (fun _ => True) v107 x5_1) ∧ Aside0 (Below w.heap.size w w'))
      case atStart => exact ⟨(y106), (0), (by first | rfl | (simp; done) | (simp [*]; done)), H', ⟨Nat.le_refl _⟩, ⟨by (with_reducible repeat (first | apply Kd.R_alloc | apply Kd.R_drewN | apply Kd.R_drew)); exact HO108.out⟩, ⟨by repeat (first | (with_reducible first | exact HB.out | apply below_alloc | apply pw_below_drewN | apply below_drew1) | exact HB.out)⟩⟩
      case round =>
        clear H'
        try clear p2
        try clear c3
        try clear c3b0
        try clear c3b1
        try clear c4
        try clear c4b0
        try clear c4b1
        obtain ⟨x5_1, x6_1, rfl, HA, HK1, HO_5, HB⟩ := hrel
        cases gk with
        | zero => exact absurd HA.out (by simp [redpenref10_All.l0])
        | succ k1 =>
          have H := HA.out
          clear HA
          simp only [redpenref10_All.l0] at H
          by_cases c7 : x6_1 < a0
          · rw [if_pos c7] at H
            have c7b0 : decide (x6_1 < a0) = true := decide_eq_true c7
            clear c7
            by_cases c8 : 0 ≤ x6_1
            · rw [if_pos c8] at H
              have c8b0 : decide (0 ≤ x6_1) = true := decide_eq_true c8
              clear c8
              by_cases c9 : x6_1 < (x5_1.length : Int)
              · rw [if_pos c9] at H
                have c9b0 : decide (x6_1 < (x5_1.length : Int)) = true := decide_eq_true c9
                clear c9
                obtain ⟨y109, hy109⟩ : ∃ y_ : List Int, y_ = (x5_1.set (x6_1 : Int).toNat a1) := ⟨_, rfl⟩
                replace H : (redpenref10_All.l0 k1 a0 a1 y109 (wrap64 (x6_1 + 1))) = some r := by first | (rw [hy109]; with_reducible exact H) | (have H2_ := (Option.bind_some _ _).symm.trans H; rw [hy109]; with_reducible exact H2_) | (have H2_ := (Option.bind_some _ _).symm.trans H; with_reducible exact H2_) | with_reducible exact H | (rw [hy109]; exact H) | exact H
                have Ny109 := Aside0.mk hy109
                clear hy109
                have H' := Aside0.mk H
                clear H
                have p10 : 0 ≤ (x6_1 : Int) := of_decide_eq_true (by first | (with_reducible assumption) | assumption)
                have q10 : (x6_1 : Int) < ((x5_1.length : Int) : Int) := of_decide_eq_true (by first | (with_reducible assumption) | assumption)
                obtain ⟨go10, co10, eo10, gb10, gl10, cl10, HG10⟩ := Kd.R_form HO_5.out (by omega)
                (first | cases eo10 | (injection eo10 with ea_ en_ ec_; (first | subst ea_ | (injection ea_ with ea_; subst ea_)); subst ec_; clear en_))
                have GB10 := Aside0.mk gb10
                have GG10 := Aside0.mk HG10
                clear gb10 gl10 HG10
                obtain ⟨hx10_0, hf10_0⟩ := Kd.R_celln 0 HO_5.out (x6_1 : Int) p10 q10
                replace p10 := eq_true p10
                replace q10 := eq_true q10
                have HP11 := Kd.R_putg HO_5.out (x6_1 : Int) a1
                go_wp2_with (first | ((with_reducible refine gate_store (t := 57) (p := 17) rfl ?_); refine store_event (t := 57) (p := 17) (v := ?vo_w12) (w1 := (wr.setCell ⟨go10, (x6_1 : Int).toNat, none⟩ (.int .u8 a1))) ?hg ?ho ?hn ?hr ?_; (case ho => rfl); (case hg => rfl); (case hn => rfl); (case hr => first | (go_simp; done) | (go_simp; rfl)); intro w12 hw; have hg : wr.grownBy w12 (some go10) := (by rw [hw]; exact HP11.2); have hp_ : Kd.R (Kd.int .u8) 57 w12 w.heap.size (fun _ => True) (.slice (some ⟨go10, 0, none⟩) x5_1.length co10) y109 := (by rw [hw, Ny109.out]; exact HP11.1); clear HP11; have n0_ := Aside0.mk (hp_); have n1_ := Aside0.mk ((by rw [hw]; exact below_set (HB.out) GB10.out : Below w.heap.size w w12)); clear HO_5; clear HB; have HO_5 := n0_; have HB := n1_; clear n0_ n1_; clear hg hw hp_))
                go_roundg k1
                case measure => have := HK1.out; omega
                case rel => exact ⟨(y109), (wrap64 (x6_1 + 1)), (by first | rfl | (simp; done) | (simp [*]; done)), H', ⟨by have := HK1.out; omega⟩, ⟨by (with_reducible repeat (first | apply Kd.R_alloc | apply Kd.R_drewN | apply Kd.R_drew)); exact HO_5.out⟩, ⟨by repeat (first | (with_reducible first | exact HB.out | apply below_alloc | apply pw_below_drewN | apply below_drew1) | exact HB.out)⟩⟩
              · rw [if_neg c9] at H
                exact absurd H (by simp)
            · rw [if_neg c8] at H
              exact absurd H (by simp)
          · rw [if_neg c7] at H
            have c7b0 : decide (x6_1 < a0) = false := decide_eq_false c7
            clear c7
            obtain rfl := Option.some.inj H
            go_wp2
            go_ret
            exact ⟨_, by first | rfl | (simp [errW_none, errW_some] <;> rfl) | (simp [*, errW_none, errW_some] <;> rfl), by (with_reducible repeat (first | apply Kd.R_alloc | apply Kd.R_drewN | apply Kd.R_drew)); exact HO_5.out, by repeat (first | (with_reducible first | exact HB.out | apply below_alloc | apply pw_below_drewN | apply below_drew1) | exact HB.out)⟩
    · rw [if_neg c4] at H
      exact absurd H (by simp)
  · rw [if_neg c3] at H
    exact absurd H (by simp)

/-! ### redpenref10_behind: function 33 -/
def redpenref10_behind.l0 : Nat → ByteArray → Int → ByteArray → Option (Int)
  | 0, _, _, _ => none
  | k + 1, x0, x1, x2 => if x1 < (x0.size : Int) then ((redpenref10_at.f x0 x1 x2).bind fun t110 => (if t110 = true then (some (wrap64 (x1 + (x2.size : Int)))) else (redpenref10_behind.l0 k x0 (wrap64 (x1 + 1)) x2))) else (some (x0.size : Int))
def redpenref10_behind.f (k : Nat) (a0 : ByteArray) (a1 : Int) (a2 : ByteArray) : Option (Int) := redpenref10_behind.l0 k a0 a1 a2
theorem redpenref10_behind.mono_l : ∀ k, (∀ y0 y1 y2, LeO (redpenref10_behind.l0 k y0 y1 y2) (redpenref10_behind.l0 (k + 1) y0 y1 y2))
  | 0 => fun _ _ _ r h => by simp [redpenref10_behind.l0] at h
  | k + 1 => by
    have ih0 := redpenref10_behind.mono_l k
    · intro y0 y1 y2
      unfold redpenref10_behind.l0
      repeat' first
      | (with_reducible exact ih0 _ _ _)
      | (with_reducible exact LeO.refl _)
      | (with_reducible exact LeO.none _)
      | (with_reducible refine LeO.ite ?_ ?_)
      | (with_reducible refine LeO.bind ?_ (fun _ => ?_))
      | exact ih0 _ _ _
      | exact LeO.none _
      | refine LeO.ite ?_ ?_
      | refine LeO.bind ?_ (fun _ => ?_)
theorem redpenref10_behind.mono : ∀ a0 a1 a2 k, LeO (redpenref10_behind.f k a0 a1 a2) (redpenref10_behind.f (k + 1) a0 a1 a2) := by
  intro a0 a1 a2 k
  have ih0 := redpenref10_behind.mono_l k
  unfold redpenref10_behind.f
  repeat' first
      | (with_reducible exact ih0 _ _ _)
      | (with_reducible exact LeO.refl _)
      | (with_reducible exact LeO.none _)
      | (with_reducible refine LeO.ite ?_ ?_)
      | (with_reducible refine LeO.bind ?_ (fun _ => ?_))
      | exact ih0 _ _ _
      | exact LeO.none _
      | refine LeO.ite ?_ ?_
      | refine LeO.bind ?_ (fun _ => ?_)
set_option maxHeartbeats 8000000 in
set_option maxRecDepth 100000 in
theorem redpenref10_behind.calls (k : Nat) (a0 : ByteArray) (a1 : Int) (a2 : ByteArray) (r : Int) (w : World) (h : redpenref10_behind.f k a0 a1 a2 = some r) :
    Calls Try.prog 33 #[.string a0, .int .i64 a1, .string a2] w fun e w' => e = .returned (.int .i64 r) ∧ Drawn0 w w' := by
  have H : (redpenref10_behind.l0 k a0 a1 a2) = some r := h
  clear h
  have H' := Aside0.mk H
  clear H
  go_enter Try.func33, Try.ntmps33
  go_wp2
  go_loopg [1] k (fun kq v1 w' => ∃ (x1_1 : Int), v1 = .int .i64 x1_1 ∧ Aside0 (redpenref10_behind.l0 kq a0 x1_1 a2 = some r) ∧ Aside0 (kq ≤ k) ∧ Drawn0 w w')
  case atStart => exact ⟨(a1), (by first | rfl | (simp; done) | (simp [*]; done)), H', ⟨Nat.le_refl _⟩, by repeat (first | exact Drawn0.refl _ | apply Drawn0.step)⟩
  case round =>
    clear H'
    try clear p2
    try clear c3
    obtain ⟨x1_1, rfl, HA, HK1, ⟨m1, rfl⟩⟩ := hrel
    cases gk with
    | zero => exact absurd HA.out (by simp [redpenref10_behind.l0])
    | succ k1 =>
      have H := HA.out
      clear HA
      simp only [redpenref10_behind.l0] at H
      by_cases c4 : x1_1 < (a0.size : Int)
      · rw [if_pos c4] at H
        have c4b0 : decide (x1_1 < (a0.size : Int)) = true := decide_eq_true c4
        clear c4
        replace H := Option.bind_eq_some_iff.mp H
        obtain ⟨t110, A50, H⟩ := H
        replace H : (if t110 = true then (some (wrap64 (x1_1 + (a2.size : Int)))) else (redpenref10_behind.l0 k1 a0 (wrap64 (x1_1 + 1)) a2)) = some r := H
        have A5 := Aside0.mk A50
        clear A50
        by_cases c6 : t110 = true
        · subst c6
          have H1 : (some (wrap64 (x1_1 + (a2.size : Int)))) = some r := by rw [if_pos rfl] at H; exact H
          clear H
          have H := H1
          clear H1
          obtain rfl := Option.some.inj H
          go_wp2_with (first | ((with_reducible refine gate_callee (f := 32) rfl ?_); refine goesL_ (some 16) rfl rfl Try.func32 (by kernel_rfl) rfl #[.string a0, .int .i64 x1_1, .string a2] rfl (by (try simp only [List.map_toArray, List.map_cons, List.map_nil]); first | done | rfl | (simp only [List.length_drop, List.length_take]; rfl)) ?_; (with_reducible refine (redpenref10_at.calls a0 x1_1 a2 true _ A5.out).mono ?_); rintro e w' ⟨rfl, ⟨nd, rfl⟩⟩; refine ⟨_, rfl, ?_⟩))
          go_ret
          exact ⟨by first | rfl | (simp; done) | (simp [*]; done), by repeat (first | exact Drawn0.refl _ | apply Drawn0.step)⟩
        · replace c6 := Bool.eq_false_iff.mpr c6
          subst c6
          have H1 : (redpenref10_behind.l0 k1 a0 (wrap64 (x1_1 + 1)) a2) = some r := by rw [if_neg (show ¬ (false = true) by decide)] at H; exact H
          clear H
          have H := H1
          clear H1
          have H' := Aside0.mk H
          clear H
          go_wp2_with (first | ((with_reducible refine gate_callee (f := 32) rfl ?_); refine goesL_ (some 16) rfl rfl Try.func32 (by kernel_rfl) rfl #[.string a0, .int .i64 x1_1, .string a2] rfl (by (try simp only [List.map_toArray, List.map_cons, List.map_nil]); first | done | rfl | (simp only [List.length_drop, List.length_take]; rfl)) ?_; (with_reducible refine (redpenref10_at.calls a0 x1_1 a2 false _ A5.out).mono ?_); rintro e w' ⟨rfl, ⟨nd, rfl⟩⟩; refine ⟨_, rfl, ?_⟩))
          go_roundg k1
          case measure => have := HK1.out; omega
          case rel => exact ⟨(wrap64 (x1_1 + 1)), (by first | rfl | (simp; done) | (simp [*]; done)), H', ⟨by have := HK1.out; omega⟩, by repeat (first | exact Drawn0.refl _ | apply Drawn0.step)⟩
      · rw [if_neg c4] at H
        have c4b0 : decide (x1_1 < (a0.size : Int)) = false := decide_eq_false c4
        clear c4
        obtain rfl := Option.some.inj H
        go_wp2
        go_ret
        exact ⟨by first | rfl | (simp; done) | (simp [*]; done), by repeat (first | exact Drawn0.refl _ | apply Drawn0.step)⟩

/-! ### redpenref10_Labels_put: function 34 -/
def redpenref10_Labels_put.l0 : Nat → List Int → Int → Int → Int → Option (List Int)
  | 0, _, _, _, _ => none
  | k + 1, x0, x1, x3, x8 => if x8 < x3 then (if x8 < (x0.length : Int) then (if 0 ≤ x8 then (redpenref10_Labels_put.l0 k (x0.set (x8 : Int).toNat x1) x1 x3 (wrap64 (x8 + 1))) else (none)) else (some x0)) else (some x0)
def redpenref10_Labels_put.f (k : Nat) (l0 : List Int) (a1 : Int) (a2 : Int) (a3 : Int) : Option (List Int) := redpenref10_Labels_put.l0 k l0 a1 a3 a2
theorem redpenref10_Labels_put.mono_l : ∀ k, (∀ y0 y1 y2 y3, LeO (redpenref10_Labels_put.l0 k y0 y1 y2 y3) (redpenref10_Labels_put.l0 (k + 1) y0 y1 y2 y3))
  | 0 => fun _ _ _ _ r h => by simp [redpenref10_Labels_put.l0] at h
  | k + 1 => by
    have ih0 := redpenref10_Labels_put.mono_l k
    · intro y0 y1 y2 y3
      unfold redpenref10_Labels_put.l0
      repeat' first
      | (with_reducible exact ih0 _ _ _ _)
      | (with_reducible exact LeO.refl _)
      | (with_reducible exact LeO.none _)
      | (with_reducible refine LeO.ite ?_ ?_)
      | (with_reducible refine LeO.bind ?_ (fun _ => ?_))
      | exact ih0 _ _ _ _
      | exact LeO.none _
      | refine LeO.ite ?_ ?_
      | refine LeO.bind ?_ (fun _ => ?_)
theorem redpenref10_Labels_put.mono : ∀ a0 a1 a2 a3 k, LeO (redpenref10_Labels_put.f k a0 a1 a2 a3) (redpenref10_Labels_put.f (k + 1) a0 a1 a2 a3) := by
  intro a0 a1 a2 a3 k
  have ih0 := redpenref10_Labels_put.mono_l k
  unfold redpenref10_Labels_put.f
  repeat' first
      | (with_reducible exact ih0 _ _ _ _)
      | (with_reducible exact LeO.refl _)
      | (with_reducible exact LeO.none _)
      | (with_reducible refine LeO.ite ?_ ?_)
      | (with_reducible refine LeO.bind ?_ (fun _ => ?_))
      | exact ih0 _ _ _ _
      | exact LeO.none _
      | refine LeO.ite ?_ ?_
      | refine LeO.bind ?_ (fun _ => ?_)
set_option maxHeartbeats 8000000 in
set_option maxRecDepth 100000 in
theorem redpenref10_Labels_put.calls (k : Nat) (P0_ : Nat → Prop) (u9000_ : Value) (l0 : List Int) (a1 : Int) (a2 : Int) (a3 : Int) (r : List Int) (w0 w : World) (hB : Below w0.heap.size w0 w) (ho0 : Kd.R (Kd.int .u8) 57 w w0.heap.size P0_ u9000_ l0) (h : redpenref10_Labels_put.f k l0 a1 a2 a3 = some r) :
    Calls Try.prog 34 #[u9000_, .int .u8 a1, .int .i64 a2, .int .i64 a3] w fun e w' => e = .returned (.tuple #[]) ∧ Kd.R (Kd.int .u8) 57 w' w0.heap.size (fun k_ => (P0_ k_ ∨ w.heap.size ≤ k_)) u9000_ r ∧ Below w0.heap.size w0 w' ∧ Kept w w' (fun k_ => P0_ k_) := by
  have HO0 := Aside0.mk (show Kd.R (Kd.int .u8) 57 w w0.heap.size (fun k_ => (P0_ k_ ∨ w.heap.size ≤ k_)) u9000_ l0 from Kd.R_mono ho0 (fun k_ hk => (.inl hk)))
  have HK := Aside0.mk (Kept.refl w (fun k_ => P0_ k_))
  have HW0 := Aside0.mk hB.size
  have HB := Aside0.mk hB
  clear hB
  have H : (redpenref10_Labels_put.l0 k l0 a1 a3 a2) = some r := h
  clear h
  have H' := Aside0.mk H
  clear H
  go_enter Try.func34, Try.ntmps34
  go_wp2
  go_loopg [8] k (fun kq v8 w' => ∃ (x0_1 : List Int) (x8_1 : Int), v8 = .int .i64 x8_1 ∧ Aside0 (redpenref10_Labels_put.l0 kq x0_1 a1 a3 x8_1 = some r) ∧ Aside0 (kq ≤ k) ∧ Aside0 (Kd.R (Kd.int .u8) 57 w' w0.heap.size (fun k_ => (P0_ k_ ∨ w.heap.size ≤ k_)) u9000_ x0_1) ∧ Aside0 (Kept w w' (fun k_ => P0_ k_)) ∧ Aside0 (Below w0.heap.size w0 w'))
  case atStart => exact ⟨(l0), (a2), (by first | rfl | (simp; done) | (simp [*]; done)), H', ⟨Nat.le_refl _⟩, ⟨by (with_reducible repeat (first | apply Kd.R_alloc | apply Kd.R_drewN | apply Kd.R_drew)); exact HO0.out⟩, ⟨by repeat (first | (with_reducible first | exact HK.out | apply Kept.alloc | apply Kept.drewN | apply Kept.drew) | exact HK.out)⟩, ⟨by repeat (first | (with_reducible first | exact HB.out | apply below_alloc | apply pw_below_drewN | apply below_drew1) | exact HB.out)⟩⟩
  case round =>
    clear H'
    try clear p2
    try clear c3
    obtain ⟨x0_1, x8_1, rfl, HA, HK1, HO_0, HK, HB⟩ := hrel
    cases gk with
    | zero => exact absurd HA.out (by simp [redpenref10_Labels_put.l0])
    | succ k1 =>
      have H := HA.out
      clear HA
      simp only [redpenref10_Labels_put.l0] at H
      by_cases c5 : x8_1 < a3
      · rw [if_pos c5] at H
        have c5b0 : decide (x8_1 < a3) = true := decide_eq_true c5
        clear c5
        by_cases c6 : x8_1 < (x0_1.length : Int)
        · rw [if_pos c6] at H
          have c6b0 : decide (x8_1 < (x0_1.length : Int)) = true := decide_eq_true c6
          clear c6
          by_cases c7 : 0 ≤ x8_1
          · rw [if_pos c7] at H
            have c7b0 : decide (0 ≤ x8_1) = true := decide_eq_true c7
            clear c7
            obtain ⟨y111, hy111⟩ : ∃ y_ : List Int, y_ = (x0_1.set (x8_1 : Int).toNat a1) := ⟨_, rfl⟩
            replace H : (redpenref10_Labels_put.l0 k1 y111 a1 a3 (wrap64 (x8_1 + 1))) = some r := by first | (rw [hy111]; with_reducible exact H) | (have H2_ := (Option.bind_some _ _).symm.trans H; rw [hy111]; with_reducible exact H2_) | (have H2_ := (Option.bind_some _ _).symm.trans H; with_reducible exact H2_) | with_reducible exact H | (rw [hy111]; exact H) | exact H
            have Ny111 := Aside0.mk hy111
            clear hy111
            have H' := Aside0.mk H
            clear H
            obtain ⟨Ao9, co9, eo9⟩ := Kd.R_slice HO_0.out
            subst eo9
            have p8 : 0 ≤ (x8_1 : Int) := of_decide_eq_true (by first | (with_reducible assumption) | assumption)
            have q8 : (x8_1 : Int) < ((x0_1.length : Int) : Int) := of_decide_eq_true (by first | (with_reducible assumption) | assumption)
            obtain ⟨go8, co8, eo8, gb8, gl8, cl8, HG8⟩ := Kd.R_form HO_0.out (by omega)
            (first | cases eo8 | (injection eo8 with ea_ en_ ec_; (first | subst ea_ | (injection ea_ with ea_; subst ea_)); subst ec_; clear en_))
            have GB8 := Aside0.mk gb8
            have GG8 := Aside0.mk HG8
            clear gb8 gl8 HG8
            have HMgo8 := Aside0.mk (show (P0_ go8 ∨ w.heap.size ≤ go8) from (HO_0.out.1 _ rfl))
            obtain ⟨hx8_0, hf8_0⟩ := Kd.R_celln 0 HO_0.out (x8_1 : Int) p8 q8
            replace p8 := eq_true p8
            replace q8 := eq_true q8
            have HP10 := Kd.R_putg HO_0.out (x8_1 : Int) a1
            go_wp2_with (first | ((with_reducible refine gate_store (t := 57) (p := 24) rfl ?_); refine store_event (t := 57) (p := 24) (v := ?vo_w11) (w1 := (wr.setCell ⟨go8, (x8_1 : Int).toNat, none⟩ (.int .u8 a1))) ?hg ?ho ?hn ?hr ?_; (case ho => rfl); (case hg => rfl); (case hn => rfl); (case hr => first | (go_simp; done) | (go_simp; rfl)); intro w11 hw; have hg : wr.grownBy w11 (some go8) := (by rw [hw]; exact HP10.2); have hp_ : Kd.R (Kd.int .u8) 57 w11 w0.heap.size (fun k_ => (P0_ k_ ∨ w.heap.size ≤ k_)) (.slice (some ⟨go8, 0, none⟩) x0_1.length co9) y111 := (by rw [hw, Ny111.out]; exact HP10.1); clear HP10; have n0_ := Aside0.mk (hp_); have n1_ := Aside0.mk ((by rw [hw]; exact below_set (HB.out) GB8.out : Below w0.heap.size w0 w11)); have n2_ := Aside0.mk (Kept.of_grown (S := (fun k_ => P0_ k_)) hg (by repeat (first | (with_reducible first | exact HK.out | apply Kept.alloc | apply Kept.drewN | apply Kept.drew) | exact HK.out)) (fun k_ e_ => (HO_0.out.1 k_ e_))); clear HO_0; clear HB; clear HK; have HO_0 := n0_; have HB := n1_; have HK := n2_; clear n0_ n1_ n2_; clear hg hw hp_))
            go_roundg k1
            case measure => have := HK1.out; omega
            case rel => exact ⟨(y111), (wrap64 (x8_1 + 1)), (by first | rfl | (simp; done) | (simp [*]; done)), H', ⟨by have := HK1.out; omega⟩, ⟨by (with_reducible repeat (first | apply Kd.R_alloc | apply Kd.R_drewN | apply Kd.R_drew)); exact HO_0.out⟩, ⟨by repeat (first | (with_reducible first | exact HK.out | apply Kept.alloc | apply Kept.drewN | apply Kept.drew) | exact HK.out)⟩, ⟨by repeat (first | (with_reducible first | exact HB.out | apply below_alloc | apply pw_below_drewN | apply below_drew1) | exact HB.out)⟩⟩
          · rw [if_neg c7] at H
            exact absurd H (by simp)
        · rw [if_neg c6] at H
          have c6b0 : decide (x8_1 < (x0_1.length : Int)) = false := decide_eq_false c6
          clear c6
          obtain rfl := Option.some.inj H
          obtain ⟨Ao12, co12, eo12⟩ := Kd.R_slice HO_0.out
          subst eo12
          go_wp2
          first | go_end0 | ((try simp only [Exit.inBlock, Exit.then]); refine bodyPost_ret (results_none rfl _ _ _) rfl ?_)
          exact ⟨by first | rfl | (simp [errW_none, errW_some] <;> rfl) | (simp [*, errW_none, errW_some] <;> rfl), by (with_reducible repeat (first | apply Kd.R_alloc | apply Kd.R_drewN | apply Kd.R_drew)); exact HO_0.out, by repeat (first | (with_reducible first | exact HB.out | apply below_alloc | apply pw_below_drewN | apply below_drew1) | exact HB.out), by repeat (first | (with_reducible first | exact HK.out | apply Kept.alloc | apply Kept.drewN | apply Kept.drew) | exact HK.out)⟩
      · rw [if_neg c5] at H
        have c5b0 : decide (x8_1 < a3) = false := decide_eq_false c5
        clear c5
        obtain rfl := Option.some.inj H
        go_wp2
        first | go_end0 | ((try simp only [Exit.inBlock, Exit.then]); refine bodyPost_ret (results_none rfl _ _ _) rfl ?_)
        exact ⟨by first | rfl | (simp [errW_none, errW_some] <;> rfl) | (simp [*, errW_none, errW_some] <;> rfl), by (with_reducible repeat (first | apply Kd.R_alloc | apply Kd.R_drewN | apply Kd.R_drew)); exact HO_0.out, by repeat (first | (with_reducible first | exact HB.out | apply below_alloc | apply pw_below_drewN | apply below_drew1) | exact HB.out), by repeat (first | (with_reducible first | exact HK.out | apply Kept.alloc | apply Kept.drewN | apply Kept.drew) | exact HK.out)⟩

end Go.Proofs.Ytcbibbdkjhkmoaa.PHtml

namespace Go.Proofs.Ytcbibbdkjhkmoaa.PHtml
open Go.RowKit Go.Proofs.YtcbibbdkjhkmoaaW.PrintWords Go.Proofs.YtcbibbdkjhkmoaaW.PrintLast Go.Proofs.YtcbibbdkjhkmoaaW.PrintMore
attribute [local go_sem] max2_int min2_int max_two min_two max_three min_three max_four min_four   -- for this text's walks alone
set_option linter.unusedVariables false
set_option linter.unusedSimpArgs false

/-! ### redpenref10_Labels_tag: function 36 -/
def redpenref10_Labels_tag.l0 : Nat → List Int → Int → Int → ByteArray → Bool → List (S54) → Option (List Int)
  | 0, _, _, _, _, _, _ => none
  | k + 1, x0, x6, x113000, x113001, x113002, x113003 => if x6 < (x113003.length : Int) then (if 0 ≤ x6 then ((redpenref10_Labels_put.f k x0 1 ((rd_T54 x113003 x6).f0) (wrap64 (((rd_T54 x113003 x6).f0) + ((rd_T54 x113003 x6).f1)))).bind fun t117 => (redpenref10_Labels_tag.l0 k t117 (wrap64 (x6 + 1)) x113000 x113001 x113002 x113003)) else (none)) else (some x0)
def redpenref10_Labels_tag.f (k : Nat) (l0 : List Int) (a1 : Int) (a2_0 : Int) (a2_1 : ByteArray) (a2_2 : Bool) (l2_3 : List (S54)) : Option (List Int) := (redpenref10_Labels_put.f k l0 2 a1 a2_0).bind fun t113 => (redpenref10_Labels_tag.l0 k t113 0 a2_0 a2_1 a2_2 l2_3)
theorem redpenref10_Labels_tag.mono_l : ∀ k, (∀ y0 y1 y2 y3 y4 y5, LeO (redpenref10_Labels_tag.l0 k y0 y1 y2 y3 y4 y5) (redpenref10_Labels_tag.l0 (k + 1) y0 y1 y2 y3 y4 y5))
  | 0 => fun _ _ _ _ _ _ r h => by simp [redpenref10_Labels_tag.l0] at h
  | k + 1 => by
    have ih0 := redpenref10_Labels_tag.mono_l k
    · intro y0 y1 y2 y3 y4 y5
      unfold redpenref10_Labels_tag.l0
      repeat' first
      | (with_reducible exact ih0 _ _ _ _ _ _)
      | (with_reducible exact redpenref10_Labels_put.mono _ _ _ _ _)
      | (with_reducible exact LeO.refl _)
      | (with_reducible exact LeO.none _)
      | (with_reducible refine LeO.ite ?_ ?_)
      | (with_reducible refine LeO.bind ?_ (fun _ => ?_))
      | exact ih0 _ _ _ _ _ _
      | exact redpenref10_Labels_put.mono _ _ _ _ _
      | exact LeO.none _
      | refine LeO.ite ?_ ?_
      | refine LeO.bind ?_ (fun _ => ?_)
theorem redpenref10_Labels_tag.mono : ∀ a0 a1 a2 a3 a4 a5 k, LeO (redpenref10_Labels_tag.f k a0 a1 a2 a3 a4 a5) (redpenref10_Labels_tag.f (k + 1) a0 a1 a2 a3 a4 a5) := by
  intro a0 a1 a2 a3 a4 a5 k
  have ih0 := redpenref10_Labels_tag.mono_l k
  unfold redpenref10_Labels_tag.f
  repeat' first
      | (with_reducible exact ih0 _ _ _ _ _ _)
      | (with_reducible exact redpenref10_Labels_put.mono _ _ _ _ _)
      | (with_reducible exact LeO.refl _)
      | (with_reducible exact LeO.none _)
      | (with_reducible refine LeO.ite ?_ ?_)
      | (with_reducible refine LeO.bind ?_ (fun _ => ?_))
      | exact ih0 _ _ _ _ _ _
      | exact redpenref10_Labels_put.mono _ _ _ _ _
      | exact LeO.none _
      | refine LeO.ite ?_ ?_
      | refine LeO.bind ?_ (fun _ => ?_)
def redpenref10_Labels_tag.T5 : Bool × List (List Nat × List Nat) := (true, [([], []), ([], []), ([1], [1]), ([], []), ([2, 3], [2, 3]), ([4], [4]), ([5], [5]), ([], []), ([7], [7]), ([], []), ([8, 9], [8, 9]), ([10], [10]), ([11], [11]), ([], []), ([13], [13]), ([], []), ([14, 15], [14, 15]), ([16], [16]), ([17], [17]), ([12, 18], [12, 18]), ([0, 6, 19], [0, 6, 19])])
def redpenref10_Labels_tag.B5 : List Nat := [0, 0, 2, 0, 14, 30, 62, 0, 128, 0, 896, 1920, 3968, 0, 8192, 0, 57344, 122880, 253952, 524160, 1048575]
theorem redpenref10_Labels_tag.tab5 : rtab .any (opsOf Try.f36 5) = redpenref10_Labels_tag.T5 := by kernel_rfl
theorem redpenref10_Labels_tag.bits5 : waitsOk redpenref10_Labels_tag.T5.2 redpenref10_Labels_tag.B5 = true := by kernel_rfl
set_option maxHeartbeats 8000000 in
set_option maxRecDepth 100000 in
theorem redpenref10_Labels_tag.calls (k : Nat) (P0_ : Nat → Prop) (u9000_ : Value) (l0 : List Int) (a1 : Int) (a2_0 : Int) (a2_1 : ByteArray) (a2_2 : Bool) (A2_3 : Option Addr) (c2_3 : Nat) (l2_3 : List (S54)) (r : List Int) (w0 w : World) (hB : Below w0.heap.size w0 w) (ho0 : Kd.R (Kd.int .u8) 57 w w0.heap.size P0_ u9000_ l0) (hr2_3 : ∀ W_, Kept w W_ (fun k_ => P0_ k_) → Kd.C k54 W_ A2_3 l2_3.length l2_3) (hc2_3 : l2_3.length ≤ c2_3) (h : redpenref10_Labels_tag.f k l0 a1 a2_0 a2_1 a2_2 l2_3 = some r) :
    Calls Try.prog 36 #[u9000_, .int .i64 a1, .agg #[.int .i64 a2_0, .string a2_1, .bool a2_2, .slice A2_3 l2_3.length c2_3]] w fun e w' => e = .returned (.tuple #[]) ∧ Kd.R (Kd.int .u8) 57 w' w0.heap.size (fun k_ => (P0_ k_ ∨ w.heap.size ≤ k_)) u9000_ r ∧ Below w0.heap.size w0 w' ∧ Kept w w' (fun k_ => P0_ k_) := by
  have hu46 := Try.underlying46
  have HO0 := Aside0.mk (show Kd.R (Kd.int .u8) 57 w w0.heap.size (fun k_ => (P0_ k_ ∨ w.heap.size ≤ k_)) u9000_ l0 from Kd.R_mono ho0 (fun k_ hk => (.inl hk)))
  have HR2_3 := Aside0.mk hr2_3
  have HC2_3 := Aside0.mk hc2_3
  clear hr2_3 hc2_3
  have HK := Aside0.mk (Kept.refl w (fun k_ => P0_ k_))
  have HW0 := Aside0.mk hB.size
  have HB := Aside0.mk hB
  clear hB
  have H : ((redpenref10_Labels_put.f k l0 2 a1 a2_0).bind fun t113 => (redpenref10_Labels_tag.l0 k t113 0 a2_0 a2_1 a2_2 l2_3)) = some r := h
  clear h
  replace H := Option.bind_eq_some_iff.mp H
  obtain ⟨t113, A40, H⟩ := H
  replace H : (redpenref10_Labels_tag.l0 k t113 0 a2_0 a2_1 a2_2 l2_3) = some r := H
  have A4 := Aside0.mk A40
  clear A40
  have H' := Aside0.mk H
  clear H
  go_enter Try.func36, Try.ntmps36
  go_wp2_with (first | ((with_reducible refine gate_dst (N := 5) rfl ?_); refine box_event ?hg (N := 5) ?hd (cs := #[.int .i64 a2_0, .string a2_1, .bool a2_2, .slice A2_3 l2_3.length c2_3]) (t := 46) ?hr ?_; (case hd => rfl); (case hg => rfl); (case hr => first | (go_simp; done) | (go_simp; rfl)); intro gb112 hg w5 hbox hb; have n0_ := Aside0.mk (Kd.R_below (by (with_reducible repeat (first | apply Kd.R_alloc | apply Kd.R_drewN | apply Kd.R_drew)); exact HO0.out) hb); have n1_ := Aside0.mk (Kept.below (S := (fun k_ => P0_ k_)) (by repeat (first | (with_reducible first | exact HK.out | apply Kept.alloc | apply Kept.drewN | apply Kept.drew) | exact HK.out)) hb); have n2_ := Aside0.mk (below_step (by repeat (first | (with_reducible first | exact HB.out | apply below_alloc | apply pw_below_drewN | apply below_drew1) | exact HB.out)) hb); have n3_ := Aside0.mk (hbox); have n4_ := Aside0.mk ((by rw [hg]; exact (by first | exact HK.out.1 | exact (show Kept w _ (fun k_ => P0_ k_) from by repeat (first | (with_reducible first | exact HK.out | apply Kept.alloc | apply Kept.drewN | apply Kept.drew) | exact HK.out)).1) : w.heap.size ≤ gb112)); have n5_ := Aside0.mk ((by rw [hg]; exact (below_size (by repeat (first | (with_reducible first | exact HB.out | apply below_alloc | apply pw_below_drewN | apply below_drew1) | exact HB.out))) : w0.heap.size ≤ gb112)); clear HO0; clear HK; clear HB; have HO0 := n0_; have HK := n1_; have HB := n2_; have BK112 := n3_; have GW112 := n4_; have GE112 := n5_; clear n0_ n1_ n2_ n3_ n4_ n5_; clear hb hbox hg; have hcz6_0 : w5.cell? ⟨gb112, 0, none⟩ = some (.int .i64 a2_0) := (blk_cell BK112.out 0).trans rfl; have hcz6_1 : w5.cell? ⟨gb112, 1, none⟩ = some (.string a2_1) := (blk_cell BK112.out 1).trans rfl; have hcz6_2 : w5.cell? ⟨gb112, 2, none⟩ = some (.bool a2_2) := (blk_cell BK112.out 2).trans rfl; have hcz6_3 : w5.cell? ⟨gb112, 3, none⟩ = some (.slice A2_3 l2_3.length c2_3) := (blk_cell BK112.out 3).trans rfl; have hfz6_0 := blk_frozen BK112.out 0; have hfz6_1 := blk_frozen BK112.out 1; have hfz6_2 := blk_frozen BK112.out 2; have hfz6_3 := blk_frozen BK112.out 3; obtain ⟨Ao7, co7, eo7⟩ := Kd.R_slice HO0.out; subst eo7) | ((with_reducible refine gate_callee (f := 34) rfl ?_); refine goesL_ (some 11) rfl rfl Try.func34 (by kernel_rfl) rfl #[.slice Ao7 l0.length co7, .int .u8 2, .int .i64 a1, .int .i64 a2_0] rfl (by (try simp only [List.map_toArray, List.map_cons, List.map_nil]); first | done | rfl | (simp only [List.length_drop, List.length_take]; rfl)) ?_; (with_reducible refine (redpenref10_Labels_put.calls k (fun k_ => some k_ = (.slice Ao7 l0.length co7 : Value).ownBlock) (.slice Ao7 l0.length co7) l0 2 a1 a2_0 t113 w0 _ ?side1 ?side2 A4.out).mono ?_); (case side1 => repeat (first | (with_reducible first | exact HB.out | apply below_alloc | apply pw_below_drewN | apply below_drew1 | refine below_set ?_ GE112.out) | exact HB.out)); (case side2 => exact Kd.R_tight rfl HO0.out); rintro e w8 ⟨rfl, hy0, hb, hkp⟩; refine ⟨_, rfl, ?_⟩; have n0_ := Aside0.mk (Kd.R_reok rfl hy0 (fun k_ e_ => HO0.out.1 k_ e_)); have n1_ := Aside0.mk (blk_kept (by (with_reducible repeat (first | refine blk_drewN ?_ _ | refine blk_drew ?_ | refine blk_alloc ?_ _)); exact BK112.out) hkp (fun hs_ => (fun e_ => (Kd.R_ne HO0.out BK112.out (by decide)) e_) hs_)); have n2_ := Aside0.mk (Kept.then_ (S := (fun k_ => P0_ k_)) (by repeat (first | (with_reducible first | exact HK.out | apply Kept.alloc | apply Kept.drewN | apply Kept.drew | refine Kept.setCell ?_ (.inr GW112.out) _) | exact HK.out)) hkp (fun k_ hs_ => (fun e_ => (HO0.out.1 k_ e_.symm)) hs_)); have n3_ := Aside0.mk (hb); clear HO0; clear BK112; clear HK; clear HB; have HO0 := n0_; have BK112 := n1_; have HK := n2_; have HB := n3_; clear n0_ n1_ n2_ n3_; (try clear hb); (try clear hkp); (try clear hy0)))
  go_loopg [6] k (fun kq v6 w' => ∃ (x0_1 : List Int) (x6_1 : Int), v6 = .int .i64 x6_1 ∧ Aside0 (redpenref10_Labels_tag.l0 kq x0_1 x6_1 a2_0 a2_1 a2_2 l2_3 = some r) ∧ Aside0 (kq ≤ k) ∧ Aside0 (Kd.R (Kd.int .u8) 57 w' w0.heap.size (fun k_ => (P0_ k_ ∨ w.heap.size ≤ k_)) (.slice Ao7 l0.length co7) x0_1) ∧ Aside0 (w'.heap[gb112]? = some (.cells #[.int .i64 a2_0, .string a2_1, .bool a2_2, (.slice A2_3 l2_3.length c2_3)] 46 (0, 0))) ∧ Aside0 (Kept w w' (fun k_ => P0_ k_)) ∧ Aside0 (Below w0.heap.size w0 w'))
  case atStart => exact ⟨(t113), (0), (by first | rfl | (simp; done) | (simp [*]; done)), H', ⟨Nat.le_refl _⟩, ⟨by (with_reducible repeat (first | apply Kd.R_alloc | apply Kd.R_drewN | apply Kd.R_drew)); exact HO0.out⟩, ⟨by (with_reducible repeat (first | refine blk_drewN ?_ _ | refine blk_drew ?_ | refine blk_alloc ?_ _)); exact BK112.out⟩, ⟨by repeat (first | (with_reducible first | exact HK.out | apply Kept.alloc | apply Kept.drewN | apply Kept.drew | refine Kept.setCell ?_ (.inr GW112.out) _) | exact HK.out)⟩, ⟨by repeat (first | (with_reducible first | exact HB.out | apply below_alloc | apply pw_below_drewN | apply below_drew1 | refine below_set ?_ GE112.out) | exact HB.out)⟩⟩
  case round =>
    clear H'
    try clear c2
    try clear p2
    try clear c3
    try clear hcz6_0
    try clear hcz6_1
    try clear hcz6_2
    try clear hcz6_3
    try clear hfz6_0
    try clear hfz6_1
    try clear hfz6_2
    try clear hfz6_3
    obtain ⟨x0_1, x6_1, rfl, HA, HK1, HO_0, BK112, HK, HB⟩ := hrel
    have hl0_1 := (Kd.R_reads' HO_0.out).1
    rw [hl0_1] at HO_0
    (try simp only [hl0_1])
    (try simp only [hl0_1] at BK112)
    cases gk with
    | zero => exact absurd HA.out (by simp [redpenref10_Labels_tag.l0])
    | succ k1 =>
      have H := HA.out
      clear HA
      simp only [redpenref10_Labels_tag.l0] at H
      by_cases c9 : x6_1 < (l2_3.length : Int)
      · rw [if_pos c9] at H
        have c9b0 : decide (x6_1 < (l2_3.length : Int)) = true := decide_eq_true c9
        clear c9
        by_cases c10 : 0 ≤ x6_1
        · rw [if_pos c10] at H
          have c10b0 : decide (0 ≤ x6_1) = true := decide_eq_true c10
          clear c10
          replace H := Option.bind_eq_some_iff.mp H
          obtain ⟨t117, A110, H⟩ := H
          replace H : (redpenref10_Labels_tag.l0 k1 t117 (wrap64 (x6_1 + 1)) a2_0 a2_1 a2_2 l2_3) = some r := H
          have A11 := Aside0.mk A110
          clear A110
          have H' := Aside0.mk H
          clear H
          have hcz12_0 : wr.cell? ⟨gb112, 0, none⟩ = some (.int .i64 a2_0) := (blk_cell BK112.out 0).trans rfl
          have hcz12_1 : wr.cell? ⟨gb112, 1, none⟩ = some (.string a2_1) := (blk_cell BK112.out 1).trans rfl
          have hcz12_2 : wr.cell? ⟨gb112, 2, none⟩ = some (.bool a2_2) := (blk_cell BK112.out 2).trans rfl
          have hcz12_3 : wr.cell? ⟨gb112, 3, none⟩ = some (.slice A2_3 l2_3.length c2_3) := (blk_cell BK112.out 3).trans rfl
          have hfz12_0 := blk_frozen BK112.out 0
          have hfz12_1 := blk_frozen BK112.out 1
          have hfz12_2 := blk_frozen BK112.out 2
          have hfz12_3 := blk_frozen BK112.out 3
          try go_wp2
          have n0_ := Aside0.mk (Kd.R_drew HO_0.out)
          have n1_ := Aside0.mk (blk_drew BK112.out)
          have n2_ := Aside0.mk (Kept.drew HK.out)
          have n3_ := Aside0.mk (below_drew1 HB.out)
          clear HO_0
          clear BK112
          clear HK
          clear HB
          have HO_0 := n0_
          have BK112 := n1_
          have HK := n2_
          have HB := n3_
          clear n0_ n1_ n2_ n3_
          have p114 : 0 ≤ (x6_1 : Int) := of_decide_eq_true (by first | (with_reducible assumption) | assumption)
          have q114 : x6_1 < (l2_3.length : Int) := of_decide_eq_true (by first | (with_reducible assumption) | assumption)
          obtain ⟨ad114, e114, hx114_0, hx114_1⟩ := at_T54 (Kd.C_kept_now HR2_3.out HK.out) x6_1 p114 q114
          have hw114_1 := hx114_1
          have hw114_0 := hx114_0
          cases e114
          replace p114 := eq_true p114
          replace q114 := eq_true q114
          have p115 : 0 ≤ (x6_1 : Int) := of_decide_eq_true (by first | (with_reducible assumption) | assumption)
          have q115 : x6_1 < (l2_3.length : Int) := of_decide_eq_true (by first | (with_reducible assumption) | assumption)
          obtain ⟨ad115, e115, hx115_0, hx115_1⟩ := at_T54 (Kd.C_kept_now HR2_3.out HK.out) x6_1 p115 q115
          have hw115_1 := hx115_1
          have hw115_0 := hx115_0
          obtain rfl : ad114 = ad115 := (by injection e115)
          replace p115 := eq_true p115
          replace q115 := eq_true q115
          have p116 : 0 ≤ (x6_1 : Int) := of_decide_eq_true (by first | (with_reducible assumption) | assumption)
          have q116 : x6_1 < (l2_3.length : Int) := of_decide_eq_true (by first | (with_reducible assumption) | assumption)
          obtain ⟨ad116, e116, hx116_0, hx116_1⟩ := at_T54 (Kd.C_kept_now HR2_3.out HK.out) x6_1 p116 q116
          have hw116_1 := hx116_1
          have hw116_0 := hx116_0
          obtain rfl : ad114 = ad116 := (by injection e116)
          replace p116 := eq_true p116
          replace q116 := eq_true q116
          refine start_ (n := 21) (S := fun w' => w'.cell? ⟨gb112, 0, none⟩ = some (.int .i64 a2_0) ∧ w'.cell? ⟨gb112, 1, none⟩ = some (.string a2_1) ∧ w'.cell? ⟨gb112, 2, none⟩ = some (.bool a2_2) ∧ w'.cell? ⟨gb112, 3, none⟩ = some (.slice (some ad114) l2_3.length c2_3) ∧ w'.cell? (ad114.add ((x6_1).toNat * 2)) = some (.int .i64 ((rd_T54 l2_3 x6_1).f0)) ∧ w'.cell? ⟨(ad114.add ((x6_1).toNat * 2)).block, (ad114.add ((x6_1).toNat * 2)).off + 1, none⟩ = some (.int .i64 ((rd_T54 l2_3 x6_1).f1)) ∧ w'.cell? (ad114.add ((x6_1).toNat * 2)) = some (.int .i64 ((rd_T54 l2_3 x6_1).f0)) ∧ w'.cell? ⟨(ad114.add ((x6_1).toNat * 2)).block, (ad114.add ((x6_1).toNat * 2)).off + 1, none⟩ = some (.int .i64 ((rd_T54 l2_3 x6_1).f1)) ∧ w'.cell? (ad114.add ((x6_1).toNat * 2)) = some (.int .i64 ((rd_T54 l2_3 x6_1).f0)) ∧ w'.cell? ⟨(ad114.add ((x6_1).toNat * 2)).block, (ad114.add ((x6_1).toNat * 2)).off + 1, none⟩ = some (.int .i64 ((rd_T54 l2_3 x6_1).f1))) (ds := [20]) #[false, false, false, false, false, false, false, false, false, false, false, false, false, false, false, false, false, false, false, false, false] (by kernel_rfl) rfl rfl ⟨(blk_cell BK112.out 0).trans rfl, (blk_cell BK112.out 1).trans rfl, (blk_cell BK112.out 2).trans rfl, (blk_cell BK112.out 3).trans rfl, hx114_0, hx114_1, hx115_0, hx115_1, hx116_0, hx116_1⟩ (fun hHeld => ?_); refine with_tabW redpenref10_Labels_tag.tab5 redpenref10_Labels_tag.bits5 (fun HT_ HW_ => ?_)
          generalize wr.drew = w13 at HO_0 BK112 HK HB hx114_0 hx114_1 hx115_0 hx115_1 hx116_0 hx116_1 hHeld ⊢
          refine pure_ (i := 0) (N := some 19) (v := ?_) (a' := ?_) #[true, false, false, false, false, false, false, false, false, false, false, false, false, false, false, false, false, false, false, false, false] rfl rfl (any_of HT_.out (by kernel_rfl)) (fun _ _ _ h => h) (Or.inl ⟨by rfl, ?_⟩) ?_ ?_
          rotate_left
          · intro w'
            go_simp
            with_reducible rfl
          rotate_left
          · simp only [Act.put, List.setIfInBounds_toArray, List.set_cons_zero, List.set_cons_succ, i64_w, i32_w]
            rfl
          refine pure_ (i := 1) (N := some 20) (v := ?_) (a' := ?_) #[true, true, false, false, false, false, false, false, false, false, false, false, false, false, false, false, false, false, false, false, false] rfl rfl (any_of HT_.out (by kernel_rfl)) (fun _ _ _ h => h) (Or.inl ⟨by rfl, ?_⟩) ?_ ?_
          rotate_left
          · intro w'
            go_simp
            with_reducible rfl
          rotate_left
          · simp only [Act.put, List.setIfInBounds_toArray, List.set_cons_zero, List.set_cons_succ, i64_w, i32_w]
            rfl
          refine pure_ (i := 3) (N := some 22) (v := ?_) (a' := ?_) #[true, true, false, true, false, false, false, false, false, false, false, false, false, false, false, false, false, false, false, false, false] rfl rfl (any_of HT_.out (by kernel_rfl)) (fun _ _ _ h => h) (Or.inl ⟨by rfl, ?_⟩) ?_ ?_
          rotate_left
          · intro w'
            go_simp
            with_reducible rfl
          rotate_left
          · simp only [Act.put, List.setIfInBounds_toArray, List.set_cons_zero, List.set_cons_succ, i64_w, i32_w]
            rfl
          refine pure_ (i := 7) (N := some 26) (v := ?_) (a' := ?_) #[true, true, false, true, false, false, false, true, false, false, false, false, false, false, false, false, false, false, false, false, false] rfl rfl (any_of HT_.out (by kernel_rfl)) (fun _ _ _ h => h) (Or.inl ⟨by rfl, ?_⟩) ?_ ?_
          rotate_left
          · intro w'
            go_simp
            with_reducible rfl
          rotate_left
          · simp only [Act.put, List.setIfInBounds_toArray, List.set_cons_zero, List.set_cons_succ, i64_w, i32_w]
            rfl
          refine pure_ (i := 9) (N := some 28) (v := ?_) (a' := ?_) #[true, true, false, true, false, false, false, true, false, true, false, false, false, false, false, false, false, false, false, false, false] rfl rfl (any_of HT_.out (by kernel_rfl)) (fun _ _ _ h => h) (Or.inl ⟨by rfl, ?_⟩) ?_ ?_
          rotate_left
          · intro w'
            go_simp
            with_reducible rfl
          rotate_left
          · simp only [Act.put, List.setIfInBounds_toArray, List.set_cons_zero, List.set_cons_succ, i64_w, i32_w]
            rfl
          refine pure_ (i := 13) (N := some 32) (v := ?_) (a' := ?_) #[true, true, false, true, false, false, false, true, false, true, false, false, false, true, false, false, false, false, false, false, false] rfl rfl (any_of HT_.out (by kernel_rfl)) (fun _ _ _ h => h) (Or.inl ⟨by rfl, ?_⟩) ?_ ?_
          rotate_left
          · intro w'
            go_simp
            with_reducible rfl
          rotate_left
          · simp only [Act.put, List.setIfInBounds_toArray, List.set_cons_zero, List.set_cons_succ, i64_w, i32_w]
            rfl
          refine pure_ (i := 15) (N := some 34) (v := ?_) (a' := ?_) #[true, true, false, true, false, false, false, true, false, true, false, false, false, true, false, true, false, false, false, false, false] rfl rfl (any_of HT_.out (by kernel_rfl)) (fun _ _ _ h => h) (Or.inl ⟨by rfl, ?_⟩) ?_ ?_
          rotate_left
          · intro w'
            go_simp
            with_reducible rfl
          rotate_left
          · simp only [Act.put, List.setIfInBounds_toArray, List.set_cons_zero, List.set_cons_succ, i64_w, i32_w]
            rfl
          refine take_ (i := 2) (N := some 21) (v := ?_) (a' := ?_) #[true, true, true, true, false, false, false, true, false, true, false, false, false, true, false, true, false, false, false, false, false] rfl rfl (take_ofW HT_.out HW_.out (by kernel_rfl)) (fun _ _ _ h => h) (Or.inl ⟨by rfl, ?_⟩) hHeld ?_ ?_
          rotate_left
          · rintro w' ⟨s0, s1, s2, s3, s4, s5, s6, s7, s8, s9⟩
            go_simp
            with_reducible rfl
          rotate_left
          · simp only [Act.put, List.setIfInBounds_toArray, List.set_cons_zero, List.set_cons_succ, i64_w, i32_w]
            rfl
          refine pure_ (i := 4) (N := some 23) (v := ?_) (a' := ?_) #[true, true, true, true, true, false, false, true, false, true, false, false, false, true, false, true, false, false, false, false, false] rfl rfl (any_of HT_.out (by kernel_rfl)) (fun _ _ _ h => h) (Or.inl ⟨by rfl, ?_⟩) ?_ ?_
          rotate_left
          · intro w'
            go_simp
            with_reducible rfl
          rotate_left
          · simp only [Act.put, List.setIfInBounds_toArray, List.set_cons_zero, List.set_cons_succ, i64_w, i32_w]
            rfl
          refine pure_ (i := 5) (N := some 24) (v := ?_) (a' := ?_) #[true, true, true, true, true, true, false, true, false, true, false, false, false, true, false, true, false, false, false, false, false] rfl rfl (any_of HT_.out (by kernel_rfl)) (fun _ _ _ h => h) (Or.inl ⟨by rfl, ?_⟩) ?_ ?_
          rotate_left
          · intro w'
            go_simp
            with_reducible rfl
          rotate_left
          · simp only [Act.put, List.setIfInBounds_toArray, List.set_cons_zero, List.set_cons_succ, i64_w, i32_w]
            rfl
          refine take_ (i := 6) (N := some 25) (v := ?_) (a' := ?_) #[true, true, true, true, true, true, true, true, false, true, false, false, false, true, false, true, false, false, false, false, false] rfl rfl (take_ofW HT_.out HW_.out (by kernel_rfl)) (fun _ _ _ h => h) (Or.inl ⟨by rfl, ?_⟩) hHeld ?_ ?_
          rotate_left
          · rintro w' ⟨s0, s1, s2, s3, s4, s5, s6, s7, s8, s9⟩
            go_simp
            with_reducible rfl
          rotate_left
          · simp only [Act.put, List.setIfInBounds_toArray, List.set_cons_zero, List.set_cons_succ, i64_w, i32_w]
            rfl
          refine take_ (i := 8) (N := some 27) (v := ?_) (a' := ?_) #[true, true, true, true, true, true, true, true, true, true, false, false, false, true, false, true, false, false, false, false, false] rfl rfl (take_ofW HT_.out HW_.out (by kernel_rfl)) (fun _ _ _ h => h) (Or.inl ⟨by rfl, ?_⟩) hHeld ?_ ?_
          rotate_left
          · rintro w' ⟨s0, s1, s2, s3, s4, s5, s6, s7, s8, s9⟩
            go_simp
            with_reducible rfl
          rotate_left
          · simp only [Act.put, List.setIfInBounds_toArray, List.set_cons_zero, List.set_cons_succ, i64_w, i32_w]
            rfl
          refine pure_ (i := 10) (N := some 29) (v := ?_) (a' := ?_) #[true, true, true, true, true, true, true, true, true, true, true, false, false, true, false, true, false, false, false, false, false] rfl rfl (any_of HT_.out (by kernel_rfl)) (fun _ _ _ h => h) (Or.inl ⟨by rfl, ?_⟩) ?_ ?_
          rotate_left
          · intro w'
            go_simp
            with_reducible rfl
          rotate_left
          · simp only [Act.put, List.setIfInBounds_toArray, List.set_cons_zero, List.set_cons_succ, i64_w, i32_w]
            rfl
          refine pure_ (i := 11) (N := some 30) (v := ?_) (a' := ?_) #[true, true, true, true, true, true, true, true, true, true, true, true, false, true, false, true, false, false, false, false, false] rfl rfl (any_of HT_.out (by kernel_rfl)) (fun _ _ _ h => h) (Or.inl ⟨by rfl, ?_⟩) ?_ ?_
          rotate_left
          · intro w'
            go_simp
            with_reducible rfl
          rotate_left
          · simp only [Act.put, List.setIfInBounds_toArray, List.set_cons_zero, List.set_cons_succ, i64_w, i32_w]
            rfl
          refine take_ (i := 12) (N := some 31) (v := ?_) (a' := ?_) #[true, true, true, true, true, true, true, true, true, true, true, true, true, true, false, true, false, false, false, false, false] rfl rfl (take_ofW HT_.out HW_.out (by kernel_rfl)) (fun _ _ _ h => h) (Or.inl ⟨by rfl, ?_⟩) hHeld ?_ ?_
          rotate_left
          · rintro w' ⟨s0, s1, s2, s3, s4, s5, s6, s7, s8, s9⟩
            go_simp
            with_reducible rfl
          rotate_left
          · simp only [Act.put, List.setIfInBounds_toArray, List.set_cons_zero, List.set_cons_succ, i64_w, i32_w]
            rfl
          refine take_ (i := 14) (N := some 33) (v := ?_) (a' := ?_) #[true, true, true, true, true, true, true, true, true, true, true, true, true, true, true, true, false, false, false, false, false] rfl rfl (take_ofW HT_.out HW_.out (by kernel_rfl)) (fun _ _ _ h => h) (Or.inl ⟨by rfl, ?_⟩) hHeld ?_ ?_
          rotate_left
          · rintro w' ⟨s0, s1, s2, s3, s4, s5, s6, s7, s8, s9⟩
            go_simp
            with_reducible rfl
          rotate_left
          · simp only [Act.put, List.setIfInBounds_toArray, List.set_cons_zero, List.set_cons_succ, i64_w, i32_w]
            rfl
          refine pure_ (i := 16) (N := some 35) (v := ?_) (a' := ?_) #[true, true, true, true, true, true, true, true, true, true, true, true, true, true, true, true, true, false, false, false, false] rfl rfl (any_of HT_.out (by kernel_rfl)) (fun _ _ _ h => h) (Or.inl ⟨by rfl, ?_⟩) ?_ ?_
          rotate_left
          · intro w'
            go_simp
            with_reducible rfl
          rotate_left
          · simp only [Act.put, List.setIfInBounds_toArray, List.set_cons_zero, List.set_cons_succ, i64_w, i32_w]
            rfl
          refine pure_ (i := 17) (N := some 36) (v := ?_) (a' := ?_) #[true, true, true, true, true, true, true, true, true, true, true, true, true, true, true, true, true, true, false, false, false] rfl rfl (any_of HT_.out (by kernel_rfl)) (fun _ _ _ h => h) (Or.inl ⟨by rfl, ?_⟩) ?_ ?_
          rotate_left
          · intro w'
            go_simp
            with_reducible rfl
          rotate_left
          · simp only [Act.put, List.setIfInBounds_toArray, List.set_cons_zero, List.set_cons_succ, i64_w, i32_w]
            rfl
          refine take_ (i := 18) (N := some 37) (v := ?_) (a' := ?_) #[true, true, true, true, true, true, true, true, true, true, true, true, true, true, true, true, true, true, true, false, false] rfl rfl (take_ofW HT_.out HW_.out (by kernel_rfl)) (fun _ _ _ h => h) (Or.inl ⟨by rfl, ?_⟩) hHeld ?_ ?_
          rotate_left
          · rintro w' ⟨s0, s1, s2, s3, s4, s5, s6, s7, s8, s9⟩
            go_simp
            with_reducible rfl
          rotate_left
          · simp only [Act.put, List.setIfInBounds_toArray, List.set_cons_zero, List.set_cons_succ, i64_w, i32_w]
            rfl
          refine pure_ (i := 19) (N := some 38) (v := ?_) (a' := ?_) #[true, true, true, true, true, true, true, true, true, true, true, true, true, true, true, true, true, true, true, true, false] rfl rfl (any_of HT_.out (by kernel_rfl)) (fun _ _ _ h => h) (Or.inl ⟨by rfl, ?_⟩) ?_ ?_
          rotate_left
          · intro w'
            go_simp
            with_reducible rfl
          rotate_left
          · simp only [Act.put, List.setIfInBounds_toArray, List.set_cons_zero, List.set_cons_succ, i64_w, i32_w]
            rfl
          refine last_ (i := 20) (N := some 39) #[true, true, true, true, true, true, true, true, true, true, true, true, true, true, true, true, true, true, true, true, true] rfl rfl (one_of HT_.out (by kernel_rfl)) (by decide) (fun K hK => ?_)
          refine goes_ Try.func34 (by kernel_rfl) rfl #[.slice Ao7 x0_1.length co7, .int .u8 1, .int .i64 ((rd_T54 l2_3 x6_1).f0), .int .i64 (wrap64 (((rd_T54 l2_3 x6_1).f0) + ((rd_T54 l2_3 x6_1).f1)))] (by rfl) rfl rfl (by (try simp only [List.map_toArray, List.map_cons, List.map_nil]); first | done | rfl | (simp only [List.length_drop, List.length_take]; rfl)) ?_
          with_reducible refine (redpenref10_Labels_put.calls k1 (fun k_ => some k_ = (.slice Ao7 x0_1.length co7 : Value).ownBlock) (.slice Ao7 x0_1.length co7) x0_1 1 ((rd_T54 l2_3 x6_1).f0) (wrap64 (((rd_T54 l2_3 x6_1).f0) + ((rd_T54 l2_3 x6_1).f1))) t117 w0 _ ?side1 ?side2 A11.out).mono ?_
          (case side1 => repeat (first | (with_reducible first | exact HB.out | apply below_alloc | apply pw_below_drewN | apply below_drew1 | refine below_set ?_ GE112.out) | exact HB.out))
          (case side2 => exact Kd.R_tight rfl HO_0.out)
          rintro e w14 ⟨rfl, hy0, hb, hkp⟩
          refine ⟨_, rfl, ?_⟩
          have n0_ := Aside0.mk (Kd.R_reok rfl hy0 (fun k_ e_ => HO_0.out.1 k_ e_))
          have n1_ := Aside0.mk (blk_kept (by (with_reducible repeat (first | refine blk_drewN ?_ _ | refine blk_drew ?_ | refine blk_alloc ?_ _)); exact BK112.out) hkp (fun hs_ => (fun e_ => (Kd.R_ne HO_0.out BK112.out (by decide)) e_) hs_))
          have n2_ := Aside0.mk (Kept.then_ (S := (fun k_ => P0_ k_)) (by repeat (first | (with_reducible first | exact HK.out | apply Kept.alloc | apply Kept.drewN | apply Kept.drew | refine Kept.setCell ?_ (.inr GW112.out) _) | exact HK.out)) hkp (fun k_ hs_ => (fun e_ => (HO_0.out.1 k_ e_.symm)) hs_))
          have n3_ := Aside0.mk (hb)
          clear HO_0
          clear BK112
          clear HK
          clear HB
          have HO_0 := n0_
          have BK112 := n1_
          have HK := n2_
          have HB := n3_
          clear n0_ n1_ n2_ n3_
          (try clear hb)
          (try clear hkp)
          (try clear hy0)
          refine hK.out _ _ ?_
          clear hK K
          refine norm_ (a' := ?_) ?_ ?_
          rotate_left
          · show Act.put _ (some 39) _ = _
            simp only [Act.put, List.setIfInBounds_toArray, List.set_cons_zero, List.set_cons_succ, i64_w, i32_w]
            rfl
          refine done_ (done_of HT_.out (by kernel_rfl)) ?_
          try go_wp2
          (try simp only [← hl0_1])
          go_roundg k1
          case measure => have := HK1.out; omega
          case rel => exact ⟨(t117), (wrap64 (x6_1 + 1)), (by first | rfl | (simp; done) | (simp [*]; done)), H', ⟨by have := HK1.out; omega⟩, ⟨by (try simp only [hl0_1]); (with_reducible repeat (first | apply Kd.R_alloc | apply Kd.R_drewN | apply Kd.R_drew)); exact HO_0.out⟩, ⟨by (try simp only [hl0_1]); (with_reducible repeat (first | refine blk_drewN ?_ _ | refine blk_drew ?_ | refine blk_alloc ?_ _)); exact BK112.out⟩, ⟨by repeat (first | (with_reducible first | exact HK.out | apply Kept.alloc | apply Kept.drewN | apply Kept.drew | refine Kept.setCell ?_ (.inr GW112.out) _) | exact HK.out)⟩, ⟨by repeat (first | (with_reducible first | exact HB.out | apply below_alloc | apply pw_below_drewN | apply below_drew1 | refine below_set ?_ GE112.out) | exact HB.out)⟩⟩
        · rw [if_neg c10] at H
          exact absurd H (by simp)
      · rw [if_neg c9] at H
        have c9b0 : decide (x6_1 < (l2_3.length : Int)) = false := decide_eq_false c9
        clear c9
        obtain rfl := Option.some.inj H
        have hcz15_0 : wr.cell? ⟨gb112, 0, none⟩ = some (.int .i64 a2_0) := (blk_cell BK112.out 0).trans rfl
        have hcz15_1 : wr.cell? ⟨gb112, 1, none⟩ = some (.string a2_1) := (blk_cell BK112.out 1).trans rfl
        have hcz15_2 : wr.cell? ⟨gb112, 2, none⟩ = some (.bool a2_2) := (blk_cell BK112.out 2).trans rfl
        have hcz15_3 : wr.cell? ⟨gb112, 3, none⟩ = some (.slice A2_3 l2_3.length c2_3) := (blk_cell BK112.out 3).trans rfl
        have hfz15_0 := blk_frozen BK112.out 0
        have hfz15_1 := blk_frozen BK112.out 1
        have hfz15_2 := blk_frozen BK112.out 2
        have hfz15_3 := blk_frozen BK112.out 3
        go_wp2
        first | go_end0 | ((try simp only [Exit.inBlock, Exit.then]); refine bodyPost_ret (results_none rfl _ _ _) rfl ?_)
        exact ⟨by first | rfl | (simp [errW_none, errW_some] <;> rfl) | (simp [*, errW_none, errW_some] <;> rfl), (by first | exact (by (with_reducible repeat (first | apply Kd.R_alloc | apply Kd.R_drewN | apply Kd.R_drew)); exact HO_0.out) | (simp only [hl0_1]; exact (by (with_reducible repeat (first | apply Kd.R_alloc | apply Kd.R_drewN | apply Kd.R_drew)); exact HO_0.out))), by repeat (first | (with_reducible first | exact HB.out | apply below_alloc | apply pw_below_drewN | apply below_drew1 | refine below_set ?_ GE112.out) | exact HB.out), by repeat (first | (with_reducible first | exact HK.out | apply Kept.alloc | apply Kept.drewN | apply Kept.drew | refine Kept.setCell ?_ (.inr GW112.out) _) | exact HK.out)⟩

-- NOT PRINTED: function 37 (redpenref10_shut)

-- NOT PRINTED: function 16 (redpenref10_Html)

end Go.Proofs.Ytcbibbdkjhkmoaa.PHtml
