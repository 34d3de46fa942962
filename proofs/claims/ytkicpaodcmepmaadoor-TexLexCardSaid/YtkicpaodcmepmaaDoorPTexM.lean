/- Several texts in one: PTexx0 PTexx1 PTexx2 PTexx3. Conditions: as each lemma says. -/
import Derived.Test.YtkicpaodcmepmaaDoorProg
import Derived.Below
import Derived.Deep.Draws
import Derived.Deep.AppendLies
import Derived.Maps.AppendAt
import Derived.OwnWalk
import Derived.Laws.BytesArg
import Derived.Laws.MakeOwn
import Derived.Laws.OwnMore
import Derived.Deep.OwnRows
import Derived.Tactics
import Derived.Lib.ConvBytes
import Derived.Laws.Slices
import Derived.WalkKit
import Derived.KernelRfl
import Derived.RowKit3
import Derived.Deep.LoopGhost
import Derived.Deep.QuietTactic
import Derived.BigQuiet
import Derived.WideLaws
import Derived.Deep.DeepCutAuto
import Derived.Deep.CutBlock
import Derived.Deep.RegionHeld3
import Derived.Laws.Rows
import Derived.Lib.AppendStr
import Derived.ArgAppend
import Derived.Laws.IdiomCopy
import Derived.OrdersHeld
import Derived.Laws.BitsLemmas
import Derived.RowKit
import Derived.Test.YtkicpaodcmepmaaDoorWWords
import Derived.Test.YtkicpaodcmepmaaDoorWLast
import Derived.Test.YtkicpaodcmepmaaDoorWTab
import Derived.Test.YtkicpaodcmepmaaDoorWFour
import Derived.Test.YtkicpaodcmepmaaDoorWQPut
import Derived.Test.YtkicpaodcmepmaaDoorWApart
import Derived.Test.YtkicpaodcmepmaaDoorWArr
import Derived.Test.YtkicpaodcmepmaaDoorWZeros
import Derived.Test.YtkicpaodcmepmaaDoorWFoot
import Derived.Test.YtkicpaodcmepmaaDoorWKept
import Derived.Test.YtkicpaodcmepmaaDoorWShare
import Derived.Test.YtkicpaodcmepmaaDoorWN
import Derived.Test.YtkicpaodcmepmaaDoorWFootNe
import Derived.Test.YtkicpaodcmepmaaDoorWAt
import Derived.Test.YtkicpaodcmepmaaDoorWEqStruct
import Derived.Test.YtkicpaodcmepmaaDoorWRepsOne
import Derived.Test.YtkicpaodcmepmaaDoorWInv
import Derived.Test.YtkicpaodcmepmaaDoorWInvWords
import Derived.Test.YtkicpaodcmepmaaDoorWGuard
import Derived.Test.YtkicpaodcmepmaaDoorWNEv
import Derived.Test.YtkicpaodcmepmaaDoorWMore
namespace Go.Proofs.YtkicpaodcmepmaaDoor.PTex
open Go.RowKit Go.Proofs.YtkicpaodcmepmaaDoorW.PrintWords Go.Proofs.YtkicpaodcmepmaaDoorW.PrintLast Go.Proofs.YtkicpaodcmepmaaDoorW.PrintMore
attribute [local go_sem] max2_int min2_int max_two min_two max_three min_three max_four min_four   -- for this text's walks alone
set_option linter.unusedVariables false
set_option linter.unusedSimpArgs false



def errW : Option Int → Value
  | none => .nilIface
  | some c => .iface 0 (.int .i64 c)
theorem errW_none : errW none = .nilIface := rfl
theorem errW_some (c : Int) : errW (some c) = .iface 0 (.int .i64 c) := rfl

theorem info28 : (Tryd.prog.info? 28).map (fun i => (i.zero, i.size, i.bytes)) = some (some (.int .u8 0), 1, 1) := by kernel_rfl
-- the values' own types

end Go.Proofs.YtkicpaodcmepmaaDoor.PTex

namespace Go.Proofs.YtkicpaodcmepmaaDoor.PTex
open Go.RowKit Go.Proofs.YtkicpaodcmepmaaDoorW.PrintWords Go.Proofs.YtkicpaodcmepmaaDoorW.PrintLast Go.Proofs.YtkicpaodcmepmaaDoorW.PrintMore
attribute [local go_sem] max2_int min2_int max_two min_two max_three min_three max_four min_four   -- for this text's walks alone
set_option linter.unusedVariables false
set_option linter.unusedSimpArgs false

/-! ### redpenref10_All: function 21 -/
def redpenref10_All.l0 : Nat → Int → Int → List Int → Int → Option (List Int)
  | 0, _, _, _, _ => none
  | k + 1, x0, x1, x5, x6 => if x6 < x0 then (if 0 ≤ x6 then (if x6 < (x5.length : Int) then (redpenref10_All.l0 k x0 x1 (x5.set (x6 : Int).toNat x1) (wrap64 (x6 + 1))) else (none)) else (none)) else (some x5)
def redpenref10_All.f (k : Nat) (a0 : Int) (a1 : Int) : Option (List Int) := if 0 ≤ a0 then (if (a0 : Int).toNat ≤ 281474976710656 then (redpenref10_All.l0 k a0 a1 (List.replicate (a0 : Int).toNat 0) 0) else (none)) else (none)
theorem redpenref10_All.mono_l : ∀ k, (∀ y0 y1 y2 y3, LeO (redpenref10_All.l0 k y0 y1 y2 y3) (redpenref10_All.l0 (k + 1) y0 y1 y2 y3))
  | 0 => fun _ _ _ _ r h => by simp [redpenref10_All.l0] at h
  | k + 1 => by
    have ih0 := redpenref10_All.mono_l k
    · intro y0 y1 y2 y3
      unfold redpenref10_All.l0
      repeat' first
      | (with_reducible exact ih0 _ _ _ _)
      | (with_reducible exact LeO.refl _)
      | (with_reducible exact LeO.none _)
      | (with_reducible refine LeO.ite ?_ ?_)
      | (with_reducible refine LeO.bind ?_ (fun _ => ?_))
      | exact ih0 _ _ _ _
      | exact LeO.none _
      | refine LeO.ite ?_ ?_
      | refine LeO.bind ?_ (fun _ => ?_)
theorem redpenref10_All.mono : ∀ a0 a1 k, LeO (redpenref10_All.f k a0 a1) (redpenref10_All.f (k + 1) a0 a1) := by
  intro a0 a1 k
  have ih0 := redpenref10_All.mono_l k
  unfold redpenref10_All.f
  repeat' first
      | (with_reducible exact ih0 _ _ _ _)
      | (with_reducible exact LeO.refl _)
      | (with_reducible exact LeO.none _)
      | (with_reducible refine LeO.ite ?_ ?_)
      | (with_reducible refine LeO.bind ?_ (fun _ => ?_))
      | exact ih0 _ _ _ _
      | exact LeO.none _
      | refine LeO.ite ?_ ?_
      | refine LeO.bind ?_ (fun _ => ?_)
set_option maxHeartbeats 8000000 in
set_option maxRecDepth 100000 in
theorem redpenref10_All.calls (k : Nat) (a0 : Int) (a1 : Int) (r : List Int) (w : World) (h : redpenref10_All.f k a0 a1 = some r) :
    Calls Tryd.prog 21 #[.int .i64 a0, .int .u8 a1] w fun e w' => ∃ v0_ : Value, e = .returned (v0_) ∧ Kd.R (Kd.int .u8) 28 w' w.heap.size (fun _ => True) v0_ r ∧ Below w.heap.size w w' := by
  have HB := Aside0.mk (Below.refl w.heap.size w)
  have H : (if 0 ≤ a0 then (if (a0 : Int).toNat ≤ 281474976710656 then (redpenref10_All.l0 k a0 a1 (List.replicate (a0 : Int).toNat 0) 0) else (none)) else (none)) = some r := h
  clear h
  by_cases c3 : 0 ≤ a0
  · rw [if_pos c3] at H
    have c3b0 := eq_true c3
    have c3b1 : decide (0 ≤ a0) = true := decide_eq_true c3
    clear c3
    by_cases c4 : (a0 : Int).toNat ≤ 281474976710656
    · rw [if_pos c4] at H
      have c4b0 := eq_true c4
      have c4b1 : decide ((a0 : Int).toNat ≤ 281474976710656) = true := decide_eq_true c4
      clear c4
      obtain ⟨y101, hy101⟩ : ∃ y_ : List Int, y_ = (List.replicate (a0 : Int).toNat 0) := ⟨_, rfl⟩
      replace H : (redpenref10_All.l0 k a0 a1 y101 0) = some r := by first | (rw [hy101]; with_reducible exact H) | (have H2_ := (Option.bind_some _ _).symm.trans H; rw [hy101]; with_reducible exact H2_) | (have H2_ := (Option.bind_some _ _).symm.trans H; with_reducible exact H2_) | with_reducible exact H | (rw [hy101]; exact H) | exact H
      have Ny101 := Aside0.mk hy101
      clear hy101
      have H' := Aside0.mk H
      clear H
      go_enter Tryd.func21, Tryd.ntmps21
      go_wp2_with (first | ((with_reducible refine gate_dst (N := 8) rfl ?_); refine Kd.R_make (Kd.int .u8) _ 28 rfl (N := 8) rfl 40 _ _ rfl a0 rfl rfl Tryd.underlying40 (.int .u8 0) 1 info28 rfl (by decide) (by omega) 0 (ok := fun _ => True) (okp := fun _ => True) rfl (fun _ hk => hk) trivial (of_decide_eq_true (by first | (with_reducible assumption) | assumption)) (Nat.le_trans (Nat.mul_le_mul_right _ (of_decide_eq_true (by first | (with_reducible assumption) | assumption) : a0.toNat ≤ 281474976710656)) (by omega)) (Below.refl _ _) (Nat.le_refl _) ?_; intro v102 w5 ho6 hb hg_ hnew_; clear hg_ hnew_; (first | rw [← Ny101.out] at ho6 | (simp only [Int.reduceToNat] at ho6; rw [← Ny101.out] at ho6)); have n0_ := Aside0.mk (Kd.R_lower ho6 (below_size (by repeat (first | (with_reducible first | exact HB.out | apply below_alloc | apply pw_below_drewN | apply below_drew1) | exact HB.out)))); have n1_ := Aside0.mk (below_step (by repeat (first | (with_reducible first | exact HB.out | apply below_alloc | apply pw_below_drewN | apply below_drew1) | exact HB.out)) hb); clear HB; have HO103 := n0_; have HB := n1_; clear n0_ n1_; clear hb ho6))
      go_loopg [6] k (fun kq v6 w' => ∃ (x5_1 : List Int) (x6_1 : Int), v6 = .int .i64 x6_1 ∧ Aside0 (redpenref10_All.l0 kq a0 a1 x5_1 x6_1 = some r) ∧ Aside0 (kq ≤ k) ∧ Aside0 (Kd.R (Kd.int .u8) 28 w' w.heap.size (fun _ => True) v102 x5_1) ∧ Aside0 (Below w.heap.size w w'))
      case atStart => exact ⟨(y101), (0), (by first | rfl | (simp; done) | (simp [*]; done)), H', ⟨Nat.le_refl _⟩, ⟨by (with_reducible repeat (first | apply Kd.R_alloc | apply Kd.R_drewN | apply Kd.R_drew)); exact HO103.out⟩, ⟨by repeat (first | (with_reducible first | exact HB.out | apply below_alloc | apply pw_below_drewN | apply below_drew1) | exact HB.out)⟩⟩
      case round =>
        clear H'
        try clear c2
        try clear p2
        try clear c3
        try clear c3b0
        try clear c3b1
        try clear c4
        try clear c4b0
        try clear c4b1
        obtain ⟨x5_1, x6_1, rfl, HA, HK1, HO_5, HB⟩ := hrel
        cases gk with
        | zero => exact absurd HA.out (by simp [redpenref10_All.l0])
        | succ k1 =>
          have H := HA.out
          clear HA
          simp only [redpenref10_All.l0] at H
          by_cases c7 : x6_1 < a0
          · rw [if_pos c7] at H
            have c7b0 : decide (x6_1 < a0) = true := decide_eq_true c7
            clear c7
            by_cases c8 : 0 ≤ x6_1
            · rw [if_pos c8] at H
              have c8b0 : decide (0 ≤ x6_1) = true := decide_eq_true c8
              clear c8
              by_cases c9 : x6_1 < (x5_1.length : Int)
              · rw [if_pos c9] at H
                have c9b0 : decide (x6_1 < (x5_1.length : Int)) = true := decide_eq_true c9
                clear c9
                obtain ⟨y104, hy104⟩ : ∃ y_ : List Int, y_ = (x5_1.set (x6_1 : Int).toNat a1) := ⟨_, rfl⟩
                replace H : (redpenref10_All.l0 k1 a0 a1 y104 (wrap64 (x6_1 + 1))) = some r := by first | (rw [hy104]; with_reducible exact H) | (have H2_ := (Option.bind_some _ _).symm.trans H; rw [hy104]; with_reducible exact H2_) | (have H2_ := (Option.bind_some _ _).symm.trans H; with_reducible exact H2_) | with_reducible exact H | (rw [hy104]; exact H) | exact H
                have Ny104 := Aside0.mk hy104
                clear hy104
                have H' := Aside0.mk H
                clear H
                have p10 : 0 ≤ (x6_1 : Int) := of_decide_eq_true (by first | (with_reducible assumption) | assumption)
                have q10 : (x6_1 : Int) < ((x5_1.length : Int) : Int) := of_decide_eq_true (by first | (with_reducible assumption) | assumption)
                obtain ⟨go10, co10, eo10, gb10, gl10, cl10, HG10⟩ := Kd.R_form HO_5.out (by omega)
                (first | cases eo10 | (injection eo10 with ea_ en_ ec_; (first | subst ea_ | (injection ea_ with ea_; subst ea_)); subst ec_; clear en_))
                have GB10 := Aside0.mk gb10
                have GG10 := Aside0.mk HG10
                clear gb10 gl10 HG10
                obtain ⟨hx10_0, hf10_0⟩ := Kd.R_celln 0 HO_5.out (x6_1 : Int) p10 q10
                replace p10 := eq_true p10
                replace q10 := eq_true q10
                have HP11 := Kd.R_putg HO_5.out (x6_1 : Int) a1
                go_wp2_with (first | ((with_reducible refine gate_store (t := 28) (p := 17) rfl ?_); refine store_event (t := 28) (p := 17) (v := ?vo_w12) (w1 := (wr.setCell ⟨go10, (x6_1 : Int).toNat, none⟩ (.int .u8 a1))) ?hg ?ho ?hn ?hr ?_; (case ho => rfl); (case hg => rfl); (case hn => rfl); (case hr => first | (go_simp; done) | (go_simp; rfl)); intro w12 hw; have hg : wr.grownBy w12 (some go10) := (by rw [hw]; exact HP11.2); have hp_ : Kd.R (Kd.int .u8) 28 w12 w.heap.size (fun _ => True) (.slice (some ⟨go10, 0, none⟩) x5_1.length co10) y104 := (by rw [hw, Ny104.out]; exact HP11.1); clear HP11; have n0_ := Aside0.mk (hp_); have n1_ := Aside0.mk ((by rw [hw]; exact below_set (HB.out) GB10.out : Below w.heap.size w w12)); clear HO_5; clear HB; have HO_5 := n0_; have HB := n1_; clear n0_ n1_; clear hg hw hp_))
                go_roundg k1
                case measure => have := HK1.out; omega
                case rel => exact ⟨(y104), (wrap64 (x6_1 + 1)), (by first | rfl | (simp; done) | (simp [*]; done)), H', ⟨by have := HK1.out; omega⟩, ⟨by (with_reducible repeat (first | apply Kd.R_alloc | apply Kd.R_drewN | apply Kd.R_drew)); exact HO_5.out⟩, ⟨by repeat (first | (with_reducible first | exact HB.out | apply below_alloc | apply pw_below_drewN | apply below_drew1) | exact HB.out)⟩⟩
              · rw [if_neg c9] at H
                exact absurd H (by simp)
            · rw [if_neg c8] at H
              exact absurd H (by simp)
          · rw [if_neg c7] at H
            have c7b0 : decide (x6_1 < a0) = false := decide_eq_false c7
            clear c7
            obtain rfl := Option.some.inj H
            go_wp2
            go_ret
            exact ⟨_, by first | rfl | (simp [errW_none, errW_some] <;> rfl) | (simp [*, errW_none, errW_some] <;> rfl), by (with_reducible repeat (first | apply Kd.R_alloc | apply Kd.R_drewN | apply Kd.R_drew)); exact HO_5.out, by repeat (first | (with_reducible first | exact HB.out | apply below_alloc | apply pw_below_drewN | apply below_drew1) | exact HB.out)⟩
    · rw [if_neg c4] at H
      exact absurd H (by simp)
  · rw [if_neg c3] at H
    exact absurd H (by simp)

/-! ### redpenref10_at: function 30 -/
def redpenref10_at.f (a0 : ByteArray) (a1 : Int) (a2 : ByteArray) : Option (Bool) := if (wrap64 (a1 + (a2.size : Int))) ≤ (a0.size : Int) then (if 0 ≤ a1 then (if a1 ≤ (wrap64 (a1 + (a2.size : Int))) then (some ((a0.extract (a1 : Int).toNat ((wrap64 (a1 + (a2.size : Int))) : Int).toNat).toList == a2.toList)) else (none)) else (none)) else (some false)
set_option maxHeartbeats 8000000 in
set_option maxRecDepth 100000 in
theorem redpenref10_at.calls (a0 : ByteArray) (a1 : Int) (a2 : ByteArray) (r : Bool) (w : World) (h : redpenref10_at.f a0 a1 a2 = some r) :
    Calls Tryd.prog 30 #[.string a0, .int .i64 a1, .string a2] w fun e w' => e = .returned (.bool r) ∧ Drawn0 w w' := by
  have H : (if (wrap64 (a1 + (a2.size : Int))) ≤ (a0.size : Int) then (if 0 ≤ a1 then (if a1 ≤ (wrap64 (a1 + (a2.size : Int))) then (some ((a0.extract (a1 : Int).toNat ((wrap64 (a1 + (a2.size : Int))) : Int).toNat).toList == a2.toList)) else (none)) else (none)) else (some false)) = some r := h
  clear h
  by_cases c4 : (wrap64 (a1 + (a2.size : Int))) ≤ (a0.size : Int)
  · rw [if_pos c4] at H
    have c4b0 : decide ((wrap64 (a1 + (a2.size : Int))) ≤ (a0.size : Int)) = true := decide_eq_true c4
    clear c4
    by_cases c5 : 0 ≤ a1
    · rw [if_pos c5] at H
      have c5b0 := eq_true c5
      have c5b1 : decide (0 ≤ a1) = true := decide_eq_true c5
      clear c5
      by_cases c6 : a1 ≤ (wrap64 (a1 + (a2.size : Int)))
      · rw [if_pos c6] at H
        have c6b0 := eq_true c6
        have c6b1 : decide (a1 ≤ (wrap64 (a1 + (a2.size : Int)))) = true := decide_eq_true c6
        have c7b0 := eq_true (of_decide_eq_true (by first | (with_reducible assumption) | assumption) : (wrap64 (a1 + (a2.size : Int))) ≤ (a0.size : Int))
        obtain rfl := Option.some.inj H
        go_enter Tryd.func30, Tryd.ntmps30
        go_wp2
        go_ret
        exact ⟨by first | rfl | (simp; done) | (simp [*]; done), by repeat (first | exact Drawn0.refl _ | apply Drawn0.step)⟩
      · rw [if_neg c6] at H
        exact absurd H (by simp)
    · rw [if_neg c5] at H
      exact absurd H (by simp)
  · rw [if_neg c4] at H
    have c4b0 : decide ((wrap64 (a1 + (a2.size : Int))) ≤ (a0.size : Int)) = false := decide_eq_false c4
    clear c4
    obtain rfl := Option.some.inj H
    go_enter Tryd.func30, Tryd.ntmps30
    go_wp2
    go_ret
    exact ⟨by first | rfl | (simp; done) | (simp [*]; done), by repeat (first | exact Drawn0.refl _ | apply Drawn0.step)⟩

/-! ### redpenref10_behind: function 28 -/
def redpenref10_behind.l0 : Nat → ByteArray → Int → ByteArray → Option (Int)
  | 0, _, _, _ => none
  | k + 1, x0, x1, x2 => if x1 < (x0.size : Int) then ((redpenref10_at.f x0 x1 x2).bind fun t105 => (if t105 = true then (some (wrap64 (x1 + (x2.size : Int)))) else (redpenref10_behind.l0 k x0 (wrap64 (x1 + 1)) x2))) else (some (x0.size : Int))
def redpenref10_behind.f (k : Nat) (a0 : ByteArray) (a1 : Int) (a2 : ByteArray) : Option (Int) := redpenref10_behind.l0 k a0 a1 a2
theorem redpenref10_behind.mono_l : ∀ k, (∀ y0 y1 y2, LeO (redpenref10_behind.l0 k y0 y1 y2) (redpenref10_behind.l0 (k + 1) y0 y1 y2))
  | 0 => fun _ _ _ r h => by simp [redpenref10_behind.l0] at h
  | k + 1 => by
    have ih0 := redpenref10_behind.mono_l k
    · intro y0 y1 y2
      unfold redpenref10_behind.l0
      repeat' first
      | (with_reducible exact ih0 _ _ _)
      | (with_reducible exact LeO.refl _)
      | (with_reducible exact LeO.none _)
      | (with_reducible refine LeO.ite ?_ ?_)
      | (with_reducible refine LeO.bind ?_ (fun _ => ?_))
      | exact ih0 _ _ _
      | exact LeO.none _
      | refine LeO.ite ?_ ?_
      | refine LeO.bind ?_ (fun _ => ?_)
theorem redpenref10_behind.mono : ∀ a0 a1 a2 k, LeO (redpenref10_behind.f k a0 a1 a2) (redpenref10_behind.f (k + 1) a0 a1 a2) := by
  intro a0 a1 a2 k
  have ih0 := redpenref10_behind.mono_l k
  unfold redpenref10_behind.f
  repeat' first
      | (with_reducible exact ih0 _ _ _)
      | (with_reducible exact LeO.refl _)
      | (with_reducible exact LeO.none _)
      | (with_reducible refine LeO.ite ?_ ?_)
      | (with_reducible refine LeO.bind ?_ (fun _ => ?_))
      | exact ih0 _ _ _
      | exact LeO.none _
      | refine LeO.ite ?_ ?_
      | refine LeO.bind ?_ (fun _ => ?_)
set_option maxHeartbeats 8000000 in
set_option maxRecDepth 100000 in
theorem redpenref10_behind.calls (k : Nat) (a0 : ByteArray) (a1 : Int) (a2 : ByteArray) (r : Int) (w : World) (h : redpenref10_behind.f k a0 a1 a2 = some r) :
    Calls Tryd.prog 28 #[.string a0, .int .i64 a1, .string a2] w fun e w' => e = .returned (.int .i64 r) ∧ Drawn0 w w' := by
  have H : (redpenref10_behind.l0 k a0 a1 a2) = some r := h
  clear h
  have H' := Aside0.mk H
  clear H
  go_enter Tryd.func28, Tryd.ntmps28
  go_wp2
  go_loopg [1] k (fun kq v1 w' => ∃ (x1_1 : Int), v1 = .int .i64 x1_1 ∧ Aside0 (redpenref10_behind.l0 kq a0 x1_1 a2 = some r) ∧ Aside0 (kq ≤ k) ∧ Drawn0 w w')
  case atStart => exact ⟨(a1), (by first | rfl | (simp; done) | (simp [*]; done)), H', ⟨Nat.le_refl _⟩, by repeat (first | exact Drawn0.refl _ | apply Drawn0.step)⟩
  case round =>
    clear H'
    try clear c2
    try clear p2
    obtain ⟨x1_1, rfl, HA, HK1, ⟨m1, rfl⟩⟩ := hrel
    cases gk with
    | zero => exact absurd HA.out (by simp [redpenref10_behind.l0])
    | succ k1 =>
      have H := HA.out
      clear HA
      simp only [redpenref10_behind.l0] at H
      by_cases c4 : x1_1 < (a0.size : Int)
      · rw [if_pos c4] at H
        have c4b0 : decide (x1_1 < (a0.size : Int)) = true := decide_eq_true c4
        clear c4
        replace H := Option.bind_eq_some_iff.mp H
        obtain ⟨t105, A50, H⟩ := H
        replace H : (if t105 = true then (some (wrap64 (x1_1 + (a2.size : Int)))) else (redpenref10_behind.l0 k1 a0 (wrap64 (x1_1 + 1)) a2)) = some r := H
        have A5 := Aside0.mk A50
        clear A50
        by_cases c6 : t105 = true
        · subst c6
          have H1 : (some (wrap64 (x1_1 + (a2.size : Int)))) = some r := by rw [if_pos rfl] at H; exact H
          clear H
          have H := H1
          clear H1
          obtain rfl := Option.some.inj H
          go_wp2_with (first | ((with_reducible refine gate_callee (f := 30) rfl ?_); refine goesL_ (some 16) rfl rfl Tryd.func30 (by kernel_rfl) rfl #[.string a0, .int .i64 x1_1, .string a2] rfl (by (try simp only [List.map_toArray, List.map_cons, List.map_nil]); first | done | rfl | (simp only [List.length_drop, List.length_take]; rfl)) ?_; (with_reducible refine (redpenref10_at.calls a0 x1_1 a2 true _ A5.out).mono ?_); rintro e w' ⟨rfl, ⟨nd, rfl⟩⟩; refine ⟨_, rfl, ?_⟩))
          go_ret
          exact ⟨by first | rfl | (simp; done) | (simp [*]; done), by repeat (first | exact Drawn0.refl _ | apply Drawn0.step)⟩
        · replace c6 := Bool.eq_false_iff.mpr c6
          subst c6
          have H1 : (redpenref10_behind.l0 k1 a0 (wrap64 (x1_1 + 1)) a2) = some r := by rw [if_neg (show ¬ (false = true) by decide)] at H; exact H
          clear H
          have H := H1
          clear H1
          have H' := Aside0.mk H
          clear H
          go_wp2_with (first | ((with_reducible refine gate_callee (f := 30) rfl ?_); refine goesL_ (some 16) rfl rfl Tryd.func30 (by kernel_rfl) rfl #[.string a0, .int .i64 x1_1, .string a2] rfl (by (try simp only [List.map_toArray, List.map_cons, List.map_nil]); first | done | rfl | (simp only [List.length_drop, List.length_take]; rfl)) ?_; (with_reducible refine (redpenref10_at.calls a0 x1_1 a2 false _ A5.out).mono ?_); rintro e w' ⟨rfl, ⟨nd, rfl⟩⟩; refine ⟨_, rfl, ?_⟩))
          go_roundg k1
          case measure => have := HK1.out; omega
          case rel => exact ⟨(wrap64 (x1_1 + 1)), (by first | rfl | (simp; done) | (simp [*]; done)), H', ⟨by have := HK1.out; omega⟩, by repeat (first | exact Drawn0.refl _ | apply Drawn0.step)⟩
      · rw [if_neg c4] at H
        have c4b0 : decide (x1_1 < (a0.size : Int)) = false := decide_eq_false c4
        clear c4
        obtain rfl := Option.some.inj H
        go_wp2
        go_ret
        exact ⟨by first | rfl | (simp; done) | (simp [*]; done), by repeat (first | exact Drawn0.refl _ | apply Drawn0.step)⟩

/-! ### redpenref10_Labels_put: function 29 -/
def redpenref10_Labels_put.l0 : Nat → List Int → Int → Int → Int → Option (List Int)
  | 0, _, _, _, _ => none
  | k + 1, x0, x1, x3, x8 => if x8 < x3 then (if x8 < (x0.length : Int) then (if 0 ≤ x8 then (redpenref10_Labels_put.l0 k (x0.set (x8 : Int).toNat x1) x1 x3 (wrap64 (x8 + 1))) else (none)) else (some x0)) else (some x0)
def redpenref10_Labels_put.f (k : Nat) (l0 : List Int) (a1 : Int) (a2 : Int) (a3 : Int) : Option (List Int) := redpenref10_Labels_put.l0 k l0 a1 a3 a2
theorem redpenref10_Labels_put.mono_l : ∀ k, (∀ y0 y1 y2 y3, LeO (redpenref10_Labels_put.l0 k y0 y1 y2 y3) (redpenref10_Labels_put.l0 (k + 1) y0 y1 y2 y3))
  | 0 => fun _ _ _ _ r h => by simp [redpenref10_Labels_put.l0] at h
  | k + 1 => by
    have ih0 := redpenref10_Labels_put.mono_l k
    · intro y0 y1 y2 y3
      unfold redpenref10_Labels_put.l0
      repeat' first
      | (with_reducible exact ih0 _ _ _ _)
      | (with_reducible exact LeO.refl _)
      | (with_reducible exact LeO.none _)
      | (with_reducible refine LeO.ite ?_ ?_)
      | (with_reducible refine LeO.bind ?_ (fun _ => ?_))
      | exact ih0 _ _ _ _
      | exact LeO.none _
      | refine LeO.ite ?_ ?_
      | refine LeO.bind ?_ (fun _ => ?_)
theorem redpenref10_Labels_put.mono : ∀ a0 a1 a2 a3 k, LeO (redpenref10_Labels_put.f k a0 a1 a2 a3) (redpenref10_Labels_put.f (k + 1) a0 a1 a2 a3) := by
  intro a0 a1 a2 a3 k
  have ih0 := redpenref10_Labels_put.mono_l k
  unfold redpenref10_Labels_put.f
  repeat' first
      | (with_reducible exact ih0 _ _ _ _)
      | (with_reducible exact LeO.refl _)
      | (with_reducible exact LeO.none _)
      | (with_reducible refine LeO.ite ?_ ?_)
      | (with_reducible refine LeO.bind ?_ (fun _ => ?_))
      | exact ih0 _ _ _ _
      | exact LeO.none _
      | refine LeO.ite ?_ ?_
      | refine LeO.bind ?_ (fun _ => ?_)
set_option maxHeartbeats 8000000 in
set_option maxRecDepth 100000 in
theorem redpenref10_Labels_put.calls (k : Nat) (P0_ : Nat → Prop) (u9000_ : Value) (l0 : List Int) (a1 : Int) (a2 : Int) (a3 : Int) (r : List Int) (w0 w : World) (hB : Below w0.heap.size w0 w) (ho0 : Kd.R (Kd.int .u8) 28 w w0.heap.size P0_ u9000_ l0) (h : redpenref10_Labels_put.f k l0 a1 a2 a3 = some r) :
    Calls Tryd.prog 29 #[u9000_, .int .u8 a1, .int .i64 a2, .int .i64 a3] w fun e w' => e = .returned (.tuple #[]) ∧ Kd.R (Kd.int .u8) 28 w' w0.heap.size (fun k_ => (P0_ k_ ∨ w.heap.size ≤ k_)) u9000_ r ∧ Below w0.heap.size w0 w' ∧ Kept w w' (fun k_ => P0_ k_) := by
  have HO0 := Aside0.mk (show Kd.R (Kd.int .u8) 28 w w0.heap.size (fun k_ => (P0_ k_ ∨ w.heap.size ≤ k_)) u9000_ l0 from Kd.R_mono ho0 (fun k_ hk => (.inl hk)))
  have HK := Aside0.mk (Kept.refl w (fun k_ => P0_ k_))
  have HW0 := Aside0.mk hB.size
  have HB := Aside0.mk hB
  clear hB
  have H : (redpenref10_Labels_put.l0 k l0 a1 a3 a2) = some r := h
  clear h
  have H' := Aside0.mk H
  clear H
  go_enter Tryd.func29, Tryd.ntmps29
  go_wp2
  go_loopg [8] k (fun kq v8 w' => ∃ (x0_1 : List Int) (x8_1 : Int), v8 = .int .i64 x8_1 ∧ Aside0 (redpenref10_Labels_put.l0 kq x0_1 a1 a3 x8_1 = some r) ∧ Aside0 (kq ≤ k) ∧ Aside0 (Kd.R (Kd.int .u8) 28 w' w0.heap.size (fun k_ => (P0_ k_ ∨ w.heap.size ≤ k_)) u9000_ x0_1) ∧ Aside0 (Kept w w' (fun k_ => P0_ k_)) ∧ Aside0 (Below w0.heap.size w0 w'))
  case atStart => exact ⟨(l0), (a2), (by first | rfl | (simp; done) | (simp [*]; done)), H', ⟨Nat.le_refl _⟩, ⟨by (with_reducible repeat (first | apply Kd.R_alloc | apply Kd.R_drewN | apply Kd.R_drew)); exact HO0.out⟩, ⟨by repeat (first | (with_reducible first | exact HK.out | apply Kept.alloc | apply Kept.drewN | apply Kept.drew) | exact HK.out)⟩, ⟨by repeat (first | (with_reducible first | exact HB.out | apply below_alloc | apply pw_below_drewN | apply below_drew1) | exact HB.out)⟩⟩
  case round =>
    clear H'
    try clear c2
    try clear p2
    obtain ⟨x0_1, x8_1, rfl, HA, HK1, HO_0, HK, HB⟩ := hrel
    cases gk with
    | zero => exact absurd HA.out (by simp [redpenref10_Labels_put.l0])
    | succ k1 =>
      have H := HA.out
      clear HA
      simp only [redpenref10_Labels_put.l0] at H
      by_cases c5 : x8_1 < a3
      · rw [if_pos c5] at H
        have c5b0 : decide (x8_1 < a3) = true := decide_eq_true c5
        clear c5
        by_cases c6 : x8_1 < (x0_1.length : Int)
        · rw [if_pos c6] at H
          have c6b0 : decide (x8_1 < (x0_1.length : Int)) = true := decide_eq_true c6
          clear c6
          by_cases c7 : 0 ≤ x8_1
          · rw [if_pos c7] at H
            have c7b0 : decide (0 ≤ x8_1) = true := decide_eq_true c7
            clear c7
            obtain ⟨y106, hy106⟩ : ∃ y_ : List Int, y_ = (x0_1.set (x8_1 : Int).toNat a1) := ⟨_, rfl⟩
            replace H : (redpenref10_Labels_put.l0 k1 y106 a1 a3 (wrap64 (x8_1 + 1))) = some r := by first | (rw [hy106]; with_reducible exact H) | (have H2_ := (Option.bind_some _ _).symm.trans H; rw [hy106]; with_reducible exact H2_) | (have H2_ := (Option.bind_some _ _).symm.trans H; with_reducible exact H2_) | with_reducible exact H | (rw [hy106]; exact H) | exact H
            have Ny106 := Aside0.mk hy106
            clear hy106
            have H' := Aside0.mk H
            clear H
            obtain ⟨Ao9, co9, eo9⟩ := Kd.R_slice HO_0.out
            subst eo9
            have p8 : 0 ≤ (x8_1 : Int) := of_decide_eq_true (by first | (with_reducible assumption) | assumption)
            have q8 : (x8_1 : Int) < ((x0_1.length : Int) : Int) := of_decide_eq_true (by first | (with_reducible assumption) | assumption)
            obtain ⟨go8, co8, eo8, gb8, gl8, cl8, HG8⟩ := Kd.R_form HO_0.out (by omega)
            (first | cases eo8 | (injection eo8 with ea_ en_ ec_; (first | subst ea_ | (injection ea_ with ea_; subst ea_)); subst ec_; clear en_))
            have GB8 := Aside0.mk gb8
            have GG8 := Aside0.mk HG8
            clear gb8 gl8 HG8
            have HMgo8 := Aside0.mk (show (P0_ go8 ∨ w.heap.size ≤ go8) from (HO_0.out.1 _ rfl))
            obtain ⟨hx8_0, hf8_0⟩ := Kd.R_celln 0 HO_0.out (x8_1 : Int) p8 q8
            replace p8 := eq_true p8
            replace q8 := eq_true q8
            have HP10 := Kd.R_putg HO_0.out (x8_1 : Int) a1
            go_wp2_with (first | ((with_reducible refine gate_store (t := 28) (p := 24) rfl ?_); refine store_event (t := 28) (p := 24) (v := ?vo_w11) (w1 := (wr.setCell ⟨go8, (x8_1 : Int).toNat, none⟩ (.int .u8 a1))) ?hg ?ho ?hn ?hr ?_; (case ho => rfl); (case hg => rfl); (case hn => rfl); (case hr => first | (go_simp; done) | (go_simp; rfl)); intro w11 hw; have hg : wr.grownBy w11 (some go8) := (by rw [hw]; exact HP10.2); have hp_ : Kd.R (Kd.int .u8) 28 w11 w0.heap.size (fun k_ => (P0_ k_ ∨ w.heap.size ≤ k_)) (.slice (some ⟨go8, 0, none⟩) x0_1.length co9) y106 := (by rw [hw, Ny106.out]; exact HP10.1); clear HP10; have n0_ := Aside0.mk (hp_); have n1_ := Aside0.mk ((by rw [hw]; exact below_set (HB.out) GB8.out : Below w0.heap.size w0 w11)); have n2_ := Aside0.mk (Kept.of_grown (S := (fun k_ => P0_ k_)) hg (by repeat (first | (with_reducible first | exact HK.out | apply Kept.alloc | apply Kept.drewN | apply Kept.drew) | exact HK.out)) (fun k_ e_ => (HO_0.out.1 k_ e_))); clear HO_0; clear HB; clear HK; have HO_0 := n0_; have HB := n1_; have HK := n2_; clear n0_ n1_ n2_; clear hg hw hp_))
            go_roundg k1
            case measure => have := HK1.out; omega
            case rel => exact ⟨(y106), (wrap64 (x8_1 + 1)), (by first | rfl | (simp; done) | (simp [*]; done)), H', ⟨by have := HK1.out; omega⟩, ⟨by (with_reducible repeat (first | apply Kd.R_alloc | apply Kd.R_drewN | apply Kd.R_drew)); exact HO_0.out⟩, ⟨by repeat (first | (with_reducible first | exact HK.out | apply Kept.alloc | apply Kept.drewN | apply Kept.drew) | exact HK.out)⟩, ⟨by repeat (first | (with_reducible first | exact HB.out | apply below_alloc | apply pw_below_drewN | apply below_drew1) | exact HB.out)⟩⟩
          · rw [if_neg c7] at H
            exact absurd H (by simp)
        · rw [if_neg c6] at H
          have c6b0 : decide (x8_1 < (x0_1.length : Int)) = false := decide_eq_false c6
          clear c6
          obtain rfl := Option.some.inj H
          obtain ⟨Ao12, co12, eo12⟩ := Kd.R_slice HO_0.out
          subst eo12
          go_wp2
          first | go_end0 | ((try simp only [Exit.inBlock, Exit.then]); refine bodyPost_ret (results_none rfl _ _ _) rfl ?_)
          exact ⟨by first | rfl | (simp [errW_none, errW_some] <;> rfl) | (simp [*, errW_none, errW_some] <;> rfl), by (with_reducible repeat (first | apply Kd.R_alloc | apply Kd.R_drewN | apply Kd.R_drew)); exact HO_0.out, by repeat (first | (with_reducible first | exact HB.out | apply below_alloc | apply pw_below_drewN | apply below_drew1) | exact HB.out), by repeat (first | (with_reducible first | exact HK.out | apply Kept.alloc | apply Kept.drewN | apply Kept.drew) | exact HK.out)⟩
      · rw [if_neg c5] at H
        have c5b0 : decide (x8_1 < a3) = false := decide_eq_false c5
        clear c5
        obtain rfl := Option.some.inj H
        go_wp2
        first | go_end0 | ((try simp only [Exit.inBlock, Exit.then]); refine bodyPost_ret (results_none rfl _ _ _) rfl ?_)
        exact ⟨by first | rfl | (simp [errW_none, errW_some] <;> rfl) | (simp [*, errW_none, errW_some] <;> rfl), by (with_reducible repeat (first | apply Kd.R_alloc | apply Kd.R_drewN | apply Kd.R_drew)); exact HO_0.out, by repeat (first | (with_reducible first | exact HB.out | apply below_alloc | apply pw_below_drewN | apply below_drew1) | exact HB.out), by repeat (first | (with_reducible first | exact HK.out | apply Kept.alloc | apply Kept.drewN | apply Kept.drew) | exact HK.out)⟩

/-! ### redpenref10_letter: function 31 -/
def redpenref10_letter.f (a0 : ByteArray) (a1 : Int) : Option (Bool) := if a1 < 0 then (some false) else (if a1 ≥ (a0.size : Int) then (some false) else (if 0 ≤ a1 then (if a1 < (a0.size : Int) then (if (Go.bits .or .u8 (bt a0 a1) 32) ≥ 97 then (some (decide ((Go.bits .or .u8 (bt a0 a1) 32) ≤ 122))) else (some false)) else (none)) else (none)))
set_option maxHeartbeats 8000000 in
set_option maxRecDepth 100000 in
theorem redpenref10_letter.calls (a0 : ByteArray) (a1 : Int) (r : Bool) (w : World) (h : redpenref10_letter.f a0 a1 = some r) :
    Calls Tryd.prog 31 #[.string a0, .int .i64 a1] w fun e w' => e = .returned (.bool r) ∧ Drawn0 w w' := by
  have H : (if a1 < 0 then (some false) else (if a1 ≥ (a0.size : Int) then (some false) else (if 0 ≤ a1 then (if a1 < (a0.size : Int) then (if (Go.bits .or .u8 (bt a0 a1) 32) ≥ 97 then (some (decide ((Go.bits .or .u8 (bt a0 a1) 32) ≤ 122))) else (some false)) else (none)) else (none)))) = some r := h
  clear h
  by_cases c3 : a1 < 0
  · rw [if_pos c3] at H
    have c3b0 : decide (a1 < 0) = true := decide_eq_true c3
    clear c3
    obtain rfl := Option.some.inj H
    go_enter Tryd.func31, Tryd.ntmps31
    go_wp2
    go_ret
    exact ⟨by first | rfl | (simp; done) | (simp [*]; done), by repeat (first | exact Drawn0.refl _ | apply Drawn0.step)⟩
  · rw [if_neg c3] at H
    have c3b0 : decide (a1 < 0) = false := decide_eq_false c3
    clear c3
    by_cases c4 : a1 ≥ (a0.size : Int)
    · rw [if_pos c4] at H
      have c4b0 : decide ((a0.size : Int) ≤ a1) = true := decide_eq_true c4
      clear c4
      obtain rfl := Option.some.inj H
      go_enter Tryd.func31, Tryd.ntmps31
      go_wp2
      go_ret
      exact ⟨by first | rfl | (simp; done) | (simp [*]; done), by repeat (first | exact Drawn0.refl _ | apply Drawn0.step)⟩
    · rw [if_neg c4] at H
      have c4b0 : decide ((a0.size : Int) ≤ a1) = false := decide_eq_false c4
      clear c4
      by_cases c5 : 0 ≤ a1
      · rw [if_pos c5] at H
        have c5b0 : decide (0 ≤ a1) = true := decide_eq_true c5
        clear c5
        by_cases c6 : a1 < (a0.size : Int)
        · rw [if_pos c6] at H
          have c6b0 : decide (a1 < (a0.size : Int)) = true := decide_eq_true c6
          clear c6
          by_cases c8 : (Go.bits .or .u8 (bt a0 a1) 32) ≥ 97
          · rw [if_pos c8] at H
            have c8b0 : decide (97 ≤ (Go.bits .or .u8 (bt a0 a1) 32)) = true := decide_eq_true c8
            clear c8
            obtain rfl := Option.some.inj H
            have p7 : 0 ≤ (a1 : Int) := of_decide_eq_true (by first | (with_reducible assumption) | assumption)
            have q7 : a1 < (a0.size : Int) := of_decide_eq_true (by first | (with_reducible assumption) | assumption)
            have hx7 := bt_at a0 a1
            replace p7 := eq_true p7
            replace q7 := eq_true q7
            go_enter Tryd.func31, Tryd.ntmps31
            go_wp2
            go_ret
            exact ⟨by first | rfl | (simp; done) | (simp [*]; done), by repeat (first | exact Drawn0.refl _ | apply Drawn0.step)⟩
          · rw [if_neg c8] at H
            have c8b0 : decide (97 ≤ (Go.bits .or .u8 (bt a0 a1) 32)) = false := decide_eq_false c8
            clear c8
            obtain rfl := Option.some.inj H
            have p7 : 0 ≤ (a1 : Int) := of_decide_eq_true (by first | (with_reducible assumption) | assumption)
            have q7 : a1 < (a0.size : Int) := of_decide_eq_true (by first | (with_reducible assumption) | assumption)
            have hx7 := bt_at a0 a1
            replace p7 := eq_true p7
            replace q7 := eq_true q7
            go_enter Tryd.func31, Tryd.ntmps31
            go_wp2
            go_ret
            exact ⟨by first | rfl | (simp; done) | (simp [*]; done), by repeat (first | exact Drawn0.refl _ | apply Drawn0.step)⟩
        · rw [if_neg c6] at H
          exact absurd H (by simp)
      · rw [if_neg c5] at H
        exact absurd H (by simp)

/-! ### redpenref01_tail: function 46 -/
def redpenref01_tail.f (l0 : List Int) (a1 : Int) : Option (Bool) := if a1 < (l0.length : Int) then (if 0 ≤ a1 then (if (rd l0 a1) ≥ 128 then (some (decide ((rd l0 a1) < 192))) else (some false)) else (none)) else (some false)
set_option maxHeartbeats 8000000 in
set_option maxRecDepth 100000 in
theorem redpenref01_tail.calls (A0 : Option Addr) (c0 : Nat) (l0 : List Int) (a1 : Int) (r : Bool) (w : World) (hr0 : Kd.C (Kd.int .u8) w A0 l0.length l0) (hc0 : l0.length ≤ c0) (h : redpenref01_tail.f l0 a1 = some r) :
    Calls Tryd.prog 46 #[.slice A0 l0.length c0, .int .i64 a1] w fun e w' => e = .returned (.bool r) ∧ Drawn0 w w' := by
  have HR0 := Aside0.mk hr0
  have HC0 := Aside0.mk hc0
  clear hr0 hc0
  have H : (if a1 < (l0.length : Int) then (if 0 ≤ a1 then (if (rd l0 a1) ≥ 128 then (some (decide ((rd l0 a1) < 192))) else (some false)) else (none)) else (some false)) = some r := h
  clear h
  by_cases c3 : a1 < (l0.length : Int)
  · rw [if_pos c3] at H
    have c3b0 : decide (a1 < (l0.length : Int)) = true := decide_eq_true c3
    clear c3
    by_cases c4 : 0 ≤ a1
    · rw [if_pos c4] at H
      have c4b0 : decide (0 ≤ a1) = true := decide_eq_true c4
      clear c4
      by_cases c5 : (rd l0 a1) ≥ 128
      · rw [if_pos c5] at H
        have c5b0 : decide (128 ≤ (rd l0 a1)) = true := decide_eq_true c5
        clear c5
        obtain rfl := Option.some.inj H
        have p107 : 0 ≤ (a1 : Int) := of_decide_eq_true (by first | (with_reducible assumption) | assumption)
        have q107 : a1 < (l0.length : Int) := of_decide_eq_true (by first | (with_reducible assumption) | assumption)
        obtain ⟨ad107, e107, hx107_0⟩ := Kd.at_int HR0.out a1 p107 q107
        cases e107
        replace p107 := eq_true p107
        replace q107 := eq_true q107
        have p108 : 0 ≤ (a1 : Int) := of_decide_eq_true (by first | (with_reducible assumption) | assumption)
        have q108 : a1 < (l0.length : Int) := of_decide_eq_true (by first | (with_reducible assumption) | assumption)
        obtain ⟨ad108, e108, hx108_0⟩ := Kd.at_int HR0.out a1 p108 q108
        obtain rfl : ad107 = ad108 := (by injection e108)
        replace p108 := eq_true p108
        replace q108 := eq_true q108
        go_enter Tryd.func46, Tryd.ntmps46
        go_wp2
        go_ret
        exact ⟨by first | rfl | (simp; done) | (simp [*]; done), by repeat (first | exact Drawn0.refl _ | apply Drawn0.step)⟩
      · rw [if_neg c5] at H
        have c5b0 : decide (128 ≤ (rd l0 a1)) = false := decide_eq_false c5
        clear c5
        obtain rfl := Option.some.inj H
        have p107 : 0 ≤ (a1 : Int) := of_decide_eq_true (by first | (with_reducible assumption) | assumption)
        have q107 : a1 < (l0.length : Int) := of_decide_eq_true (by first | (with_reducible assumption) | assumption)
        obtain ⟨ad107, e107, hx107_0⟩ := Kd.at_int HR0.out a1 p107 q107
        cases e107
        replace p107 := eq_true p107
        replace q107 := eq_true q107
        go_enter Tryd.func46, Tryd.ntmps46
        go_wp2
        go_ret
        exact ⟨by first | rfl | (simp; done) | (simp [*]; done), by repeat (first | exact Drawn0.refl _ | apply Drawn0.step)⟩
    · rw [if_neg c4] at H
      exact absurd H (by simp)
  · rw [if_neg c3] at H
    have c3b0 : decide (a1 < (l0.length : Int)) = false := decide_eq_false c3
    clear c3
    obtain rfl := Option.some.inj H
    go_enter Tryd.func46, Tryd.ntmps46
    go_wp2
    go_ret
    exact ⟨by first | rfl | (simp; done) | (simp [*]; done), by repeat (first | exact Drawn0.refl _ | apply Drawn0.step)⟩

end Go.Proofs.YtkicpaodcmepmaaDoor.PTex

namespace Go.Proofs.YtkicpaodcmepmaaDoor.PTex
open Go.RowKit Go.Proofs.YtkicpaodcmepmaaDoorW.PrintWords Go.Proofs.YtkicpaodcmepmaaDoorW.PrintLast Go.Proofs.YtkicpaodcmepmaaDoorW.PrintMore
attribute [local go_sem] max2_int min2_int max_two min_two max_three min_three max_four min_four   -- for this text's walks alone
set_option linter.unusedVariables false
set_option linter.unusedSimpArgs false

/-! ### redpenref01_Next: function 32 -/
mutual
def redpenref01_Next.j0 : Nat → List Int → Int → Bool → Option (Int × Int)
  | 0, _, _, _ => none
  | k + 1, x0, x4, x27 => if x27 = true then (if 1 < (x0.length : Int) then (if (wrap32 ((wrap32 ((wrap32 ((wrap32 (x4 - 192)) * 64)) + (wrap32 (rd x0 1)))) - 128)) ≥ 128 then (some (wrap32 ((wrap32 ((wrap32 ((wrap32 (x4 - 192)) * 64)) + (wrap32 (rd x0 1)))) - 128), 2)) else (redpenref01_Next.j1 k x0 x4)) else (none)) else (redpenref01_Next.j1 k x0 x4)
def redpenref01_Next.j1 : Nat → List Int → Int → Option (Int × Int)
  | 0, _, _ => none
  | k + 1, x0, x4 => if x4 ≥ 224 then (if x4 < 240 then ((redpenref01_tail.f x0 1).bind fun t112 => (if t112 = true then ((redpenref01_tail.f x0 2).bind fun t113 => (redpenref01_Next.j2 k x0 x4 t113)) else (redpenref01_Next.j2 k x0 x4 false))) else (redpenref01_Next.j2 k x0 x4 false)) else (redpenref01_Next.j2 k x0 x4 false)
def redpenref01_Next.j2 : Nat → List Int → Int → Bool → Option (Int × Int)
  | 0, _, _, _ => none
  | k + 1, x0, x4, x53 => if x53 = true then (if 1 < (x0.length : Int) then (if 2 < (x0.length : Int) then (if (wrap32 ((wrap32 ((wrap32 ((wrap32 ((wrap32 (x4 - 224)) * 4096)) + (wrap32 ((wrap32 ((wrap32 (rd x0 1)) - 128)) * 64)))) + (wrap32 (rd x0 2)))) - 128)) ≥ 2048 then (if (wrap32 ((wrap32 ((wrap32 ((wrap32 ((wrap32 (x4 - 224)) * 4096)) + (wrap32 ((wrap32 ((wrap32 (rd x0 1)) - 128)) * 64)))) + (wrap32 (rd x0 2)))) - 128)) < 55296 then (some (wrap32 ((wrap32 ((wrap32 ((wrap32 ((wrap32 (x4 - 224)) * 4096)) + (wrap32 ((wrap32 ((wrap32 (rd x0 1)) - 128)) * 64)))) + (wrap32 (rd x0 2)))) - 128), 3)) else (if (wrap32 ((wrap32 ((wrap32 ((wrap32 ((wrap32 (x4 - 224)) * 4096)) + (wrap32 ((wrap32 ((wrap32 (rd x0 1)) - 128)) * 64)))) + (wrap32 (rd x0 2)))) - 128)) > 57343 then (some (wrap32 ((wrap32 ((wrap32 ((wrap32 ((wrap32 (x4 - 224)) * 4096)) + (wrap32 ((wrap32 ((wrap32 (rd x0 1)) - 128)) * 64)))) + (wrap32 (rd x0 2)))) - 128), 3)) else (redpenref01_Next.j3 k x0 x4))) else (redpenref01_Next.j3 k x0 x4)) else (none)) else (none)) else (redpenref01_Next.j3 k x0 x4)
def redpenref01_Next.j3 : Nat → List Int → Int → Option (Int × Int)
  | 0, _, _ => none
  | k + 1, x0, x4 => if x4 ≥ 240 then (if x4 < 248 then ((redpenref01_tail.f x0 1).bind fun t116 => (if t116 = true then ((redpenref01_tail.f x0 2).bind fun t117 => (if t117 = true then ((redpenref01_tail.f x0 3).bind fun t118 => (redpenref01_Next.j4 k x0 x4 t118)) else (redpenref01_Next.j4 k x0 x4 false))) else (redpenref01_Next.j4 k x0 x4 false))) else (redpenref01_Next.j4 k x0 x4 false)) else (redpenref01_Next.j4 k x0 x4 false)
def redpenref01_Next.j4 : Nat → List Int → Int → Bool → Option (Int × Int)
  | 0, _, _, _ => none
  | k + 1, x0, x4, x98 => if x98 = true then (if 1 < (x0.length : Int) then (if 2 < (x0.length : Int) then (if 3 < (x0.length : Int) then (if (wrap32 ((wrap32 ((wrap32 ((wrap32 ((wrap32 ((wrap32 (x4 - 240)) * 262144)) + (wrap32 ((wrap32 ((wrap32 (rd x0 1)) - 128)) * 4096)))) + (wrap32 ((wrap32 ((wrap32 (rd x0 2)) - 128)) * 64)))) + (wrap32 (rd x0 3)))) - 128)) ≥ 65536 then (if (wrap32 ((wrap32 ((wrap32 ((wrap32 ((wrap32 ((wrap32 (x4 - 240)) * 262144)) + (wrap32 ((wrap32 ((wrap32 (rd x0 1)) - 128)) * 4096)))) + (wrap32 ((wrap32 ((wrap32 (rd x0 2)) - 128)) * 64)))) + (wrap32 (rd x0 3)))) - 128)) ≤ 1114111 then (some (wrap32 ((wrap32 ((wrap32 ((wrap32 ((wrap32 ((wrap32 (x4 - 240)) * 262144)) + (wrap32 ((wrap32 ((wrap32 (rd x0 1)) - 128)) * 4096)))) + (wrap32 ((wrap32 ((wrap32 (rd x0 2)) - 128)) * 64)))) + (wrap32 (rd x0 3)))) - 128), 4)) else (some ((-1), 1))) else (some ((-1), 1))) else (none)) else (none)) else (none)) else (some ((-1), 1))
end
def redpenref01_Next.f (k : Nat) (l0 : List Int) : Option (Int × Int) := if (l0.length : Int) = 0 then (some ((-1), 0)) else (if 0 < (l0.length : Int) then (if (wrap32 (rd l0 0)) < 128 then (some (wrap32 (rd l0 0), 1)) else (if (wrap32 (rd l0 0)) ≥ 192 then (if (wrap32 (rd l0 0)) < 224 then ((redpenref01_tail.f l0 1).bind fun t110 => (redpenref01_Next.j0 k l0 (wrap32 (rd l0 0)) t110)) else (redpenref01_Next.j0 k l0 (wrap32 (rd l0 0)) false)) else (redpenref01_Next.j0 k l0 (wrap32 (rd l0 0)) false))) else (none))
theorem redpenref01_Next.mono_l : ∀ k, (∀ y0 y1 y2, LeO (redpenref01_Next.j0 k y0 y1 y2) (redpenref01_Next.j0 (k + 1) y0 y1 y2)) ∧ (∀ y0 y1, LeO (redpenref01_Next.j1 k y0 y1) (redpenref01_Next.j1 (k + 1) y0 y1)) ∧ (∀ y0 y1 y2, LeO (redpenref01_Next.j2 k y0 y1 y2) (redpenref01_Next.j2 (k + 1) y0 y1 y2)) ∧ (∀ y0 y1, LeO (redpenref01_Next.j3 k y0 y1) (redpenref01_Next.j3 (k + 1) y0 y1)) ∧ (∀ y0 y1 y2, LeO (redpenref01_Next.j4 k y0 y1 y2) (redpenref01_Next.j4 (k + 1) y0 y1 y2))
  | 0 => ⟨fun _ _ _ r h => by simp [redpenref01_Next.j0] at h, fun _ _ r h => by simp [redpenref01_Next.j1] at h, fun _ _ _ r h => by simp [redpenref01_Next.j2] at h, fun _ _ r h => by simp [redpenref01_Next.j3] at h, fun _ _ _ r h => by simp [redpenref01_Next.j4] at h⟩
  | k + 1 => by
    obtain ⟨ih0, ih1, ih2, ih3, ih4⟩ := redpenref01_Next.mono_l k
    refine ⟨?_, ?_, ?_, ?_, ?_⟩
    · intro y0 y1 y2
      unfold redpenref01_Next.j0
      repeat' first
      | (with_reducible exact ih0 _ _ _)
      | (with_reducible exact ih1 _ _)
      | (with_reducible exact ih2 _ _ _)
      | (with_reducible exact ih3 _ _)
      | (with_reducible exact ih4 _ _ _)
      | (with_reducible exact LeO.refl _)
      | (with_reducible exact LeO.none _)
      | (with_reducible refine LeO.ite ?_ ?_)
      | (with_reducible refine LeO.bind ?_ (fun _ => ?_))
      | exact ih0 _ _ _
      | exact ih1 _ _
      | exact ih2 _ _ _
      | exact ih3 _ _
      | exact ih4 _ _ _
      | exact LeO.none _
      | refine LeO.ite ?_ ?_
      | refine LeO.bind ?_ (fun _ => ?_)
    · intro y0 y1
      unfold redpenref01_Next.j1
      repeat' first
      | (with_reducible exact ih0 _ _ _)
      | (with_reducible exact ih1 _ _)
      | (with_reducible exact ih2 _ _ _)
      | (with_reducible exact ih3 _ _)
      | (with_reducible exact ih4 _ _ _)
      | (with_reducible exact LeO.refl _)
      | (with_reducible exact LeO.none _)
      | (with_reducible refine LeO.ite ?_ ?_)
      | (with_reducible refine LeO.bind ?_ (fun _ => ?_))
      | exact ih0 _ _ _
      | exact ih1 _ _
      | exact ih2 _ _ _
      | exact ih3 _ _
      | exact ih4 _ _ _
      | exact LeO.none _
      | refine LeO.ite ?_ ?_
      | refine LeO.bind ?_ (fun _ => ?_)
    · intro y0 y1 y2
      unfold redpenref01_Next.j2
      repeat' first
      | (with_reducible exact ih0 _ _ _)
      | (with_reducible exact ih1 _ _)
      | (with_reducible exact ih2 _ _ _)
      | (with_reducible exact ih3 _ _)
      | (with_reducible exact ih4 _ _ _)
      | (with_reducible exact LeO.refl _)
      | (with_reducible exact LeO.none _)
      | (with_reducible refine LeO.ite ?_ ?_)
      | (with_reducible refine LeO.bind ?_ (fun _ => ?_))
      | exact ih0 _ _ _
      | exact ih1 _ _
      | exact ih2 _ _ _
      | exact ih3 _ _
      | exact ih4 _ _ _
      | exact LeO.none _
      | refine LeO.ite ?_ ?_
      | refine LeO.bind ?_ (fun _ => ?_)
    · intro y0 y1
      unfold redpenref01_Next.j3
      repeat' first
      | (with_reducible exact ih0 _ _ _)
      | (with_reducible exact ih1 _ _)
      | (with_reducible exact ih2 _ _ _)
      | (with_reducible exact ih3 _ _)
      | (with_reducible exact ih4 _ _ _)
      | (with_reducible exact LeO.refl _)
      | (with_reducible exact LeO.none _)
      | (with_reducible refine LeO.ite ?_ ?_)
      | (with_reducible refine LeO.bind ?_ (fun _ => ?_))
      | exact ih0 _ _ _
      | exact ih1 _ _
      | exact ih2 _ _ _
      | exact ih3 _ _
      | exact ih4 _ _ _
      | exact LeO.none _
      | refine LeO.ite ?_ ?_
      | refine LeO.bind ?_ (fun _ => ?_)
    · intro y0 y1 y2
      unfold redpenref01_Next.j4
      repeat' first
      | (with_reducible exact ih0 _ _ _)
      | (with_reducible exact ih1 _ _)
      | (with_reducible exact ih2 _ _ _)
      | (with_reducible exact ih3 _ _)
      | (with_reducible exact ih4 _ _ _)
      | (with_reducible exact LeO.refl _)
      | (with_reducible exact LeO.none _)
      | (with_reducible refine LeO.ite ?_ ?_)
      | (with_reducible refine LeO.bind ?_ (fun _ => ?_))
      | exact ih0 _ _ _
      | exact ih1 _ _
      | exact ih2 _ _ _
      | exact ih3 _ _
      | exact ih4 _ _ _
      | exact LeO.none _
      | refine LeO.ite ?_ ?_
      | refine LeO.bind ?_ (fun _ => ?_)
theorem redpenref01_Next.mono : ∀ a0 k, LeO (redpenref01_Next.f k a0) (redpenref01_Next.f (k + 1) a0) := by
  intro a0 k
  obtain ⟨ih0, ih1, ih2, ih3, ih4⟩ := redpenref01_Next.mono_l k
  unfold redpenref01_Next.f
  repeat' first
      | (with_reducible exact ih0 _ _ _)
      | (with_reducible exact ih1 _ _)
      | (with_reducible exact ih2 _ _ _)
      | (with_reducible exact ih3 _ _)
      | (with_reducible exact ih4 _ _ _)
      | (with_reducible exact LeO.refl _)
      | (with_reducible exact LeO.none _)
      | (with_reducible refine LeO.ite ?_ ?_)
      | (with_reducible refine LeO.bind ?_ (fun _ => ?_))
      | exact ih0 _ _ _
      | exact ih1 _ _
      | exact ih2 _ _ _
      | exact ih3 _ _
      | exact ih4 _ _ _
      | exact LeO.none _
      | refine LeO.ite ?_ ?_
      | refine LeO.bind ?_ (fun _ => ?_)
set_option maxHeartbeats 8000000 in
set_option maxRecDepth 100000 in
theorem redpenref01_Next.calls (k : Nat) (A0 : Option Addr) (c0 : Nat) (l0 : List Int) (r1 : Int) (r2 : Int) (w : World) (hr0 : Kd.C (Kd.int .u8) w A0 l0.length l0) (hc0 : l0.length ≤ c0) (h : redpenref01_Next.f k l0 = some (r1, r2)) :
    Calls Tryd.prog 32 #[.slice A0 l0.length c0] w fun e w' => e = .returned (.tuple #[.int .i32 r1, .int .i64 r2]) ∧ Drawn0 w w' := by
  have HR0 := Aside0.mk hr0
  have HC0 := Aside0.mk hc0
  clear hr0 hc0
  have H : (if (l0.length : Int) = 0 then (some ((-1), 0)) else (if 0 < (l0.length : Int) then (if (wrap32 (rd l0 0)) < 128 then (some (wrap32 (rd l0 0), 1)) else (if (wrap32 (rd l0 0)) ≥ 192 then (if (wrap32 (rd l0 0)) < 224 then ((redpenref01_tail.f l0 1).bind fun t110 => (redpenref01_Next.j0 k l0 (wrap32 (rd l0 0)) t110)) else (redpenref01_Next.j0 k l0 (wrap32 (rd l0 0)) false)) else (redpenref01_Next.j0 k l0 (wrap32 (rd l0 0)) false))) else (none))) = some (r1, r2) := h
  clear h
  by_cases c2 : (l0.length : Int) = 0
  · rw [if_pos c2] at H
    have c2b0 : ((l0.length : Int) == 0) = true := beq_iff_eq.mpr c2
    have c2b1 : ((l0.length : Int) != 0) = false := bne_eq_false_iff_eq.mpr c2
    clear c2
    simp only [Option.some.injEq, Prod.mk.injEq] at H
    obtain ⟨rfl, rfl⟩ := H
    go_enter Tryd.func32, Tryd.ntmps32
    go_wp2
    repeat (go_quiet (fail); try go_wp2)
    go_ret2
    exact ⟨by first | rfl | (simp; done) | (simp [*]; done), by repeat (first | exact Drawn0.refl _ | apply Drawn0.step)⟩
  · rw [if_neg c2] at H
    have c2b0 : ((l0.length : Int) == 0) = false := beq_eq_false_iff_ne.mpr c2
    have c2b1 : ((l0.length : Int) != 0) = true := bne_iff_ne.mpr c2
    have c2b2 : ¬ (l0 = []) := fun h_ => c2 (by rw [h_]; rfl)
    by_cases c3 : 0 < (l0.length : Int)
    · rw [if_pos c3] at H
      have c3b0 : decide (0 < (l0.length : Int)) = true := decide_eq_true c3
      have c3b1 : decide (0 < l0.length) = true := decide_eq_true (by omega)
      clear c3
      by_cases c4 : (wrap32 (rd l0 0)) < 128
      · rw [if_pos c4] at H
        have c4b0 : decide ((wrap32 (rd l0 0)) < 128) = true := decide_eq_true c4
        clear c4
        simp only [Option.some.injEq, Prod.mk.injEq] at H
        obtain ⟨rfl, rfl⟩ := H
        have p109 : 0 ≤ (0 : Int) := (by omega)
        have q109 : 0 < (l0.length : Int) := of_decide_eq_true (by first | (with_reducible assumption) | assumption)
        obtain ⟨ad109, e109, hx109_0⟩ := Kd.at_int HR0.out 0 p109 q109
        cases e109
        have qi109 : (0 < l0.length) = True := eq_true (by omega)
        (try rw [show ((0 : Int)).toNat = 0 from rfl] at hx109_0)
        (try rw [Addr.add_zero'] at hx109_0)
        replace p109 := eq_true p109
        replace q109 := eq_true q109
        go_enter Tryd.func32, Tryd.ntmps32
        go_wp2
        repeat (go_quiet (fail); try go_wp2)
        go_ret2
        exact ⟨by first | rfl | (simp; done) | (simp [*]; done), by repeat (first | exact Drawn0.refl _ | apply Drawn0.step)⟩
      · rw [if_neg c4] at H
        have c4b0 : decide ((wrap32 (rd l0 0)) < 128) = false := decide_eq_false c4
        clear c4
        have HC5 := Aside0.mk H
        clear H
        have p109 : 0 ≤ (0 : Int) := (by omega)
        have q109 : 0 < (l0.length : Int) := of_decide_eq_true (by first | (with_reducible assumption) | assumption)
        obtain ⟨ad109, e109, hx109_0⟩ := Kd.at_int HR0.out 0 p109 q109
        cases e109
        have qi109 : (0 < l0.length) = True := eq_true (by omega)
        (try rw [show ((0 : Int)).toNat = 0 from rfl] at hx109_0)
        (try rw [Addr.add_zero'] at hx109_0)
        replace p109 := eq_true p109
        replace q109 := eq_true q109
        go_enter Tryd.func32, Tryd.ntmps32
        go_upto_region 6 with (fail)
        repeat (go_quiet (fail); go_upto_region 6 with (fail))
        go_cut [27] (fun v27 wc => ∃ (kq : Nat) (x27_4 : Bool), v27 = .bool x27_4 ∧ Aside0 (redpenref01_Next.j0 kq l0 (wrap32 (rd l0 0)) x27_4 = some (r1, r2)) ∧ Aside0 (kq ≤ k) ∧ Drawn0 w wc)
        case first =>
          have H := HC5.out
          clear HC5
          by_cases c6 : (wrap32 (rd l0 0)) ≥ 192
          · rw [if_pos c6] at H
            have c6b0 : decide (192 ≤ (wrap32 (rd l0 0))) = true := decide_eq_true c6
            clear c6
            (first | rw [c6b0] | (simp only [i64_w, i32_w]; rw [c6b0]) | skip)
            by_cases c7 : (wrap32 (rd l0 0)) < 224
            · rw [if_pos c7] at H
              have c7b0 : decide ((wrap32 (rd l0 0)) < 224) = true := decide_eq_true c7
              clear c7
              replace H := Option.bind_eq_some_iff.mp H
              obtain ⟨t110, A80, H⟩ := H
              replace H : (redpenref01_Next.j0 k l0 (wrap32 (rd l0 0)) t110) = some (r1, r2) := H
              have A8 := Aside0.mk A80
              clear A80
              have H' := Aside0.mk H
              clear H
              go_wp2_with (first | (go_at_call 46; (with_reducible refine (redpenref01_tail.calls _ _ l0 1 t110 _ ?side1 ?side2 A8.out).mono ?_); (case side1 => repeat (first | exact HR0.out | (with_reducible refine Kd.C_alloc ?_ _) | (with_reducible refine Kd.C_drewN ?_ _) | (with_reducible refine Kd.C_drew ?_))); (case side2 => exact HC0.out); rintro e w' ⟨rfl, ⟨nd, rfl⟩⟩; (try first | exact ⟨rfl, _, World.drewN_drewN _ _ _⟩ | exact ⟨rfl, _, Eq.trans (World.drewN_drewN _ _ _) (congrArg (World.drewN _) (Nat.add_assoc _ _ _))⟩)))
              repeat (go_quiet (first | (go_at_call 46; (with_reducible refine (redpenref01_tail.calls _ _ l0 1 t110 _ ?side1 ?side2 A8.out).mono ?_); (case side1 => repeat (first | exact HR0.out | (with_reducible refine Kd.C_alloc ?_ _) | (with_reducible refine Kd.C_drewN ?_ _) | (with_reducible refine Kd.C_drew ?_))); (case side2 => exact HC0.out); rintro e w' ⟨rfl, ⟨nd, rfl⟩⟩; (try first | exact ⟨rfl, _, World.drewN_drewN _ _ _⟩ | exact ⟨rfl, _, Eq.trans (World.drewN_drewN _ _ _) (congrArg (World.drewN _) (Nat.add_assoc _ _ _))⟩))); try go_wp2_with (first | (go_at_call 46; (with_reducible refine (redpenref01_tail.calls _ _ l0 1 t110 _ ?side1 ?side2 A8.out).mono ?_); (case side1 => repeat (first | exact HR0.out | (with_reducible refine Kd.C_alloc ?_ _) | (with_reducible refine Kd.C_drewN ?_ _) | (with_reducible refine Kd.C_drew ?_))); (case side2 => exact HC0.out); rintro e w' ⟨rfl, ⟨nd, rfl⟩⟩; (try first | exact ⟨rfl, _, World.drewN_drewN _ _ _⟩ | exact ⟨rfl, _, Eq.trans (World.drewN_drewN _ _ _) (congrArg (World.drewN _) (Nat.add_assoc _ _ _))⟩))))
              go_meet
              case rel => exact ⟨_, (t110), (by first | rfl | (simp; done) | (simp [*]; done)), H', ⟨by first | omega | exact Nat.le_refl _⟩, by repeat (first | exact Drawn0.refl _ | apply Drawn0.step)⟩
            · rw [if_neg c7] at H
              have c7b0 : decide ((wrap32 (rd l0 0)) < 224) = false := decide_eq_false c7
              clear c7
              have H' := Aside0.mk H
              clear H
              go_wp2
              repeat (go_quiet (fail); try go_wp2)
              go_meet
              case rel => exact ⟨_, (false), (by first | rfl | (simp; done) | (simp [*]; done)), H', ⟨by first | omega | exact Nat.le_refl _⟩, by repeat (first | exact Drawn0.refl _ | apply Drawn0.step)⟩
          · rw [if_neg c6] at H
            have c6b0 : decide (192 ≤ (wrap32 (rd l0 0))) = false := decide_eq_false c6
            clear c6
            (first | rw [c6b0] | (simp only [i64_w, i32_w]; rw [c6b0]) | skip)
            have H' := Aside0.mk H
            clear H
            go_wp2
            repeat (go_quiet (fail); try go_wp2)
            go_meet
            case rel => exact ⟨_, (false), (by first | rfl | (simp; done) | (simp [*]; done)), H', ⟨by first | omega | exact Nat.le_refl _⟩, by repeat (first | exact Drawn0.refl _ | apply Drawn0.step)⟩
        case rest =>
          clear HC5
          try clear p1
          try clear q1
          try clear hx1
          try clear qi1
          try clear c2
          try clear c2b0
          try clear c2b1
          try clear c2b2
          try clear p2
          try clear c3
          try clear c3b0
          try clear c3b1
          try clear p3
          try clear c4
          try clear c4b0
          try clear c6
          try clear c6b0
          try clear c7
          try clear c7b0
          try clear hx109_0
          try clear p109
          try clear q109
          obtain ⟨kq, x27_4, rfl, HA, HJ4, ⟨mc4, rfl⟩⟩ := hcut
          cases kq with
          | zero => exact absurd HA.out (by simp [redpenref01_Next.j0])
          | succ kj4 =>
            have H := HA.out
            clear HA
            simp only [redpenref01_Next.j0] at H
            have HC9 := Aside0.mk H
            clear H
            go_upto_if 27 with (fail)
            repeat (go_quiet (fail); go_upto_if 27 with (fail))
            go_cut [] (fun wc => ∃ (kq : Nat), Aside0 (redpenref01_Next.j1 kq l0 (wrap32 (rd l0 0)) = some (r1, r2)) ∧ Aside0 (kq ≤ kj4) ∧ Drawn0 w wc)
            case first =>
              have H := HC9.out
              clear HC9
              by_cases c10 : x27_4 = true
              · subst c10
                have H1 : (if 1 < (l0.length : Int) then (if (wrap32 ((wrap32 ((wrap32 ((wrap32 ((wrap32 (rd l0 0)) - 192)) * 64)) + (wrap32 (rd l0 1)))) - 128)) ≥ 128 then (some (wrap32 ((wrap32 ((wrap32 ((wrap32 ((wrap32 (rd l0 0)) - 192)) * 64)) + (wrap32 (rd l0 1)))) - 128), 2)) else (redpenref01_Next.j1 kj4 l0 (wrap32 (rd l0 0)))) else (none)) = some (r1, r2) := by rw [if_pos rfl] at H; exact H
                clear H
                have H := H1
                clear H1
                by_cases c11 : 1 < (l0.length : Int)
                · rw [if_pos c11] at H
                  have c11b0 : decide (1 < (l0.length : Int)) = true := decide_eq_true c11
                  have c11b1 : decide (1 < l0.length) = true := decide_eq_true (by omega)
                  clear c11
                  (first | rw [c11b0] | (simp only [i64_w, i32_w]; rw [c11b0]) | skip)
                  by_cases c12 : (wrap32 ((wrap32 ((wrap32 ((wrap32 ((wrap32 (rd l0 0)) - 192)) * 64)) + (wrap32 (rd l0 1)))) - 128)) ≥ 128
                  · rw [if_pos c12] at H
                    have c12b0 : decide (128 ≤ (wrap32 ((wrap32 ((wrap32 ((wrap32 ((wrap32 (rd l0 0)) - 192)) * 64)) + (wrap32 (rd l0 1)))) - 128))) = true := decide_eq_true c12
                    clear c12
                    simp only [Option.some.injEq, Prod.mk.injEq] at H
                    obtain ⟨rfl, rfl⟩ := H
                    have p111 : 0 ≤ (1 : Int) := (by omega)
                    have q111 : 1 < (l0.length : Int) := of_decide_eq_true (by first | (with_reducible assumption) | assumption)
                    obtain ⟨ad111, e111, hx111_0⟩ := Kd.at_int HR0.out 1 p111 q111
                    obtain rfl : ad109 = ad111 := (by injection e111)
                    (try simp only [show (1 : Int).toNat = 1 from rfl, Nat.reduceMul, Nat.reduceEqDiff, Go.Addr.add, ↓reduceIte] at hx111_0)
                    have qi111 : (1 < l0.length) = True := eq_true (by omega)
                    (try rw [show ((1 : Int)).toNat = 1 from rfl] at hx111_0)
                    replace p111 := eq_true p111
                    replace q111 := eq_true q111
                    go_wp2
                    repeat (go_quiet (fail); try go_wp2)
                    go_ret2
                    exact ⟨by first | rfl | (simp; done) | (simp [*]; done), by repeat (first | exact Drawn0.refl _ | apply Drawn0.step)⟩
                  · rw [if_neg c12] at H
                    have c12b0 : decide (128 ≤ (wrap32 ((wrap32 ((wrap32 ((wrap32 ((wrap32 (rd l0 0)) - 192)) * 64)) + (wrap32 (rd l0 1)))) - 128))) = false := decide_eq_false c12
                    clear c12
                    have H' := Aside0.mk H
                    clear H
                    have p111 : 0 ≤ (1 : Int) := (by omega)
                    have q111 : 1 < (l0.length : Int) := of_decide_eq_true (by first | (with_reducible assumption) | assumption)
                    obtain ⟨ad111, e111, hx111_0⟩ := Kd.at_int HR0.out 1 p111 q111
                    obtain rfl : ad109 = ad111 := (by injection e111)
                    (try simp only [show (1 : Int).toNat = 1 from rfl, Nat.reduceMul, Nat.reduceEqDiff, Go.Addr.add, ↓reduceIte] at hx111_0)
                    have qi111 : (1 < l0.length) = True := eq_true (by omega)
                    (try rw [show ((1 : Int)).toNat = 1 from rfl] at hx111_0)
                    replace p111 := eq_true p111
                    replace q111 := eq_true q111
                    go_wp2
                    repeat (go_quiet (fail); try go_wp2)
                    go_meet
                    case rel => exact ⟨_, H', ⟨by have := HJ4.out; first | omega | exact Nat.le_refl _⟩, by repeat (first | exact Drawn0.refl _ | apply Drawn0.step)⟩
                · rw [if_neg c11] at H
                  exact absurd H (by simp)
              · replace c10 := Bool.eq_false_iff.mpr c10
                subst c10
                have H1 : (redpenref01_Next.j1 kj4 l0 (wrap32 (rd l0 0))) = some (r1, r2) := by rw [if_neg (show ¬ (false = true) by decide)] at H; exact H
                clear H
                have H := H1
                clear H1
                have H' := Aside0.mk H
                clear H
                go_wp2
                repeat (go_quiet (fail); try go_wp2)
                go_meet
                case rel => exact ⟨_, H', ⟨by have := HJ4.out; first | omega | exact Nat.le_refl _⟩, by repeat (first | exact Drawn0.refl _ | apply Drawn0.step)⟩
            case rest =>
              clear HC9
              try clear c1
              try clear p1
              try clear q1
              try clear hx1
              try clear qi1
              try clear c2
              try clear c2b0
              try clear c2b1
              try clear c2b2
              try clear p2
              try clear c3
              try clear c3b0
              try clear c3b1
              try clear p3
              try clear c4
              try clear c4b0
              try clear c6
              try clear c6b0
              try clear c7
              try clear c7b0
              try clear c10
              try clear p10
              try clear q10
              try clear hx10
              try clear qi10
              try clear c11
              try clear c11b0
              try clear c11b1
              try clear p11
              try clear q11
              try clear hx11
              try clear qi11
              try clear c12
              try clear c12b0
              try clear hx109_0
              try clear hx111_0
              try clear p1
              try clear p109
              try clear p111
              try clear p2
              try clear p3
              try clear q1
              try clear q109
              try clear q111
              obtain ⟨kq, HA, HJ8, ⟨mc8, rfl⟩⟩ := hcut
              cases kq with
              | zero => exact absurd HA.out (by simp [redpenref01_Next.j1])
              | succ kj8 =>
                have H := HA.out
                clear HA
                simp only [redpenref01_Next.j1] at H
                have HC13 := Aside0.mk H
                clear H
                go_upto_region 10 with (fail)
                repeat (go_quiet (fail); go_upto_region 10 with (fail))
                go_cut [53] (fun v53 wc => ∃ (kq : Nat) (x53_12 : Bool), v53 = .bool x53_12 ∧ Aside0 (redpenref01_Next.j2 kq l0 (wrap32 (rd l0 0)) x53_12 = some (r1, r2)) ∧ Aside0 (kq ≤ kj8) ∧ Drawn0 w wc)
                case first =>
                  have H := HC13.out
                  clear HC13
                  by_cases c14 : (wrap32 (rd l0 0)) ≥ 224
                  · rw [if_pos c14] at H
                    have c14b0 : decide (224 ≤ (wrap32 (rd l0 0))) = true := decide_eq_true c14
                    clear c14
                    (first | rw [c14b0] | (simp only [i64_w, i32_w]; rw [c14b0]) | skip)
                    by_cases c15 : (wrap32 (rd l0 0)) < 240
                    · rw [if_pos c15] at H
                      have c15b0 : decide ((wrap32 (rd l0 0)) < 240) = true := decide_eq_true c15
                      clear c15
                      replace H := Option.bind_eq_some_iff.mp H
                      obtain ⟨t112, A160, H⟩ := H
                      replace H : (if t112 = true then ((redpenref01_tail.f l0 2).bind fun t113 => (redpenref01_Next.j2 kj8 l0 (wrap32 (rd l0 0)) t113)) else (redpenref01_Next.j2 kj8 l0 (wrap32 (rd l0 0)) false)) = some (r1, r2) := H
                      have A16 := Aside0.mk A160
                      clear A160
                      by_cases c17 : t112 = true
                      · subst c17
                        have H1 : ((redpenref01_tail.f l0 2).bind fun t113 => (redpenref01_Next.j2 kj8 l0 (wrap32 (rd l0 0)) t113)) = some (r1, r2) := by rw [if_pos rfl] at H; exact H
                        clear H
                        have H := H1
                        clear H1
                        replace H := Option.bind_eq_some_iff.mp H
                        obtain ⟨t113, A180, H⟩ := H
                        replace H : (redpenref01_Next.j2 kj8 l0 (wrap32 (rd l0 0)) t113) = some (r1, r2) := H
                        have A18 := Aside0.mk A180
                        clear A180
                        have H' := Aside0.mk H
                        clear H
                        go_wp2_with (first | (go_at_call 46; (with_reducible refine (redpenref01_tail.calls _ _ l0 1 true _ ?side1 ?side2 A16.out).mono ?_); (case side1 => repeat (first | exact HR0.out | (with_reducible refine Kd.C_alloc ?_ _) | (with_reducible refine Kd.C_drewN ?_ _) | (with_reducible refine Kd.C_drew ?_))); (case side2 => exact HC0.out); rintro e w' ⟨rfl, ⟨nd, rfl⟩⟩; (try first | exact ⟨rfl, _, World.drewN_drewN _ _ _⟩ | exact ⟨rfl, _, Eq.trans (World.drewN_drewN _ _ _) (congrArg (World.drewN _) (Nat.add_assoc _ _ _))⟩)) | (go_at_call 46; (with_reducible refine (redpenref01_tail.calls _ _ l0 2 t113 _ ?side1 ?side2 A18.out).mono ?_); (case side1 => repeat (first | exact HR0.out | (with_reducible refine Kd.C_alloc ?_ _) | (with_reducible refine Kd.C_drewN ?_ _) | (with_reducible refine Kd.C_drew ?_))); (case side2 => exact HC0.out); rintro e w' ⟨rfl, ⟨nd, rfl⟩⟩; (try first | exact ⟨rfl, _, World.drewN_drewN _ _ _⟩ | exact ⟨rfl, _, Eq.trans (World.drewN_drewN _ _ _) (congrArg (World.drewN _) (Nat.add_assoc _ _ _))⟩)))
                        repeat (go_quiet (first | (go_at_call 46; (with_reducible refine (redpenref01_tail.calls _ _ l0 1 true _ ?side1 ?side2 A16.out).mono ?_); (case side1 => repeat (first | exact HR0.out | (with_reducible refine Kd.C_alloc ?_ _) | (with_reducible refine Kd.C_drewN ?_ _) | (with_reducible refine Kd.C_drew ?_))); (case side2 => exact HC0.out); rintro e w' ⟨rfl, ⟨nd, rfl⟩⟩; (try first | exact ⟨rfl, _, World.drewN_drewN _ _ _⟩ | exact ⟨rfl, _, Eq.trans (World.drewN_drewN _ _ _) (congrArg (World.drewN _) (Nat.add_assoc _ _ _))⟩)) | (go_at_call 46; (with_reducible refine (redpenref01_tail.calls _ _ l0 2 t113 _ ?side1 ?side2 A18.out).mono ?_); (case side1 => repeat (first | exact HR0.out | (with_reducible refine Kd.C_alloc ?_ _) | (with_reducible refine Kd.C_drewN ?_ _) | (with_reducible refine Kd.C_drew ?_))); (case side2 => exact HC0.out); rintro e w' ⟨rfl, ⟨nd, rfl⟩⟩; (try first | exact ⟨rfl, _, World.drewN_drewN _ _ _⟩ | exact ⟨rfl, _, Eq.trans (World.drewN_drewN _ _ _) (congrArg (World.drewN _) (Nat.add_assoc _ _ _))⟩))); try go_wp2_with (first | (go_at_call 46; (with_reducible refine (redpenref01_tail.calls _ _ l0 1 true _ ?side1 ?side2 A16.out).mono ?_); (case side1 => repeat (first | exact HR0.out | (with_reducible refine Kd.C_alloc ?_ _) | (with_reducible refine Kd.C_drewN ?_ _) | (with_reducible refine Kd.C_drew ?_))); (case side2 => exact HC0.out); rintro e w' ⟨rfl, ⟨nd, rfl⟩⟩; (try first | exact ⟨rfl, _, World.drewN_drewN _ _ _⟩ | exact ⟨rfl, _, Eq.trans (World.drewN_drewN _ _ _) (congrArg (World.drewN _) (Nat.add_assoc _ _ _))⟩)) | (go_at_call 46; (with_reducible refine (redpenref01_tail.calls _ _ l0 2 t113 _ ?side1 ?side2 A18.out).mono ?_); (case side1 => repeat (first | exact HR0.out | (with_reducible refine Kd.C_alloc ?_ _) | (with_reducible refine Kd.C_drewN ?_ _) | (with_reducible refine Kd.C_drew ?_))); (case side2 => exact HC0.out); rintro e w' ⟨rfl, ⟨nd, rfl⟩⟩; (try first | exact ⟨rfl, _, World.drewN_drewN _ _ _⟩ | exact ⟨rfl, _, Eq.trans (World.drewN_drewN _ _ _) (congrArg (World.drewN _) (Nat.add_assoc _ _ _))⟩))))
                        go_meet
                        case rel => exact ⟨_, (t113), (by first | rfl | (simp; done) | (simp [*]; done)), H', ⟨by have := HJ4.out; have := HJ8.out; first | omega | exact Nat.le_refl _⟩, by repeat (first | exact Drawn0.refl _ | apply Drawn0.step)⟩
                      · replace c17 := Bool.eq_false_iff.mpr c17
                        subst c17
                        have H1 : (redpenref01_Next.j2 kj8 l0 (wrap32 (rd l0 0)) false) = some (r1, r2) := by rw [if_neg (show ¬ (false = true) by decide)] at H; exact H
                        clear H
                        have H := H1
                        clear H1
                        have H' := Aside0.mk H
                        clear H
                        go_wp2_with (first | (go_at_call 46; (with_reducible refine (redpenref01_tail.calls _ _ l0 1 false _ ?side1 ?side2 A16.out).mono ?_); (case side1 => repeat (first | exact HR0.out | (with_reducible refine Kd.C_alloc ?_ _) | (with_reducible refine Kd.C_drewN ?_ _) | (with_reducible refine Kd.C_drew ?_))); (case side2 => exact HC0.out); rintro e w' ⟨rfl, ⟨nd, rfl⟩⟩; (try first | exact ⟨rfl, _, World.drewN_drewN _ _ _⟩ | exact ⟨rfl, _, Eq.trans (World.drewN_drewN _ _ _) (congrArg (World.drewN _) (Nat.add_assoc _ _ _))⟩)))
                        repeat (go_quiet (first | (go_at_call 46; (with_reducible refine (redpenref01_tail.calls _ _ l0 1 false _ ?side1 ?side2 A16.out).mono ?_); (case side1 => repeat (first | exact HR0.out | (with_reducible refine Kd.C_alloc ?_ _) | (with_reducible refine Kd.C_drewN ?_ _) | (with_reducible refine Kd.C_drew ?_))); (case side2 => exact HC0.out); rintro e w' ⟨rfl, ⟨nd, rfl⟩⟩; (try first | exact ⟨rfl, _, World.drewN_drewN _ _ _⟩ | exact ⟨rfl, _, Eq.trans (World.drewN_drewN _ _ _) (congrArg (World.drewN _) (Nat.add_assoc _ _ _))⟩))); try go_wp2_with (first | (go_at_call 46; (with_reducible refine (redpenref01_tail.calls _ _ l0 1 false _ ?side1 ?side2 A16.out).mono ?_); (case side1 => repeat (first | exact HR0.out | (with_reducible refine Kd.C_alloc ?_ _) | (with_reducible refine Kd.C_drewN ?_ _) | (with_reducible refine Kd.C_drew ?_))); (case side2 => exact HC0.out); rintro e w' ⟨rfl, ⟨nd, rfl⟩⟩; (try first | exact ⟨rfl, _, World.drewN_drewN _ _ _⟩ | exact ⟨rfl, _, Eq.trans (World.drewN_drewN _ _ _) (congrArg (World.drewN _) (Nat.add_assoc _ _ _))⟩))))
                        go_meet
                        case rel => exact ⟨_, (false), (by first | rfl | (simp; done) | (simp [*]; done)), H', ⟨by have := HJ4.out; have := HJ8.out; first | omega | exact Nat.le_refl _⟩, by repeat (first | exact Drawn0.refl _ | apply Drawn0.step)⟩
                    · rw [if_neg c15] at H
                      have c15b0 : decide ((wrap32 (rd l0 0)) < 240) = false := decide_eq_false c15
                      clear c15
                      have H' := Aside0.mk H
                      clear H
                      go_wp2
                      repeat (go_quiet (fail); try go_wp2)
                      go_meet
                      case rel => exact ⟨_, (false), (by first | rfl | (simp; done) | (simp [*]; done)), H', ⟨by have := HJ4.out; have := HJ8.out; first | omega | exact Nat.le_refl _⟩, by repeat (first | exact Drawn0.refl _ | apply Drawn0.step)⟩
                  · rw [if_neg c14] at H
                    have c14b0 : decide (224 ≤ (wrap32 (rd l0 0))) = false := decide_eq_false c14
                    clear c14
                    (first | rw [c14b0] | (simp only [i64_w, i32_w]; rw [c14b0]) | skip)
                    have H' := Aside0.mk H
                    clear H
                    go_wp2
                    repeat (go_quiet (fail); try go_wp2)
                    go_meet
                    case rel => exact ⟨_, (false), (by first | rfl | (simp; done) | (simp [*]; done)), H', ⟨by have := HJ4.out; have := HJ8.out; first | omega | exact Nat.le_refl _⟩, by repeat (first | exact Drawn0.refl _ | apply Drawn0.step)⟩
                case rest =>
                  clear HC13
                  try clear c1
                  try clear p1
                  try clear q1
                  try clear hx1
                  try clear qi1
                  try clear c2
                  try clear c2b0
                  try clear c2b1
                  try clear c2b2
                  try clear p2
                  try clear c3
                  try clear c3b0
                  try clear c3b1
                  try clear p3
                  try clear c4
                  try clear c4b0
                  try clear c6
                  try clear c6b0
                  try clear c7
                  try clear c7b0
                  try clear c8
                  try clear c10
                  try clear p10
                  try clear q10
                  try clear hx10
                  try clear qi10
                  try clear c11
                  try clear c11b0
                  try clear c11b1
                  try clear p11
                  try clear q11
                  try clear hx11
                  try clear qi11
                  try clear c12
                  try clear c12b0
                  try clear c14
                  try clear c14b0
                  try clear c15
                  try clear c15b0
                  try clear c17
                  try clear hx109_0
                  try clear hx111_0
                  try clear p1
                  try clear p10
                  try clear p109
                  try clear p11
                  try clear p111
                  try clear p2
                  try clear p3
                  try clear q1
                  try clear q10
                  try clear q109
                  try clear q11
                  try clear q111
                  obtain ⟨kq, x53_12, rfl, HA, HJ12, ⟨mc12, rfl⟩⟩ := hcut
                  cases kq with
                  | zero => exact absurd HA.out (by simp [redpenref01_Next.j2])
                  | succ kj12 =>
                    have H := HA.out
                    clear HA
                    simp only [redpenref01_Next.j2] at H
                    have HC19 := Aside0.mk H
                    clear H
                    go_upto_if 53 with (fail)
                    repeat (go_quiet (fail); go_upto_if 53 with (fail))
                    go_cut [] (fun wc => ∃ (kq : Nat), Aside0 (redpenref01_Next.j3 kq l0 (wrap32 (rd l0 0)) = some (r1, r2)) ∧ Aside0 (kq ≤ kj12) ∧ Drawn0 w wc)
                    case first =>
                      have H := HC19.out
                      clear HC19
                      by_cases c20 : x53_12 = true
                      · subst c20
                        have H1 : (if 1 < (l0.length : Int) then (if 2 < (l0.length : Int) then (if (wrap32 ((wrap32 ((wrap32 ((wrap32 ((wrap32 ((wrap32 (rd l0 0)) - 224)) * 4096)) + (wrap32 ((wrap32 ((wrap32 (rd l0 1)) - 128)) * 64)))) + (wrap32 (rd l0 2)))) - 128)) ≥ 2048 then (if (wrap32 ((wrap32 ((wrap32 ((wrap32 ((wrap32 ((wrap32 (rd l0 0)) - 224)) * 4096)) + (wrap32 ((wrap32 ((wrap32 (rd l0 1)) - 128)) * 64)))) + (wrap32 (rd l0 2)))) - 128)) < 55296 then (some (wrap32 ((wrap32 ((wrap32 ((wrap32 ((wrap32 ((wrap32 (rd l0 0)) - 224)) * 4096)) + (wrap32 ((wrap32 ((wrap32 (rd l0 1)) - 128)) * 64)))) + (wrap32 (rd l0 2)))) - 128), 3)) else (if (wrap32 ((wrap32 ((wrap32 ((wrap32 ((wrap32 ((wrap32 (rd l0 0)) - 224)) * 4096)) + (wrap32 ((wrap32 ((wrap32 (rd l0 1)) - 128)) * 64)))) + (wrap32 (rd l0 2)))) - 128)) > 57343 then (some (wrap32 ((wrap32 ((wrap32 ((wrap32 ((wrap32 ((wrap32 (rd l0 0)) - 224)) * 4096)) + (wrap32 ((wrap32 ((wrap32 (rd l0 1)) - 128)) * 64)))) + (wrap32 (rd l0 2)))) - 128), 3)) else (redpenref01_Next.j3 kj12 l0 (wrap32 (rd l0 0))))) else (redpenref01_Next.j3 kj12 l0 (wrap32 (rd l0 0)))) else (none)) else (none)) = some (r1, r2) := by rw [if_pos rfl] at H; exact H
                        clear H
                        have H := H1
                        clear H1
                        by_cases c21 : 1 < (l0.length : Int)
                        · rw [if_pos c21] at H
                          have c21b0 : decide (1 < (l0.length : Int)) = true := decide_eq_true c21
                          have c21b1 : decide (1 < l0.length) = true := decide_eq_true (by omega)
                          clear c21
                          (first | rw [c21b0] | (simp only [i64_w, i32_w]; rw [c21b0]) | skip)
                          by_cases c22 : 2 < (l0.length : Int)
                          · rw [if_pos c22] at H
                            have c22b0 : decide (2 < (l0.length : Int)) = true := decide_eq_true c22
                            have c22b1 : decide (2 < l0.length) = true := decide_eq_true (by omega)
                            clear c22
                            by_cases c23 : (wrap32 ((wrap32 ((wrap32 ((wrap32 ((wrap32 ((wrap32 (rd l0 0)) - 224)) * 4096)) + (wrap32 ((wrap32 ((wrap32 (rd l0 1)) - 128)) * 64)))) + (wrap32 (rd l0 2)))) - 128)) ≥ 2048
                            · rw [if_pos c23] at H
                              have c23b0 : decide (2048 ≤ (wrap32 ((wrap32 ((wrap32 ((wrap32 ((wrap32 ((wrap32 (rd l0 0)) - 224)) * 4096)) + (wrap32 ((wrap32 ((wrap32 (rd l0 1)) - 128)) * 64)))) + (wrap32 (rd l0 2)))) - 128))) = true := decide_eq_true c23
                              clear c23
                              by_cases c24 : (wrap32 ((wrap32 ((wrap32 ((wrap32 ((wrap32 ((wrap32 (rd l0 0)) - 224)) * 4096)) + (wrap32 ((wrap32 ((wrap32 (rd l0 1)) - 128)) * 64)))) + (wrap32 (rd l0 2)))) - 128)) < 55296
                              · rw [if_pos c24] at H
                                have c24b0 : decide ((wrap32 ((wrap32 ((wrap32 ((wrap32 ((wrap32 ((wrap32 (rd l0 0)) - 224)) * 4096)) + (wrap32 ((wrap32 ((wrap32 (rd l0 1)) - 128)) * 64)))) + (wrap32 (rd l0 2)))) - 128)) < 55296) = true := decide_eq_true c24
                                clear c24
                                simp only [Option.some.injEq, Prod.mk.injEq] at H
                                obtain ⟨rfl, rfl⟩ := H
                                have p114 : 0 ≤ (1 : Int) := (by omega)
                                have q114 : 1 < (l0.length : Int) := of_decide_eq_true (by first | (with_reducible assumption) | assumption)
                                obtain ⟨ad114, e114, hx114_0⟩ := Kd.at_int HR0.out 1 p114 q114
                                obtain rfl : ad109 = ad114 := (by injection e114)
                                (try simp only [show (1 : Int).toNat = 1 from rfl, Nat.reduceMul, Nat.reduceEqDiff, Go.Addr.add, ↓reduceIte] at hx114_0)
                                have qi114 : (1 < l0.length) = True := eq_true (by omega)
                                (try rw [show ((1 : Int)).toNat = 1 from rfl] at hx114_0)
                                replace p114 := eq_true p114
                                replace q114 := eq_true q114
                                have p115 : 0 ≤ (2 : Int) := (by omega)
                                have q115 : 2 < (l0.length : Int) := of_decide_eq_true (by first | (with_reducible assumption) | assumption)
                                obtain ⟨ad115, e115, hx115_0⟩ := Kd.at_int HR0.out 2 p115 q115
                                obtain rfl : ad109 = ad115 := (by injection e115)
                                (try simp only [show (2 : Int).toNat = 2 from rfl, Nat.reduceMul, Nat.reduceEqDiff, Go.Addr.add, ↓reduceIte] at hx115_0)
                                have qi115 : (2 < l0.length) = True := eq_true (by omega)
                                (try rw [show ((2 : Int)).toNat = 2 from rfl] at hx115_0)
                                replace p115 := eq_true p115
                                replace q115 := eq_true q115
                                go_wp2
                                repeat (go_quiet (fail); try go_wp2)
                                go_ret2
                                exact ⟨by first | rfl | (simp; done) | (simp [*]; done), by repeat (first | exact Drawn0.refl _ | apply Drawn0.step)⟩
                              · rw [if_neg c24] at H
                                have c24b0 : decide ((wrap32 ((wrap32 ((wrap32 ((wrap32 ((wrap32 ((wrap32 (rd l0 0)) - 224)) * 4096)) + (wrap32 ((wrap32 ((wrap32 (rd l0 1)) - 128)) * 64)))) + (wrap32 (rd l0 2)))) - 128)) < 55296) = false := decide_eq_false c24
                                clear c24
                                by_cases c25 : (wrap32 ((wrap32 ((wrap32 ((wrap32 ((wrap32 ((wrap32 (rd l0 0)) - 224)) * 4096)) + (wrap32 ((wrap32 ((wrap32 (rd l0 1)) - 128)) * 64)))) + (wrap32 (rd l0 2)))) - 128)) > 57343
                                · rw [if_pos c25] at H
                                  have c25b0 : decide (57343 < (wrap32 ((wrap32 ((wrap32 ((wrap32 ((wrap32 ((wrap32 (rd l0 0)) - 224)) * 4096)) + (wrap32 ((wrap32 ((wrap32 (rd l0 1)) - 128)) * 64)))) + (wrap32 (rd l0 2)))) - 128))) = true := decide_eq_true c25
                                  clear c25
                                  simp only [Option.some.injEq, Prod.mk.injEq] at H
                                  obtain ⟨rfl, rfl⟩ := H
                                  have p114 : 0 ≤ (1 : Int) := (by omega)
                                  have q114 : 1 < (l0.length : Int) := of_decide_eq_true (by first | (with_reducible assumption) | assumption)
                                  obtain ⟨ad114, e114, hx114_0⟩ := Kd.at_int HR0.out 1 p114 q114
                                  obtain rfl : ad109 = ad114 := (by injection e114)
                                  (try simp only [show (1 : Int).toNat = 1 from rfl, Nat.reduceMul, Nat.reduceEqDiff, Go.Addr.add, ↓reduceIte] at hx114_0)
                                  have qi114 : (1 < l0.length) = True := eq_true (by omega)
                                  (try rw [show ((1 : Int)).toNat = 1 from rfl] at hx114_0)
                                  replace p114 := eq_true p114
                                  replace q114 := eq_true q114
                                  have p115 : 0 ≤ (2 : Int) := (by omega)
                                  have q115 : 2 < (l0.length : Int) := of_decide_eq_true (by first | (with_reducible assumption) | assumption)
                                  obtain ⟨ad115, e115, hx115_0⟩ := Kd.at_int HR0.out 2 p115 q115
                                  obtain rfl : ad109 = ad115 := (by injection e115)
                                  (try simp only [show (2 : Int).toNat = 2 from rfl, Nat.reduceMul, Nat.reduceEqDiff, Go.Addr.add, ↓reduceIte] at hx115_0)
                                  have qi115 : (2 < l0.length) = True := eq_true (by omega)
                                  (try rw [show ((2 : Int)).toNat = 2 from rfl] at hx115_0)
                                  replace p115 := eq_true p115
                                  replace q115 := eq_true q115
                                  go_wp2
                                  repeat (go_quiet (fail); try go_wp2)
                                  go_ret2
                                  exact ⟨by first | rfl | (simp; done) | (simp [*]; done), by repeat (first | exact Drawn0.refl _ | apply Drawn0.step)⟩
                                · rw [if_neg c25] at H
                                  have c25b0 : decide (57343 < (wrap32 ((wrap32 ((wrap32 ((wrap32 ((wrap32 ((wrap32 (rd l0 0)) - 224)) * 4096)) + (wrap32 ((wrap32 ((wrap32 (rd l0 1)) - 128)) * 64)))) + (wrap32 (rd l0 2)))) - 128))) = false := decide_eq_false c25
                                  clear c25
                                  have H' := Aside0.mk H
                                  clear H
                                  have p114 : 0 ≤ (1 : Int) := (by omega)
                                  have q114 : 1 < (l0.length : Int) := of_decide_eq_true (by first | (with_reducible assumption) | assumption)
                                  obtain ⟨ad114, e114, hx114_0⟩ := Kd.at_int HR0.out 1 p114 q114
                                  obtain rfl : ad109 = ad114 := (by injection e114)
                                  (try simp only [show (1 : Int).toNat = 1 from rfl, Nat.reduceMul, Nat.reduceEqDiff, Go.Addr.add, ↓reduceIte] at hx114_0)
                                  have qi114 : (1 < l0.length) = True := eq_true (by omega)
                                  (try rw [show ((1 : Int)).toNat = 1 from rfl] at hx114_0)
                                  replace p114 := eq_true p114
                                  replace q114 := eq_true q114
                                  have p115 : 0 ≤ (2 : Int) := (by omega)
                                  have q115 : 2 < (l0.length : Int) := of_decide_eq_true (by first | (with_reducible assumption) | assumption)
                                  obtain ⟨ad115, e115, hx115_0⟩ := Kd.at_int HR0.out 2 p115 q115
                                  obtain rfl : ad109 = ad115 := (by injection e115)
                                  (try simp only [show (2 : Int).toNat = 2 from rfl, Nat.reduceMul, Nat.reduceEqDiff, Go.Addr.add, ↓reduceIte] at hx115_0)
                                  have qi115 : (2 < l0.length) = True := eq_true (by omega)
                                  (try rw [show ((2 : Int)).toNat = 2 from rfl] at hx115_0)
                                  replace p115 := eq_true p115
                                  replace q115 := eq_true q115
                                  go_wp2
                                  repeat (go_quiet (fail); try go_wp2)
                                  go_meet
                                  case rel => exact ⟨_, H', ⟨by have := HJ4.out; have := HJ8.out; have := HJ12.out; first | omega | exact Nat.le_refl _⟩, by repeat (first | exact Drawn0.refl _ | apply Drawn0.step)⟩
                            · rw [if_neg c23] at H
                              have c23b0 : decide (2048 ≤ (wrap32 ((wrap32 ((wrap32 ((wrap32 ((wrap32 ((wrap32 (rd l0 0)) - 224)) * 4096)) + (wrap32 ((wrap32 ((wrap32 (rd l0 1)) - 128)) * 64)))) + (wrap32 (rd l0 2)))) - 128))) = false := decide_eq_false c23
                              clear c23
                              have H' := Aside0.mk H
                              clear H
                              have p114 : 0 ≤ (1 : Int) := (by omega)
                              have q114 : 1 < (l0.length : Int) := of_decide_eq_true (by first | (with_reducible assumption) | assumption)
                              obtain ⟨ad114, e114, hx114_0⟩ := Kd.at_int HR0.out 1 p114 q114
                              obtain rfl : ad109 = ad114 := (by injection e114)
                              (try simp only [show (1 : Int).toNat = 1 from rfl, Nat.reduceMul, Nat.reduceEqDiff, Go.Addr.add, ↓reduceIte] at hx114_0)
                              have qi114 : (1 < l0.length) = True := eq_true (by omega)
                              (try rw [show ((1 : Int)).toNat = 1 from rfl] at hx114_0)
                              replace p114 := eq_true p114
                              replace q114 := eq_true q114
                              have p115 : 0 ≤ (2 : Int) := (by omega)
                              have q115 : 2 < (l0.length : Int) := of_decide_eq_true (by first | (with_reducible assumption) | assumption)
                              obtain ⟨ad115, e115, hx115_0⟩ := Kd.at_int HR0.out 2 p115 q115
                              obtain rfl : ad109 = ad115 := (by injection e115)
                              (try simp only [show (2 : Int).toNat = 2 from rfl, Nat.reduceMul, Nat.reduceEqDiff, Go.Addr.add, ↓reduceIte] at hx115_0)
                              have qi115 : (2 < l0.length) = True := eq_true (by omega)
                              (try rw [show ((2 : Int)).toNat = 2 from rfl] at hx115_0)
                              replace p115 := eq_true p115
                              replace q115 := eq_true q115
                              go_wp2
                              repeat (go_quiet (fail); try go_wp2)
                              go_meet
                              case rel => exact ⟨_, H', ⟨by have := HJ4.out; have := HJ8.out; have := HJ12.out; first | omega | exact Nat.le_refl _⟩, by repeat (first | exact Drawn0.refl _ | apply Drawn0.step)⟩
                          · rw [if_neg c22] at H
                            exact absurd H (by simp)
                        · rw [if_neg c21] at H
                          exact absurd H (by simp)
                      · replace c20 := Bool.eq_false_iff.mpr c20
                        subst c20
                        have H1 : (redpenref01_Next.j3 kj12 l0 (wrap32 (rd l0 0))) = some (r1, r2) := by rw [if_neg (show ¬ (false = true) by decide)] at H; exact H
                        clear H
                        have H := H1
                        clear H1
                        have H' := Aside0.mk H
                        clear H
                        go_wp2
                        repeat (go_quiet (fail); try go_wp2)
                        go_meet
                        case rel => exact ⟨_, H', ⟨by have := HJ4.out; have := HJ8.out; have := HJ12.out; first | omega | exact Nat.le_refl _⟩, by repeat (first | exact Drawn0.refl _ | apply Drawn0.step)⟩
                    case rest =>
                      clear HC19
                      try clear c1
                      try clear p1
                      try clear q1
                      try clear hx1
                      try clear qi1
                      try clear c2
                      try clear c2b0
                      try clear c2b1
                      try clear c2b2
                      try clear p2
                      try clear c3
                      try clear c3b0
                      try clear c3b1
                      try clear p3
                      try clear c4
                      try clear c4b0
                      try clear c6
                      try clear c6b0
                      try clear c7
                      try clear c7b0
                      try clear c8
                      try clear c10
                      try clear p10
                      try clear q10
                      try clear hx10
                      try clear qi10
                      try clear c11
                      try clear c11b0
                      try clear c11b1
                      try clear p11
                      try clear q11
                      try clear hx11
                      try clear qi11
                      try clear c12
                      try clear c12b0
                      try clear c14
                      try clear c14b0
                      try clear c15
                      try clear c15b0
                      try clear c17
                      try clear c20
                      try clear c21
                      try clear c21b0
                      try clear c21b1
                      try clear c22
                      try clear c22b0
                      try clear c22b1
                      try clear c23
                      try clear c23b0
                      try clear c24
                      try clear c24b0
                      try clear c25
                      try clear c25b0
                      try clear hx109_0
                      try clear hx111_0
                      try clear hx114_0
                      try clear hx115_0
                      try clear p1
                      try clear p10
                      try clear p109
                      try clear p11
                      try clear p111
                      try clear p114
                      try clear p115
                      try clear p2
                      try clear p3
                      try clear q1
                      try clear q10
                      try clear q109
                      try clear q11
                      try clear q111
                      try clear q114
                      try clear q115
                      obtain ⟨kq, HA, HJ18, ⟨mc18, rfl⟩⟩ := hcut
                      cases kq with
                      | zero => exact absurd HA.out (by simp [redpenref01_Next.j3])
                      | succ kj18 =>
                        have H := HA.out
                        clear HA
                        simp only [redpenref01_Next.j3] at H
                        have HC26 := Aside0.mk H
                        clear H
                        go_upto_region 14 with (fail)
                        repeat (go_quiet (fail); go_upto_region 14 with (fail))
                        go_cut [98] (fun v98 wc => ∃ (kq : Nat) (x98_25 : Bool), v98 = .bool x98_25 ∧ Aside0 (redpenref01_Next.j4 kq l0 (wrap32 (rd l0 0)) x98_25 = some (r1, r2)) ∧ Aside0 (kq ≤ kj18) ∧ Drawn0 w wc)
                        case first =>
                          have H := HC26.out
                          clear HC26
                          by_cases c27 : (wrap32 (rd l0 0)) ≥ 240
                          · rw [if_pos c27] at H
                            have c27b0 : decide (240 ≤ (wrap32 (rd l0 0))) = true := decide_eq_true c27
                            clear c27
                            (first | rw [c27b0] | (simp only [i64_w, i32_w]; rw [c27b0]) | skip)
                            by_cases c28 : (wrap32 (rd l0 0)) < 248
                            · rw [if_pos c28] at H
                              have c28b0 : decide ((wrap32 (rd l0 0)) < 248) = true := decide_eq_true c28
                              clear c28
                              replace H := Option.bind_eq_some_iff.mp H
                              obtain ⟨t116, A290, H⟩ := H
                              replace H : (if t116 = true then ((redpenref01_tail.f l0 2).bind fun t117 => (if t117 = true then ((redpenref01_tail.f l0 3).bind fun t118 => (redpenref01_Next.j4 kj18 l0 (wrap32 (rd l0 0)) t118)) else (redpenref01_Next.j4 kj18 l0 (wrap32 (rd l0 0)) false))) else (redpenref01_Next.j4 kj18 l0 (wrap32 (rd l0 0)) false)) = some (r1, r2) := H
                              have A29 := Aside0.mk A290
                              clear A290
                              by_cases c30 : t116 = true
                              · subst c30
                                have H1 : ((redpenref01_tail.f l0 2).bind fun t117 => (if t117 = true then ((redpenref01_tail.f l0 3).bind fun t118 => (redpenref01_Next.j4 kj18 l0 (wrap32 (rd l0 0)) t118)) else (redpenref01_Next.j4 kj18 l0 (wrap32 (rd l0 0)) false))) = some (r1, r2) := by rw [if_pos rfl] at H; exact H
                                clear H
                                have H := H1
                                clear H1
                                replace H := Option.bind_eq_some_iff.mp H
                                obtain ⟨t117, A310, H⟩ := H
                                replace H : (if t117 = true then ((redpenref01_tail.f l0 3).bind fun t118 => (redpenref01_Next.j4 kj18 l0 (wrap32 (rd l0 0)) t118)) else (redpenref01_Next.j4 kj18 l0 (wrap32 (rd l0 0)) false)) = some (r1, r2) := H
                                have A31 := Aside0.mk A310
                                clear A310
                                by_cases c32 : t117 = true
                                · subst c32
                                  have H1 : ((redpenref01_tail.f l0 3).bind fun t118 => (redpenref01_Next.j4 kj18 l0 (wrap32 (rd l0 0)) t118)) = some (r1, r2) := by rw [if_pos rfl] at H; exact H
                                  clear H
                                  have H := H1
                                  clear H1
                                  replace H := Option.bind_eq_some_iff.mp H
                                  obtain ⟨t118, A330, H⟩ := H
                                  replace H : (redpenref01_Next.j4 kj18 l0 (wrap32 (rd l0 0)) t118) = some (r1, r2) := H
                                  have A33 := Aside0.mk A330
                                  clear A330
                                  have H' := Aside0.mk H
                                  clear H
                                  go_wp2_with (first | (go_at_call 46; (with_reducible refine (redpenref01_tail.calls _ _ l0 1 true _ ?side1 ?side2 A29.out).mono ?_); (case side1 => repeat (first | exact HR0.out | (with_reducible refine Kd.C_alloc ?_ _) | (with_reducible refine Kd.C_drewN ?_ _) | (with_reducible refine Kd.C_drew ?_))); (case side2 => exact HC0.out); rintro e w' ⟨rfl, ⟨nd, rfl⟩⟩; (try first | exact ⟨rfl, _, World.drewN_drewN _ _ _⟩ | exact ⟨rfl, _, Eq.trans (World.drewN_drewN _ _ _) (congrArg (World.drewN _) (Nat.add_assoc _ _ _))⟩)) | (go_at_call 46; (with_reducible refine (redpenref01_tail.calls _ _ l0 2 true _ ?side1 ?side2 A31.out).mono ?_); (case side1 => repeat (first | exact HR0.out | (with_reducible refine Kd.C_alloc ?_ _) | (with_reducible refine Kd.C_drewN ?_ _) | (with_reducible refine Kd.C_drew ?_))); (case side2 => exact HC0.out); rintro e w' ⟨rfl, ⟨nd, rfl⟩⟩; (try first | exact ⟨rfl, _, World.drewN_drewN _ _ _⟩ | exact ⟨rfl, _, Eq.trans (World.drewN_drewN _ _ _) (congrArg (World.drewN _) (Nat.add_assoc _ _ _))⟩)) | (go_at_call 46; (with_reducible refine (redpenref01_tail.calls _ _ l0 3 t118 _ ?side1 ?side2 A33.out).mono ?_); (case side1 => repeat (first | exact HR0.out | (with_reducible refine Kd.C_alloc ?_ _) | (with_reducible refine Kd.C_drewN ?_ _) | (with_reducible refine Kd.C_drew ?_))); (case side2 => exact HC0.out); rintro e w' ⟨rfl, ⟨nd, rfl⟩⟩; (try first | exact ⟨rfl, _, World.drewN_drewN _ _ _⟩ | exact ⟨rfl, _, Eq.trans (World.drewN_drewN _ _ _) (congrArg (World.drewN _) (Nat.add_assoc _ _ _))⟩)))
                                  repeat (go_quiet (first | (go_at_call 46; (with_reducible refine (redpenref01_tail.calls _ _ l0 1 true _ ?side1 ?side2 A29.out).mono ?_); (case side1 => repeat (first | exact HR0.out | (with_reducible refine Kd.C_alloc ?_ _) | (with_reducible refine Kd.C_drewN ?_ _) | (with_reducible refine Kd.C_drew ?_))); (case side2 => exact HC0.out); rintro e w' ⟨rfl, ⟨nd, rfl⟩⟩; (try first | exact ⟨rfl, _, World.drewN_drewN _ _ _⟩ | exact ⟨rfl, _, Eq.trans (World.drewN_drewN _ _ _) (congrArg (World.drewN _) (Nat.add_assoc _ _ _))⟩)) | (go_at_call 46; (with_reducible refine (redpenref01_tail.calls _ _ l0 2 true _ ?side1 ?side2 A31.out).mono ?_); (case side1 => repeat (first | exact HR0.out | (with_reducible refine Kd.C_alloc ?_ _) | (with_reducible refine Kd.C_drewN ?_ _) | (with_reducible refine Kd.C_drew ?_))); (case side2 => exact HC0.out); rintro e w' ⟨rfl, ⟨nd, rfl⟩⟩; (try first | exact ⟨rfl, _, World.drewN_drewN _ _ _⟩ | exact ⟨rfl, _, Eq.trans (World.drewN_drewN _ _ _) (congrArg (World.drewN _) (Nat.add_assoc _ _ _))⟩)) | (go_at_call 46; (with_reducible refine (redpenref01_tail.calls _ _ l0 3 t118 _ ?side1 ?side2 A33.out).mono ?_); (case side1 => repeat (first | exact HR0.out | (with_reducible refine Kd.C_alloc ?_ _) | (with_reducible refine Kd.C_drewN ?_ _) | (with_reducible refine Kd.C_drew ?_))); (case side2 => exact HC0.out); rintro e w' ⟨rfl, ⟨nd, rfl⟩⟩; (try first | exact ⟨rfl, _, World.drewN_drewN _ _ _⟩ | exact ⟨rfl, _, Eq.trans (World.drewN_drewN _ _ _) (congrArg (World.drewN _) (Nat.add_assoc _ _ _))⟩))); try go_wp2_with (first | (go_at_call 46; (with_reducible refine (redpenref01_tail.calls _ _ l0 1 true _ ?side1 ?side2 A29.out).mono ?_); (case side1 => repeat (first | exact HR0.out | (with_reducible refine Kd.C_alloc ?_ _) | (with_reducible refine Kd.C_drewN ?_ _) | (with_reducible refine Kd.C_drew ?_))); (case side2 => exact HC0.out); rintro e w' ⟨rfl, ⟨nd, rfl⟩⟩; (try first | exact ⟨rfl, _, World.drewN_drewN _ _ _⟩ | exact ⟨rfl, _, Eq.trans (World.drewN_drewN _ _ _) (congrArg (World.drewN _) (Nat.add_assoc _ _ _))⟩)) | (go_at_call 46; (with_reducible refine (redpenref01_tail.calls _ _ l0 2 true _ ?side1 ?side2 A31.out).mono ?_); (case side1 => repeat (first | exact HR0.out | (with_reducible refine Kd.C_alloc ?_ _) | (with_reducible refine Kd.C_drewN ?_ _) | (with_reducible refine Kd.C_drew ?_))); (case side2 => exact HC0.out); rintro e w' ⟨rfl, ⟨nd, rfl⟩⟩; (try first | exact ⟨rfl, _, World.drewN_drewN _ _ _⟩ | exact ⟨rfl, _, Eq.trans (World.drewN_drewN _ _ _) (congrArg (World.drewN _) (Nat.add_assoc _ _ _))⟩)) | (go_at_call 46; (with_reducible refine (redpenref01_tail.calls _ _ l0 3 t118 _ ?side1 ?side2 A33.out).mono ?_); (case side1 => repeat (first | exact HR0.out | (with_reducible refine Kd.C_alloc ?_ _) | (with_reducible refine Kd.C_drewN ?_ _) | (with_reducible refine Kd.C_drew ?_))); (case side2 => exact HC0.out); rintro e w' ⟨rfl, ⟨nd, rfl⟩⟩; (try first | exact ⟨rfl, _, World.drewN_drewN _ _ _⟩ | exact ⟨rfl, _, Eq.trans (World.drewN_drewN _ _ _) (congrArg (World.drewN _) (Nat.add_assoc _ _ _))⟩))))
                                  go_meet
                                  case rel => exact ⟨_, (t118), (by first | rfl | (simp; done) | (simp [*]; done)), H', ⟨by have := HJ4.out; have := HJ8.out; have := HJ12.out; have := HJ18.out; first | omega | exact Nat.le_refl _⟩, by repeat (first | exact Drawn0.refl _ | apply Drawn0.step)⟩
                                · replace c32 := Bool.eq_false_iff.mpr c32
                                  subst c32
                                  have H1 : (redpenref01_Next.j4 kj18 l0 (wrap32 (rd l0 0)) false) = some (r1, r2) := by rw [if_neg (show ¬ (false = true) by decide)] at H; exact H
                                  clear H
                                  have H := H1
                                  clear H1
                                  have H' := Aside0.mk H
                                  clear H
                                  go_wp2_with (first | (go_at_call 46; (with_reducible refine (redpenref01_tail.calls _ _ l0 1 true _ ?side1 ?side2 A29.out).mono ?_); (case side1 => repeat (first | exact HR0.out | (with_reducible refine Kd.C_alloc ?_ _) | (with_reducible refine Kd.C_drewN ?_ _) | (with_reducible refine Kd.C_drew ?_))); (case side2 => exact HC0.out); rintro e w' ⟨rfl, ⟨nd, rfl⟩⟩; (try first | exact ⟨rfl, _, World.drewN_drewN _ _ _⟩ | exact ⟨rfl, _, Eq.trans (World.drewN_drewN _ _ _) (congrArg (World.drewN _) (Nat.add_assoc _ _ _))⟩)) | (go_at_call 46; (with_reducible refine (redpenref01_tail.calls _ _ l0 2 false _ ?side1 ?side2 A31.out).mono ?_); (case side1 => repeat (first | exact HR0.out | (with_reducible refine Kd.C_alloc ?_ _) | (with_reducible refine Kd.C_drewN ?_ _) | (with_reducible refine Kd.C_drew ?_))); (case side2 => exact HC0.out); rintro e w' ⟨rfl, ⟨nd, rfl⟩⟩; (try first | exact ⟨rfl, _, World.drewN_drewN _ _ _⟩ | exact ⟨rfl, _, Eq.trans (World.drewN_drewN _ _ _) (congrArg (World.drewN _) (Nat.add_assoc _ _ _))⟩)))
                                  repeat (go_quiet (first | (go_at_call 46; (with_reducible refine (redpenref01_tail.calls _ _ l0 1 true _ ?side1 ?side2 A29.out).mono ?_); (case side1 => repeat (first | exact HR0.out | (with_reducible refine Kd.C_alloc ?_ _) | (with_reducible refine Kd.C_drewN ?_ _) | (with_reducible refine Kd.C_drew ?_))); (case side2 => exact HC0.out); rintro e w' ⟨rfl, ⟨nd, rfl⟩⟩; (try first | exact ⟨rfl, _, World.drewN_drewN _ _ _⟩ | exact ⟨rfl, _, Eq.trans (World.drewN_drewN _ _ _) (congrArg (World.drewN _) (Nat.add_assoc _ _ _))⟩)) | (go_at_call 46; (with_reducible refine (redpenref01_tail.calls _ _ l0 2 false _ ?side1 ?side2 A31.out).mono ?_); (case side1 => repeat (first | exact HR0.out | (with_reducible refine Kd.C_alloc ?_ _) | (with_reducible refine Kd.C_drewN ?_ _) | (with_reducible refine Kd.C_drew ?_))); (case side2 => exact HC0.out); rintro e w' ⟨rfl, ⟨nd, rfl⟩⟩; (try first | exact ⟨rfl, _, World.drewN_drewN _ _ _⟩ | exact ⟨rfl, _, Eq.trans (World.drewN_drewN _ _ _) (congrArg (World.drewN _) (Nat.add_assoc _ _ _))⟩))); try go_wp2_with (first | (go_at_call 46; (with_reducible refine (redpenref01_tail.calls _ _ l0 1 true _ ?side1 ?side2 A29.out).mono ?_); (case side1 => repeat (first | exact HR0.out | (with_reducible refine Kd.C_alloc ?_ _) | (with_reducible refine Kd.C_drewN ?_ _) | (with_reducible refine Kd.C_drew ?_))); (case side2 => exact HC0.out); rintro e w' ⟨rfl, ⟨nd, rfl⟩⟩; (try first | exact ⟨rfl, _, World.drewN_drewN _ _ _⟩ | exact ⟨rfl, _, Eq.trans (World.drewN_drewN _ _ _) (congrArg (World.drewN _) (Nat.add_assoc _ _ _))⟩)) | (go_at_call 46; (with_reducible refine (redpenref01_tail.calls _ _ l0 2 false _ ?side1 ?side2 A31.out).mono ?_); (case side1 => repeat (first | exact HR0.out | (with_reducible refine Kd.C_alloc ?_ _) | (with_reducible refine Kd.C_drewN ?_ _) | (with_reducible refine Kd.C_drew ?_))); (case side2 => exact HC0.out); rintro e w' ⟨rfl, ⟨nd, rfl⟩⟩; (try first | exact ⟨rfl, _, World.drewN_drewN _ _ _⟩ | exact ⟨rfl, _, Eq.trans (World.drewN_drewN _ _ _) (congrArg (World.drewN _) (Nat.add_assoc _ _ _))⟩))))
                                  go_meet
                                  case rel => exact ⟨_, (false), (by first | rfl | (simp; done) | (simp [*]; done)), H', ⟨by have := HJ4.out; have := HJ8.out; have := HJ12.out; have := HJ18.out; first | omega | exact Nat.le_refl _⟩, by repeat (first | exact Drawn0.refl _ | apply Drawn0.step)⟩
                              · replace c30 := Bool.eq_false_iff.mpr c30
                                subst c30
                                have H1 : (redpenref01_Next.j4 kj18 l0 (wrap32 (rd l0 0)) false) = some (r1, r2) := by rw [if_neg (show ¬ (false = true) by decide)] at H; exact H
                                clear H
                                have H := H1
                                clear H1
                                have H' := Aside0.mk H
                                clear H
                                go_wp2_with (first | (go_at_call 46; (with_reducible refine (redpenref01_tail.calls _ _ l0 1 false _ ?side1 ?side2 A29.out).mono ?_); (case side1 => repeat (first | exact HR0.out | (with_reducible refine Kd.C_alloc ?_ _) | (with_reducible refine Kd.C_drewN ?_ _) | (with_reducible refine Kd.C_drew ?_))); (case side2 => exact HC0.out); rintro e w' ⟨rfl, ⟨nd, rfl⟩⟩; (try first | exact ⟨rfl, _, World.drewN_drewN _ _ _⟩ | exact ⟨rfl, _, Eq.trans (World.drewN_drewN _ _ _) (congrArg (World.drewN _) (Nat.add_assoc _ _ _))⟩)))
                                repeat (go_quiet (first | (go_at_call 46; (with_reducible refine (redpenref01_tail.calls _ _ l0 1 false _ ?side1 ?side2 A29.out).mono ?_); (case side1 => repeat (first | exact HR0.out | (with_reducible refine Kd.C_alloc ?_ _) | (with_reducible refine Kd.C_drewN ?_ _) | (with_reducible refine Kd.C_drew ?_))); (case side2 => exact HC0.out); rintro e w' ⟨rfl, ⟨nd, rfl⟩⟩; (try first | exact ⟨rfl, _, World.drewN_drewN _ _ _⟩ | exact ⟨rfl, _, Eq.trans (World.drewN_drewN _ _ _) (congrArg (World.drewN _) (Nat.add_assoc _ _ _))⟩))); try go_wp2_with (first | (go_at_call 46; (with_reducible refine (redpenref01_tail.calls _ _ l0 1 false _ ?side1 ?side2 A29.out).mono ?_); (case side1 => repeat (first | exact HR0.out | (with_reducible refine Kd.C_alloc ?_ _) | (with_reducible refine Kd.C_drewN ?_ _) | (with_reducible refine Kd.C_drew ?_))); (case side2 => exact HC0.out); rintro e w' ⟨rfl, ⟨nd, rfl⟩⟩; (try first | exact ⟨rfl, _, World.drewN_drewN _ _ _⟩ | exact ⟨rfl, _, Eq.trans (World.drewN_drewN _ _ _) (congrArg (World.drewN _) (Nat.add_assoc _ _ _))⟩))))
                                go_meet
                                case rel => exact ⟨_, (false), (by first | rfl | (simp; done) | (simp [*]; done)), H', ⟨by have := HJ4.out; have := HJ8.out; have := HJ12.out; have := HJ18.out; first | omega | exact Nat.le_refl _⟩, by repeat (first | exact Drawn0.refl _ | apply Drawn0.step)⟩
                            · rw [if_neg c28] at H
                              have c28b0 : decide ((wrap32 (rd l0 0)) < 248) = false := decide_eq_false c28
                              clear c28
                              have H' := Aside0.mk H
                              clear H
                              go_wp2
                              repeat (go_quiet (fail); try go_wp2)
                              go_meet
                              case rel => exact ⟨_, (false), (by first | rfl | (simp; done) | (simp [*]; done)), H', ⟨by have := HJ4.out; have := HJ8.out; have := HJ12.out; have := HJ18.out; first | omega | exact Nat.le_refl _⟩, by repeat (first | exact Drawn0.refl _ | apply Drawn0.step)⟩
                          · rw [if_neg c27] at H
                            have c27b0 : decide (240 ≤ (wrap32 (rd l0 0))) = false := decide_eq_false c27
                            clear c27
                            (first | rw [c27b0] | (simp only [i64_w, i32_w]; rw [c27b0]) | skip)
                            have H' := Aside0.mk H
                            clear H
                            go_wp2
                            repeat (go_quiet (fail); try go_wp2)
                            go_meet
                            case rel => exact ⟨_, (false), (by first | rfl | (simp; done) | (simp [*]; done)), H', ⟨by have := HJ4.out; have := HJ8.out; have := HJ12.out; have := HJ18.out; first | omega | exact Nat.le_refl _⟩, by repeat (first | exact Drawn0.refl _ | apply Drawn0.step)⟩
                        case rest =>
                          clear HC26
                          try clear c1
                          try clear p1
                          try clear q1
                          try clear hx1
                          try clear qi1
                          try clear c2
                          try clear c2b0
                          try clear c2b1
                          try clear c2b2
                          try clear p2
                          try clear c3
                          try clear c3b0
                          try clear c3b1
                          try clear p3
                          try clear c4
                          try clear c4b0
                          try clear c6
                          try clear c6b0
                          try clear c7
                          try clear c7b0
                          try clear c8
                          try clear c10
                          try clear p10
                          try clear q10
                          try clear hx10
                          try clear qi10
                          try clear c11
                          try clear c11b0
                          try clear c11b1
                          try clear p11
                          try clear q11
                          try clear hx11
                          try clear qi11
                          try clear c12
                          try clear c12b0
                          try clear c14
                          try clear c14b0
                          try clear c15
                          try clear c15b0
                          try clear c17
                          try clear c18
                          try clear c20
                          try clear c21
                          try clear c21b0
                          try clear c21b1
                          try clear c22
                          try clear c22b0
                          try clear c22b1
                          try clear c23
                          try clear c23b0
                          try clear c24
                          try clear c24b0
                          try clear c25
                          try clear c25b0
                          try clear c27
                          try clear c27b0
                          try clear c28
                          try clear c28b0
                          try clear c30
                          try clear c32
                          try clear p32
                          try clear hx109_0
                          try clear hx111_0
                          try clear hx114_0
                          try clear hx115_0
                          try clear p1
                          try clear p10
                          try clear p109
                          try clear p11
                          try clear p111
                          try clear p114
                          try clear p115
                          try clear p2
                          try clear p3
                          try clear q1
                          try clear q10
                          try clear q109
                          try clear q11
                          try clear q111
                          try clear q114
                          try clear q115
                          obtain ⟨kq, x98_25, rfl, HA, HJ25, ⟨mc25, rfl⟩⟩ := hcut
                          cases kq with
                          | zero => exact absurd HA.out (by simp [redpenref01_Next.j4])
                          | succ kj25 =>
                            have H := HA.out
                            clear HA
                            simp only [redpenref01_Next.j4] at H
                            by_cases c34 : x98_25 = true
                            · subst c34
                              have H1 : (if 1 < (l0.length : Int) then (if 2 < (l0.length : Int) then (if 3 < (l0.length : Int) then (if (wrap32 ((wrap32 ((wrap32 ((wrap32 ((wrap32 ((wrap32 ((wrap32 (rd l0 0)) - 240)) * 262144)) + (wrap32 ((wrap32 ((wrap32 (rd l0 1)) - 128)) * 4096)))) + (wrap32 ((wrap32 ((wrap32 (rd l0 2)) - 128)) * 64)))) + (wrap32 (rd l0 3)))) - 128)) ≥ 65536 then (if (wrap32 ((wrap32 ((wrap32 ((wrap32 ((wrap32 ((wrap32 ((wrap32 (rd l0 0)) - 240)) * 262144)) + (wrap32 ((wrap32 ((wrap32 (rd l0 1)) - 128)) * 4096)))) + (wrap32 ((wrap32 ((wrap32 (rd l0 2)) - 128)) * 64)))) + (wrap32 (rd l0 3)))) - 128)) ≤ 1114111 then (some (wrap32 ((wrap32 ((wrap32 ((wrap32 ((wrap32 ((wrap32 ((wrap32 (rd l0 0)) - 240)) * 262144)) + (wrap32 ((wrap32 ((wrap32 (rd l0 1)) - 128)) * 4096)))) + (wrap32 ((wrap32 ((wrap32 (rd l0 2)) - 128)) * 64)))) + (wrap32 (rd l0 3)))) - 128), 4)) else (some ((-1), 1))) else (some ((-1), 1))) else (none)) else (none)) else (none)) = some (r1, r2) := by rw [if_pos rfl] at H; exact H
                              clear H
                              have H := H1
                              clear H1
                              by_cases c35 : 1 < (l0.length : Int)
                              · rw [if_pos c35] at H
                                have c35b0 : decide (1 < (l0.length : Int)) = true := decide_eq_true c35
                                have c35b1 : decide (1 < l0.length) = true := decide_eq_true (by omega)
                                clear c35
                                by_cases c36 : 2 < (l0.length : Int)
                                · rw [if_pos c36] at H
                                  have c36b0 : decide (2 < (l0.length : Int)) = true := decide_eq_true c36
                                  have c36b1 : decide (2 < l0.length) = true := decide_eq_true (by omega)
                                  clear c36
                                  by_cases c37 : 3 < (l0.length : Int)
                                  · rw [if_pos c37] at H
                                    have c37b0 : decide (3 < (l0.length : Int)) = true := decide_eq_true c37
                                    have c37b1 : decide (3 < l0.length) = true := decide_eq_true (by omega)
                                    clear c37
                                    by_cases c38 : (wrap32 ((wrap32 ((wrap32 ((wrap32 ((wrap32 ((wrap32 ((wrap32 (rd l0 0)) - 240)) * 262144)) + (wrap32 ((wrap32 ((wrap32 (rd l0 1)) - 128)) * 4096)))) + (wrap32 ((wrap32 ((wrap32 (rd l0 2)) - 128)) * 64)))) + (wrap32 (rd l0 3)))) - 128)) ≥ 65536
                                    · rw [if_pos c38] at H
                                      have c38b0 : decide (65536 ≤ (wrap32 ((wrap32 ((wrap32 ((wrap32 ((wrap32 ((wrap32 ((wrap32 (rd l0 0)) - 240)) * 262144)) + (wrap32 ((wrap32 ((wrap32 (rd l0 1)) - 128)) * 4096)))) + (wrap32 ((wrap32 ((wrap32 (rd l0 2)) - 128)) * 64)))) + (wrap32 (rd l0 3)))) - 128))) = true := decide_eq_true c38
                                      clear c38
                                      by_cases c39 : (wrap32 ((wrap32 ((wrap32 ((wrap32 ((wrap32 ((wrap32 ((wrap32 (rd l0 0)) - 240)) * 262144)) + (wrap32 ((wrap32 ((wrap32 (rd l0 1)) - 128)) * 4096)))) + (wrap32 ((wrap32 ((wrap32 (rd l0 2)) - 128)) * 64)))) + (wrap32 (rd l0 3)))) - 128)) ≤ 1114111
                                      · rw [if_pos c39] at H
                                        have c39b0 : decide ((wrap32 ((wrap32 ((wrap32 ((wrap32 ((wrap32 ((wrap32 ((wrap32 (rd l0 0)) - 240)) * 262144)) + (wrap32 ((wrap32 ((wrap32 (rd l0 1)) - 128)) * 4096)))) + (wrap32 ((wrap32 ((wrap32 (rd l0 2)) - 128)) * 64)))) + (wrap32 (rd l0 3)))) - 128)) ≤ 1114111) = true := decide_eq_true c39
                                        clear c39
                                        simp only [Option.some.injEq, Prod.mk.injEq] at H
                                        obtain ⟨rfl, rfl⟩ := H
                                        have p119 : 0 ≤ (1 : Int) := (by omega)
                                        have q119 : 1 < (l0.length : Int) := of_decide_eq_true (by first | (with_reducible assumption) | assumption)
                                        obtain ⟨ad119, e119, hx119_0⟩ := Kd.at_int HR0.out 1 p119 q119
                                        obtain rfl : ad109 = ad119 := (by injection e119)
                                        (try simp only [show (1 : Int).toNat = 1 from rfl, Nat.reduceMul, Nat.reduceEqDiff, Go.Addr.add, ↓reduceIte] at hx119_0)
                                        have qi119 : (1 < l0.length) = True := eq_true (by omega)
                                        (try rw [show ((1 : Int)).toNat = 1 from rfl] at hx119_0)
                                        replace p119 := eq_true p119
                                        replace q119 := eq_true q119
                                        have p120 : 0 ≤ (2 : Int) := (by omega)
                                        have q120 : 2 < (l0.length : Int) := of_decide_eq_true (by first | (with_reducible assumption) | assumption)
                                        obtain ⟨ad120, e120, hx120_0⟩ := Kd.at_int HR0.out 2 p120 q120
                                        obtain rfl : ad109 = ad120 := (by injection e120)
                                        (try simp only [show (2 : Int).toNat = 2 from rfl, Nat.reduceMul, Nat.reduceEqDiff, Go.Addr.add, ↓reduceIte] at hx120_0)
                                        have qi120 : (2 < l0.length) = True := eq_true (by omega)
                                        (try rw [show ((2 : Int)).toNat = 2 from rfl] at hx120_0)
                                        replace p120 := eq_true p120
                                        replace q120 := eq_true q120
                                        have p121 : 0 ≤ (3 : Int) := (by omega)
                                        have q121 : 3 < (l0.length : Int) := of_decide_eq_true (by first | (with_reducible assumption) | assumption)
                                        obtain ⟨ad121, e121, hx121_0⟩ := Kd.at_int HR0.out 3 p121 q121
                                        obtain rfl : ad109 = ad121 := (by injection e121)
                                        (try simp only [show (3 : Int).toNat = 3 from rfl, Nat.reduceMul, Nat.reduceEqDiff, Go.Addr.add, ↓reduceIte] at hx121_0)
                                        have qi121 : (3 < l0.length) = True := eq_true (by omega)
                                        (try rw [show ((3 : Int)).toNat = 3 from rfl] at hx121_0)
                                        replace p121 := eq_true p121
                                        replace q121 := eq_true q121
                                        go_wp2
                                        repeat (go_quiet (fail); try go_wp2)
                                        go_ret2
                                        exact ⟨by first | rfl | (simp; done) | (simp [*]; done), by repeat (first | exact Drawn0.refl _ | apply Drawn0.step)⟩
                                      · rw [if_neg c39] at H
                                        have c39b0 : decide ((wrap32 ((wrap32 ((wrap32 ((wrap32 ((wrap32 ((wrap32 ((wrap32 (rd l0 0)) - 240)) * 262144)) + (wrap32 ((wrap32 ((wrap32 (rd l0 1)) - 128)) * 4096)))) + (wrap32 ((wrap32 ((wrap32 (rd l0 2)) - 128)) * 64)))) + (wrap32 (rd l0 3)))) - 128)) ≤ 1114111) = false := decide_eq_false c39
                                        clear c39
                                        simp only [Option.some.injEq, Prod.mk.injEq] at H
                                        obtain ⟨rfl, rfl⟩ := H
                                        have p119 : 0 ≤ (1 : Int) := (by omega)
                                        have q119 : 1 < (l0.length : Int) := of_decide_eq_true (by first | (with_reducible assumption) | assumption)
                                        obtain ⟨ad119, e119, hx119_0⟩ := Kd.at_int HR0.out 1 p119 q119
                                        obtain rfl : ad109 = ad119 := (by injection e119)
                                        (try simp only [show (1 : Int).toNat = 1 from rfl, Nat.reduceMul, Nat.reduceEqDiff, Go.Addr.add, ↓reduceIte] at hx119_0)
                                        have qi119 : (1 < l0.length) = True := eq_true (by omega)
                                        (try rw [show ((1 : Int)).toNat = 1 from rfl] at hx119_0)
                                        replace p119 := eq_true p119
                                        replace q119 := eq_true q119
                                        have p120 : 0 ≤ (2 : Int) := (by omega)
                                        have q120 : 2 < (l0.length : Int) := of_decide_eq_true (by first | (with_reducible assumption) | assumption)
                                        obtain ⟨ad120, e120, hx120_0⟩ := Kd.at_int HR0.out 2 p120 q120
                                        obtain rfl : ad109 = ad120 := (by injection e120)
                                        (try simp only [show (2 : Int).toNat = 2 from rfl, Nat.reduceMul, Nat.reduceEqDiff, Go.Addr.add, ↓reduceIte] at hx120_0)
                                        have qi120 : (2 < l0.length) = True := eq_true (by omega)
                                        (try rw [show ((2 : Int)).toNat = 2 from rfl] at hx120_0)
                                        replace p120 := eq_true p120
                                        replace q120 := eq_true q120
                                        have p121 : 0 ≤ (3 : Int) := (by omega)
                                        have q121 : 3 < (l0.length : Int) := of_decide_eq_true (by first | (with_reducible assumption) | assumption)
                                        obtain ⟨ad121, e121, hx121_0⟩ := Kd.at_int HR0.out 3 p121 q121
                                        obtain rfl : ad109 = ad121 := (by injection e121)
                                        (try simp only [show (3 : Int).toNat = 3 from rfl, Nat.reduceMul, Nat.reduceEqDiff, Go.Addr.add, ↓reduceIte] at hx121_0)
                                        have qi121 : (3 < l0.length) = True := eq_true (by omega)
                                        (try rw [show ((3 : Int)).toNat = 3 from rfl] at hx121_0)
                                        replace p121 := eq_true p121
                                        replace q121 := eq_true q121
                                        go_wp2
                                        repeat (go_quiet (fail); try go_wp2)
                                        go_ret2
                                        exact ⟨by first | rfl | (simp; done) | (simp [*]; done), by repeat (first | exact Drawn0.refl _ | apply Drawn0.step)⟩
                                    · rw [if_neg c38] at H
                                      have c38b0 : decide (65536 ≤ (wrap32 ((wrap32 ((wrap32 ((wrap32 ((wrap32 ((wrap32 ((wrap32 (rd l0 0)) - 240)) * 262144)) + (wrap32 ((wrap32 ((wrap32 (rd l0 1)) - 128)) * 4096)))) + (wrap32 ((wrap32 ((wrap32 (rd l0 2)) - 128)) * 64)))) + (wrap32 (rd l0 3)))) - 128))) = false := decide_eq_false c38
                                      clear c38
                                      simp only [Option.some.injEq, Prod.mk.injEq] at H
                                      obtain ⟨rfl, rfl⟩ := H
                                      have p119 : 0 ≤ (1 : Int) := (by omega)
                                      have q119 : 1 < (l0.length : Int) := of_decide_eq_true (by first | (with_reducible assumption) | assumption)
                                      obtain ⟨ad119, e119, hx119_0⟩ := Kd.at_int HR0.out 1 p119 q119
                                      obtain rfl : ad109 = ad119 := (by injection e119)
                                      (try simp only [show (1 : Int).toNat = 1 from rfl, Nat.reduceMul, Nat.reduceEqDiff, Go.Addr.add, ↓reduceIte] at hx119_0)
                                      have qi119 : (1 < l0.length) = True := eq_true (by omega)
                                      (try rw [show ((1 : Int)).toNat = 1 from rfl] at hx119_0)
                                      replace p119 := eq_true p119
                                      replace q119 := eq_true q119
                                      have p120 : 0 ≤ (2 : Int) := (by omega)
                                      have q120 : 2 < (l0.length : Int) := of_decide_eq_true (by first | (with_reducible assumption) | assumption)
                                      obtain ⟨ad120, e120, hx120_0⟩ := Kd.at_int HR0.out 2 p120 q120
                                      obtain rfl : ad109 = ad120 := (by injection e120)
                                      (try simp only [show (2 : Int).toNat = 2 from rfl, Nat.reduceMul, Nat.reduceEqDiff, Go.Addr.add, ↓reduceIte] at hx120_0)
                                      have qi120 : (2 < l0.length) = True := eq_true (by omega)
                                      (try rw [show ((2 : Int)).toNat = 2 from rfl] at hx120_0)
                                      replace p120 := eq_true p120
                                      replace q120 := eq_true q120
                                      have p121 : 0 ≤ (3 : Int) := (by omega)
                                      have q121 : 3 < (l0.length : Int) := of_decide_eq_true (by first | (with_reducible assumption) | assumption)
                                      obtain ⟨ad121, e121, hx121_0⟩ := Kd.at_int HR0.out 3 p121 q121
                                      obtain rfl : ad109 = ad121 := (by injection e121)
                                      (try simp only [show (3 : Int).toNat = 3 from rfl, Nat.reduceMul, Nat.reduceEqDiff, Go.Addr.add, ↓reduceIte] at hx121_0)
                                      have qi121 : (3 < l0.length) = True := eq_true (by omega)
                                      (try rw [show ((3 : Int)).toNat = 3 from rfl] at hx121_0)
                                      replace p121 := eq_true p121
                                      replace q121 := eq_true q121
                                      go_wp2
                                      repeat (go_quiet (fail); try go_wp2)
                                      go_ret2
                                      exact ⟨by first | rfl | (simp; done) | (simp [*]; done), by repeat (first | exact Drawn0.refl _ | apply Drawn0.step)⟩
                                  · rw [if_neg c37] at H
                                    exact absurd H (by simp)
                                · rw [if_neg c36] at H
                                  exact absurd H (by simp)
                              · rw [if_neg c35] at H
                                exact absurd H (by simp)
                            · replace c34 := Bool.eq_false_iff.mpr c34
                              subst c34
                              have H1 : (some ((-1), 1)) = some (r1, r2) := by rw [if_neg (show ¬ (false = true) by decide)] at H; exact H
                              clear H
                              have H := H1
                              clear H1
                              simp only [Option.some.injEq, Prod.mk.injEq] at H
                              obtain ⟨rfl, rfl⟩ := H
                              go_wp2
                              repeat (go_quiet (fail); try go_wp2)
                              go_ret2
                              exact ⟨by first | rfl | (simp; done) | (simp [*]; done), by repeat (first | exact Drawn0.refl _ | apply Drawn0.step)⟩
    · rw [if_neg c3] at H
      exact absurd H (by simp)

end Go.Proofs.YtkicpaodcmepmaaDoor.PTex

namespace Go.Proofs.YtkicpaodcmepmaaDoor.PTex
open Go.RowKit Go.Proofs.YtkicpaodcmepmaaDoorW.PrintWords Go.Proofs.YtkicpaodcmepmaaDoorW.PrintLast Go.Proofs.YtkicpaodcmepmaaDoorW.PrintMore
attribute [local go_sem] max2_int min2_int max_two min_two max_three min_three max_four min_four   -- for this text's walks alone
set_option linter.unusedVariables false
set_option linter.unusedSimpArgs false

/-! ### redpenref10_bare: function 33 -/
def redpenref10_bare.f (a0 : ByteArray) : Option (Bool) := if a0.toList = ([98, 101, 103, 105, 110] : List UInt8) then (some true) else (if a0.toList = ([98, 105, 98, 108, 105, 111, 103, 114, 97, 112, 104, 121] : List UInt8) then (some true) else (if a0.toList = ([98, 105, 98, 108, 105, 111, 103, 114, 97, 112, 104, 121, 115, 116, 121, 108, 101] : List UInt8) then (some true) else (if a0.toList = ([99, 105, 116, 101] : List UInt8) then (some true) else (if a0.toList = ([100, 111, 99, 117, 109, 101, 110, 116, 99, 108, 97, 115, 115] : List UInt8) then (some true) else (if a0.toList = ([101, 110, 100] : List UInt8) then (some true) else (if a0.toList = ([105, 110, 99, 108, 117, 100, 101] : List UInt8) then (some true) else (if a0.toList = ([105, 110, 99, 108, 117, 100, 101, 103, 114, 97, 112, 104, 105, 99, 115] : List UInt8) then (some true) else (if a0.toList = ([105, 110, 112, 117, 116] : List UInt8) then (some true) else (if a0.toList = ([108, 97, 98, 101, 108] : List UInt8) then (some true) else (if a0.toList = ([112, 97, 103, 101, 114, 101, 102] : List UInt8) then (some true) else (if a0.toList = ([114, 101, 102] : List UInt8) then (some true) else (if a0.toList = ([117, 115, 101, 112, 97, 99, 107, 97, 103, 101] : List UInt8) then (some true) else (some false)))))))))))))
set_option maxHeartbeats 8000000 in
set_option maxRecDepth 100000 in
theorem redpenref10_bare.calls (a0 : ByteArray) (r : Bool) (w : World) (h : redpenref10_bare.f a0 = some r) :
    Calls Tryd.prog 33 #[.string a0] w fun e w' => e = .returned (.bool r) ∧ Drawn0 w w' := by
  have H : (if a0.toList = ([98, 101, 103, 105, 110] : List UInt8) then (some true) else (if a0.toList = ([98, 105, 98, 108, 105, 111, 103, 114, 97, 112, 104, 121] : List UInt8) then (some true) else (if a0.toList = ([98, 105, 98, 108, 105, 111, 103, 114, 97, 112, 104, 121, 115, 116, 121, 108, 101] : List UInt8) then (some true) else (if a0.toList = ([99, 105, 116, 101] : List UInt8) then (some true) else (if a0.toList = ([100, 111, 99, 117, 109, 101, 110, 116, 99, 108, 97, 115, 115] : List UInt8) then (some true) else (if a0.toList = ([101, 110, 100] : List UInt8) then (some true) else (if a0.toList = ([105, 110, 99, 108, 117, 100, 101] : List UInt8) then (some true) else (if a0.toList = ([105, 110, 99, 108, 117, 100, 101, 103, 114, 97, 112, 104, 105, 99, 115] : List UInt8) then (some true) else (if a0.toList = ([105, 110, 112, 117, 116] : List UInt8) then (some true) else (if a0.toList = ([108, 97, 98, 101, 108] : List UInt8) then (some true) else (if a0.toList = ([112, 97, 103, 101, 114, 101, 102] : List UInt8) then (some true) else (if a0.toList = ([114, 101, 102] : List UInt8) then (some true) else (if a0.toList = ([117, 115, 101, 112, 97, 99, 107, 97, 103, 101] : List UInt8) then (some true) else (some false)))))))))))))) = some r := h
  clear h
  by_cases c2 : a0.toList = ([98, 101, 103, 105, 110] : List UInt8)
  · rw [if_pos c2] at H
    have c2b0 : (a0.toList == ([98, 101, 103, 105, 110] : List UInt8)) = true := beq_iff_eq.mpr c2
    have c2b1 : (a0.toList != ([98, 101, 103, 105, 110] : List UInt8)) = false := bne_eq_false_iff_eq.mpr c2
    clear c2
    obtain rfl := Option.some.inj H
    go_enter Tryd.func33, Tryd.ntmps33
    go_wp2
    go_ret
    exact ⟨by first | rfl | (simp; done) | (simp [*]; done), by repeat (first | exact Drawn0.refl _ | apply Drawn0.step)⟩
  · rw [if_neg c2] at H
    have c2b0 : (a0.toList == ([98, 101, 103, 105, 110] : List UInt8)) = false := beq_eq_false_iff_ne.mpr c2
    have c2b1 : (a0.toList != ([98, 101, 103, 105, 110] : List UInt8)) = true := bne_iff_ne.mpr c2
    by_cases c3 : a0.toList = ([98, 105, 98, 108, 105, 111, 103, 114, 97, 112, 104, 121] : List UInt8)
    · rw [if_pos c3] at H
      have c3b0 : (a0.toList == ([98, 105, 98, 108, 105, 111, 103, 114, 97, 112, 104, 121] : List UInt8)) = true := beq_iff_eq.mpr c3
      have c3b1 : (a0.toList != ([98, 105, 98, 108, 105, 111, 103, 114, 97, 112, 104, 121] : List UInt8)) = false := bne_eq_false_iff_eq.mpr c3
      clear c3
      obtain rfl := Option.some.inj H
      go_enter Tryd.func33, Tryd.ntmps33
      go_wp2
      go_ret
      exact ⟨by first | rfl | (simp; done) | (simp [*]; done), by repeat (first | exact Drawn0.refl _ | apply Drawn0.step)⟩
    · rw [if_neg c3] at H
      have c3b0 : (a0.toList == ([98, 105, 98, 108, 105, 111, 103, 114, 97, 112, 104, 121] : List UInt8)) = false := beq_eq_false_iff_ne.mpr c3
      have c3b1 : (a0.toList != ([98, 105, 98, 108, 105, 111, 103, 114, 97, 112, 104, 121] : List UInt8)) = true := bne_iff_ne.mpr c3
      by_cases c4 : a0.toList = ([98, 105, 98, 108, 105, 111, 103, 114, 97, 112, 104, 121, 115, 116, 121, 108, 101] : List UInt8)
      · rw [if_pos c4] at H
        have c4b0 : (a0.toList == ([98, 105, 98, 108, 105, 111, 103, 114, 97, 112, 104, 121, 115, 116, 121, 108, 101] : List UInt8)) = true := beq_iff_eq.mpr c4
        have c4b1 : (a0.toList != ([98, 105, 98, 108, 105, 111, 103, 114, 97, 112, 104, 121, 115, 116, 121, 108, 101] : List UInt8)) = false := bne_eq_false_iff_eq.mpr c4
        clear c4
        obtain rfl := Option.some.inj H
        go_enter Tryd.func33, Tryd.ntmps33
        go_wp2
        go_ret
        exact ⟨by first | rfl | (simp; done) | (simp [*]; done), by repeat (first | exact Drawn0.refl _ | apply Drawn0.step)⟩
      · rw [if_neg c4] at H
        have c4b0 : (a0.toList == ([98, 105, 98, 108, 105, 111, 103, 114, 97, 112, 104, 121, 115, 116, 121, 108, 101] : List UInt8)) = false := beq_eq_false_iff_ne.mpr c4
        have c4b1 : (a0.toList != ([98, 105, 98, 108, 105, 111, 103, 114, 97, 112, 104, 121, 115, 116, 121, 108, 101] : List UInt8)) = true := bne_iff_ne.mpr c4
        by_cases c5 : a0.toList = ([99, 105, 116, 101] : List UInt8)
        · rw [if_pos c5] at H
          have c5b0 : (a0.toList == ([99, 105, 116, 101] : List UInt8)) = true := beq_iff_eq.mpr c5
          have c5b1 : (a0.toList != ([99, 105, 116, 101] : List UInt8)) = false := bne_eq_false_iff_eq.mpr c5
          clear c5
          obtain rfl := Option.some.inj H
          go_enter Tryd.func33, Tryd.ntmps33
          go_wp2
          go_ret
          exact ⟨by first | rfl | (simp; done) | (simp [*]; done), by repeat (first | exact Drawn0.refl _ | apply Drawn0.step)⟩
        · rw [if_neg c5] at H
          have c5b0 : (a0.toList == ([99, 105, 116, 101] : List UInt8)) = false := beq_eq_false_iff_ne.mpr c5
          have c5b1 : (a0.toList != ([99, 105, 116, 101] : List UInt8)) = true := bne_iff_ne.mpr c5
          by_cases c6 : a0.toList = ([100, 111, 99, 117, 109, 101, 110, 116, 99, 108, 97, 115, 115] : List UInt8)
          · rw [if_pos c6] at H
            have c6b0 : (a0.toList == ([100, 111, 99, 117, 109, 101, 110, 116, 99, 108, 97, 115, 115] : List UInt8)) = true := beq_iff_eq.mpr c6
            have c6b1 : (a0.toList != ([100, 111, 99, 117, 109, 101, 110, 116, 99, 108, 97, 115, 115] : List UInt8)) = false := bne_eq_false_iff_eq.mpr c6
            clear c6
            obtain rfl := Option.some.inj H
            go_enter Tryd.func33, Tryd.ntmps33
            go_wp2
            go_ret
            exact ⟨by first | rfl | (simp; done) | (simp [*]; done), by repeat (first | exact Drawn0.refl _ | apply Drawn0.step)⟩
          · rw [if_neg c6] at H
            have c6b0 : (a0.toList == ([100, 111, 99, 117, 109, 101, 110, 116, 99, 108, 97, 115, 115] : List UInt8)) = false := beq_eq_false_iff_ne.mpr c6
            have c6b1 : (a0.toList != ([100, 111, 99, 117, 109, 101, 110, 116, 99, 108, 97, 115, 115] : List UInt8)) = true := bne_iff_ne.mpr c6
            by_cases c7 : a0.toList = ([101, 110, 100] : List UInt8)
            · rw [if_pos c7] at H
              have c7b0 : (a0.toList == ([101, 110, 100] : List UInt8)) = true := beq_iff_eq.mpr c7
              have c7b1 : (a0.toList != ([101, 110, 100] : List UInt8)) = false := bne_eq_false_iff_eq.mpr c7
              clear c7
              obtain rfl := Option.some.inj H
              go_enter Tryd.func33, Tryd.ntmps33
              go_wp2
              go_ret
              exact ⟨by first | rfl | (simp; done) | (simp [*]; done), by repeat (first | exact Drawn0.refl _ | apply Drawn0.step)⟩
            · rw [if_neg c7] at H
              have c7b0 : (a0.toList == ([101, 110, 100] : List UInt8)) = false := beq_eq_false_iff_ne.mpr c7
              have c7b1 : (a0.toList != ([101, 110, 100] : List UInt8)) = true := bne_iff_ne.mpr c7
              by_cases c8 : a0.toList = ([105, 110, 99, 108, 117, 100, 101] : List UInt8)
              · rw [if_pos c8] at H
                have c8b0 : (a0.toList == ([105, 110, 99, 108, 117, 100, 101] : List UInt8)) = true := beq_iff_eq.mpr c8
                have c8b1 : (a0.toList != ([105, 110, 99, 108, 117, 100, 101] : List UInt8)) = false := bne_eq_false_iff_eq.mpr c8
                clear c8
                obtain rfl := Option.some.inj H
                go_enter Tryd.func33, Tryd.ntmps33
                go_wp2
                go_ret
                exact ⟨by first | rfl | (simp; done) | (simp [*]; done), by repeat (first | exact Drawn0.refl _ | apply Drawn0.step)⟩
              · rw [if_neg c8] at H
                have c8b0 : (a0.toList == ([105, 110, 99, 108, 117, 100, 101] : List UInt8)) = false := beq_eq_false_iff_ne.mpr c8
                have c8b1 : (a0.toList != ([105, 110, 99, 108, 117, 100, 101] : List UInt8)) = true := bne_iff_ne.mpr c8
                by_cases c9 : a0.toList = ([105, 110, 99, 108, 117, 100, 101, 103, 114, 97, 112, 104, 105, 99, 115] : List UInt8)
                · rw [if_pos c9] at H
                  have c9b0 : (a0.toList == ([105, 110, 99, 108, 117, 100, 101, 103, 114, 97, 112, 104, 105, 99, 115] : List UInt8)) = true := beq_iff_eq.mpr c9
                  have c9b1 : (a0.toList != ([105, 110, 99, 108, 117, 100, 101, 103, 114, 97, 112, 104, 105, 99, 115] : List UInt8)) = false := bne_eq_false_iff_eq.mpr c9
                  clear c9
                  obtain rfl := Option.some.inj H
                  go_enter Tryd.func33, Tryd.ntmps33
                  go_wp2
                  go_ret
                  exact ⟨by first | rfl | (simp; done) | (simp [*]; done), by repeat (first | exact Drawn0.refl _ | apply Drawn0.step)⟩
                · rw [if_neg c9] at H
                  have c9b0 : (a0.toList == ([105, 110, 99, 108, 117, 100, 101, 103, 114, 97, 112, 104, 105, 99, 115] : List UInt8)) = false := beq_eq_false_iff_ne.mpr c9
                  have c9b1 : (a0.toList != ([105, 110, 99, 108, 117, 100, 101, 103, 114, 97, 112, 104, 105, 99, 115] : List UInt8)) = true := bne_iff_ne.mpr c9
                  by_cases c10 : a0.toList = ([105, 110, 112, 117, 116] : List UInt8)
                  · rw [if_pos c10] at H
                    have c10b0 : (a0.toList == ([105, 110, 112, 117, 116] : List UInt8)) = true := beq_iff_eq.mpr c10
                    have c10b1 : (a0.toList != ([105, 110, 112, 117, 116] : List UInt8)) = false := bne_eq_false_iff_eq.mpr c10
                    clear c10
                    obtain rfl := Option.some.inj H
                    go_enter Tryd.func33, Tryd.ntmps33
                    go_wp2
                    go_ret
                    exact ⟨by first | rfl | (simp; done) | (simp [*]; done), by repeat (first | exact Drawn0.refl _ | apply Drawn0.step)⟩
                  · rw [if_neg c10] at H
                    have c10b0 : (a0.toList == ([105, 110, 112, 117, 116] : List UInt8)) = false := beq_eq_false_iff_ne.mpr c10
                    have c10b1 : (a0.toList != ([105, 110, 112, 117, 116] : List UInt8)) = true := bne_iff_ne.mpr c10
                    by_cases c11 : a0.toList = ([108, 97, 98, 101, 108] : List UInt8)
                    · rw [if_pos c11] at H
                      have c11b0 : (a0.toList == ([108, 97, 98, 101, 108] : List UInt8)) = true := beq_iff_eq.mpr c11
                      have c11b1 : (a0.toList != ([108, 97, 98, 101, 108] : List UInt8)) = false := bne_eq_false_iff_eq.mpr c11
                      clear c11
                      obtain rfl := Option.some.inj H
                      go_enter Tryd.func33, Tryd.ntmps33
                      go_wp2
                      go_ret
                      exact ⟨by first | rfl | (simp; done) | (simp [*]; done), by repeat (first | exact Drawn0.refl _ | apply Drawn0.step)⟩
                    · rw [if_neg c11] at H
                      have c11b0 : (a0.toList == ([108, 97, 98, 101, 108] : List UInt8)) = false := beq_eq_false_iff_ne.mpr c11
                      have c11b1 : (a0.toList != ([108, 97, 98, 101, 108] : List UInt8)) = true := bne_iff_ne.mpr c11
                      by_cases c12 : a0.toList = ([112, 97, 103, 101, 114, 101, 102] : List UInt8)
                      · rw [if_pos c12] at H
                        have c12b0 : (a0.toList == ([112, 97, 103, 101, 114, 101, 102] : List UInt8)) = true := beq_iff_eq.mpr c12
                        have c12b1 : (a0.toList != ([112, 97, 103, 101, 114, 101, 102] : List UInt8)) = false := bne_eq_false_iff_eq.mpr c12
                        clear c12
                        obtain rfl := Option.some.inj H
                        go_enter Tryd.func33, Tryd.ntmps33
                        go_wp2
                        go_ret
                        exact ⟨by first | rfl | (simp; done) | (simp [*]; done), by repeat (first | exact Drawn0.refl _ | apply Drawn0.step)⟩
                      · rw [if_neg c12] at H
                        have c12b0 : (a0.toList == ([112, 97, 103, 101, 114, 101, 102] : List UInt8)) = false := beq_eq_false_iff_ne.mpr c12
                        have c12b1 : (a0.toList != ([112, 97, 103, 101, 114, 101, 102] : List UInt8)) = true := bne_iff_ne.mpr c12
                        by_cases c13 : a0.toList = ([114, 101, 102] : List UInt8)
                        · rw [if_pos c13] at H
                          have c13b0 : (a0.toList == ([114, 101, 102] : List UInt8)) = true := beq_iff_eq.mpr c13
                          have c13b1 : (a0.toList != ([114, 101, 102] : List UInt8)) = false := bne_eq_false_iff_eq.mpr c13
                          clear c13
                          obtain rfl := Option.some.inj H
                          go_enter Tryd.func33, Tryd.ntmps33
                          go_wp2
                          go_ret
                          exact ⟨by first | rfl | (simp; done) | (simp [*]; done), by repeat (first | exact Drawn0.refl _ | apply Drawn0.step)⟩
                        · rw [if_neg c13] at H
                          have c13b0 : (a0.toList == ([114, 101, 102] : List UInt8)) = false := beq_eq_false_iff_ne.mpr c13
                          have c13b1 : (a0.toList != ([114, 101, 102] : List UInt8)) = true := bne_iff_ne.mpr c13
                          by_cases c14 : a0.toList = ([117, 115, 101, 112, 97, 99, 107, 97, 103, 101] : List UInt8)
                          · rw [if_pos c14] at H
                            have c14b0 : (a0.toList == ([117, 115, 101, 112, 97, 99, 107, 97, 103, 101] : List UInt8)) = true := beq_iff_eq.mpr c14
                            have c14b1 : (a0.toList != ([117, 115, 101, 112, 97, 99, 107, 97, 103, 101] : List UInt8)) = false := bne_eq_false_iff_eq.mpr c14
                            clear c14
                            obtain rfl := Option.some.inj H
                            go_enter Tryd.func33, Tryd.ntmps33
                            go_wp2
                            go_ret
                            exact ⟨by first | rfl | (simp; done) | (simp [*]; done), by repeat (first | exact Drawn0.refl _ | apply Drawn0.step)⟩
                          · rw [if_neg c14] at H
                            have c14b0 : (a0.toList == ([117, 115, 101, 112, 97, 99, 107, 97, 103, 101] : List UInt8)) = false := beq_eq_false_iff_ne.mpr c14
                            have c14b1 : (a0.toList != ([117, 115, 101, 112, 97, 99, 107, 97, 103, 101] : List UInt8)) = true := bne_iff_ne.mpr c14
                            obtain rfl := Option.some.inj H
                            go_enter Tryd.func33, Tryd.ntmps33
                            go_wp2
                            go_ret
                            exact ⟨by first | rfl | (simp; done) | (simp [*]; done), by repeat (first | exact Drawn0.refl _ | apply Drawn0.step)⟩

/-! ### redpenref10_bracket: function 47 -/
def redpenref10_bracket.l0 : Nat → ByteArray → Int → Int → Int → Int → Option (Int)
  | 0, _, _, _, _, _ => none
  | k + 1, x0, x1, x2, x3, x9 => if x1 < (x0.size : Int) then (if 0 ≤ x1 then (if (bt x0 x1) = 92 then (redpenref10_bracket.l0 k x0 (wrap64 ((wrap64 (x1 + 1)) + 1)) x2 x3 x9) else (if (bt x0 x1) = x3 then (if (wrap64 (x9 - 1)) = 0 then (some (wrap64 (x1 + 1))) else (redpenref10_bracket.l0 k x0 (wrap64 (x1 + 1)) x2 x3 (wrap64 (x9 - 1)))) else (if (bt x0 x1) = x2 then (if (wrap64 (x9 + 1)) > 32 then (some (-1)) else (redpenref10_bracket.l0 k x0 (wrap64 (x1 + 1)) x2 x3 (wrap64 (x9 + 1)))) else (redpenref10_bracket.l0 k x0 (wrap64 (x1 + 1)) x2 x3 x9)))) else (none)) else (some (-1))
def redpenref10_bracket.f (k : Nat) (a0 : ByteArray) (a1 : Int) (a2 : Int) (a3 : Int) : Option (Int) := redpenref10_bracket.l0 k a0 a1 a2 a3 1
theorem redpenref10_bracket.mono_l : ∀ k, (∀ y0 y1 y2 y3 y4, LeO (redpenref10_bracket.l0 k y0 y1 y2 y3 y4) (redpenref10_bracket.l0 (k + 1) y0 y1 y2 y3 y4))
  | 0 => fun _ _ _ _ _ r h => by simp [redpenref10_bracket.l0] at h
  | k + 1 => by
    have ih0 := redpenref10_bracket.mono_l k
    · intro y0 y1 y2 y3 y4
      unfold redpenref10_bracket.l0
      repeat' first
      | (with_reducible exact ih0 _ _ _ _ _)
      | (with_reducible exact LeO.refl _)
      | (with_reducible exact LeO.none _)
      | (with_reducible refine LeO.ite ?_ ?_)
      | (with_reducible refine LeO.bind ?_ (fun _ => ?_))
      | exact ih0 _ _ _ _ _
      | exact LeO.none _
      | refine LeO.ite ?_ ?_
      | refine LeO.bind ?_ (fun _ => ?_)
theorem redpenref10_bracket.mono : ∀ a0 a1 a2 a3 k, LeO (redpenref10_bracket.f k a0 a1 a2 a3) (redpenref10_bracket.f (k + 1) a0 a1 a2 a3) := by
  intro a0 a1 a2 a3 k
  have ih0 := redpenref10_bracket.mono_l k
  unfold redpenref10_bracket.f
  repeat' first
      | (with_reducible exact ih0 _ _ _ _ _)
      | (with_reducible exact LeO.refl _)
      | (with_reducible exact LeO.none _)
      | (with_reducible refine LeO.ite ?_ ?_)
      | (with_reducible refine LeO.bind ?_ (fun _ => ?_))
      | exact ih0 _ _ _ _ _
      | exact LeO.none _
      | refine LeO.ite ?_ ?_
      | refine LeO.bind ?_ (fun _ => ?_)
set_option maxHeartbeats 8000000 in
set_option maxRecDepth 100000 in
theorem redpenref10_bracket.calls (k : Nat) (a0 : ByteArray) (a1 : Int) (a2 : Int) (a3 : Int) (r : Int) (w : World) (h : redpenref10_bracket.f k a0 a1 a2 a3 = some r) :
    Calls Tryd.prog 47 #[.string a0, .int .i64 a1, .int .u8 a2, .int .u8 a3] w fun e w' => e = .returned (.int .i64 r) ∧ Drawn0 w w' := by
  have H : (redpenref10_bracket.l0 k a0 a1 a2 a3 1) = some r := h
  clear h
  have H' := Aside0.mk H
  clear H
  go_enter Tryd.func47, Tryd.ntmps47
  go_wp2
  go_loopg [1, 9] k (fun kq v1 v9 w' => ∃ (x1_1 : Int) (x9_1 : Int), v1 = .int .i64 x1_1 ∧ v9 = .int .i64 x9_1 ∧ Aside0 (redpenref10_bracket.l0 kq a0 x1_1 a2 a3 x9_1 = some r) ∧ Aside0 (kq ≤ k) ∧ Drawn0 w w')
  case atStart => exact ⟨(a1), (1), (by first | rfl | (simp; done) | (simp [*]; done)), (by first | rfl | (simp; done) | (simp [*]; done)), H', ⟨Nat.le_refl _⟩, by repeat (first | exact Drawn0.refl _ | apply Drawn0.step)⟩
  case round =>
    clear H'
    try clear p2
    try clear c4
    obtain ⟨x1_1, x9_1, rfl, rfl, HA, HK1, ⟨m1, rfl⟩⟩ := hrel
    cases gk with
    | zero => exact absurd HA.out (by simp [redpenref10_bracket.l0])
    | succ k1 =>
      have H := HA.out
      clear HA
      simp only [redpenref10_bracket.l0] at H
      by_cases c5 : x1_1 < (a0.size : Int)
      · rw [if_pos c5] at H
        have c5b0 : decide (x1_1 < (a0.size : Int)) = true := decide_eq_true c5
        clear c5
        by_cases c6 : 0 ≤ x1_1
        · rw [if_pos c6] at H
          have c6b0 : decide (0 ≤ x1_1) = true := decide_eq_true c6
          clear c6
          by_cases c8 : (bt a0 x1_1) = 92
          · rw [if_pos c8] at H
            have c8b0 : ((bt a0 x1_1) == 92) = true := beq_iff_eq.mpr c8
            have c8b1 : ((bt a0 x1_1) != 92) = false := bne_eq_false_iff_eq.mpr c8
            clear c8
            have H' := Aside0.mk H
            clear H
            have p7 : 0 ≤ (x1_1 : Int) := of_decide_eq_true (by first | (with_reducible assumption) | assumption)
            have q7 : x1_1 < (a0.size : Int) := of_decide_eq_true (by first | (with_reducible assumption) | assumption)
            have hx7 := bt_at a0 x1_1
            replace p7 := eq_true p7
            replace q7 := eq_true q7
            go_wp2
            go_roundg k1
            case measure => have := HK1.out; omega
            case rel => exact ⟨(wrap64 ((wrap64 (x1_1 + 1)) + 1)), (x9_1), (by first | rfl | (simp; done) | (simp [*]; done)), (by first | rfl | (simp; done) | (simp [*]; done)), H', ⟨by have := HK1.out; omega⟩, by repeat (first | exact Drawn0.refl _ | apply Drawn0.step)⟩
          · rw [if_neg c8] at H
            have c8b0 : ((bt a0 x1_1) == 92) = false := beq_eq_false_iff_ne.mpr c8
            have c8b1 : ((bt a0 x1_1) != 92) = true := bne_iff_ne.mpr c8
            by_cases c9 : (bt a0 x1_1) = a3
            · rw [if_pos c9] at H
              have c9b0 : ((bt a0 x1_1) == a3) = true := beq_iff_eq.mpr c9
              have c9b1 : ((bt a0 x1_1) != a3) = false := bne_eq_false_iff_eq.mpr c9
              clear c9
              by_cases c10 : (wrap64 (x9_1 - 1)) = 0
              · rw [if_pos c10] at H
                have c10b0 : ((wrap64 (x9_1 - 1)) == 0) = true := beq_iff_eq.mpr c10
                have c10b1 : ((wrap64 (x9_1 - 1)) != 0) = false := bne_eq_false_iff_eq.mpr c10
                clear c10
                obtain rfl := Option.some.inj H
                have p7 : 0 ≤ (x1_1 : Int) := of_decide_eq_true (by first | (with_reducible assumption) | assumption)
                have q7 : x1_1 < (a0.size : Int) := of_decide_eq_true (by first | (with_reducible assumption) | assumption)
                have hx7 := bt_at a0 x1_1
                replace p7 := eq_true p7
                replace q7 := eq_true q7
                go_wp2
                go_ret
                exact ⟨by first | rfl | (simp; done) | (simp [*]; done), by repeat (first | exact Drawn0.refl _ | apply Drawn0.step)⟩
              · rw [if_neg c10] at H
                have c10b0 : ((wrap64 (x9_1 - 1)) == 0) = false := beq_eq_false_iff_ne.mpr c10
                have c10b1 : ((wrap64 (x9_1 - 1)) != 0) = true := bne_iff_ne.mpr c10
                have H' := Aside0.mk H
                clear H
                have p7 : 0 ≤ (x1_1 : Int) := of_decide_eq_true (by first | (with_reducible assumption) | assumption)
                have q7 : x1_1 < (a0.size : Int) := of_decide_eq_true (by first | (with_reducible assumption) | assumption)
                have hx7 := bt_at a0 x1_1
                replace p7 := eq_true p7
                replace q7 := eq_true q7
                go_wp2
                go_roundg k1
                case measure => have := HK1.out; omega
                case rel => exact ⟨(wrap64 (x1_1 + 1)), (wrap64 (x9_1 - 1)), (by first | rfl | (simp; done) | (simp [*]; done)), (by first | rfl | (simp; done) | (simp [*]; done)), H', ⟨by have := HK1.out; omega⟩, by repeat (first | exact Drawn0.refl _ | apply Drawn0.step)⟩
            · rw [if_neg c9] at H
              have c9b0 : ((bt a0 x1_1) == a3) = false := beq_eq_false_iff_ne.mpr c9
              have c9b1 : ((bt a0 x1_1) != a3) = true := bne_iff_ne.mpr c9
              by_cases c11 : (bt a0 x1_1) = a2
              · rw [if_pos c11] at H
                have c11b0 : ((bt a0 x1_1) == a2) = true := beq_iff_eq.mpr c11
                have c11b1 : ((bt a0 x1_1) != a2) = false := bne_eq_false_iff_eq.mpr c11
                clear c11
                by_cases c12 : (wrap64 (x9_1 + 1)) > 32
                · rw [if_pos c12] at H
                  have c12b0 : decide (32 < (wrap64 (x9_1 + 1))) = true := decide_eq_true c12
                  clear c12
                  obtain rfl := Option.some.inj H
                  have p7 : 0 ≤ (x1_1 : Int) := of_decide_eq_true (by first | (with_reducible assumption) | assumption)
                  have q7 : x1_1 < (a0.size : Int) := of_decide_eq_true (by first | (with_reducible assumption) | assumption)
                  have hx7 := bt_at a0 x1_1
                  replace p7 := eq_true p7
                  replace q7 := eq_true q7
                  go_wp2
                  go_ret
                  exact ⟨by first | rfl | (simp; done) | (simp [*]; done), by repeat (first | exact Drawn0.refl _ | apply Drawn0.step)⟩
                · rw [if_neg c12] at H
                  have c12b0 : decide (32 < (wrap64 (x9_1 + 1))) = false := decide_eq_false c12
                  clear c12
                  have H' := Aside0.mk H
                  clear H
                  have p7 : 0 ≤ (x1_1 : Int) := of_decide_eq_true (by first | (with_reducible assumption) | assumption)
                  have q7 : x1_1 < (a0.size : Int) := of_decide_eq_true (by first | (with_reducible assumption) | assumption)
                  have hx7 := bt_at a0 x1_1
                  replace p7 := eq_true p7
                  replace q7 := eq_true q7
                  go_wp2
                  go_roundg k1
                  case measure => have := HK1.out; omega
                  case rel => exact ⟨(wrap64 (x1_1 + 1)), (wrap64 (x9_1 + 1)), (by first | rfl | (simp; done) | (simp [*]; done)), (by first | rfl | (simp; done) | (simp [*]; done)), H', ⟨by have := HK1.out; omega⟩, by repeat (first | exact Drawn0.refl _ | apply Drawn0.step)⟩
              · rw [if_neg c11] at H
                have c11b0 : ((bt a0 x1_1) == a2) = false := beq_eq_false_iff_ne.mpr c11
                have c11b1 : ((bt a0 x1_1) != a2) = true := bne_iff_ne.mpr c11
                have H' := Aside0.mk H
                clear H
                have p7 : 0 ≤ (x1_1 : Int) := of_decide_eq_true (by first | (with_reducible assumption) | assumption)
                have q7 : x1_1 < (a0.size : Int) := of_decide_eq_true (by first | (with_reducible assumption) | assumption)
                have hx7 := bt_at a0 x1_1
                replace p7 := eq_true p7
                replace q7 := eq_true q7
                go_wp2
                go_roundg k1
                case measure => have := HK1.out; omega
                case rel => exact ⟨(wrap64 (x1_1 + 1)), (x9_1), (by first | rfl | (simp; done) | (simp [*]; done)), (by first | rfl | (simp; done) | (simp [*]; done)), H', ⟨by have := HK1.out; omega⟩, by repeat (first | exact Drawn0.refl _ | apply Drawn0.step)⟩
        · rw [if_neg c6] at H
          exact absurd H (by simp)
      · rw [if_neg c5] at H
        have c5b0 : decide (x1_1 < (a0.size : Int)) = false := decide_eq_false c5
        clear c5
        obtain rfl := Option.some.inj H
        go_wp2
        go_ret
        exact ⟨by first | rfl | (simp; done) | (simp [*]; done), by repeat (first | exact Drawn0.refl _ | apply Drawn0.step)⟩

/-! ### redpenref10_group: function 34 -/
def redpenref10_group.f (k : Nat) (a0 : ByteArray) (a1 : Int) : Option (Int) := (redpenref10_at.f a0 a1 (⟨#[123]⟩ : ByteArray)).bind fun t122 => (if t122 = true then ((redpenref10_bracket.f k a0 (wrap64 (a1 + 1)) 123 125).bind fun t123 => (some t123)) else ((redpenref10_at.f a0 a1 (⟨#[91]⟩ : ByteArray)).bind fun t124 => (if t124 = true then ((redpenref10_bracket.f k a0 (wrap64 (a1 + 1)) 91 93).bind fun t125 => (some t125)) else (some (-1)))))
theorem redpenref10_group.mono : ∀ a0 a1 k, LeO (redpenref10_group.f k a0 a1) (redpenref10_group.f (k + 1) a0 a1) := by
  intro a0 a1 k
  unfold redpenref10_group.f
  repeat' first
      | (with_reducible exact redpenref10_bracket.mono _ _ _ _ _)
      | (with_reducible exact LeO.refl _)
      | (with_reducible exact LeO.none _)
      | (with_reducible refine LeO.ite ?_ ?_)
      | (with_reducible refine LeO.bind ?_ (fun _ => ?_))
      | exact redpenref10_bracket.mono _ _ _ _ _
      | exact LeO.none _
      | refine LeO.ite ?_ ?_
      | refine LeO.bind ?_ (fun _ => ?_)
set_option maxHeartbeats 8000000 in
set_option maxRecDepth 100000 in
theorem redpenref10_group.calls (k : Nat) (a0 : ByteArray) (a1 : Int) (r : Int) (w : World) (h : redpenref10_group.f k a0 a1 = some r) :
    Calls Tryd.prog 34 #[.string a0, .int .i64 a1] w fun e w' => e = .returned (.int .i64 r) ∧ Drawn0 w w' := by
  have H : ((redpenref10_at.f a0 a1 (⟨#[123]⟩ : ByteArray)).bind fun t122 => (if t122 = true then ((redpenref10_bracket.f k a0 (wrap64 (a1 + 1)) 123 125).bind fun t123 => (some t123)) else ((redpenref10_at.f a0 a1 (⟨#[91]⟩ : ByteArray)).bind fun t124 => (if t124 = true then ((redpenref10_bracket.f k a0 (wrap64 (a1 + 1)) 91 93).bind fun t125 => (some t125)) else (some (-1)))))) = some r := h
  clear h
  replace H := Option.bind_eq_some_iff.mp H
  obtain ⟨t122, A30, H⟩ := H
  replace H : (if t122 = true then ((redpenref10_bracket.f k a0 (wrap64 (a1 + 1)) 123 125).bind fun t123 => (some t123)) else ((redpenref10_at.f a0 a1 (⟨#[91]⟩ : ByteArray)).bind fun t124 => (if t124 = true then ((redpenref10_bracket.f k a0 (wrap64 (a1 + 1)) 91 93).bind fun t125 => (some t125)) else (some (-1))))) = some r := H
  have A3 := Aside0.mk A30
  clear A30
  by_cases c4 : t122 = true
  · subst c4
    have H1 : ((redpenref10_bracket.f k a0 (wrap64 (a1 + 1)) 123 125).bind fun t123 => (some t123)) = some r := by rw [if_pos rfl] at H; exact H
    clear H
    have H := H1
    clear H1
    replace H := Option.bind_eq_some_iff.mp H
    obtain ⟨t123, A50, H⟩ := H
    replace H : (some t123) = some r := H
    have A5 := Aside0.mk A50
    clear A50
    obtain rfl := Option.some.inj H
    go_enter Tryd.func34, Tryd.ntmps34
    go_wp2_with (first | ((with_reducible refine gate_callee (f := 30) rfl ?_); refine goesL_ (some 7) rfl rfl Tryd.func30 (by kernel_rfl) rfl #[.string a0, .int .i64 a1, .string (⟨#[123]⟩ : ByteArray)] rfl (by (try simp only [List.map_toArray, List.map_cons, List.map_nil]); first | done | rfl | (simp only [List.length_drop, List.length_take]; rfl)) ?_; (with_reducible refine (redpenref10_at.calls a0 a1 (⟨#[123]⟩ : ByteArray) true _ A3.out).mono ?_); rintro e w' ⟨rfl, ⟨nd, rfl⟩⟩; refine ⟨_, rfl, ?_⟩) | ((with_reducible refine gate_callee (f := 47) rfl ?_); refine goesL_ (some 11) rfl rfl Tryd.func47 (by kernel_rfl) rfl #[.string a0, .int .i64 (wrap64 (a1 + 1)), .int .u8 123, .int .u8 125] rfl (by (try simp only [List.map_toArray, List.map_cons, List.map_nil]); first | done | rfl | (simp only [List.length_drop, List.length_take]; rfl)) ?_; (with_reducible refine (redpenref10_bracket.calls k a0 (wrap64 (a1 + 1)) 123 125 t123 _ A5.out).mono ?_); rintro e w' ⟨rfl, ⟨nd, rfl⟩⟩; refine ⟨_, rfl, ?_⟩))
    go_ret
    exact ⟨by first | rfl | (simp; done) | (simp [*]; done), by repeat (first | exact Drawn0.refl _ | apply Drawn0.step)⟩
  · replace c4 := Bool.eq_false_iff.mpr c4
    subst c4
    have H1 : ((redpenref10_at.f a0 a1 (⟨#[91]⟩ : ByteArray)).bind fun t124 => (if t124 = true then ((redpenref10_bracket.f k a0 (wrap64 (a1 + 1)) 91 93).bind fun t125 => (some t125)) else (some (-1)))) = some r := by rw [if_neg (show ¬ (false = true) by decide)] at H; exact H
    clear H
    have H := H1
    clear H1
    replace H := Option.bind_eq_some_iff.mp H
    obtain ⟨t124, A60, H⟩ := H
    replace H : (if t124 = true then ((redpenref10_bracket.f k a0 (wrap64 (a1 + 1)) 91 93).bind fun t125 => (some t125)) else (some (-1))) = some r := H
    have A6 := Aside0.mk A60
    clear A60
    by_cases c7 : t124 = true
    · subst c7
      have H1 : ((redpenref10_bracket.f k a0 (wrap64 (a1 + 1)) 91 93).bind fun t125 => (some t125)) = some r := by rw [if_pos rfl] at H; exact H
      clear H
      have H := H1
      clear H1
      replace H := Option.bind_eq_some_iff.mp H
      obtain ⟨t125, A80, H⟩ := H
      replace H : (some t125) = some r := H
      have A8 := Aside0.mk A80
      clear A80
      obtain rfl := Option.some.inj H
      go_enter Tryd.func34, Tryd.ntmps34
      go_wp2_with (first | ((with_reducible refine gate_callee (f := 30) rfl ?_); refine goesL_ (some 7) rfl rfl Tryd.func30 (by kernel_rfl) rfl #[.string a0, .int .i64 a1, .string (⟨#[123]⟩ : ByteArray)] rfl (by (try simp only [List.map_toArray, List.map_cons, List.map_nil]); first | done | rfl | (simp only [List.length_drop, List.length_take]; rfl)) ?_; (with_reducible refine (redpenref10_at.calls a0 a1 (⟨#[123]⟩ : ByteArray) false _ A3.out).mono ?_); rintro e w' ⟨rfl, ⟨nd, rfl⟩⟩; refine ⟨_, rfl, ?_⟩) | ((with_reducible refine gate_callee (f := 30) rfl ?_); refine goesL_ (some 14) rfl rfl Tryd.func30 (by kernel_rfl) rfl #[.string a0, .int .i64 a1, .string (⟨#[91]⟩ : ByteArray)] rfl (by (try simp only [List.map_toArray, List.map_cons, List.map_nil]); first | done | rfl | (simp only [List.length_drop, List.length_take]; rfl)) ?_; (with_reducible refine (redpenref10_at.calls a0 a1 (⟨#[91]⟩ : ByteArray) true _ A6.out).mono ?_); rintro e w' ⟨rfl, ⟨nd, rfl⟩⟩; refine ⟨_, rfl, ?_⟩) | ((with_reducible refine gate_callee (f := 47) rfl ?_); refine goesL_ (some 18) rfl rfl Tryd.func47 (by kernel_rfl) rfl #[.string a0, .int .i64 (wrap64 (a1 + 1)), .int .u8 91, .int .u8 93] rfl (by (try simp only [List.map_toArray, List.map_cons, List.map_nil]); first | done | rfl | (simp only [List.length_drop, List.length_take]; rfl)) ?_; (with_reducible refine (redpenref10_bracket.calls k a0 (wrap64 (a1 + 1)) 91 93 t125 _ A8.out).mono ?_); rintro e w' ⟨rfl, ⟨nd, rfl⟩⟩; refine ⟨_, rfl, ?_⟩))
      go_ret
      exact ⟨by first | rfl | (simp; done) | (simp [*]; done), by repeat (first | exact Drawn0.refl _ | apply Drawn0.step)⟩
    · replace c7 := Bool.eq_false_iff.mpr c7
      subst c7
      have H1 : (some (-1)) = some r := by rw [if_neg (show ¬ (false = true) by decide)] at H; exact H
      clear H
      have H := H1
      clear H1
      obtain rfl := Option.some.inj H
      go_enter Tryd.func34, Tryd.ntmps34
      go_wp2_with (first | ((with_reducible refine gate_callee (f := 30) rfl ?_); refine goesL_ (some 7) rfl rfl Tryd.func30 (by kernel_rfl) rfl #[.string a0, .int .i64 a1, .string (⟨#[123]⟩ : ByteArray)] rfl (by (try simp only [List.map_toArray, List.map_cons, List.map_nil]); first | done | rfl | (simp only [List.length_drop, List.length_take]; rfl)) ?_; (with_reducible refine (redpenref10_at.calls a0 a1 (⟨#[123]⟩ : ByteArray) false _ A3.out).mono ?_); rintro e w' ⟨rfl, ⟨nd, rfl⟩⟩; refine ⟨_, rfl, ?_⟩) | ((with_reducible refine gate_callee (f := 30) rfl ?_); refine goesL_ (some 14) rfl rfl Tryd.func30 (by kernel_rfl) rfl #[.string a0, .int .i64 a1, .string (⟨#[91]⟩ : ByteArray)] rfl (by (try simp only [List.map_toArray, List.map_cons, List.map_nil]); first | done | rfl | (simp only [List.length_drop, List.length_take]; rfl)) ?_; (with_reducible refine (redpenref10_at.calls a0 a1 (⟨#[91]⟩ : ByteArray) false _ A6.out).mono ?_); rintro e w' ⟨rfl, ⟨nd, rfl⟩⟩; refine ⟨_, rfl, ?_⟩))
      go_ret
      exact ⟨by first | rfl | (simp; done) | (simp [*]; done), by repeat (first | exact Drawn0.refl _ | apply Drawn0.step)⟩

/-! ### redpenref10_whole: function 35 -/
def redpenref10_whole.f (a0 : ByteArray) : Option (Bool) := if a0.toList = ([97, 108, 105, 103, 110] : List UInt8) then (some true) else (if a0.toList = ([97, 108, 105, 103, 110, 42] : List UInt8) then (some true) else (if a0.toList = ([101, 113, 117, 97, 116, 105, 111, 110] : List UInt8) then (some true) else (if a0.toList = ([101, 113, 117, 97, 116, 105, 111, 110, 42] : List UInt8) then (some true) else (if a0.toList = ([108, 115, 116, 108, 105, 115, 116, 105, 110, 103] : List UInt8) then (some true) else (if a0.toList = ([118, 101, 114, 98, 97, 116, 105, 109] : List UInt8) then (some true) else (some false))))))
set_option maxHeartbeats 8000000 in
set_option maxRecDepth 100000 in
theorem redpenref10_whole.calls (a0 : ByteArray) (r : Bool) (w : World) (h : redpenref10_whole.f a0 = some r) :
    Calls Tryd.prog 35 #[.string a0] w fun e w' => e = .returned (.bool r) ∧ Drawn0 w w' := by
  have H : (if a0.toList = ([97, 108, 105, 103, 110] : List UInt8) then (some true) else (if a0.toList = ([97, 108, 105, 103, 110, 42] : List UInt8) then (some true) else (if a0.toList = ([101, 113, 117, 97, 116, 105, 111, 110] : List UInt8) then (some true) else (if a0.toList = ([101, 113, 117, 97, 116, 105, 111, 110, 42] : List UInt8) then (some true) else (if a0.toList = ([108, 115, 116, 108, 105, 115, 116, 105, 110, 103] : List UInt8) then (some true) else (if a0.toList = ([118, 101, 114, 98, 97, 116, 105, 109] : List UInt8) then (some true) else (some false))))))) = some r := h
  clear h
  by_cases c2 : a0.toList = ([97, 108, 105, 103, 110] : List UInt8)
  · rw [if_pos c2] at H
    have c2b0 : (a0.toList == ([97, 108, 105, 103, 110] : List UInt8)) = true := beq_iff_eq.mpr c2
    have c2b1 : (a0.toList != ([97, 108, 105, 103, 110] : List UInt8)) = false := bne_eq_false_iff_eq.mpr c2
    clear c2
    obtain rfl := Option.some.inj H
    go_enter Tryd.func35, Tryd.ntmps35
    go_wp2
    go_ret
    exact ⟨by first | rfl | (simp; done) | (simp [*]; done), by repeat (first | exact Drawn0.refl _ | apply Drawn0.step)⟩
  · rw [if_neg c2] at H
    have c2b0 : (a0.toList == ([97, 108, 105, 103, 110] : List UInt8)) = false := beq_eq_false_iff_ne.mpr c2
    have c2b1 : (a0.toList != ([97, 108, 105, 103, 110] : List UInt8)) = true := bne_iff_ne.mpr c2
    by_cases c3 : a0.toList = ([97, 108, 105, 103, 110, 42] : List UInt8)
    · rw [if_pos c3] at H
      have c3b0 : (a0.toList == ([97, 108, 105, 103, 110, 42] : List UInt8)) = true := beq_iff_eq.mpr c3
      have c3b1 : (a0.toList != ([97, 108, 105, 103, 110, 42] : List UInt8)) = false := bne_eq_false_iff_eq.mpr c3
      clear c3
      obtain rfl := Option.some.inj H
      go_enter Tryd.func35, Tryd.ntmps35
      go_wp2
      go_ret
      exact ⟨by first | rfl | (simp; done) | (simp [*]; done), by repeat (first | exact Drawn0.refl _ | apply Drawn0.step)⟩
    · rw [if_neg c3] at H
      have c3b0 : (a0.toList == ([97, 108, 105, 103, 110, 42] : List UInt8)) = false := beq_eq_false_iff_ne.mpr c3
      have c3b1 : (a0.toList != ([97, 108, 105, 103, 110, 42] : List UInt8)) = true := bne_iff_ne.mpr c3
      by_cases c4 : a0.toList = ([101, 113, 117, 97, 116, 105, 111, 110] : List UInt8)
      · rw [if_pos c4] at H
        have c4b0 : (a0.toList == ([101, 113, 117, 97, 116, 105, 111, 110] : List UInt8)) = true := beq_iff_eq.mpr c4
        have c4b1 : (a0.toList != ([101, 113, 117, 97, 116, 105, 111, 110] : List UInt8)) = false := bne_eq_false_iff_eq.mpr c4
        clear c4
        obtain rfl := Option.some.inj H
        go_enter Tryd.func35, Tryd.ntmps35
        go_wp2
        go_ret
        exact ⟨by first | rfl | (simp; done) | (simp [*]; done), by repeat (first | exact Drawn0.refl _ | apply Drawn0.step)⟩
      · rw [if_neg c4] at H
        have c4b0 : (a0.toList == ([101, 113, 117, 97, 116, 105, 111, 110] : List UInt8)) = false := beq_eq_false_iff_ne.mpr c4
        have c4b1 : (a0.toList != ([101, 113, 117, 97, 116, 105, 111, 110] : List UInt8)) = true := bne_iff_ne.mpr c4
        by_cases c5 : a0.toList = ([101, 113, 117, 97, 116, 105, 111, 110, 42] : List UInt8)
        · rw [if_pos c5] at H
          have c5b0 : (a0.toList == ([101, 113, 117, 97, 116, 105, 111, 110, 42] : List UInt8)) = true := beq_iff_eq.mpr c5
          have c5b1 : (a0.toList != ([101, 113, 117, 97, 116, 105, 111, 110, 42] : List UInt8)) = false := bne_eq_false_iff_eq.mpr c5
          clear c5
          obtain rfl := Option.some.inj H
          go_enter Tryd.func35, Tryd.ntmps35
          go_wp2
          go_ret
          exact ⟨by first | rfl | (simp; done) | (simp [*]; done), by repeat (first | exact Drawn0.refl _ | apply Drawn0.step)⟩
        · rw [if_neg c5] at H
          have c5b0 : (a0.toList == ([101, 113, 117, 97, 116, 105, 111, 110, 42] : List UInt8)) = false := beq_eq_false_iff_ne.mpr c5
          have c5b1 : (a0.toList != ([101, 113, 117, 97, 116, 105, 111, 110, 42] : List UInt8)) = true := bne_iff_ne.mpr c5
          by_cases c6 : a0.toList = ([108, 115, 116, 108, 105, 115, 116, 105, 110, 103] : List UInt8)
          · rw [if_pos c6] at H
            have c6b0 : (a0.toList == ([108, 115, 116, 108, 105, 115, 116, 105, 110, 103] : List UInt8)) = true := beq_iff_eq.mpr c6
            have c6b1 : (a0.toList != ([108, 115, 116, 108, 105, 115, 116, 105, 110, 103] : List UInt8)) = false := bne_eq_false_iff_eq.mpr c6
            clear c6
            obtain rfl := Option.some.inj H
            go_enter Tryd.func35, Tryd.ntmps35
            go_wp2
            go_ret
            exact ⟨by first | rfl | (simp; done) | (simp [*]; done), by repeat (first | exact Drawn0.refl _ | apply Drawn0.step)⟩
          · rw [if_neg c6] at H
            have c6b0 : (a0.toList == ([108, 115, 116, 108, 105, 115, 116, 105, 110, 103] : List UInt8)) = false := beq_eq_false_iff_ne.mpr c6
            have c6b1 : (a0.toList != ([108, 115, 116, 108, 105, 115, 116, 105, 110, 103] : List UInt8)) = true := bne_iff_ne.mpr c6
            by_cases c7 : a0.toList = ([118, 101, 114, 98, 97, 116, 105, 109] : List UInt8)
            · rw [if_pos c7] at H
              have c7b0 : (a0.toList == ([118, 101, 114, 98, 97, 116, 105, 109] : List UInt8)) = true := beq_iff_eq.mpr c7
              have c7b1 : (a0.toList != ([118, 101, 114, 98, 97, 116, 105, 109] : List UInt8)) = false := bne_eq_false_iff_eq.mpr c7
              clear c7
              obtain rfl := Option.some.inj H
              go_enter Tryd.func35, Tryd.ntmps35
              go_wp2
              go_ret
              exact ⟨by first | rfl | (simp; done) | (simp [*]; done), by repeat (first | exact Drawn0.refl _ | apply Drawn0.step)⟩
            · rw [if_neg c7] at H
              have c7b0 : (a0.toList == ([118, 101, 114, 98, 97, 116, 105, 109] : List UInt8)) = false := beq_eq_false_iff_ne.mpr c7
              have c7b1 : (a0.toList != ([118, 101, 114, 98, 97, 116, 105, 109] : List UInt8)) = true := bne_iff_ne.mpr c7
              obtain rfl := Option.some.inj H
              go_enter Tryd.func35, Tryd.ntmps35
              go_wp2
              go_ret
              exact ⟨by first | rfl | (simp; done) | (simp [*]; done), by repeat (first | exact Drawn0.refl _ | apply Drawn0.step)⟩

-- NOT PRINTED: function 22 (redpenref10_Labels_tex)

-- NOT PRINTED: function 17 (redpenref10_Tex)

end Go.Proofs.YtkicpaodcmepmaaDoor.PTex
