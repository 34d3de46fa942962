-- PRINTED BY print.sh 35421559b90ae4d0a3588c463048766b98c2df88dd9212a6774a882060cdf62d: not written by this session
import Derived.Test.YtjbbogcoabgcnaaPSrcx0
namespace Go.Proofs.Ytjbbogcoabgcnaa.PSrc
open Go.RowKit Go.Proofs.YtjbbogcoabgcnaaW.PrintWords Go.Proofs.YtjbbogcoabgcnaaW.PrintLast Go.Proofs.YtjbbogcoabgcnaaW.PrintMore
attribute [local go_sem] max2_int min2_int max_two min_two max_three min_three max_four min_four   -- for this text's walks alone
set_option linter.unusedVariables false
set_option linter.unusedSimpArgs false

/-! ### redpenref10_All: function 22 -/
def redpenref10_All.l0 : Nat → Int → Int → List Int → Int → Option (List Int)
  | 0, _, _, _, _ => none
  | k + 1, x0, x1, x5, x6 => if x6 < x0 then (if 0 ≤ x6 then (if x6 < (x5.length : Int) then (redpenref10_All.l0 k x0 x1 (x5.set (x6 : Int).toNat x1) (wrap64 (x6 + 1))) else (none)) else (none)) else (some x5)
def redpenref10_All.f (k : Nat) (a0 : Int) (a1 : Int) : Option (List Int) := if 0 ≤ a0 then (if (a0 : Int).toNat ≤ 281474976710656 then (redpenref10_All.l0 k a0 a1 (List.replicate (a0 : Int).toNat 0) 0) else (none)) else (none)
theorem redpenref10_All.mono_l : ∀ k, (∀ y0 y1 y2 y3, LeO (redpenref10_All.l0 k y0 y1 y2 y3) (redpenref10_All.l0 (k + 1) y0 y1 y2 y3))
  | 0 => fun _ _ _ _ r h => by simp [redpenref10_All.l0] at h
  | k + 1 => by
    have ih0 := redpenref10_All.mono_l k
    · intro y0 y1 y2 y3
      unfold redpenref10_All.l0
      repeat' first
      | (with_reducible exact ih0 _ _ _ _)
      | (with_reducible exact LeO.refl _)
      | (with_reducible exact LeO.none _)
      | (with_reducible refine LeO.ite ?_ ?_)
      | (with_reducible refine LeO.bind ?_ (fun _ => ?_))
      | exact ih0 _ _ _ _
      | exact LeO.none _
      | refine LeO.ite ?_ ?_
      | refine LeO.bind ?_ (fun _ => ?_)
theorem redpenref10_All.mono : ∀ a0 a1 k, LeO (redpenref10_All.f k a0 a1) (redpenref10_All.f (k + 1) a0 a1) := by
  intro a0 a1 k
  have ih0 := redpenref10_All.mono_l k
  unfold redpenref10_All.f
  repeat' first
      | (with_reducible exact ih0 _ _ _ _)
      | (with_reducible exact LeO.refl _)
      | (with_reducible exact LeO.none _)
      | (with_reducible refine LeO.ite ?_ ?_)
      | (with_reducible refine LeO.bind ?_ (fun _ => ?_))
      | exact ih0 _ _ _ _
      | exact LeO.none _
      | refine LeO.ite ?_ ?_
      | refine LeO.bind ?_ (fun _ => ?_)
set_option maxHeartbeats 8000000 in
set_option maxRecDepth 100000 in
theorem redpenref10_All.calls (k : Nat) (a0 : Int) (a1 : Int) (r : List Int) (w : World) (h : redpenref10_All.f k a0 a1 = some r) :
    Calls Try.prog 22 #[.int .i64 a0, .int .u8 a1] w fun e w' => ∃ v0_ : Value, e = .returned (v0_) ∧ Kd.R (Kd.int .u8) 43 w' w.heap.size (fun _ => True) v0_ r ∧ Below w.heap.size w w' := by
  have HB := Aside0.mk (Below.refl w.heap.size w)
  have H : (if 0 ≤ a0 then (if (a0 : Int).toNat ≤ 281474976710656 then (redpenref10_All.l0 k a0 a1 (List.replicate (a0 : Int).toNat 0) 0) else (none)) else (none)) = some r := h
  clear h
  by_cases c3 : 0 ≤ a0
  · rw [if_pos c3] at H
    have c3b0 := eq_true c3
    have c3b1 : decide (0 ≤ a0) = true := decide_eq_true c3
    clear c3
    by_cases c4 : (a0 : Int).toNat ≤ 281474976710656
    · rw [if_pos c4] at H
      have c4b0 := eq_true c4
      have c4b1 : decide ((a0 : Int).toNat ≤ 281474976710656) = true := decide_eq_true c4
      clear c4
      obtain ⟨y101, hy101⟩ : ∃ y_ : List Int, y_ = (List.replicate (a0 : Int).toNat 0) := ⟨_, rfl⟩
      replace H : (redpenref10_All.l0 k a0 a1 y101 0) = some r := by first | (rw [hy101]; with_reducible exact H) | (have H2_ := (Option.bind_some _ _).symm.trans H; rw [hy101]; with_reducible exact H2_) | (have H2_ := (Option.bind_some _ _).symm.trans H; with_reducible exact H2_) | with_reducible exact H | (rw [hy101]; exact H) | exact H
      have Ny101 := Aside0.mk hy101
      clear hy101
      have H' := Aside0.mk H
      clear H
      go_enter Try.func22, Try.ntmps22
      go_wp2_with (first | ((with_reducible refine gate_dst (N := 8) rfl ?_); refine Kd.R_make (Kd.int .u8) _ 43 rfl (N := 8) rfl 35 _ _ rfl a0 rfl rfl Try.underlying35 (.int .u8 0) 1 info43 rfl (by decide) (by omega) 0 (ok := fun _ => True) (okp := fun _ => True) rfl (fun _ hk => hk) trivial (of_decide_eq_true (by first | (with_reducible assumption) | assumption)) (Nat.le_trans (Nat.mul_le_mul_right _ (of_decide_eq_true (by first | (with_reducible assumption) | assumption) : a0.toNat ≤ 281474976710656)) (by omega)) (Below.refl _ _) (Nat.le_refl _) ?_; intro v102 w5 ho6 hb hg_ hnew_; clear hg_ hnew_; (first | rw [← Ny101.out] at ho6 | (simp only [Int.reduceToNat] at ho6; rw [← Ny101.out] at ho6)); have n0_ := Aside0.mk (Kd.R_lower ho6 (below_size (by repeat (first | (with_reducible first | exact HB.out | apply below_alloc | apply pw_below_drewN | apply below_drew1) | exact HB.out)))); have n1_ := Aside0.mk (below_step (by repeat (first | (with_reducible first | exact HB.out | apply below_alloc | apply pw_below_drewN | apply below_drew1) | exact HB.out)) hb); clear HB; have HO103 := n0_; have HB := n1_; clear n0_ n1_; clear hb ho6))
      go_loopg [6] k (fun kq v6 w' => ∃ (x5_1 : List Int) (x6_1 : Int), v6 = .int .i64 x6_1 ∧ Aside0 (redpenref10_All.l0 kq a0 a1 x5_1 x6_1 = some r) ∧ Aside0 (kq ≤ k) ∧ Aside0 (Kd.R (Kd.int .u8) 43 w' w.heap.size (fun _ => True) v102 x5_1) ∧ Aside0 (Below w.heap.size w w'))
      case atStart => exact ⟨(y101), (0), (by first | rfl | (simp; done) | (simp [*]; done)), H', ⟨Nat.le_refl _⟩, ⟨by (with_reducible repeat (first | apply Kd.R_alloc | apply Kd.R_drewN | apply Kd.R_drew)); exact HO103.out⟩, ⟨by repeat (first | (with_reducible first | exact HB.out | apply below_alloc | apply pw_below_drewN | apply below_drew1) | exact HB.out)⟩⟩
      case round =>
        clear H'
        try clear c2
        try clear p2
        try clear c3
        try clear c3b0
        try clear c3b1
        try clear c4
        try clear c4b0
        try clear c4b1
        obtain ⟨x5_1, x6_1, rfl, HA, HK1, HO_5, HB⟩ := hrel
        cases gk with
        | zero => exact absurd HA.out (by simp [redpenref10_All.l0])
        | succ k1 =>
          have H := HA.out
          clear HA
          simp only [redpenref10_All.l0] at H
          by_cases c7 : x6_1 < a0
          · rw [if_pos c7] at H
            have c7b0 : decide (x6_1 < a0) = true := decide_eq_true c7
            clear c7
            by_cases c8 : 0 ≤ x6_1
            · rw [if_pos c8] at H
              have c8b0 : decide (0 ≤ x6_1) = true := decide_eq_true c8
              clear c8
              by_cases c9 : x6_1 < (x5_1.length : Int)
              · rw [if_pos c9] at H
                have c9b0 : decide (x6_1 < (x5_1.length : Int)) = true := decide_eq_true c9
                clear c9
                obtain ⟨y104, hy104⟩ : ∃ y_ : List Int, y_ = (x5_1.set (x6_1 : Int).toNat a1) := ⟨_, rfl⟩
                replace H : (redpenref10_All.l0 k1 a0 a1 y104 (wrap64 (x6_1 + 1))) = some r := by first | (rw [hy104]; with_reducible exact H) | (have H2_ := (Option.bind_some _ _).symm.trans H; rw [hy104]; with_reducible exact H2_) | (have H2_ := (Option.bind_some _ _).symm.trans H; with_reducible exact H2_) | with_reducible exact H | (rw [hy104]; exact H) | exact H
                have Ny104 := Aside0.mk hy104
                clear hy104
                have H' := Aside0.mk H
                clear H
                have p10 : 0 ≤ (x6_1 : Int) := of_decide_eq_true (by first | (with_reducible assumption) | assumption)
                have q10 : (x6_1 : Int) < ((x5_1.length : Int) : Int) := of_decide_eq_true (by first | (with_reducible assumption) | assumption)
                obtain ⟨go10, co10, eo10, gb10, gl10, cl10, HG10⟩ := Kd.R_form HO_5.out (by omega)
                (first | cases eo10 | (injection eo10 with ea_ en_ ec_; (first | subst ea_ | (injection ea_ with ea_; subst ea_)); subst ec_; clear en_))
                have GB10 := Aside0.mk gb10
                have GG10 := Aside0.mk HG10
                clear gb10 gl10 HG10
                obtain ⟨hx10_0, hf10_0⟩ := Kd.R_celln 0 HO_5.out (x6_1 : Int) p10 q10
                replace p10 := eq_true p10
                replace q10 := eq_true q10
                have HP11 := Kd.R_putg HO_5.out (x6_1 : Int) a1
                go_wp2_with (first | ((with_reducible refine gate_store (t := 43) (p := 17) rfl ?_); refine store_event (t := 43) (p := 17) (v := ?vo_w12) (w1 := (wr.setCell ⟨go10, (x6_1 : Int).toNat, none⟩ (.int .u8 a1))) ?hg ?ho ?hn ?hr ?_; (case ho => rfl); (case hg => rfl); (case hn => rfl); (case hr => first | (go_simp; done) | (go_simp; rfl)); intro w12 hw; have hg : wr.grownBy w12 (some go10) := (by rw [hw]; exact HP11.2); have hp_ : Kd.R (Kd.int .u8) 43 w12 w.heap.size (fun _ => True) (.slice (some ⟨go10, 0, none⟩) x5_1.length co10) y104 := (by rw [hw, Ny104.out]; exact HP11.1); clear HP11; have n0_ := Aside0.mk (hp_); have n1_ := Aside0.mk ((by rw [hw]; exact below_set (HB.out) GB10.out : Below w.heap.size w w12)); clear HO_5; clear HB; have HO_5 := n0_; have HB := n1_; clear n0_ n1_; clear hg hw hp_))
                go_roundg k1
                case measure => have := HK1.out; omega
                case rel => exact ⟨(y104), (wrap64 (x6_1 + 1)), (by first | rfl | (simp; done) | (simp [*]; done)), H', ⟨by have := HK1.out; omega⟩, ⟨by (with_reducible repeat (first | apply Kd.R_alloc | apply Kd.R_drewN | apply Kd.R_drew)); exact HO_5.out⟩, ⟨by repeat (first | (with_reducible first | exact HB.out | apply below_alloc | apply pw_below_drewN | apply below_drew1) | exact HB.out)⟩⟩
              · rw [if_neg c9] at H
                exact absurd H (by simp)
            · rw [if_neg c8] at H
              exact absurd H (by simp)
          · rw [if_neg c7] at H
            have c7b0 : decide (x6_1 < a0) = false := decide_eq_false c7
            clear c7
            obtain rfl := Option.some.inj H
            go_wp2
            go_ret
            exact ⟨_, by first | rfl | (simp [errW_none, errW_some] <;> rfl) | (simp [*, errW_none, errW_some] <;> rfl), by (with_reducible repeat (first | apply Kd.R_alloc | apply Kd.R_drewN | apply Kd.R_drew)); exact HO_5.out, by repeat (first | (with_reducible first | exact HB.out | apply below_alloc | apply pw_below_drewN | apply below_drew1) | exact HB.out)⟩
    · rw [if_neg c4] at H
      exact absurd H (by simp)
  · rw [if_neg c3] at H
    exact absurd H (by simp)

/-! ### redpenref10_at: function 25 -/
def redpenref10_at.f (a0 : ByteArray) (a1 : Int) (a2 : ByteArray) : Option (Bool) := if (wrap64 (a1 + (a2.size : Int))) ≤ (a0.size : Int) then (if 0 ≤ a1 then (if a1 ≤ (wrap64 (a1 + (a2.size : Int))) then (some ((a0.extract (a1 : Int).toNat ((wrap64 (a1 + (a2.size : Int))) : Int).toNat).toList == a2.toList)) else (none)) else (none)) else (some false)
set_option maxHeartbeats 8000000 in
set_option maxRecDepth 100000 in
theorem redpenref10_at.calls (a0 : ByteArray) (a1 : Int) (a2 : ByteArray) (r : Bool) (w : World) (h : redpenref10_at.f a0 a1 a2 = some r) :
    Calls Try.prog 25 #[.string a0, .int .i64 a1, .string a2] w fun e w' => e = .returned (.bool r) ∧ Drawn0 w w' := by
  have H : (if (wrap64 (a1 + (a2.size : Int))) ≤ (a0.size : Int) then (if 0 ≤ a1 then (if a1 ≤ (wrap64 (a1 + (a2.size : Int))) then (some ((a0.extract (a1 : Int).toNat ((wrap64 (a1 + (a2.size : Int))) : Int).toNat).toList == a2.toList)) else (none)) else (none)) else (some false)) = some r := h
  clear h
  by_cases c4 : (wrap64 (a1 + (a2.size : Int))) ≤ (a0.size : Int)
  · rw [if_pos c4] at H
    have c4b0 : decide ((wrap64 (a1 + (a2.size : Int))) ≤ (a0.size : Int)) = true := decide_eq_true c4
    clear c4
    by_cases c5 : 0 ≤ a1
    · rw [if_pos c5] at H
      have c5b0 := eq_true c5
      have c5b1 : decide (0 ≤ a1) = true := decide_eq_true c5
      clear c5
      by_cases c6 : a1 ≤ (wrap64 (a1 + (a2.size : Int)))
      · rw [if_pos c6] at H
        have c6b0 := eq_true c6
        have c6b1 : decide (a1 ≤ (wrap64 (a1 + (a2.size : Int)))) = true := decide_eq_true c6
        have c7b0 := eq_true (of_decide_eq_true (by first | (with_reducible assumption) | assumption) : (wrap64 (a1 + (a2.size : Int))) ≤ (a0.size : Int))
        obtain rfl := Option.some.inj H
        go_enter Try.func25, Try.ntmps25
        go_wp2
        go_ret
        exact ⟨by first | rfl | (simp; done) | (simp [*]; done), by repeat (first | exact Drawn0.refl _ | apply Drawn0.step)⟩
      · rw [if_neg c6] at H
        exact absurd H (by simp)
    · rw [if_neg c5] at H
      exact absurd H (by simp)
  · rw [if_neg c4] at H
    have c4b0 : decide ((wrap64 (a1 + (a2.size : Int))) ≤ (a0.size : Int)) = false := decide_eq_false c4
    clear c4
    obtain rfl := Option.some.inj H
    go_enter Try.func25, Try.ntmps25
    go_wp2
    go_ret
    exact ⟨by first | rfl | (simp; done) | (simp [*]; done), by repeat (first | exact Drawn0.refl _ | apply Drawn0.step)⟩

/-! ### redpenref10_note: function 23 -/
mutual
def redpenref10_note.j0 : Nat → Int → ByteArray → Int → Bool → Option (Int)
  | 0, _, _, _, _ => none
  | k + 1, x0, x1, x2, x7 => if x7 = true then (redpenref10_note.j1 k x0 x1 x2 x7) else (if x0 = 8 then ((redpenref10_at.f x1 x2 (⟨#[45, 45]⟩ : ByteArray)).bind fun t107 => (redpenref10_note.j1 k x0 x1 x2 t107)) else (redpenref10_note.j1 k x0 x1 x2 false))
def redpenref10_note.j1 : Nat → Int → ByteArray → Int → Bool → Option (Int)
  | 0, _, _, _, _ => none
  | k + 1, x0, x1, x2, x7 => if x7 = true then (some 2) else (if x0 = 6 then ((redpenref10_at.f x1 x2 (⟨#[35]⟩ : ByteArray)).bind fun t108 => (redpenref10_note.j2 k x0 x1 x2 t108)) else (redpenref10_note.j2 k x0 x1 x2 false))
def redpenref10_note.j2 : Nat → Int → ByteArray → Int → Bool → Option (Int)
  | 0, _, _, _, _ => none
  | k + 1, x0, x1, x2, x26 => if x26 = true then (some 1) else (if x0 = 7 then ((redpenref10_at.f x1 x2 (⟨#[35]⟩ : ByteArray)).bind fun t109 => (if t109 = true then (if x2 = 0 then (some 1) else (if 0 ≤ (wrap64 (x2 - 1)) then (if (wrap64 (x2 - 1)) < (x1.size : Int) then (if (bt x1 (wrap64 (x2 - 1))) = 32 then (some 1) else (if (bt x1 (wrap64 (x2 - 1))) = 9 then (some 1) else (if (bt x1 (wrap64 (x2 - 1))) = 10 then (some 1) else (if (bt x1 (wrap64 (x2 - 1))) = 13 then (some 1) else (if (bt x1 (wrap64 (x2 - 1))) = 59 then (some 1) else (some 0)))))) else (none)) else (none))) else (some 0))) else (some 0))
end
def redpenref10_note.f (k : Nat) (a0 : Int) (a1 : ByteArray) (a2 : Int) : Option (Int) := if a0 = 4 then ((redpenref10_at.f a1 a2 (⟨#[47, 47]⟩ : ByteArray)).bind fun t105 => (redpenref10_note.j0 k a0 a1 a2 t105)) else (if a0 = 5 then ((redpenref10_at.f a1 a2 (⟨#[47, 47]⟩ : ByteArray)).bind fun t106 => (redpenref10_note.j0 k a0 a1 a2 t106)) else (redpenref10_note.j0 k a0 a1 a2 false))
theorem redpenref10_note.mono_l : ∀ k, (∀ y0 y1 y2 y3, LeO (redpenref10_note.j0 k y0 y1 y2 y3) (redpenref10_note.j0 (k + 1) y0 y1 y2 y3)) ∧ (∀ y0 y1 y2 y3, LeO (redpenref10_note.j1 k y0 y1 y2 y3) (redpenref10_note.j1 (k + 1) y0 y1 y2 y3)) ∧ (∀ y0 y1 y2 y3, LeO (redpenref10_note.j2 k y0 y1 y2 y3) (redpenref10_note.j2 (k + 1) y0 y1 y2 y3))
  | 0 => ⟨fun _ _ _ _ r h => by simp [redpenref10_note.j0] at h, fun _ _ _ _ r h => by simp [redpenref10_note.j1] at h, fun _ _ _ _ r h => by simp [redpenref10_note.j2] at h⟩
  | k + 1 => by
    obtain ⟨ih0, ih1, ih2⟩ := redpenref10_note.mono_l k
    refine ⟨?_, ?_, ?_⟩
    · intro y0 y1 y2 y3
      unfold redpenref10_note.j0
      repeat' first
      | (with_reducible exact ih0 _ _ _ _)
      | (with_reducible exact ih1 _ _ _ _)
      | (with_reducible exact ih2 _ _ _ _)
      | (with_reducible exact LeO.refl _)
      | (with_reducible exact LeO.none _)
      | (with_reducible refine LeO.ite ?_ ?_)
      | (with_reducible refine LeO.bind ?_ (fun _ => ?_))
      | exact ih0 _ _ _ _
      | exact ih1 _ _ _ _
      | exact ih2 _ _ _ _
      | exact LeO.none _
      | refine LeO.ite ?_ ?_
      | refine LeO.bind ?_ (fun _ => ?_)
    · intro y0 y1 y2 y3
      unfold redpenref10_note.j1
      repeat' first
      | (with_reducible exact ih0 _ _ _ _)
      | (with_reducible exact ih1 _ _ _ _)
      | (with_reducible exact ih2 _ _ _ _)
      | (with_reducible exact LeO.refl _)
      | (with_reducible exact LeO.none _)
      | (with_reducible refine LeO.ite ?_ ?_)
      | (with_reducible refine LeO.bind ?_ (fun _ => ?_))
      | exact ih0 _ _ _ _
      | exact ih1 _ _ _ _
      | exact ih2 _ _ _ _
      | exact LeO.none _
      | refine LeO.ite ?_ ?_
      | refine LeO.bind ?_ (fun _ => ?_)
    · intro y0 y1 y2 y3
      unfold redpenref10_note.j2
      repeat' first
      | (with_reducible exact ih0 _ _ _ _)
      | (with_reducible exact ih1 _ _ _ _)
      | (with_reducible exact ih2 _ _ _ _)
      | (with_reducible exact LeO.refl _)
      | (with_reducible exact LeO.none _)
      | (with_reducible refine LeO.ite ?_ ?_)
      | (with_reducible refine LeO.bind ?_ (fun _ => ?_))
      | exact ih0 _ _ _ _
      | exact ih1 _ _ _ _
      | exact ih2 _ _ _ _
      | exact LeO.none _
      | refine LeO.ite ?_ ?_
      | refine LeO.bind ?_ (fun _ => ?_)
theorem redpenref10_note.mono : ∀ a0 a1 a2 k, LeO (redpenref10_note.f k a0 a1 a2) (redpenref10_note.f (k + 1) a0 a1 a2) := by
  intro a0 a1 a2 k
  obtain ⟨ih0, ih1, ih2⟩ := redpenref10_note.mono_l k
  unfold redpenref10_note.f
  repeat' first
      | (with_reducible exact ih0 _ _ _ _)
      | (with_reducible exact ih1 _ _ _ _)
      | (with_reducible exact ih2 _ _ _ _)
      | (with_reducible exact LeO.refl _)
      | (with_reducible exact LeO.none _)
      | (with_reducible refine LeO.ite ?_ ?_)
      | (with_reducible refine LeO.bind ?_ (fun _ => ?_))
      | exact ih0 _ _ _ _
      | exact ih1 _ _ _ _
      | exact ih2 _ _ _ _
      | exact LeO.none _
      | refine LeO.ite ?_ ?_
      | refine LeO.bind ?_ (fun _ => ?_)
set_option maxHeartbeats 8000000 in
set_option maxRecDepth 100000 in
theorem redpenref10_note.calls (k : Nat) (a0 : Int) (a1 : ByteArray) (a2 : Int) (r : Int) (w : World) (h : redpenref10_note.f k a0 a1 a2 = some r) :
    Calls Try.prog 23 #[.int .u8 a0, .string a1, .int .i64 a2] w fun e w' => e = .returned (.int .i64 r) ∧ Drawn0 w w' := by
  have H : (if a0 = 4 then ((redpenref10_at.f a1 a2 (⟨#[47, 47]⟩ : ByteArray)).bind fun t105 => (redpenref10_note.j0 k a0 a1 a2 t105)) else (if a0 = 5 then ((redpenref10_at.f a1 a2 (⟨#[47, 47]⟩ : ByteArray)).bind fun t106 => (redpenref10_note.j0 k a0 a1 a2 t106)) else (redpenref10_note.j0 k a0 a1 a2 false))) = some r := h
  clear h
  have HC4 := Aside0.mk H
  clear H
  go_enter Try.func23, Try.ntmps23
  go_upto_region 1 with (fail)
  go_cut [7] (fun v7 wc => ∃ (kq : Nat) (x7_3 : Bool), v7 = .bool x7_3 ∧ Aside0 (redpenref10_note.j0 kq a0 a1 a2 x7_3 = some r) ∧ Aside0 (kq ≤ k) ∧ Drawn0 w wc)
  case first =>
    have H := HC4.out
    clear HC4
    by_cases c5 : a0 = 4
    · rw [if_pos c5] at H
      have c5b0 : (a0 == 4) = true := beq_iff_eq.mpr c5
      have c5b1 : (a0 != 4) = false := bne_eq_false_iff_eq.mpr c5
      clear c5
      (first | rw [c5b0] | (simp only [i64_w, i32_w]; rw [c5b0]) | skip)
      replace H := Option.bind_eq_some_iff.mp H
      obtain ⟨t105, A60, H⟩ := H
      replace H : (redpenref10_note.j0 k a0 a1 a2 t105) = some r := H
      have A6 := Aside0.mk A60
      clear A60
      have H' := Aside0.mk H
      clear H
      go_wp2_with (first | (go_at_call 25; (with_reducible refine (redpenref10_at.calls a1 a2 (⟨#[47, 47]⟩ : ByteArray) t105 _ A6.out).mono ?_); rintro e w' ⟨rfl, ⟨nd, rfl⟩⟩))
      go_meet
      case rel => exact ⟨_, (t105), (by first | rfl | (simp; done) | (simp [*]; done)), H', ⟨by first | omega | exact Nat.le_refl _⟩, by repeat (first | exact Drawn0.refl _ | apply Drawn0.step)⟩
    · rw [if_neg c5] at H
      have c5b0 : (a0 == 4) = false := beq_eq_false_iff_ne.mpr c5
      have c5b1 : (a0 != 4) = true := bne_iff_ne.mpr c5
      (first | rw [c5b0] | (simp only [i64_w, i32_w]; rw [c5b0]) | skip)
      by_cases c7 : a0 = 5
      · rw [if_pos c7] at H
        have c7b0 : (a0 == 5) = true := beq_iff_eq.mpr c7
        have c7b1 : (a0 != 5) = false := bne_eq_false_iff_eq.mpr c7
        clear c7
        replace H := Option.bind_eq_some_iff.mp H
        obtain ⟨t106, A80, H⟩ := H
        replace H : (redpenref10_note.j0 k a0 a1 a2 t106) = some r := H
        have A8 := Aside0.mk A80
        clear A80
        have H' := Aside0.mk H
        clear H
        go_wp2_with (first | (go_at_call 25; (with_reducible refine (redpenref10_at.calls a1 a2 (⟨#[47, 47]⟩ : ByteArray) t106 _ A8.out).mono ?_); rintro e w' ⟨rfl, ⟨nd, rfl⟩⟩))
        go_meet
        case rel => exact ⟨_, (t106), (by first | rfl | (simp; done) | (simp [*]; done)), H', ⟨by first | omega | exact Nat.le_refl _⟩, by repeat (first | exact Drawn0.refl _ | apply Drawn0.step)⟩
      · rw [if_neg c7] at H
        have c7b0 : (a0 == 5) = false := beq_eq_false_iff_ne.mpr c7
        have c7b1 : (a0 != 5) = true := bne_iff_ne.mpr c7
        have H' := Aside0.mk H
        clear H
        go_wp2
        go_meet
        case rel => exact ⟨_, (false), (by first | rfl | (simp; done) | (simp [*]; done)), H', ⟨by first | omega | exact Nat.le_refl _⟩, by repeat (first | exact Drawn0.refl _ | apply Drawn0.step)⟩
  case rest =>
    clear HC4
    try clear c2
    try clear p2
    try clear c5
    try clear c5b0
    try clear c5b1
    try clear c7
    try clear c7b0
    try clear c7b1
    obtain ⟨kq, x7_3, rfl, HA, HJ3, ⟨mc3, rfl⟩⟩ := hcut
    cases kq with
    | zero => exact absurd HA.out (by simp [redpenref10_note.j0])
    | succ kj3 =>
      have H := HA.out
      clear HA
      simp only [redpenref10_note.j0] at H
      have HC9 := Aside0.mk H
      clear H
      go_upto_if 7 with (fail)
      go_cut [7] (fun v7 wc => ∃ (kq : Nat) (x7_8 : Bool), v7 = .bool x7_8 ∧ Aside0 (redpenref10_note.j1 kq a0 a1 a2 x7_8 = some r) ∧ Aside0 (kq ≤ kj3) ∧ Drawn0 w wc)
      case first =>
        have H := HC9.out
        clear HC9
        by_cases c10 : x7_3 = true
        · subst c10
          have H1 : (redpenref10_note.j1 kj3 a0 a1 a2 true) = some r := by rw [if_pos rfl] at H; exact H
          clear H
          have H := H1
          clear H1
          have H' := Aside0.mk H
          clear H
          go_wp2
          go_meet
          case rel => exact ⟨_, (true), (by first | rfl | (simp; done) | (simp [*]; done)), H', ⟨by have := HJ3.out; first | omega | exact Nat.le_refl _⟩, by repeat (first | exact Drawn0.refl _ | apply Drawn0.step)⟩
        · replace c10 := Bool.eq_false_iff.mpr c10
          subst c10
          have H1 : (if a0 = 8 then ((redpenref10_at.f a1 a2 (⟨#[45, 45]⟩ : ByteArray)).bind fun t107 => (redpenref10_note.j1 kj3 a0 a1 a2 t107)) else (redpenref10_note.j1 kj3 a0 a1 a2 false)) = some r := by rw [if_neg (show ¬ (false = true) by decide)] at H; exact H
          clear H
          have H := H1
          clear H1
          by_cases c11 : a0 = 8
          · rw [if_pos c11] at H
            have c11b0 : (a0 == 8) = true := beq_iff_eq.mpr c11
            have c11b1 : (a0 != 8) = false := bne_eq_false_iff_eq.mpr c11
            clear c11
            (first | rw [c11b0] | (simp only [i64_w, i32_w]; rw [c11b0]) | skip)
            replace H := Option.bind_eq_some_iff.mp H
            obtain ⟨t107, A120, H⟩ := H
            replace H : (redpenref10_note.j1 kj3 a0 a1 a2 t107) = some r := H
            have A12 := Aside0.mk A120
            clear A120
            have H' := Aside0.mk H
            clear H
            go_wp2_with (first | (go_at_call 25; (with_reducible refine (redpenref10_at.calls a1 a2 (⟨#[45, 45]⟩ : ByteArray) t107 _ A12.out).mono ?_); rintro e w' ⟨rfl, ⟨nd, rfl⟩⟩))
            go_meet
            case rel => exact ⟨_, (t107), (by first | rfl | (simp; done) | (simp [*]; done)), H', ⟨by have := HJ3.out; first | omega | exact Nat.le_refl _⟩, by repeat (first | exact Drawn0.refl _ | apply Drawn0.step)⟩
          · rw [if_neg c11] at H
            have c11b0 : (a0 == 8) = false := beq_eq_false_iff_ne.mpr c11
            have c11b1 : (a0 != 8) = true := bne_iff_ne.mpr c11
            (first | rw [c11b0] | (simp only [i64_w, i32_w]; rw [c11b0]) | skip)
            have H' := Aside0.mk H
            clear H
            go_wp2
            go_meet
            case rel => exact ⟨_, (false), (by first | rfl | (simp; done) | (simp [*]; done)), H', ⟨by have := HJ3.out; first | omega | exact Nat.le_refl _⟩, by repeat (first | exact Drawn0.refl _ | apply Drawn0.step)⟩
      case rest =>
        clear HC9
        try clear c1
        try clear c2
        try clear p2
        try clear c3
        try clear c5
        try clear c5b0
        try clear c5b1
        try clear c7
        try clear c7b0
        try clear c7b1
        try clear c10
        try clear c11
        try clear c11b0
        try clear c11b1
        try clear p2
        obtain ⟨kq, x7_8, rfl, HA, HJ8, ⟨mc8, rfl⟩⟩ := hcut
        cases kq with
        | zero => exact absurd HA.out (by simp [redpenref10_note.j1])
        | succ kj8 =>
          have H := HA.out
          clear HA
          simp only [redpenref10_note.j1] at H
          by_cases c13 : x7_8 = true
          · subst c13
            have H1 : (some 2) = some r := by rw [if_pos rfl] at H; exact H
            clear H
            have H := H1
            clear H1
            obtain rfl := Option.some.inj H
            go_wp2
            go_ret
            exact ⟨by first | rfl | (simp; done) | (simp [*]; done), by repeat (first | exact Drawn0.refl _ | apply Drawn0.step)⟩
          · replace c13 := Bool.eq_false_iff.mpr c13
            subst c13
            have H1 : (if a0 = 6 then ((redpenref10_at.f a1 a2 (⟨#[35]⟩ : ByteArray)).bind fun t108 => (redpenref10_note.j2 kj8 a0 a1 a2 t108)) else (redpenref10_note.j2 kj8 a0 a1 a2 false)) = some r := by rw [if_neg (show ¬ (false = true) by decide)] at H; exact H
            clear H
            have H := H1
            clear H1
            have HC14 := Aside0.mk H
            clear H
            go_upto_region 4 with (fail)
            go_cut [26] (fun v26 wc => ∃ (kq : Nat) (x26_13 : Bool), v26 = .bool x26_13 ∧ Aside0 (redpenref10_note.j2 kq a0 a1 a2 x26_13 = some r) ∧ Aside0 (kq ≤ kj8) ∧ Drawn0 w wc)
            case first =>
              have H := HC14.out
              clear HC14
              by_cases c15 : a0 = 6
              · rw [if_pos c15] at H
                have c15b0 : (a0 == 6) = true := beq_iff_eq.mpr c15
                have c15b1 : (a0 != 6) = false := bne_eq_false_iff_eq.mpr c15
                clear c15
                (first | rw [c15b0] | (simp only [i64_w, i32_w]; rw [c15b0]) | skip)
                replace H := Option.bind_eq_some_iff.mp H
                obtain ⟨t108, A160, H⟩ := H
                replace H : (redpenref10_note.j2 kj8 a0 a1 a2 t108) = some r := H
                have A16 := Aside0.mk A160
                clear A160
                have H' := Aside0.mk H
                clear H
                go_wp2_with (first | (go_at_call 25; (with_reducible refine (redpenref10_at.calls a1 a2 (⟨#[35]⟩ : ByteArray) t108 _ A16.out).mono ?_); rintro e w' ⟨rfl, ⟨nd, rfl⟩⟩))
                go_meet
                case rel => exact ⟨_, (t108), (by first | rfl | (simp; done) | (simp [*]; done)), H', ⟨by have := HJ3.out; have := HJ8.out; first | omega | exact Nat.le_refl _⟩, by repeat (first | exact Drawn0.refl _ | apply Drawn0.step)⟩
              · rw [if_neg c15] at H
                have c15b0 : (a0 == 6) = false := beq_eq_false_iff_ne.mpr c15
                have c15b1 : (a0 != 6) = true := bne_iff_ne.mpr c15
                (first | rw [c15b0] | (simp only [i64_w, i32_w]; rw [c15b0]) | skip)
                have H' := Aside0.mk H
                clear H
                go_wp2
                go_meet
                case rel => exact ⟨_, (false), (by first | rfl | (simp; done) | (simp [*]; done)), H', ⟨by have := HJ3.out; have := HJ8.out; first | omega | exact Nat.le_refl _⟩, by repeat (first | exact Drawn0.refl _ | apply Drawn0.step)⟩
            case rest =>
              clear HC14
              try clear c1
              try clear c2
              try clear p2
              try clear c3
              try clear c5
              try clear c5b0
              try clear c5b1
              try clear c7
              try clear c7b0
              try clear c7b1
              try clear c8
              try clear c10
              try clear c11
              try clear c11b0
              try clear c11b1
              try clear c13
              try clear c15
              try clear c15b0
              try clear c15b1
              try clear p2
              obtain ⟨kq, x26_13, rfl, HA, HJ13, ⟨mc13, rfl⟩⟩ := hcut
              cases kq with
              | zero => exact absurd HA.out (by simp [redpenref10_note.j2])
              | succ kj13 =>
                have H := HA.out
                clear HA
                simp only [redpenref10_note.j2] at H
                by_cases c17 : x26_13 = true
                · subst c17
                  have H1 : (some 1) = some r := by rw [if_pos rfl] at H; exact H
                  clear H
                  have H := H1
                  clear H1
                  obtain rfl := Option.some.inj H
                  go_wp2
                  go_ret
                  exact ⟨by first | rfl | (simp; done) | (simp [*]; done), by repeat (first | exact Drawn0.refl _ | apply Drawn0.step)⟩
                · replace c17 := Bool.eq_false_iff.mpr c17
                  subst c17
                  have H1 : (if a0 = 7 then ((redpenref10_at.f a1 a2 (⟨#[35]⟩ : ByteArray)).bind fun t109 => (if t109 = true then (if a2 = 0 then (some 1) else (if 0 ≤ (wrap64 (a2 - 1)) then (if (wrap64 (a2 - 1)) < (a1.size : Int) then (if (bt a1 (wrap64 (a2 - 1))) = 32 then (some 1) else (if (bt a1 (wrap64 (a2 - 1))) = 9 then (some 1) else (if (bt a1 (wrap64 (a2 - 1))) = 10 then (some 1) else (if (bt a1 (wrap64 (a2 - 1))) = 13 then (some 1) else (if (bt a1 (wrap64 (a2 - 1))) = 59 then (some 1) else (some 0)))))) else (none)) else (none))) else (some 0))) else (some 0)) = some r := by rw [if_neg (show ¬ (false = true) by decide)] at H; exact H
                  clear H
                  have H := H1
                  clear H1
                  by_cases c18 : a0 = 7
                  · rw [if_pos c18] at H
                    have c18b0 : (a0 == 7) = true := beq_iff_eq.mpr c18
                    have c18b1 : (a0 != 7) = false := bne_eq_false_iff_eq.mpr c18
                    clear c18
                    replace H := Option.bind_eq_some_iff.mp H
                    obtain ⟨t109, A190, H⟩ := H
                    replace H : (if t109 = true then (if a2 = 0 then (some 1) else (if 0 ≤ (wrap64 (a2 - 1)) then (if (wrap64 (a2 - 1)) < (a1.size : Int) then (if (bt a1 (wrap64 (a2 - 1))) = 32 then (some 1) else (if (bt a1 (wrap64 (a2 - 1))) = 9 then (some 1) else (if (bt a1 (wrap64 (a2 - 1))) = 10 then (some 1) else (if (bt a1 (wrap64 (a2 - 1))) = 13 then (some 1) else (if (bt a1 (wrap64 (a2 - 1))) = 59 then (some 1) else (some 0)))))) else (none)) else (none))) else (some 0)) = some r := H
                    have A19 := Aside0.mk A190
                    clear A190
                    by_cases c20 : t109 = true
                    · subst c20
                      have H1 : (if a2 = 0 then (some 1) else (if 0 ≤ (wrap64 (a2 - 1)) then (if (wrap64 (a2 - 1)) < (a1.size : Int) then (if (bt a1 (wrap64 (a2 - 1))) = 32 then (some 1) else (if (bt a1 (wrap64 (a2 - 1))) = 9 then (some 1) else (if (bt a1 (wrap64 (a2 - 1))) = 10 then (some 1) else (if (bt a1 (wrap64 (a2 - 1))) = 13 then (some 1) else (if (bt a1 (wrap64 (a2 - 1))) = 59 then (some 1) else (some 0)))))) else (none)) else (none))) = some r := by rw [if_pos rfl] at H; exact H
                      clear H
                      have H := H1
                      clear H1
                      by_cases c21 : a2 = 0
                      · rw [if_pos c21] at H
                        have c21b0 : (a2 == 0) = true := beq_iff_eq.mpr c21
                        have c21b1 : (a2 != 0) = false := bne_eq_false_iff_eq.mpr c21
                        clear c21
                        obtain rfl := Option.some.inj H
                        go_wp2_with (first | (go_at_call 25; (with_reducible refine (redpenref10_at.calls a1 a2 (⟨#[35]⟩ : ByteArray) true _ A19.out).mono ?_); rintro e w' ⟨rfl, ⟨nd, rfl⟩⟩))
                        go_ret
                        exact ⟨by first | rfl | (simp; done) | (simp [*]; done), by repeat (first | exact Drawn0.refl _ | apply Drawn0.step)⟩
                      · rw [if_neg c21] at H
                        have c21b0 : (a2 == 0) = false := beq_eq_false_iff_ne.mpr c21
                        have c21b1 : (a2 != 0) = true := bne_iff_ne.mpr c21
                        obtain ⟨ji22, hji22⟩ : ∃ j_ : Int, (wrap64 (a2 - 1)) = j_ := ⟨_, rfl⟩
                        replace H : (if 0 ≤ (ji22) then (if (ji22) < (a1.size : Int) then (if (bt a1 (ji22)) = 32 then (some 1) else (if (bt a1 (ji22)) = 9 then (some 1) else (if (bt a1 (ji22)) = 10 then (some 1) else (if (bt a1 (ji22)) = 13 then (some 1) else (if (bt a1 (ji22)) = 59 then (some 1) else (some 0)))))) else (none)) else (none)) = some r := by first | (rw [hji22] at H; exact H) | (simp only [hji22] at H ⊢; exact H)
                        (try rw [hji22] at A19)
                        have hji22w : (IntKind.i64.wrap (a2 - 1)) = ji22 := (i64_w _).trans hji22
                        by_cases c23 : 0 ≤ (ji22)
                        · rw [if_pos c23] at H
                          have c23b0 : decide (0 ≤ (ji22)) = true := decide_eq_true c23
                          clear c23
                          by_cases c24 : (ji22) < (a1.size : Int)
                          · rw [if_pos c24] at H
                            have c24b0 : decide ((ji22) < (a1.size : Int)) = true := decide_eq_true c24
                            clear c24
                            by_cases c26 : (bt a1 (ji22)) = 32
                            · rw [if_pos c26] at H
                              have c26b0 : ((bt a1 (ji22)) == 32) = true := beq_iff_eq.mpr c26
                              have c26b1 : ((bt a1 (ji22)) != 32) = false := bne_eq_false_iff_eq.mpr c26
                              clear c26
                              obtain rfl := Option.some.inj H
                              go_wp2_with (first | (go_at_call 25; (with_reducible refine (redpenref10_at.calls a1 a2 (⟨#[35]⟩ : ByteArray) true _ A19.out).mono ?_); rintro e w' ⟨rfl, ⟨nd, rfl⟩⟩; have p25 : 0 ≤ ((ji22) : Int) := of_decide_eq_true (by first | (with_reducible assumption) | assumption); have q25 : (ji22) < (a1.size : Int) := of_decide_eq_true (by first | (with_reducible assumption) | assumption); have hx25 := bt_at a1 (ji22); replace p25 := eq_true p25; replace q25 := eq_true q25))
                              go_ret
                              exact ⟨by first | rfl | (simp; done) | (simp only [← hji22] <;> (first | rfl | simp)) | (simp [*]; done), by repeat (first | exact Drawn0.refl _ | apply Drawn0.step)⟩
                            · rw [if_neg c26] at H
                              have c26b0 : ((bt a1 (ji22)) == 32) = false := beq_eq_false_iff_ne.mpr c26
                              have c26b1 : ((bt a1 (ji22)) != 32) = true := bne_iff_ne.mpr c26
                              by_cases c28 : (bt a1 (ji22)) = 9
                              · rw [if_pos c28] at H
                                have c28b0 : ((bt a1 (ji22)) == 9) = true := beq_iff_eq.mpr c28
                                have c28b1 : ((bt a1 (ji22)) != 9) = false := bne_eq_false_iff_eq.mpr c28
                                clear c28
                                obtain rfl := Option.some.inj H
                                go_wp2_with (first | (go_at_call 25; (with_reducible refine (redpenref10_at.calls a1 a2 (⟨#[35]⟩ : ByteArray) true _ A19.out).mono ?_); rintro e w' ⟨rfl, ⟨nd, rfl⟩⟩; have p25 : 0 ≤ ((ji22) : Int) := of_decide_eq_true (by first | (with_reducible assumption) | assumption); have q25 : (ji22) < (a1.size : Int) := of_decide_eq_true (by first | (with_reducible assumption) | assumption); have hx25 := bt_at a1 (ji22); replace p25 := eq_true p25; replace q25 := eq_true q25; have p27 : 0 ≤ ((ji22) : Int) := of_decide_eq_true (by first | (with_reducible assumption) | assumption); have q27 : (ji22) < (a1.size : Int) := of_decide_eq_true (by first | (with_reducible assumption) | assumption); have hx27 := bt_at a1 (ji22); replace p27 := eq_true p27; replace q27 := eq_true q27))
                                go_ret
                                exact ⟨by first | rfl | (simp; done) | (simp only [← hji22] <;> (first | rfl | simp)) | (simp [*]; done), by repeat (first | exact Drawn0.refl _ | apply Drawn0.step)⟩
                              · rw [if_neg c28] at H
                                have c28b0 : ((bt a1 (ji22)) == 9) = false := beq_eq_false_iff_ne.mpr c28
                                have c28b1 : ((bt a1 (ji22)) != 9) = true := bne_iff_ne.mpr c28
                                by_cases c30 : (bt a1 (ji22)) = 10
                                · rw [if_pos c30] at H
                                  have c30b0 : ((bt a1 (ji22)) == 10) = true := beq_iff_eq.mpr c30
                                  have c30b1 : ((bt a1 (ji22)) != 10) = false := bne_eq_false_iff_eq.mpr c30
                                  clear c30
                                  obtain rfl := Option.some.inj H
                                  go_wp2_with (first | (go_at_call 25; (with_reducible refine (redpenref10_at.calls a1 a2 (⟨#[35]⟩ : ByteArray) true _ A19.out).mono ?_); rintro e w' ⟨rfl, ⟨nd, rfl⟩⟩; have p25 : 0 ≤ ((ji22) : Int) := of_decide_eq_true (by first | (with_reducible assumption) | assumption); have q25 : (ji22) < (a1.size : Int) := of_decide_eq_true (by first | (with_reducible assumption) | assumption); have hx25 := bt_at a1 (ji22); replace p25 := eq_true p25; replace q25 := eq_true q25; have p27 : 0 ≤ ((ji22) : Int) := of_decide_eq_true (by first | (with_reducible assumption) | assumption); have q27 : (ji22) < (a1.size : Int) := of_decide_eq_true (by first | (with_reducible assumption) | assumption); have hx27 := bt_at a1 (ji22); replace p27 := eq_true p27; replace q27 := eq_true q27; have p29 : 0 ≤ ((ji22) : Int) := of_decide_eq_true (by first | (with_reducible assumption) | assumption); have q29 : (ji22) < (a1.size : Int) := of_decide_eq_true (by first | (with_reducible assumption) | assumption); have hx29 := bt_at a1 (ji22); replace p29 := eq_true p29; replace q29 := eq_true q29))
                                  go_ret
                                  exact ⟨by first | rfl | (simp; done) | (simp only [← hji22] <;> (first | rfl | simp)) | (simp [*]; done), by repeat (first | exact Drawn0.refl _ | apply Drawn0.step)⟩
                                · rw [if_neg c30] at H
                                  have c30b0 : ((bt a1 (ji22)) == 10) = false := beq_eq_false_iff_ne.mpr c30
                                  have c30b1 : ((bt a1 (ji22)) != 10) = true := bne_iff_ne.mpr c30
                                  by_cases c32 : (bt a1 (ji22)) = 13
                                  · rw [if_pos c32] at H
                                    have c32b0 : ((bt a1 (ji22)) == 13) = true := beq_iff_eq.mpr c32
                                    have c32b1 : ((bt a1 (ji22)) != 13) = false := bne_eq_false_iff_eq.mpr c32
                                    clear c32
                                    obtain rfl := Option.some.inj H
                                    go_wp2_with (first | (go_at_call 25; (with_reducible refine (redpenref10_at.calls a1 a2 (⟨#[35]⟩ : ByteArray) true _ A19.out).mono ?_); rintro e w' ⟨rfl, ⟨nd, rfl⟩⟩; have p25 : 0 ≤ ((ji22) : Int) := of_decide_eq_true (by first | (with_reducible assumption) | assumption); have q25 : (ji22) < (a1.size : Int) := of_decide_eq_true (by first | (with_reducible assumption) | assumption); have hx25 := bt_at a1 (ji22); replace p25 := eq_true p25; replace q25 := eq_true q25; have p27 : 0 ≤ ((ji22) : Int) := of_decide_eq_true (by first | (with_reducible assumption) | assumption); have q27 : (ji22) < (a1.size : Int) := of_decide_eq_true (by first | (with_reducible assumption) | assumption); have hx27 := bt_at a1 (ji22); replace p27 := eq_true p27; replace q27 := eq_true q27; have p29 : 0 ≤ ((ji22) : Int) := of_decide_eq_true (by first | (with_reducible assumption) | assumption); have q29 : (ji22) < (a1.size : Int) := of_decide_eq_true (by first | (with_reducible assumption) | assumption); have hx29 := bt_at a1 (ji22); replace p29 := eq_true p29; replace q29 := eq_true q29; have p31 : 0 ≤ ((ji22) : Int) := of_decide_eq_true (by first | (with_reducible assumption) | assumption); have q31 : (ji22) < (a1.size : Int) := of_decide_eq_true (by first | (with_reducible assumption) | assumption); have hx31 := bt_at a1 (ji22); replace p31 := eq_true p31; replace q31 := eq_true q31))
                                    go_ret
                                    exact ⟨by first | rfl | (simp; done) | (simp only [← hji22] <;> (first | rfl | simp)) | (simp [*]; done), by repeat (first | exact Drawn0.refl _ | apply Drawn0.step)⟩
                                  · rw [if_neg c32] at H
                                    have c32b0 : ((bt a1 (ji22)) == 13) = false := beq_eq_false_iff_ne.mpr c32
                                    have c32b1 : ((bt a1 (ji22)) != 13) = true := bne_iff_ne.mpr c32
                                    by_cases c34 : (bt a1 (ji22)) = 59
                                    · rw [if_pos c34] at H
                                      have c34b0 : ((bt a1 (ji22)) == 59) = true := beq_iff_eq.mpr c34
                                      have c34b1 : ((bt a1 (ji22)) != 59) = false := bne_eq_false_iff_eq.mpr c34
                                      clear c34
                                      obtain rfl := Option.some.inj H
                                      go_wp2_with (first | (go_at_call 25; (with_reducible refine (redpenref10_at.calls a1 a2 (⟨#[35]⟩ : ByteArray) true _ A19.out).mono ?_); rintro e w' ⟨rfl, ⟨nd, rfl⟩⟩; have p25 : 0 ≤ ((ji22) : Int) := of_decide_eq_true (by first | (with_reducible assumption) | assumption); have q25 : (ji22) < (a1.size : Int) := of_decide_eq_true (by first | (with_reducible assumption) | assumption); have hx25 := bt_at a1 (ji22); replace p25 := eq_true p25; replace q25 := eq_true q25; have p27 : 0 ≤ ((ji22) : Int) := of_decide_eq_true (by first | (with_reducible assumption) | assumption); have q27 : (ji22) < (a1.size : Int) := of_decide_eq_true (by first | (with_reducible assumption) | assumption); have hx27 := bt_at a1 (ji22); replace p27 := eq_true p27; replace q27 := eq_true q27; have p29 : 0 ≤ ((ji22) : Int) := of_decide_eq_true (by first | (with_reducible assumption) | assumption); have q29 : (ji22) < (a1.size : Int) := of_decide_eq_true (by first | (with_reducible assumption) | assumption); have hx29 := bt_at a1 (ji22); replace p29 := eq_true p29; replace q29 := eq_true q29; have p31 : 0 ≤ ((ji22) : Int) := of_decide_eq_true (by first | (with_reducible assumption) | assumption); have q31 : (ji22) < (a1.size : Int) := of_decide_eq_true (by first | (with_reducible assumption) | assumption); have hx31 := bt_at a1 (ji22); replace p31 := eq_true p31; replace q31 := eq_true q31; have p33 : 0 ≤ ((ji22) : Int) := of_decide_eq_true (by first | (with_reducible assumption) | assumption); have q33 : (ji22) < (a1.size : Int) := of_decide_eq_true (by first | (with_reducible assumption) | assumption); have hx33 := bt_at a1 (ji22); replace p33 := eq_true p33; replace q33 := eq_true q33))
                                      go_ret
                                      exact ⟨by first | rfl | (simp; done) | (simp only [← hji22] <;> (first | rfl | simp)) | (simp [*]; done), by repeat (first | exact Drawn0.refl _ | apply Drawn0.step)⟩
                                    · rw [if_neg c34] at H
                                      have c34b0 : ((bt a1 (ji22)) == 59) = false := beq_eq_false_iff_ne.mpr c34
                                      have c34b1 : ((bt a1 (ji22)) != 59) = true := bne_iff_ne.mpr c34
                                      obtain rfl := Option.some.inj H
                                      go_wp2_with (first | (go_at_call 25; (with_reducible refine (redpenref10_at.calls a1 a2 (⟨#[35]⟩ : ByteArray) true _ A19.out).mono ?_); rintro e w' ⟨rfl, ⟨nd, rfl⟩⟩; have p25 : 0 ≤ ((ji22) : Int) := of_decide_eq_true (by first | (with_reducible assumption) | assumption); have q25 : (ji22) < (a1.size : Int) := of_decide_eq_true (by first | (with_reducible assumption) | assumption); have hx25 := bt_at a1 (ji22); replace p25 := eq_true p25; replace q25 := eq_true q25; have p27 : 0 ≤ ((ji22) : Int) := of_decide_eq_true (by first | (with_reducible assumption) | assumption); have q27 : (ji22) < (a1.size : Int) := of_decide_eq_true (by first | (with_reducible assumption) | assumption); have hx27 := bt_at a1 (ji22); replace p27 := eq_true p27; replace q27 := eq_true q27; have p29 : 0 ≤ ((ji22) : Int) := of_decide_eq_true (by first | (with_reducible assumption) | assumption); have q29 : (ji22) < (a1.size : Int) := of_decide_eq_true (by first | (with_reducible assumption) | assumption); have hx29 := bt_at a1 (ji22); replace p29 := eq_true p29; replace q29 := eq_true q29; have p31 : 0 ≤ ((ji22) : Int) := of_decide_eq_true (by first | (with_reducible assumption) | assumption); have q31 : (ji22) < (a1.size : Int) := of_decide_eq_true (by first | (with_reducible assumption) | assumption); have hx31 := bt_at a1 (ji22); replace p31 := eq_true p31; replace q31 := eq_true q31; have p33 : 0 ≤ ((ji22) : Int) := of_decide_eq_true (by first | (with_reducible assumption) | assumption); have q33 : (ji22) < (a1.size : Int) := of_decide_eq_true (by first | (with_reducible assumption) | assumption); have hx33 := bt_at a1 (ji22); replace p33 := eq_true p33; replace q33 := eq_true q33))
                                      go_ret
                                      exact ⟨by first | rfl | (simp; done) | (simp only [← hji22] <;> (first | rfl | simp)) | (simp [*]; done), by repeat (first | exact Drawn0.refl _ | apply Drawn0.step)⟩
                          · rw [if_neg c24] at H
                            exact absurd H (by simp)
                        · rw [if_neg c23] at H
                          exact absurd H (by simp)
                    · replace c20 := Bool.eq_false_iff.mpr c20
                      subst c20
                      have H1 : (some 0) = some r := by rw [if_neg (show ¬ (false = true) by decide)] at H; exact H
                      clear H
                      have H := H1
                      clear H1
                      obtain rfl := Option.some.inj H
                      go_wp2_with (first | (go_at_call 25; (with_reducible refine (redpenref10_at.calls a1 a2 (⟨#[35]⟩ : ByteArray) false _ A19.out).mono ?_); rintro e w' ⟨rfl, ⟨nd, rfl⟩⟩))
                      go_ret
                      exact ⟨by first | rfl | (simp; done) | (simp [*]; done), by repeat (first | exact Drawn0.refl _ | apply Drawn0.step)⟩
                  · rw [if_neg c18] at H
                    have c18b0 : (a0 == 7) = false := beq_eq_false_iff_ne.mpr c18
                    have c18b1 : (a0 != 7) = true := bne_iff_ne.mpr c18
                    obtain rfl := Option.some.inj H
                    go_wp2
                    go_ret
                    exact ⟨by first | rfl | (simp; done) | (simp [*]; done), by repeat (first | exact Drawn0.refl _ | apply Drawn0.step)⟩

/-! ### redpenref10_Labels_put: function 24 -/
def redpenref10_Labels_put.l0 : Nat → List Int → Int → Int → Int → Option (List Int)
  | 0, _, _, _, _ => none
  | k + 1, x0, x1, x3, x8 => if x8 < x3 then (if x8 < (x0.length : Int) then (if 0 ≤ x8 then (redpenref10_Labels_put.l0 k (x0.set (x8 : Int).toNat x1) x1 x3 (wrap64 (x8 + 1))) else (none)) else (some x0)) else (some x0)
def redpenref10_Labels_put.f (k : Nat) (l0 : List Int) (a1 : Int) (a2 : Int) (a3 : Int) : Option (List Int) := redpenref10_Labels_put.l0 k l0 a1 a3 a2
theorem redpenref10_Labels_put.mono_l : ∀ k, (∀ y0 y1 y2 y3, LeO (redpenref10_Labels_put.l0 k y0 y1 y2 y3) (redpenref10_Labels_put.l0 (k + 1) y0 y1 y2 y3))
  | 0 => fun _ _ _ _ r h => by simp [redpenref10_Labels_put.l0] at h
  | k + 1 => by
    have ih0 := redpenref10_Labels_put.mono_l k
    · intro y0 y1 y2 y3
      unfold redpenref10_Labels_put.l0
      repeat' first
      | (with_reducible exact ih0 _ _ _ _)
      | (with_reducible exact LeO.refl _)
      | (with_reducible exact LeO.none _)
      | (with_reducible refine LeO.ite ?_ ?_)
      | (with_reducible refine LeO.bind ?_ (fun _ => ?_))
      | exact ih0 _ _ _ _
      | exact LeO.none _
      | refine LeO.ite ?_ ?_
      | refine LeO.bind ?_ (fun _ => ?_)
theorem redpenref10_Labels_put.mono : ∀ a0 a1 a2 a3 k, LeO (redpenref10_Labels_put.f k a0 a1 a2 a3) (redpenref10_Labels_put.f (k + 1) a0 a1 a2 a3) := by
  intro a0 a1 a2 a3 k
  have ih0 := redpenref10_Labels_put.mono_l k
  unfold redpenref10_Labels_put.f
  repeat' first
      | (with_reducible exact ih0 _ _ _ _)
      | (with_reducible exact LeO.refl _)
      | (with_reducible exact LeO.none _)
      | (with_reducible refine LeO.ite ?_ ?_)
      | (with_reducible refine LeO.bind ?_ (fun _ => ?_))
      | exact ih0 _ _ _ _
      | exact LeO.none _
      | refine LeO.ite ?_ ?_
      | refine LeO.bind ?_ (fun _ => ?_)
set_option maxHeartbeats 8000000 in
set_option maxRecDepth 100000 in
theorem redpenref10_Labels_put.calls (k : Nat) (P0_ : Nat → Prop) (u9000_ : Value) (l0 : List Int) (a1 : Int) (a2 : Int) (a3 : Int) (r : List Int) (w0 w : World) (hB : Below w0.heap.size w0 w) (ho0 : Kd.R (Kd.int .u8) 43 w w0.heap.size P0_ u9000_ l0) (h : redpenref10_Labels_put.f k l0 a1 a2 a3 = some r) :
    Calls Try.prog 24 #[u9000_, .int .u8 a1, .int .i64 a2, .int .i64 a3] w fun e w' => e = .returned (.tuple #[]) ∧ Kd.R (Kd.int .u8) 43 w' w0.heap.size (fun k_ => (P0_ k_ ∨ w.heap.size ≤ k_)) u9000_ r ∧ Below w0.heap.size w0 w' ∧ Kept w w' (fun k_ => P0_ k_) := by
  have HO0 := Aside0.mk (show Kd.R (Kd.int .u8) 43 w w0.heap.size (fun k_ => (P0_ k_ ∨ w.heap.size ≤ k_)) u9000_ l0 from Kd.R_mono ho0 (fun k_ hk => (.inl hk)))
  have HK := Aside0.mk (Kept.refl w (fun k_ => P0_ k_))
  have HW0 := Aside0.mk hB.size
  have HB := Aside0.mk hB
  clear hB
  have H : (redpenref10_Labels_put.l0 k l0 a1 a3 a2) = some r := h
  clear h
  have H' := Aside0.mk H
  clear H
  go_enter Try.func24, Try.ntmps24
  go_wp2
  go_loopg [8] k (fun kq v8 w' => ∃ (x0_1 : List Int) (x8_1 : Int), v8 = .int .i64 x8_1 ∧ Aside0 (redpenref10_Labels_put.l0 kq x0_1 a1 a3 x8_1 = some r) ∧ Aside0 (kq ≤ k) ∧ Aside0 (Kd.R (Kd.int .u8) 43 w' w0.heap.size (fun k_ => (P0_ k_ ∨ w.heap.size ≤ k_)) u9000_ x0_1) ∧ Aside0 (Kept w w' (fun k_ => P0_ k_)) ∧ Aside0 (Below w0.heap.size w0 w'))
  case atStart => exact ⟨(l0), (a2), (by first | rfl | (simp; done) | (simp [*]; done)), H', ⟨Nat.le_refl _⟩, ⟨by (with_reducible repeat (first | apply Kd.R_alloc | apply Kd.R_drewN | apply Kd.R_drew)); exact HO0.out⟩, ⟨by repeat (first | (with_reducible first | exact HK.out | apply Kept.alloc | apply Kept.drewN | apply Kept.drew) | exact HK.out)⟩, ⟨by repeat (first | (with_reducible first | exact HB.out | apply below_alloc | apply pw_below_drewN | apply below_drew1) | exact HB.out)⟩⟩
  case round =>
    clear H'
    try clear c2
    try clear p2
    obtain ⟨x0_1, x8_1, rfl, HA, HK1, HO_0, HK, HB⟩ := hrel
    cases gk with
    | zero => exact absurd HA.out (by simp [redpenref10_Labels_put.l0])
    | succ k1 =>
      have H := HA.out
      clear HA
      simp only [redpenref10_Labels_put.l0] at H
      by_cases c5 : x8_1 < a3
      · rw [if_pos c5] at H
        have c5b0 : decide (x8_1 < a3) = true := decide_eq_true c5
        clear c5
        by_cases c6 : x8_1 < (x0_1.length : Int)
        · rw [if_pos c6] at H
          have c6b0 : decide (x8_1 < (x0_1.length : Int)) = true := decide_eq_true c6
          clear c6
          by_cases c7 : 0 ≤ x8_1
          · rw [if_pos c7] at H
            have c7b0 : decide (0 ≤ x8_1) = true := decide_eq_true c7
            clear c7
            obtain ⟨y110, hy110⟩ : ∃ y_ : List Int, y_ = (x0_1.set (x8_1 : Int).toNat a1) := ⟨_, rfl⟩
            replace H : (redpenref10_Labels_put.l0 k1 y110 a1 a3 (wrap64 (x8_1 + 1))) = some r := by first | (rw [hy110]; with_reducible exact H) | (have H2_ := (Option.bind_some _ _).symm.trans H; rw [hy110]; with_reducible exact H2_) | (have H2_ := (Option.bind_some _ _).symm.trans H; with_reducible exact H2_) | with_reducible exact H | (rw [hy110]; exact H) | exact H
            have Ny110 := Aside0.mk hy110
            clear hy110
            have H' := Aside0.mk H
            clear H
            obtain ⟨Ao9, co9, eo9⟩ := Kd.R_slice HO_0.out
            subst eo9
            have p8 : 0 ≤ (x8_1 : Int) := of_decide_eq_true (by first | (with_reducible assumption) | assumption)
            have q8 : (x8_1 : Int) < ((x0_1.length : Int) : Int) := of_decide_eq_true (by first | (with_reducible assumption) | assumption)
            obtain ⟨go8, co8, eo8, gb8, gl8, cl8, HG8⟩ := Kd.R_form HO_0.out (by omega)
            (first | cases eo8 | (injection eo8 with ea_ en_ ec_; (first | subst ea_ | (injection ea_ with ea_; subst ea_)); subst ec_; clear en_))
            have GB8 := Aside0.mk gb8
            have GG8 := Aside0.mk HG8
            clear gb8 gl8 HG8
            have HMgo8 := Aside0.mk (show (P0_ go8 ∨ w.heap.size ≤ go8) from (HO_0.out.1 _ rfl))
            obtain ⟨hx8_0, hf8_0⟩ := Kd.R_celln 0 HO_0.out (x8_1 : Int) p8 q8
            replace p8 := eq_true p8
            replace q8 := eq_true q8
            have HP10 := Kd.R_putg HO_0.out (x8_1 : Int) a1
            go_wp2_with (first | ((with_reducible refine gate_store (t := 43) (p := 24) rfl ?_); refine store_event (t := 43) (p := 24) (v := ?vo_w11) (w1 := (wr.setCell ⟨go8, (x8_1 : Int).toNat, none⟩ (.int .u8 a1))) ?hg ?ho ?hn ?hr ?_; (case ho => rfl); (case hg => rfl); (case hn => rfl); (case hr => first | (go_simp; done) | (go_simp; rfl)); intro w11 hw; have hg : wr.grownBy w11 (some go8) := (by rw [hw]; exact HP10.2); have hp_ : Kd.R (Kd.int .u8) 43 w11 w0.heap.size (fun k_ => (P0_ k_ ∨ w.heap.size ≤ k_)) (.slice (some ⟨go8, 0, none⟩) x0_1.length co9) y110 := (by rw [hw, Ny110.out]; exact HP10.1); clear HP10; have n0_ := Aside0.mk (hp_); have n1_ := Aside0.mk ((by rw [hw]; exact below_set (HB.out) GB8.out : Below w0.heap.size w0 w11)); have n2_ := Aside0.mk (Kept.of_grown (S := (fun k_ => P0_ k_)) hg (by repeat (first | (with_reducible first | exact HK.out | apply Kept.alloc | apply Kept.drewN | apply Kept.drew) | exact HK.out)) (fun k_ e_ => (HO_0.out.1 k_ e_))); clear HO_0; clear HB; clear HK; have HO_0 := n0_; have HB := n1_; have HK := n2_; clear n0_ n1_ n2_; clear hg hw hp_))
            go_roundg k1
            case measure => have := HK1.out; omega
            case rel => exact ⟨(y110), (wrap64 (x8_1 + 1)), (by first | rfl | (simp; done) | (simp [*]; done)), H', ⟨by have := HK1.out; omega⟩, ⟨by (with_reducible repeat (first | apply Kd.R_alloc | apply Kd.R_drewN | apply Kd.R_drew)); exact HO_0.out⟩, ⟨by repeat (first | (with_reducible first | exact HK.out | apply Kept.alloc | apply Kept.drewN | apply Kept.drew) | exact HK.out)⟩, ⟨by repeat (first | (with_reducible first | exact HB.out | apply below_alloc | apply pw_below_drewN | apply below_drew1) | exact HB.out)⟩⟩
          · rw [if_neg c7] at H
            exact absurd H (by simp)
        · rw [if_neg c6] at H
          have c6b0 : decide (x8_1 < (x0_1.length : Int)) = false := decide_eq_false c6
          clear c6
          obtain rfl := Option.some.inj H
          obtain ⟨Ao12, co12, eo12⟩ := Kd.R_slice HO_0.out
          subst eo12
          go_wp2
          first | go_end0 | ((try simp only [Exit.inBlock, Exit.then]); refine bodyPost_ret (results_none rfl _ _ _) rfl ?_)
          exact ⟨by first | rfl | (simp [errW_none, errW_some] <;> rfl) | (simp [*, errW_none, errW_some] <;> rfl), by (with_reducible repeat (first | apply Kd.R_alloc | apply Kd.R_drewN | apply Kd.R_drew)); exact HO_0.out, by repeat (first | (with_reducible first | exact HB.out | apply below_alloc | apply pw_below_drewN | apply below_drew1) | exact HB.out), by repeat (first | (with_reducible first | exact HK.out | apply Kept.alloc | apply Kept.drewN | apply Kept.drew) | exact HK.out)⟩
      · rw [if_neg c5] at H
        have c5b0 : decide (x8_1 < a3) = false := decide_eq_false c5
        clear c5
        obtain rfl := Option.some.inj H
        go_wp2
        first | go_end0 | ((try simp only [Exit.inBlock, Exit.then]); refine bodyPost_ret (results_none rfl _ _ _) rfl ?_)
        exact ⟨by first | rfl | (simp [errW_none, errW_some] <;> rfl) | (simp [*, errW_none, errW_some] <;> rfl), by (with_reducible repeat (first | apply Kd.R_alloc | apply Kd.R_drewN | apply Kd.R_drew)); exact HO_0.out, by repeat (first | (with_reducible first | exact HB.out | apply below_alloc | apply pw_below_drewN | apply below_drew1) | exact HB.out), by repeat (first | (with_reducible first | exact HK.out | apply Kept.alloc | apply Kept.drewN | apply Kept.drew) | exact HK.out)⟩

end Go.Proofs.Ytjbbogcoabgcnaa.PSrc
