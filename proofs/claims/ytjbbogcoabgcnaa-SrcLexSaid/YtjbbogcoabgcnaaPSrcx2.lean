-- PRINTED BY print.sh 35421559b90ae4d0a3588c463048766b98c2df88dd9212a6774a882060cdf62d: not written by this session
import Derived.Test.YtjbbogcoabgcnaaPSrcx0
import Derived.Test.YtjbbogcoabgcnaaPSrcx1
namespace Go.Proofs.Ytjbbogcoabgcnaa.PSrc
open Go.RowKit Go.Proofs.YtjbbogcoabgcnaaW.PrintWords Go.Proofs.YtjbbogcoabgcnaaW.PrintLast Go.Proofs.YtjbbogcoabgcnaaW.PrintMore
attribute [local go_sem] max2_int min2_int max_two min_two max_three min_three max_four min_four   -- for this text's walks alone
set_option linter.unusedVariables false
set_option linter.unusedSimpArgs false

/-! ### redpenref10_Labels_block: function 26 -/
mutual
def redpenref10_Labels_block.l0 : Nat → List Int → ByteArray → Int → Bool → Int → Option (Int × List Int)
  | 0, _, _, _, _, _ => none
  | k + 1, x0, x1, x2, x3, x9 => if x2 < (x1.size : Int) then (redpenref10_Labels_block.j1 k x0 x1 x2 x3 x9 (decide (x9 > 0))) else (redpenref10_Labels_block.j1 k x0 x1 x2 x3 x9 false)
def redpenref10_Labels_block.j1 : Nat → List Int → ByteArray → Int → Bool → Int → Bool → Option (Int × List Int)
  | 0, _, _, _, _, _, _ => none
  | k + 1, x0, x1, x2, x3, x9, x24 => if x24 = true then ((redpenref10_at.f x1 x2 (⟨#[42, 47]⟩ : ByteArray)).bind fun t112 => (if t112 = true then ((redpenref10_Labels_put.f k x0 3 x2 (wrap64 (x2 + 2))).bind fun t113 => (redpenref10_Labels_block.l0 k t113 x1 (wrap64 (x2 + 2)) x3 (wrap64 (x9 - 1)))) else (if x3 = true then ((redpenref10_at.f x1 x2 (⟨#[47, 42]⟩ : ByteArray)).bind fun t114 => (redpenref10_Labels_block.j2 k x0 x1 x2 x3 x9 t114)) else (redpenref10_Labels_block.j2 k x0 x1 x2 x3 x9 false)))) else (some (x2, x0))
def redpenref10_Labels_block.j2 : Nat → List Int → ByteArray → Int → Bool → Int → Bool → Option (Int × List Int)
  | 0, _, _, _, _, _, _ => none
  | k + 1, x0, x1, x2, x3, x9, x42 => if x42 = true then (if x9 = 32 then ((redpenref10_Labels_put.f k x0 6 x2 (x1.size : Int)).bind fun t115 => (some ((x1.size : Int), t115))) else ((redpenref10_Labels_put.f k x0 3 x2 (wrap64 (x2 + 2))).bind fun t116 => (redpenref10_Labels_block.l0 k t116 x1 (wrap64 (x2 + 2)) x3 (wrap64 (x9 + 1))))) else (if 0 ≤ x2 then (if x2 < (x0.length : Int) then (redpenref10_Labels_block.l0 k (x0.set (x2 : Int).toNat 1) x1 (wrap64 (x2 + 1)) x3 x9) else (none)) else (none))
end
def redpenref10_Labels_block.f (k : Nat) (l0 : List Int) (a1 : ByteArray) (a2 : Int) (a3 : Bool) : Option (Int × List Int) := (redpenref10_Labels_put.f k l0 3 a2 (wrap64 (a2 + 2))).bind fun t111 => (redpenref10_Labels_block.l0 k t111 a1 (wrap64 (a2 + 2)) a3 1)
theorem redpenref10_Labels_block.mono_l : ∀ k, (∀ y0 y1 y2 y3 y4, LeO (redpenref10_Labels_block.l0 k y0 y1 y2 y3 y4) (redpenref10_Labels_block.l0 (k + 1) y0 y1 y2 y3 y4)) ∧ (∀ y0 y1 y2 y3 y4 y5, LeO (redpenref10_Labels_block.j1 k y0 y1 y2 y3 y4 y5) (redpenref10_Labels_block.j1 (k + 1) y0 y1 y2 y3 y4 y5)) ∧ (∀ y0 y1 y2 y3 y4 y5, LeO (redpenref10_Labels_block.j2 k y0 y1 y2 y3 y4 y5) (redpenref10_Labels_block.j2 (k + 1) y0 y1 y2 y3 y4 y5))
  | 0 => ⟨fun _ _ _ _ _ r h => by simp [redpenref10_Labels_block.l0] at h, fun _ _ _ _ _ _ r h => by simp [redpenref10_Labels_block.j1] at h, fun _ _ _ _ _ _ r h => by simp [redpenref10_Labels_block.j2] at h⟩
  | k + 1 => by
    obtain ⟨ih0, ih1, ih2⟩ := redpenref10_Labels_block.mono_l k
    refine ⟨?_, ?_, ?_⟩
    · intro y0 y1 y2 y3 y4
      unfold redpenref10_Labels_block.l0
      repeat' first
      | (with_reducible exact ih0 _ _ _ _ _)
      | (with_reducible exact ih1 _ _ _ _ _ _)
      | (with_reducible exact ih2 _ _ _ _ _ _)
      | (with_reducible exact redpenref10_Labels_put.mono _ _ _ _ _)
      | (with_reducible exact LeO.refl _)
      | (with_reducible exact LeO.none _)
      | (with_reducible refine LeO.ite ?_ ?_)
      | (with_reducible refine LeO.bind ?_ (fun _ => ?_))
      | exact ih0 _ _ _ _ _
      | exact ih1 _ _ _ _ _ _
      | exact ih2 _ _ _ _ _ _
      | exact redpenref10_Labels_put.mono _ _ _ _ _
      | exact LeO.none _
      | refine LeO.ite ?_ ?_
      | refine LeO.bind ?_ (fun _ => ?_)
    · intro y0 y1 y2 y3 y4 y5
      unfold redpenref10_Labels_block.j1
      repeat' first
      | (with_reducible exact ih0 _ _ _ _ _)
      | (with_reducible exact ih1 _ _ _ _ _ _)
      | (with_reducible exact ih2 _ _ _ _ _ _)
      | (with_reducible exact redpenref10_Labels_put.mono _ _ _ _ _)
      | (with_reducible exact LeO.refl _)
      | (with_reducible exact LeO.none _)
      | (with_reducible refine LeO.ite ?_ ?_)
      | (with_reducible refine LeO.bind ?_ (fun _ => ?_))
      | exact ih0 _ _ _ _ _
      | exact ih1 _ _ _ _ _ _
      | exact ih2 _ _ _ _ _ _
      | exact redpenref10_Labels_put.mono _ _ _ _ _
      | exact LeO.none _
      | refine LeO.ite ?_ ?_
      | refine LeO.bind ?_ (fun _ => ?_)
    · intro y0 y1 y2 y3 y4 y5
      unfold redpenref10_Labels_block.j2
      repeat' first
      | (with_reducible exact ih0 _ _ _ _ _)
      | (with_reducible exact ih1 _ _ _ _ _ _)
      | (with_reducible exact ih2 _ _ _ _ _ _)
      | (with_reducible exact redpenref10_Labels_put.mono _ _ _ _ _)
      | (with_reducible exact LeO.refl _)
      | (with_reducible exact LeO.none _)
      | (with_reducible refine LeO.ite ?_ ?_)
      | (with_reducible refine LeO.bind ?_ (fun _ => ?_))
      | exact ih0 _ _ _ _ _
      | exact ih1 _ _ _ _ _ _
      | exact ih2 _ _ _ _ _ _
      | exact redpenref10_Labels_put.mono _ _ _ _ _
      | exact LeO.none _
      | refine LeO.ite ?_ ?_
      | refine LeO.bind ?_ (fun _ => ?_)
theorem redpenref10_Labels_block.mono : ∀ a0 a1 a2 a3 k, LeO (redpenref10_Labels_block.f k a0 a1 a2 a3) (redpenref10_Labels_block.f (k + 1) a0 a1 a2 a3) := by
  intro a0 a1 a2 a3 k
  obtain ⟨ih0, ih1, ih2⟩ := redpenref10_Labels_block.mono_l k
  unfold redpenref10_Labels_block.f
  repeat' first
      | (with_reducible exact ih0 _ _ _ _ _)
      | (with_reducible exact ih1 _ _ _ _ _ _)
      | (with_reducible exact ih2 _ _ _ _ _ _)
      | (with_reducible exact redpenref10_Labels_put.mono _ _ _ _ _)
      | (with_reducible exact LeO.refl _)
      | (with_reducible exact LeO.none _)
      | (with_reducible refine LeO.ite ?_ ?_)
      | (with_reducible refine LeO.bind ?_ (fun _ => ?_))
      | exact ih0 _ _ _ _ _
      | exact ih1 _ _ _ _ _ _
      | exact ih2 _ _ _ _ _ _
      | exact redpenref10_Labels_put.mono _ _ _ _ _
      | exact LeO.none _
      | refine LeO.ite ?_ ?_
      | refine LeO.bind ?_ (fun _ => ?_)
set_option maxHeartbeats 8000000 in
set_option maxRecDepth 100000 in
theorem redpenref10_Labels_block.calls (k : Nat) (P0_ : Nat → Prop) (u9000_ : Value) (l0 : List Int) (a1 : ByteArray) (a2 : Int) (a3 : Bool) (r1 : Int) (r2 : List Int) (w0 w : World) (hB : Below w0.heap.size w0 w) (ho0 : Kd.R (Kd.int .u8) 43 w w0.heap.size P0_ u9000_ l0) (h : redpenref10_Labels_block.f k l0 a1 a2 a3 = some (r1, r2)) :
    Calls Try.prog 26 #[u9000_, .string a1, .int .i64 a2, .bool a3] w fun e w' => e = .returned (.int .i64 r1) ∧ Kd.R (Kd.int .u8) 43 w' w0.heap.size (fun k_ => (P0_ k_ ∨ w.heap.size ≤ k_)) u9000_ r2 ∧ Below w0.heap.size w0 w' ∧ Kept w w' (fun k_ => P0_ k_) := by
  have HO0 := Aside0.mk (show Kd.R (Kd.int .u8) 43 w w0.heap.size (fun k_ => (P0_ k_ ∨ w.heap.size ≤ k_)) u9000_ l0 from Kd.R_mono ho0 (fun k_ hk => (.inl hk)))
  have HK := Aside0.mk (Kept.refl w (fun k_ => P0_ k_))
  have HW0 := Aside0.mk hB.size
  have HB := Aside0.mk hB
  clear hB
  have H : ((redpenref10_Labels_put.f k l0 3 a2 (wrap64 (a2 + 2))).bind fun t111 => (redpenref10_Labels_block.l0 k t111 a1 (wrap64 (a2 + 2)) a3 1)) = some (r1, r2) := h
  clear h
  replace H := Option.bind_eq_some_iff.mp H
  obtain ⟨t111, A50, H⟩ := H
  replace H : (redpenref10_Labels_block.l0 k t111 a1 (wrap64 (a2 + 2)) a3 1) = some (r1, r2) := H
  have A5 := Aside0.mk A50
  clear A50
  have H' := Aside0.mk H
  clear H
  obtain ⟨Ao6, co6, eo6⟩ := Kd.R_slice HO0.out
  subst eo6
  go_enter Try.func26, Try.ntmps26
  go_wp2_with (first | ((with_reducible refine gate_callee (f := 24) rfl ?_); refine goesL_ (some 14) rfl rfl Try.func24 (by kernel_rfl) rfl #[.slice Ao6 l0.length co6, .int .u8 3, .int .i64 a2, .int .i64 (wrap64 (a2 + 2))] rfl (by (try simp only [List.map_toArray, List.map_cons, List.map_nil]); first | done | rfl | (simp only [List.length_drop, List.length_take]; rfl)) ?_; (with_reducible refine (redpenref10_Labels_put.calls k (fun k_ => some k_ = (.slice Ao6 l0.length co6 : Value).ownBlock) (.slice Ao6 l0.length co6) l0 3 a2 (wrap64 (a2 + 2)) t111 w0 _ ?side1 ?side2 A5.out).mono ?_); (case side1 => repeat (first | (with_reducible first | exact HB.out | apply below_alloc | apply pw_below_drewN | apply below_drew1) | exact HB.out)); (case side2 => exact Kd.R_tight rfl HO0.out); rintro e w7 ⟨rfl, hy0, hb, hkp⟩; refine ⟨_, rfl, ?_⟩; have n0_ := Aside0.mk (Kd.R_reok rfl hy0 (fun k_ e_ => HO0.out.1 k_ e_)); have n1_ := Aside0.mk (Kept.then_ (S := (fun k_ => P0_ k_)) (by repeat (first | (with_reducible first | exact HK.out | apply Kept.alloc | apply Kept.drewN | apply Kept.drew) | exact HK.out)) hkp (fun k_ hs_ => (fun e_ => (HO0.out.1 k_ e_.symm)) hs_)); have n2_ := Aside0.mk (hb); clear HO0; clear HK; clear HB; have HO0 := n0_; have HK := n1_; have HB := n2_; clear n0_ n1_ n2_; (try clear hb); (try clear hkp); (try clear hy0)))
  go_loopg [2, 9] k (fun kq v2 v9 w' => ∃ (x0_1 : List Int) (x2_1 : Int) (x9_1 : Int), v2 = .int .i64 x2_1 ∧ v9 = .int .i64 x9_1 ∧ Aside0 (redpenref10_Labels_block.l0 kq x0_1 a1 x2_1 a3 x9_1 = some (r1, r2)) ∧ Aside0 (kq ≤ k) ∧ Aside0 (Kd.R (Kd.int .u8) 43 w' w0.heap.size (fun k_ => (P0_ k_ ∨ w.heap.size ≤ k_)) (.slice Ao6 l0.length co6) x0_1) ∧ Aside0 (Kept w w' (fun k_ => P0_ k_)) ∧ Aside0 (Below w0.heap.size w0 w'))
  case atStart => exact ⟨(t111), (wrap64 (a2 + 2)), (1), (by first | rfl | (simp; done) | (simp [*]; done)), (by first | rfl | (simp; done) | (simp [*]; done)), H', ⟨Nat.le_refl _⟩, ⟨by (with_reducible repeat (first | apply Kd.R_alloc | apply Kd.R_drewN | apply Kd.R_drew)); exact HO0.out⟩, ⟨by repeat (first | (with_reducible first | exact HK.out | apply Kept.alloc | apply Kept.drewN | apply Kept.drew) | exact HK.out)⟩, ⟨by repeat (first | (with_reducible first | exact HB.out | apply below_alloc | apply pw_below_drewN | apply below_drew1) | exact HB.out)⟩⟩
  case round =>
    clear H'
    try clear c2
    try clear p2
    try clear p6
    obtain ⟨x0_1, x2_1, x9_1, rfl, rfl, HA, HK1, HO_0, HK, HB⟩ := hrel
    have hl0_1 := (Kd.R_reads' HO_0.out).1
    rw [hl0_1] at HO_0
    (try simp only [hl0_1])
    cases gk with
    | zero => exact absurd HA.out (by simp [redpenref10_Labels_block.l0])
    | succ k1 =>
      have H := HA.out
      clear HA
      simp only [redpenref10_Labels_block.l0] at H
      have HC8 := Aside0.mk H
      clear H
      go_upto_region 4 with (fail)
      go_cut [24] (fun v24 wc => ∃ (kq : Nat) (x24_7 : Bool), v24 = .bool x24_7 ∧ Aside0 (redpenref10_Labels_block.j1 kq x0_1 a1 x2_1 a3 x9_1 x24_7 = some (r1, r2)) ∧ Aside0 (kq ≤ k1) ∧ Aside0 (Kd.R (Kd.int .u8) 43 wc w0.heap.size (fun k_ => (P0_ k_ ∨ w.heap.size ≤ k_)) (.slice Ao6 x0_1.length co6) x0_1) ∧ Aside0 (Kept w wc (fun k_ => P0_ k_)) ∧ Aside0 (Below w0.heap.size w0 wc))
      case first =>
        have H := HC8.out
        clear HC8
        by_cases c9 : x2_1 < (a1.size : Int)
        · rw [if_pos c9] at H
          have c9b0 : decide (x2_1 < (a1.size : Int)) = true := decide_eq_true c9
          clear c9
          (first | rw [c9b0] | (simp only [i64_w, i32_w]; rw [c9b0]) | skip)
          have H' := Aside0.mk H
          clear H
          go_wp2
          go_meet
          case rel => exact ⟨_, (decide (x9_1 > 0)), (by first | rfl | (simp; done) | (simp [*]; done)), H', ⟨by have := HK1.out; first | omega | exact Nat.le_refl _⟩, ⟨by (try simp only [hl0_1]); (with_reducible repeat (first | apply Kd.R_alloc | apply Kd.R_drewN | apply Kd.R_drew)); exact HO_0.out⟩, ⟨by repeat (first | (with_reducible first | exact HK.out | apply Kept.alloc | apply Kept.drewN | apply Kept.drew) | exact HK.out)⟩, ⟨by repeat (first | (with_reducible first | exact HB.out | apply below_alloc | apply pw_below_drewN | apply below_drew1) | exact HB.out)⟩⟩
        · rw [if_neg c9] at H
          have c9b0 : decide (x2_1 < (a1.size : Int)) = false := decide_eq_false c9
          clear c9
          (first | rw [c9b0] | (simp only [i64_w, i32_w]; rw [c9b0]) | skip)
          have H' := Aside0.mk H
          clear H
          go_wp2
          go_meet
          case rel => exact ⟨_, (false), (by first | rfl | (simp; done) | (simp [*]; done)), H', ⟨by have := HK1.out; first | omega | exact Nat.le_refl _⟩, ⟨by (try simp only [hl0_1]); (with_reducible repeat (first | apply Kd.R_alloc | apply Kd.R_drewN | apply Kd.R_drew)); exact HO_0.out⟩, ⟨by repeat (first | (with_reducible first | exact HK.out | apply Kept.alloc | apply Kept.drewN | apply Kept.drew) | exact HK.out)⟩, ⟨by repeat (first | (with_reducible first | exact HB.out | apply below_alloc | apply pw_below_drewN | apply below_drew1) | exact HB.out)⟩⟩
      case rest =>
        clear HC8
        try clear c2
        try clear p2
        try clear p6
        try clear c9
        try clear c9b0
        try clear p2
        try clear p6
        obtain ⟨kq, x24_7, rfl, HA, HJ7, HO_0, HK, HB⟩ := hcut
        cases kq with
        | zero => exact absurd HA.out (by simp [redpenref10_Labels_block.j1])
        | succ kj7 =>
          have H := HA.out
          clear HA
          simp only [redpenref10_Labels_block.j1] at H
          by_cases c10 : x24_7 = true
          · subst c10
            have H1 : ((redpenref10_at.f a1 x2_1 (⟨#[42, 47]⟩ : ByteArray)).bind fun t112 => (if t112 = true then ((redpenref10_Labels_put.f kj7 x0_1 3 x2_1 (wrap64 (x2_1 + 2))).bind fun t113 => (redpenref10_Labels_block.l0 kj7 t113 a1 (wrap64 (x2_1 + 2)) a3 (wrap64 (x9_1 - 1)))) else (if a3 = true then ((redpenref10_at.f a1 x2_1 (⟨#[47, 42]⟩ : ByteArray)).bind fun t114 => (redpenref10_Labels_block.j2 kj7 x0_1 a1 x2_1 a3 x9_1 t114)) else (redpenref10_Labels_block.j2 kj7 x0_1 a1 x2_1 a3 x9_1 false)))) = some (r1, r2) := by rw [if_pos rfl] at H; exact H
            clear H
            have H := H1
            clear H1
            replace H := Option.bind_eq_some_iff.mp H
            obtain ⟨t112, A110, H⟩ := H
            replace H : (if t112 = true then ((redpenref10_Labels_put.f kj7 x0_1 3 x2_1 (wrap64 (x2_1 + 2))).bind fun t113 => (redpenref10_Labels_block.l0 kj7 t113 a1 (wrap64 (x2_1 + 2)) a3 (wrap64 (x9_1 - 1)))) else (if a3 = true then ((redpenref10_at.f a1 x2_1 (⟨#[47, 42]⟩ : ByteArray)).bind fun t114 => (redpenref10_Labels_block.j2 kj7 x0_1 a1 x2_1 a3 x9_1 t114)) else (redpenref10_Labels_block.j2 kj7 x0_1 a1 x2_1 a3 x9_1 false))) = some (r1, r2) := H
            have A11 := Aside0.mk A110
            clear A110
            by_cases c12 : t112 = true
            · subst c12
              have H1 : ((redpenref10_Labels_put.f kj7 x0_1 3 x2_1 (wrap64 (x2_1 + 2))).bind fun t113 => (redpenref10_Labels_block.l0 kj7 t113 a1 (wrap64 (x2_1 + 2)) a3 (wrap64 (x9_1 - 1)))) = some (r1, r2) := by rw [if_pos rfl] at H; exact H
              clear H
              have H := H1
              clear H1
              replace H := Option.bind_eq_some_iff.mp H
              obtain ⟨t113, A130, H⟩ := H
              replace H : (redpenref10_Labels_block.l0 kj7 t113 a1 (wrap64 (x2_1 + 2)) a3 (wrap64 (x9_1 - 1))) = some (r1, r2) := H
              have A13 := Aside0.mk A130
              clear A130
              have H' := Aside0.mk H
              clear H
              go_wp2_with (first | ((with_reducible refine gate_callee (f := 25) rfl ?_); refine goesL_ (some 27) rfl rfl Try.func25 (by kernel_rfl) rfl #[.string a1, .int .i64 x2_1, .string (⟨#[42, 47]⟩ : ByteArray)] rfl (by (try simp only [List.map_toArray, List.map_cons, List.map_nil]); first | done | rfl | (simp only [List.length_drop, List.length_take]; rfl)) ?_; (with_reducible refine (redpenref10_at.calls a1 x2_1 (⟨#[42, 47]⟩ : ByteArray) true _ A11.out).mono ?_); rintro e w' ⟨rfl, ⟨nd, rfl⟩⟩; refine ⟨_, rfl, ?_⟩) | ((with_reducible refine gate_callee (f := 24) rfl ?_); refine goesL_ (some 32) rfl rfl Try.func24 (by kernel_rfl) rfl #[.slice Ao6 x0_1.length co6, .int .u8 3, .int .i64 x2_1, .int .i64 (wrap64 (x2_1 + 2))] rfl (by (try simp only [List.map_toArray, List.map_cons, List.map_nil]); first | done | rfl | (simp only [List.length_drop, List.length_take]; rfl)) ?_; (with_reducible refine (redpenref10_Labels_put.calls kj7 (fun k_ => some k_ = (.slice Ao6 x0_1.length co6 : Value).ownBlock) (.slice Ao6 x0_1.length co6) x0_1 3 x2_1 (wrap64 (x2_1 + 2)) t113 w0 _ ?side1 ?side2 A13.out).mono ?_); (case side1 => repeat (first | (with_reducible first | exact HB.out | apply below_alloc | apply pw_below_drewN | apply below_drew1) | exact HB.out)); (case side2 => exact Kd.R_tight rfl HO_0.out); rintro e w14 ⟨rfl, hy0, hb, hkp⟩; refine ⟨_, rfl, ?_⟩; have n0_ := Aside0.mk (Kd.R_reok rfl hy0 (fun k_ e_ => HO_0.out.1 k_ e_)); have n1_ := Aside0.mk (Kept.then_ (S := (fun k_ => P0_ k_)) (by repeat (first | (with_reducible first | exact HK.out | apply Kept.alloc | apply Kept.drewN | apply Kept.drew) | exact HK.out)) hkp (fun k_ hs_ => (fun e_ => (HO_0.out.1 k_ e_.symm)) hs_)); have n2_ := Aside0.mk (hb); clear HO_0; clear HK; clear HB; have HO_0 := n0_; have HK := n1_; have HB := n2_; clear n0_ n1_ n2_; (try clear hb); (try clear hkp); (try clear hy0)))
              (try simp only [← hl0_1])
              go_roundg kj7
              case measure => have := HK1.out; have := HJ7.out; omega
              case rel => exact ⟨(t113), (wrap64 (x2_1 + 2)), (wrap64 (x9_1 - 1)), (by first | rfl | (simp; done) | (simp [*]; done)), (by first | rfl | (simp; done) | (simp [*]; done)), H', ⟨by have := HK1.out; have := HJ7.out; omega⟩, ⟨by (try simp only [hl0_1]); (with_reducible repeat (first | apply Kd.R_alloc | apply Kd.R_drewN | apply Kd.R_drew)); exact HO_0.out⟩, ⟨by repeat (first | (with_reducible first | exact HK.out | apply Kept.alloc | apply Kept.drewN | apply Kept.drew) | exact HK.out)⟩, ⟨by repeat (first | (with_reducible first | exact HB.out | apply below_alloc | apply pw_below_drewN | apply below_drew1) | exact HB.out)⟩⟩
            · replace c12 := Bool.eq_false_iff.mpr c12
              subst c12
              have H1 : (if a3 = true then ((redpenref10_at.f a1 x2_1 (⟨#[47, 42]⟩ : ByteArray)).bind fun t114 => (redpenref10_Labels_block.j2 kj7 x0_1 a1 x2_1 a3 x9_1 t114)) else (redpenref10_Labels_block.j2 kj7 x0_1 a1 x2_1 a3 x9_1 false)) = some (r1, r2) := by rw [if_neg (show ¬ (false = true) by decide)] at H; exact H
              clear H
              have H := H1
              clear H1
              have HC15 := Aside0.mk H
              clear H
              go_upto_region 9 with (first | ((with_reducible refine gate_callee (f := 25) rfl ?_); refine goesL_ (some 27) rfl rfl Try.func25 (by kernel_rfl) rfl #[.string a1, .int .i64 x2_1, .string (⟨#[42, 47]⟩ : ByteArray)] rfl (by (try simp only [List.map_toArray, List.map_cons, List.map_nil]); first | done | rfl | (simp only [List.length_drop, List.length_take]; rfl)) ?_; (with_reducible refine (redpenref10_at.calls a1 x2_1 (⟨#[42, 47]⟩ : ByteArray) false _ A11.out).mono ?_); rintro e w' ⟨rfl, ⟨nd, rfl⟩⟩; refine ⟨_, rfl, ?_⟩))
              (try simp only [Act.put, List.setIfInBounds_toArray, List.set_cons_zero, List.set_cons_succ])
              go_cut [42] (fun v42 wc => ∃ (kq : Nat) (x42_14 : Bool), v42 = .bool x42_14 ∧ Aside0 (redpenref10_Labels_block.j2 kq x0_1 a1 x2_1 a3 x9_1 x42_14 = some (r1, r2)) ∧ Aside0 (kq ≤ kj7) ∧ Aside0 (Kd.R (Kd.int .u8) 43 wc w0.heap.size (fun k_ => (P0_ k_ ∨ w.heap.size ≤ k_)) (.slice Ao6 x0_1.length co6) x0_1) ∧ Aside0 (Kept w wc (fun k_ => P0_ k_)) ∧ Aside0 (Below w0.heap.size w0 wc))
              case first =>
                have H := HC15.out
                clear HC15
                by_cases c16 : a3 = true
                · subst c16
                  have H1 : ((redpenref10_at.f a1 x2_1 (⟨#[47, 42]⟩ : ByteArray)).bind fun t114 => (redpenref10_Labels_block.j2 kj7 x0_1 a1 x2_1 true x9_1 t114)) = some (r1, r2) := by rw [if_pos rfl] at H; exact H
                  clear H
                  have H := H1
                  clear H1
                  replace H := Option.bind_eq_some_iff.mp H
                  obtain ⟨t114, A170, H⟩ := H
                  replace H : (redpenref10_Labels_block.j2 kj7 x0_1 a1 x2_1 true x9_1 t114) = some (r1, r2) := H
                  have A17 := Aside0.mk A170
                  clear A170
                  have H' := Aside0.mk H
                  clear H
                  go_wp2_with (first | (go_at_call 25; (with_reducible refine (redpenref10_at.calls a1 x2_1 (⟨#[47, 42]⟩ : ByteArray) t114 _ A17.out).mono ?_); rintro e w' ⟨rfl, ⟨nd, rfl⟩⟩))
                  go_meet
                  case rel => exact ⟨_, (t114), (by first | rfl | (simp; done) | (simp [*]; done)), H', ⟨by have := HK1.out; have := HJ7.out; first | omega | exact Nat.le_refl _⟩, ⟨by (try simp only [hl0_1]); (with_reducible repeat (first | apply Kd.R_alloc | apply Kd.R_drewN | apply Kd.R_drew)); exact HO_0.out⟩, ⟨by repeat (first | (with_reducible first | exact HK.out | apply Kept.alloc | apply Kept.drewN | apply Kept.drew) | exact HK.out)⟩, ⟨by repeat (first | (with_reducible first | exact HB.out | apply below_alloc | apply pw_below_drewN | apply below_drew1) | exact HB.out)⟩⟩
                · replace c16 := Bool.eq_false_iff.mpr c16
                  subst c16
                  have H1 : (redpenref10_Labels_block.j2 kj7 x0_1 a1 x2_1 false x9_1 false) = some (r1, r2) := by rw [if_neg (show ¬ (false = true) by decide)] at H; exact H
                  clear H
                  have H := H1
                  clear H1
                  have H' := Aside0.mk H
                  clear H
                  go_wp2
                  go_meet
                  case rel => exact ⟨_, (false), (by first | rfl | (simp; done) | (simp [*]; done)), H', ⟨by have := HK1.out; have := HJ7.out; first | omega | exact Nat.le_refl _⟩, ⟨by (try simp only [hl0_1]); (with_reducible repeat (first | apply Kd.R_alloc | apply Kd.R_drewN | apply Kd.R_drew)); exact HO_0.out⟩, ⟨by repeat (first | (with_reducible first | exact HK.out | apply Kept.alloc | apply Kept.drewN | apply Kept.drew) | exact HK.out)⟩, ⟨by repeat (first | (with_reducible first | exact HB.out | apply below_alloc | apply pw_below_drewN | apply below_drew1) | exact HB.out)⟩⟩
              case rest =>
                clear HC15
                try clear c1
                try clear c2
                try clear p2
                try clear p6
                try clear c9
                try clear c9b0
                try clear c10
                try clear c12
                try clear c16
                try clear p2
                try clear p6
                obtain ⟨kq, x42_14, rfl, HA, HJ14, HO_0, HK, HB⟩ := hcut
                cases kq with
                | zero => exact absurd HA.out (by simp [redpenref10_Labels_block.j2])
                | succ kj14 =>
                  have H := HA.out
                  clear HA
                  simp only [redpenref10_Labels_block.j2] at H
                  by_cases c18 : x42_14 = true
                  · subst c18
                    have H1 : (if x9_1 = 32 then ((redpenref10_Labels_put.f kj14 x0_1 6 x2_1 (a1.size : Int)).bind fun t115 => (some ((a1.size : Int), t115))) else ((redpenref10_Labels_put.f kj14 x0_1 3 x2_1 (wrap64 (x2_1 + 2))).bind fun t116 => (redpenref10_Labels_block.l0 kj14 t116 a1 (wrap64 (x2_1 + 2)) a3 (wrap64 (x9_1 + 1))))) = some (r1, r2) := by rw [if_pos rfl] at H; exact H
                    clear H
                    have H := H1
                    clear H1
                    by_cases c19 : x9_1 = 32
                    · rw [if_pos c19] at H
                      have c19b0 : (x9_1 == 32) = true := beq_iff_eq.mpr c19
                      have c19b1 : (x9_1 != 32) = false := bne_eq_false_iff_eq.mpr c19
                      clear c19
                      replace H := Option.bind_eq_some_iff.mp H
                      obtain ⟨t115, A200, H⟩ := H
                      replace H : (some ((a1.size : Int), t115)) = some (r1, r2) := H
                      have A20 := Aside0.mk A200
                      clear A200
                      simp only [Option.some.injEq, Prod.mk.injEq] at H
                      obtain ⟨rfl, rfl⟩ := H
                      go_wp2_with (first | ((with_reducible refine gate_callee (f := 24) rfl ?_); refine goesL_ (some 49) rfl rfl Try.func24 (by kernel_rfl) rfl #[.slice Ao6 x0_1.length co6, .int .u8 6, .int .i64 x2_1, .int .i64 (a1.size : Int)] rfl (by (try simp only [List.map_toArray, List.map_cons, List.map_nil]); first | done | rfl | (simp only [List.length_drop, List.length_take]; rfl)) ?_; (with_reducible refine (redpenref10_Labels_put.calls kj14 (fun k_ => some k_ = (.slice Ao6 x0_1.length co6 : Value).ownBlock) (.slice Ao6 x0_1.length co6) x0_1 6 x2_1 (a1.size : Int) t115 w0 _ ?side1 ?side2 A20.out).mono ?_); (case side1 => repeat (first | (with_reducible first | exact HB.out | apply below_alloc | apply pw_below_drewN | apply below_drew1) | exact HB.out)); (case side2 => exact Kd.R_tight rfl HO_0.out); rintro e w21 ⟨rfl, hy0, hb, hkp⟩; refine ⟨_, rfl, ?_⟩; have n0_ := Aside0.mk (Kd.R_reok rfl hy0 (fun k_ e_ => HO_0.out.1 k_ e_)); have n1_ := Aside0.mk (Kept.then_ (S := (fun k_ => P0_ k_)) (by repeat (first | (with_reducible first | exact HK.out | apply Kept.alloc | apply Kept.drewN | apply Kept.drew) | exact HK.out)) hkp (fun k_ hs_ => (fun e_ => (HO_0.out.1 k_ e_.symm)) hs_)); have n2_ := Aside0.mk (hb); clear HO_0; clear HK; clear HB; have HO_0 := n0_; have HK := n1_; have HB := n2_; clear n0_ n1_ n2_; (try clear hb); (try clear hkp); (try clear hy0)))
                      go_ret
                      exact ⟨by first | rfl | (simp [errW_none, errW_some] <;> rfl) | (simp [*, errW_none, errW_some] <;> rfl), (by first | exact (by (with_reducible repeat (first | apply Kd.R_alloc | apply Kd.R_drewN | apply Kd.R_drew)); exact HO_0.out) | (simp only [hl0_1]; exact (by (with_reducible repeat (first | apply Kd.R_alloc | apply Kd.R_drewN | apply Kd.R_drew)); exact HO_0.out))), by repeat (first | (with_reducible first | exact HB.out | apply below_alloc | apply pw_below_drewN | apply below_drew1) | exact HB.out), by repeat (first | (with_reducible first | exact HK.out | apply Kept.alloc | apply Kept.drewN | apply Kept.drew) | exact HK.out)⟩
                    · rw [if_neg c19] at H
                      have c19b0 : (x9_1 == 32) = false := beq_eq_false_iff_ne.mpr c19
                      have c19b1 : (x9_1 != 32) = true := bne_iff_ne.mpr c19
                      replace H := Option.bind_eq_some_iff.mp H
                      obtain ⟨t116, A220, H⟩ := H
                      replace H : (redpenref10_Labels_block.l0 kj14 t116 a1 (wrap64 (x2_1 + 2)) a3 (wrap64 (x9_1 + 1))) = some (r1, r2) := H
                      have A22 := Aside0.mk A220
                      clear A220
                      have H' := Aside0.mk H
                      clear H
                      go_wp2_with (first | ((with_reducible refine gate_callee (f := 24) rfl ?_); refine goesL_ (some 56) rfl rfl Try.func24 (by kernel_rfl) rfl #[.slice Ao6 x0_1.length co6, .int .u8 3, .int .i64 x2_1, .int .i64 (wrap64 (x2_1 + 2))] rfl (by (try simp only [List.map_toArray, List.map_cons, List.map_nil]); first | done | rfl | (simp only [List.length_drop, List.length_take]; rfl)) ?_; (with_reducible refine (redpenref10_Labels_put.calls kj14 (fun k_ => some k_ = (.slice Ao6 x0_1.length co6 : Value).ownBlock) (.slice Ao6 x0_1.length co6) x0_1 3 x2_1 (wrap64 (x2_1 + 2)) t116 w0 _ ?side1 ?side2 A22.out).mono ?_); (case side1 => repeat (first | (with_reducible first | exact HB.out | apply below_alloc | apply pw_below_drewN | apply below_drew1) | exact HB.out)); (case side2 => exact Kd.R_tight rfl HO_0.out); rintro e w23 ⟨rfl, hy0, hb, hkp⟩; refine ⟨_, rfl, ?_⟩; have n0_ := Aside0.mk (Kd.R_reok rfl hy0 (fun k_ e_ => HO_0.out.1 k_ e_)); have n1_ := Aside0.mk (Kept.then_ (S := (fun k_ => P0_ k_)) (by repeat (first | (with_reducible first | exact HK.out | apply Kept.alloc | apply Kept.drewN | apply Kept.drew) | exact HK.out)) hkp (fun k_ hs_ => (fun e_ => (HO_0.out.1 k_ e_.symm)) hs_)); have n2_ := Aside0.mk (hb); clear HO_0; clear HK; clear HB; have HO_0 := n0_; have HK := n1_; have HB := n2_; clear n0_ n1_ n2_; (try clear hb); (try clear hkp); (try clear hy0)))
                      (try simp only [← hl0_1])
                      go_roundg kj14
                      case measure => have := HK1.out; have := HJ7.out; have := HJ14.out; omega
                      case rel => exact ⟨(t116), (wrap64 (x2_1 + 2)), (wrap64 (x9_1 + 1)), (by first | rfl | (simp; done) | (simp [*]; done)), (by first | rfl | (simp; done) | (simp [*]; done)), H', ⟨by have := HK1.out; have := HJ7.out; have := HJ14.out; omega⟩, ⟨by (try simp only [hl0_1]); (with_reducible repeat (first | apply Kd.R_alloc | apply Kd.R_drewN | apply Kd.R_drew)); exact HO_0.out⟩, ⟨by repeat (first | (with_reducible first | exact HK.out | apply Kept.alloc | apply Kept.drewN | apply Kept.drew) | exact HK.out)⟩, ⟨by repeat (first | (with_reducible first | exact HB.out | apply below_alloc | apply pw_below_drewN | apply below_drew1) | exact HB.out)⟩⟩
                  · replace c18 := Bool.eq_false_iff.mpr c18
                    subst c18
                    have H1 : (if 0 ≤ x2_1 then (if x2_1 < (x0_1.length : Int) then (redpenref10_Labels_block.l0 kj14 (x0_1.set (x2_1 : Int).toNat 1) a1 (wrap64 (x2_1 + 1)) a3 x9_1) else (none)) else (none)) = some (r1, r2) := by rw [if_neg (show ¬ (false = true) by decide)] at H; exact H
                    clear H
                    have H := H1
                    clear H1
                    by_cases c24 : 0 ≤ x2_1
                    · rw [if_pos c24] at H
                      have c24b0 : decide (0 ≤ x2_1) = true := decide_eq_true c24
                      clear c24
                      by_cases c25 : x2_1 < (x0_1.length : Int)
                      · rw [if_pos c25] at H
                        have c25b0 : decide (x2_1 < (x0_1.length : Int)) = true := decide_eq_true c25
                        clear c25
                        obtain ⟨y117, hy117⟩ : ∃ y_ : List Int, y_ = (x0_1.set (x2_1 : Int).toNat 1) := ⟨_, rfl⟩
                        replace H : (redpenref10_Labels_block.l0 kj14 y117 a1 (wrap64 (x2_1 + 1)) a3 x9_1) = some (r1, r2) := by first | (rw [hy117]; with_reducible exact H) | (have H2_ := (Option.bind_some _ _).symm.trans H; rw [hy117]; with_reducible exact H2_) | (have H2_ := (Option.bind_some _ _).symm.trans H; with_reducible exact H2_) | with_reducible exact H | (rw [hy117]; exact H) | exact H
                        have Ny117 := Aside0.mk hy117
                        clear hy117
                        have H' := Aside0.mk H
                        clear H
                        have p26 : 0 ≤ (x2_1 : Int) := of_decide_eq_true (by first | (with_reducible assumption) | assumption)
                        have q26 : (x2_1 : Int) < ((x0_1.length : Int) : Int) := of_decide_eq_true (by first | (with_reducible assumption) | assumption)
                        obtain ⟨go26, co26, eo26, gb26, gl26, cl26, HG26⟩ := Kd.R_form HO_0.out (by omega)
                        (first | cases eo26 | (injection eo26 with ea_ en_ ec_; (first | subst ea_ | (injection ea_ with ea_; subst ea_)); subst ec_; clear en_))
                        have GB26 := Aside0.mk gb26
                        have GG26 := Aside0.mk HG26
                        clear gb26 gl26 HG26
                        have HMgo26 := Aside0.mk (show (P0_ go26 ∨ w.heap.size ≤ go26) from (HO_0.out.1 _ rfl))
                        obtain ⟨hx26_0, hf26_0⟩ := Kd.R_celln 0 HO_0.out (x2_1 : Int) p26 q26
                        replace p26 := eq_true p26
                        replace q26 := eq_true q26
                        have HP27 := Kd.R_putg HO_0.out (x2_1 : Int) 1
                        go_wp2_with (first | ((with_reducible refine gate_store (t := 43) (p := 63) rfl ?_); refine store_event (t := 43) (p := 63) (v := ?vo_w28) (w1 := (wc.setCell ⟨go26, (x2_1 : Int).toNat, none⟩ (.int .u8 1))) ?hg ?ho ?hn ?hr ?_; (case ho => rfl); (case hg => rfl); (case hn => rfl); (case hr => first | (go_simp; done) | (go_simp; rfl)); intro w28 hw; have hg : wc.grownBy w28 (some go26) := (by rw [hw]; exact HP27.2); have hp_ : Kd.R (Kd.int .u8) 43 w28 w0.heap.size (fun k_ => (P0_ k_ ∨ w.heap.size ≤ k_)) (.slice (some ⟨go26, 0, none⟩) x0_1.length co6) y117 := (by rw [hw, Ny117.out]; exact HP27.1); clear HP27; have n0_ := Aside0.mk (hp_); have n1_ := Aside0.mk ((by rw [hw]; exact below_set (HB.out) GB26.out : Below w0.heap.size w0 w28)); have n2_ := Aside0.mk (Kept.of_grown (S := (fun k_ => P0_ k_)) hg (by repeat (first | (with_reducible first | exact HK.out | apply Kept.alloc | apply Kept.drewN | apply Kept.drew) | exact HK.out)) (fun k_ e_ => (HO_0.out.1 k_ e_))); clear HO_0; clear HB; clear HK; have HO_0 := n0_; have HB := n1_; have HK := n2_; clear n0_ n1_ n2_; clear hg hw hp_))
                        (try simp only [← hl0_1])
                        go_roundg kj14
                        case measure => have := HK1.out; have := HJ7.out; have := HJ14.out; omega
                        case rel => exact ⟨(y117), (wrap64 (x2_1 + 1)), (x9_1), (by first | rfl | (simp; done) | (simp [*]; done)), (by first | rfl | (simp; done) | (simp [*]; done)), H', ⟨by have := HK1.out; have := HJ7.out; have := HJ14.out; omega⟩, ⟨by (try simp only [hl0_1]); (with_reducible repeat (first | apply Kd.R_alloc | apply Kd.R_drewN | apply Kd.R_drew)); exact HO_0.out⟩, ⟨by repeat (first | (with_reducible first | exact HK.out | apply Kept.alloc | apply Kept.drewN | apply Kept.drew) | exact HK.out)⟩, ⟨by repeat (first | (with_reducible first | exact HB.out | apply below_alloc | apply pw_below_drewN | apply below_drew1) | exact HB.out)⟩⟩
                      · rw [if_neg c25] at H
                        exact absurd H (by simp)
                    · rw [if_neg c24] at H
                      exact absurd H (by simp)
          · replace c10 := Bool.eq_false_iff.mpr c10
            subst c10
            have H1 : (some (x2_1, x0_1)) = some (r1, r2) := by rw [if_neg (show ¬ (false = true) by decide)] at H; exact H
            clear H
            have H := H1
            clear H1
            simp only [Option.some.injEq, Prod.mk.injEq] at H
            obtain ⟨rfl, rfl⟩ := H
            go_wp2
            go_ret
            exact ⟨by first | rfl | (simp [errW_none, errW_some] <;> rfl) | (simp [*, errW_none, errW_some] <;> rfl), (by first | exact (by (with_reducible repeat (first | apply Kd.R_alloc | apply Kd.R_drewN | apply Kd.R_drew)); exact HO_0.out) | (simp only [hl0_1]; exact (by (with_reducible repeat (first | apply Kd.R_alloc | apply Kd.R_drewN | apply Kd.R_drew)); exact HO_0.out))), by repeat (first | (with_reducible first | exact HB.out | apply below_alloc | apply pw_below_drewN | apply below_drew1) | exact HB.out), by repeat (first | (with_reducible first | exact HK.out | apply Kept.alloc | apply Kept.drewN | apply Kept.drew) | exact HK.out)⟩

/-! ### redpenref10_quotes: function 27 -/
def redpenref10_quotes.f (a0 : Int) : Option ((List (S69))) := if a0 = 4 then (some (([(⟨(⟨#[34]⟩ : ByteArray), true, false, false, false⟩ : S69), (⟨(⟨#[39]⟩ : ByteArray), true, false, false, false⟩ : S69)] : List (S69)))) else (if a0 = 5 then (some (([(⟨(⟨#[34]⟩ : ByteArray), true, false, false, false⟩ : S69), (⟨(⟨#[39]⟩ : ByteArray), true, false, false, false⟩ : S69), (⟨strOfNums (([96] : List Int)), false, false, true, true⟩ : S69)] : List (S69)))) else (if a0 = 6 then (some (([(⟨(⟨#[34, 34, 34]⟩ : ByteArray), true, false, true, false⟩ : S69), (⟨(⟨#[39, 39, 39]⟩ : ByteArray), true, false, true, false⟩ : S69), (⟨(⟨#[34]⟩ : ByteArray), true, false, false, false⟩ : S69), (⟨(⟨#[39]⟩ : ByteArray), true, false, false, false⟩ : S69)] : List (S69)))) else (if a0 = 7 then (some (([(⟨(⟨#[34]⟩ : ByteArray), true, false, true, false⟩ : S69), (⟨(⟨#[39]⟩ : ByteArray), false, false, true, true⟩ : S69)] : List (S69)))) else (some (([(⟨(⟨#[39]⟩ : ByteArray), false, true, true, false⟩ : S69), (⟨(⟨#[34]⟩ : ByteArray), false, true, true, true⟩ : S69)] : List (S69)))))))
set_option maxHeartbeats 8000000 in
set_option maxRecDepth 100000 in
theorem redpenref10_quotes.calls (a0 : Int) (r : List (S69)) (w : World) (h : redpenref10_quotes.f a0 = some r) :
    Calls Try.prog 27 #[.int .u8 a0] w fun e w' => ∃ v0_ : Value, e = .returned (v0_) ∧ Kd.R k69 69 w' w.heap.size (fun _ => True) v0_ r ∧ Below w.heap.size w w' := by
  have hu69 := Try.underlying69
  have HB := Aside0.mk (Below.refl w.heap.size w)
  have H : (if a0 = 4 then (some (([(⟨(⟨#[34]⟩ : ByteArray), true, false, false, false⟩ : S69), (⟨(⟨#[39]⟩ : ByteArray), true, false, false, false⟩ : S69)] : List (S69)))) else (if a0 = 5 then (some (([(⟨(⟨#[34]⟩ : ByteArray), true, false, false, false⟩ : S69), (⟨(⟨#[39]⟩ : ByteArray), true, false, false, false⟩ : S69), (⟨strOfNums (([96] : List Int)), false, false, true, true⟩ : S69)] : List (S69)))) else (if a0 = 6 then (some (([(⟨(⟨#[34, 34, 34]⟩ : ByteArray), true, false, true, false⟩ : S69), (⟨(⟨#[39, 39, 39]⟩ : ByteArray), true, false, true, false⟩ : S69), (⟨(⟨#[34]⟩ : ByteArray), true, false, false, false⟩ : S69), (⟨(⟨#[39]⟩ : ByteArray), true, false, false, false⟩ : S69)] : List (S69)))) else (if a0 = 7 then (some (([(⟨(⟨#[34]⟩ : ByteArray), true, false, true, false⟩ : S69), (⟨(⟨#[39]⟩ : ByteArray), false, false, true, true⟩ : S69)] : List (S69)))) else (some (([(⟨(⟨#[39]⟩ : ByteArray), false, true, true, false⟩ : S69), (⟨(⟨#[34]⟩ : ByteArray), false, true, true, true⟩ : S69)] : List (S69)))))))) = some r := h
  clear h
  obtain ⟨y118, hy118⟩ : ∃ y_ : List Int, y_ = (([96] : List Int)) := ⟨_, rfl⟩
  replace H : (if a0 = 4 then (some (([(⟨(⟨#[34]⟩ : ByteArray), true, false, false, false⟩ : S69), (⟨(⟨#[39]⟩ : ByteArray), true, false, false, false⟩ : S69)] : List (S69)))) else (if a0 = 5 then (some (([(⟨(⟨#[34]⟩ : ByteArray), true, false, false, false⟩ : S69), (⟨(⟨#[39]⟩ : ByteArray), true, false, false, false⟩ : S69), (⟨strOfNums y118, false, false, true, true⟩ : S69)] : List (S69)))) else (if a0 = 6 then (some (([(⟨(⟨#[34, 34, 34]⟩ : ByteArray), true, false, true, false⟩ : S69), (⟨(⟨#[39, 39, 39]⟩ : ByteArray), true, false, true, false⟩ : S69), (⟨(⟨#[34]⟩ : ByteArray), true, false, false, false⟩ : S69), (⟨(⟨#[39]⟩ : ByteArray), true, false, false, false⟩ : S69)] : List (S69)))) else (if a0 = 7 then (some (([(⟨(⟨#[34]⟩ : ByteArray), true, false, true, false⟩ : S69), (⟨(⟨#[39]⟩ : ByteArray), false, false, true, true⟩ : S69)] : List (S69)))) else (some (([(⟨(⟨#[39]⟩ : ByteArray), false, true, true, false⟩ : S69), (⟨(⟨#[34]⟩ : ByteArray), false, true, true, true⟩ : S69)] : List (S69)))))))) = some r := by first | (rw [hy118]; with_reducible exact H) | (have H2_ := (Option.bind_some _ _).symm.trans H; rw [hy118]; with_reducible exact H2_) | (have H2_ := (Option.bind_some _ _).symm.trans H; with_reducible exact H2_) | with_reducible exact H | (rw [hy118]; exact H) | exact H
  have Ny118 := Aside0.mk hy118
  clear hy118
  by_cases c2 : a0 = 4
  · rw [if_pos c2] at H
    have c2b0 : (a0 == 4) = true := beq_iff_eq.mpr c2
    have c2b1 : (a0 != 4) = false := bne_eq_false_iff_eq.mpr c2
    clear c2
    obtain ⟨y121, hy121⟩ : ∃ y_ : List (S69), y_ = (([(⟨(⟨#[34]⟩ : ByteArray), true, false, false, false⟩ : S69), (⟨(⟨#[39]⟩ : ByteArray), true, false, false, false⟩ : S69)] : List (S69))) := ⟨_, rfl⟩
    replace H : (some y121) = some r := by first | (rw [hy121]; with_reducible exact H) | (have H2_ := (Option.bind_some _ _).symm.trans H; rw [hy121]; with_reducible exact H2_) | (have H2_ := (Option.bind_some _ _).symm.trans H; with_reducible exact H2_) | with_reducible exact H | (rw [hy121]; exact H) | exact H
    have Ny121 := Aside0.mk hy121
    clear hy121
    obtain rfl := Option.some.inj H
    go_enter Try.func27, Try.ntmps27
    go_wp2_with (first | ((with_reducible refine gate_dst (N := 4) rfl ?_); refine Kd.R_lit (Kd.int .u8) _ 5 ?hg (N := 4) ?hd (xs := ([96] : List Int)) (inner := [.int .u8 96]) (ok := fun _ => True) (okp := fun _ => True) ?hr ?hp (fun _ hk => hk) trivial (Below.refl _ _) (Nat.le_refl _) (by simp) ?_; (case hd => rfl); (case hg => rfl); (case hr => first | (go_simp; done) | (go_simp; rfl)); (case hp => exact (Reps.one (show Kd.M (Kd.int .u8) _ _ _ 96 [.int .u8 96] from rfl) (Reps.none _ _))); intro v119 w3 ho4 hb hg_ hnew_; clear hg_ hnew_; (first | rw [← Ny118.out] at ho4 | (simp only [Int.reduceToNat] at ho4; rw [← Ny118.out] at ho4)); have n0_ := Aside0.mk (Kd.R_lower ho4 (below_size (by repeat (first | (with_reducible first | exact HB.out | apply below_alloc | apply pw_below_drewN | apply below_drew1) | exact HB.out)))); have n1_ := Aside0.mk (below_step (by repeat (first | (with_reducible first | exact HB.out | apply below_alloc | apply pw_below_drewN | apply below_drew1) | exact HB.out)) hb); clear HB; have HO120 := n0_; have HB := n1_; clear n0_ n1_; clear hb ho4; have hcv5 := own_string (P := Try.prog) Try.underlying22 Try.underlying5 Try.underlying9 (Kd.own_of_R HO120.out)) | ((with_reducible refine gate_dst (N := 11) rfl ?_); refine Kd.R_lit k69 _ 69 ?hg (N := 11) ?hd (xs := ([(⟨(⟨#[34]⟩ : ByteArray), true, false, false, false⟩ : S69), (⟨(⟨#[39]⟩ : ByteArray), true, false, false, false⟩ : S69)] : List (S69))) (inner := [.string (⟨#[34]⟩ : ByteArray), .bool true, .bool false, .bool false, .bool false, .string (⟨#[39]⟩ : ByteArray), .bool true, .bool false, .bool false, .bool false]) (ok := fun _ => True) (okp := fun _ => True) ?hr ?hp (fun _ hk => hk) trivial (Below.refl _ _) (Nat.le_refl _) (by simp) ?_; (case hd => rfl); (case hg => rfl); (case hr => first | (go_simp; done) | (go_simp; rfl)); (case hp => exact (Reps.c5 (show Kd.M k69 _ _ _ (⟨(⟨#[34]⟩ : ByteArray), true, false, false, false⟩ : S69) [.string (⟨#[34]⟩ : ByteArray), .bool true, .bool false, .bool false, .bool false] from (k69_mkM _ _ _ (⟨(⟨#[34]⟩ : ByteArray), true, false, false, false⟩ : S69) )) (Reps.c5 (show Kd.M k69 _ _ _ (⟨(⟨#[39]⟩ : ByteArray), true, false, false, false⟩ : S69) [.string (⟨#[39]⟩ : ByteArray), .bool true, .bool false, .bool false, .bool false] from (k69_mkM _ _ _ (⟨(⟨#[39]⟩ : ByteArray), true, false, false, false⟩ : S69) )) (Reps.none _ _)))); intro v122 w6 ho7 hb hg_ hnew_; clear hg_ hnew_; (first | rw [← Ny121.out] at ho7 | (simp only [Int.reduceToNat] at ho7; rw [← Ny121.out] at ho7)); have n0_ := Aside0.mk (Kd.R_below (by (with_reducible repeat (first | apply Kd.R_alloc | apply Kd.R_drewN | apply Kd.R_drew)); exact HO120.out) hb); have n1_ := Aside0.mk (Kd.R_lower ho7 (below_size (by repeat (first | (with_reducible first | exact HB.out | apply below_alloc | apply pw_below_drewN | apply below_drew1) | exact HB.out)))); have n2_ := Aside0.mk (below_step (by repeat (first | (with_reducible first | exact HB.out | apply below_alloc | apply pw_below_drewN | apply below_drew1) | exact HB.out)) hb); clear HO120; clear HB; have HO120 := n0_; have HO123 := n1_; have HB := n2_; clear n0_ n1_ n2_; clear hb ho7))
    go_ret
    exact ⟨_, by first | rfl | (simp [errW_none, errW_some] <;> rfl) | (simp [*, errW_none, errW_some] <;> rfl), by (with_reducible repeat (first | apply Kd.R_alloc | apply Kd.R_drewN | apply Kd.R_drew)); exact HO123.out, by repeat (first | (with_reducible first | exact HB.out | apply below_alloc | apply pw_below_drewN | apply below_drew1) | exact HB.out)⟩
  · rw [if_neg c2] at H
    have c2b0 : (a0 == 4) = false := beq_eq_false_iff_ne.mpr c2
    have c2b1 : (a0 != 4) = true := bne_iff_ne.mpr c2
    by_cases c8 : a0 = 5
    · rw [if_pos c8] at H
      have c8b0 : (a0 == 5) = true := beq_iff_eq.mpr c8
      have c8b1 : (a0 != 5) = false := bne_eq_false_iff_eq.mpr c8
      clear c8
      obtain ⟨y124, hy124⟩ : ∃ y_ : List (S69), y_ = (([(⟨(⟨#[34]⟩ : ByteArray), true, false, false, false⟩ : S69), (⟨(⟨#[39]⟩ : ByteArray), true, false, false, false⟩ : S69), (⟨strOfNums y118, false, false, true, true⟩ : S69)] : List (S69))) := ⟨_, rfl⟩
      replace H : (some y124) = some r := by first | (rw [hy124]; with_reducible exact H) | (have H2_ := (Option.bind_some _ _).symm.trans H; rw [hy124]; with_reducible exact H2_) | (have H2_ := (Option.bind_some _ _).symm.trans H; with_reducible exact H2_) | with_reducible exact H | (rw [hy124]; exact H) | exact H
      have Ny124 := Aside0.mk hy124
      clear hy124
      obtain rfl := Option.some.inj H
      go_enter Try.func27, Try.ntmps27
      go_wp2_with (first | ((with_reducible refine gate_dst (N := 4) rfl ?_); refine Kd.R_lit (Kd.int .u8) _ 5 ?hg (N := 4) ?hd (xs := ([96] : List Int)) (inner := [.int .u8 96]) (ok := fun _ => True) (okp := fun _ => True) ?hr ?hp (fun _ hk => hk) trivial (Below.refl _ _) (Nat.le_refl _) (by simp) ?_; (case hd => rfl); (case hg => rfl); (case hr => first | (go_simp; done) | (go_simp; rfl)); (case hp => exact (Reps.one (show Kd.M (Kd.int .u8) _ _ _ 96 [.int .u8 96] from rfl) (Reps.none _ _))); intro v119 w9 ho10 hb hg_ hnew_; clear hg_ hnew_; (first | rw [← Ny118.out] at ho10 | (simp only [Int.reduceToNat] at ho10; rw [← Ny118.out] at ho10)); have n0_ := Aside0.mk (Kd.R_lower ho10 (below_size (by repeat (first | (with_reducible first | exact HB.out | apply below_alloc | apply pw_below_drewN | apply below_drew1) | exact HB.out)))); have n1_ := Aside0.mk (below_step (by repeat (first | (with_reducible first | exact HB.out | apply below_alloc | apply pw_below_drewN | apply below_drew1) | exact HB.out)) hb); clear HB; have HO120 := n0_; have HB := n1_; clear n0_ n1_; clear hb ho10; have hcv11 := own_string (P := Try.prog) Try.underlying22 Try.underlying5 Try.underlying9 (Kd.own_of_R HO120.out)) | ((with_reducible refine gate_dst (N := 18) rfl ?_); refine Kd.R_lit k69 _ 69 ?hg (N := 18) ?hd (xs := ([(⟨(⟨#[34]⟩ : ByteArray), true, false, false, false⟩ : S69), (⟨(⟨#[39]⟩ : ByteArray), true, false, false, false⟩ : S69), (⟨strOfNums y118, false, false, true, true⟩ : S69)] : List (S69))) (inner := [.string (⟨#[34]⟩ : ByteArray), .bool true, .bool false, .bool false, .bool false, .string (⟨#[39]⟩ : ByteArray), .bool true, .bool false, .bool false, .bool false, .string (strOfNums y118), .bool false, .bool false, .bool true, .bool true]) (ok := fun _ => True) (okp := fun _ => True) ?hr ?hp (fun _ hk => hk) trivial (Below.refl _ _) (Nat.le_refl _) (by simp) ?_; (case hd => rfl); (case hg => rfl); (case hr => first | (go_simp; done) | (go_simp; rfl)); (case hp => exact (Reps.c5 (show Kd.M k69 _ _ _ (⟨(⟨#[34]⟩ : ByteArray), true, false, false, false⟩ : S69) [.string (⟨#[34]⟩ : ByteArray), .bool true, .bool false, .bool false, .bool false] from (k69_mkM _ _ _ (⟨(⟨#[34]⟩ : ByteArray), true, false, false, false⟩ : S69) )) (Reps.c5 (show Kd.M k69 _ _ _ (⟨(⟨#[39]⟩ : ByteArray), true, false, false, false⟩ : S69) [.string (⟨#[39]⟩ : ByteArray), .bool true, .bool false, .bool false, .bool false] from (k69_mkM _ _ _ (⟨(⟨#[39]⟩ : ByteArray), true, false, false, false⟩ : S69) )) (Reps.c5 (show Kd.M k69 _ _ _ (⟨strOfNums y118, false, false, true, true⟩ : S69) [.string (strOfNums y118), .bool false, .bool false, .bool true, .bool true] from (k69_mkM _ _ _ (⟨strOfNums y118, false, false, true, true⟩ : S69) )) (Reps.none _ _))))); intro v125 w12 ho13 hb hg_ hnew_; clear hg_ hnew_; (first | rw [← Ny124.out] at ho13 | (simp only [Int.reduceToNat] at ho13; rw [← Ny124.out] at ho13)); have n0_ := Aside0.mk (Kd.R_below (by (with_reducible repeat (first | apply Kd.R_alloc | apply Kd.R_drewN | apply Kd.R_drew)); exact HO120.out) hb); have n1_ := Aside0.mk (Kd.R_lower ho13 (below_size (by repeat (first | (with_reducible first | exact HB.out | apply below_alloc | apply pw_below_drewN | apply below_drew1) | exact HB.out)))); have n2_ := Aside0.mk (below_step (by repeat (first | (with_reducible first | exact HB.out | apply below_alloc | apply pw_below_drewN | apply below_drew1) | exact HB.out)) hb); clear HO120; clear HB; have HO120 := n0_; have HO126 := n1_; have HB := n2_; clear n0_ n1_ n2_; clear hb ho13))
      go_ret
      exact ⟨_, by first | rfl | (simp [errW_none, errW_some] <;> rfl) | (simp [*, errW_none, errW_some] <;> rfl), by (with_reducible repeat (first | apply Kd.R_alloc | apply Kd.R_drewN | apply Kd.R_drew)); exact HO126.out, by repeat (first | (with_reducible first | exact HB.out | apply below_alloc | apply pw_below_drewN | apply below_drew1) | exact HB.out)⟩
    · rw [if_neg c8] at H
      have c8b0 : (a0 == 5) = false := beq_eq_false_iff_ne.mpr c8
      have c8b1 : (a0 != 5) = true := bne_iff_ne.mpr c8
      by_cases c14 : a0 = 6
      · rw [if_pos c14] at H
        have c14b0 : (a0 == 6) = true := beq_iff_eq.mpr c14
        have c14b1 : (a0 != 6) = false := bne_eq_false_iff_eq.mpr c14
        clear c14
        obtain ⟨y127, hy127⟩ : ∃ y_ : List (S69), y_ = (([(⟨(⟨#[34, 34, 34]⟩ : ByteArray), true, false, true, false⟩ : S69), (⟨(⟨#[39, 39, 39]⟩ : ByteArray), true, false, true, false⟩ : S69), (⟨(⟨#[34]⟩ : ByteArray), true, false, false, false⟩ : S69), (⟨(⟨#[39]⟩ : ByteArray), true, false, false, false⟩ : S69)] : List (S69))) := ⟨_, rfl⟩
        replace H : (some y127) = some r := by first | (rw [hy127]; with_reducible exact H) | (have H2_ := (Option.bind_some _ _).symm.trans H; rw [hy127]; with_reducible exact H2_) | (have H2_ := (Option.bind_some _ _).symm.trans H; with_reducible exact H2_) | with_reducible exact H | (rw [hy127]; exact H) | exact H
        have Ny127 := Aside0.mk hy127
        clear hy127
        obtain rfl := Option.some.inj H
        go_enter Try.func27, Try.ntmps27
        go_wp2_with (first | ((with_reducible refine gate_dst (N := 4) rfl ?_); refine Kd.R_lit (Kd.int .u8) _ 5 ?hg (N := 4) ?hd (xs := ([96] : List Int)) (inner := [.int .u8 96]) (ok := fun _ => True) (okp := fun _ => True) ?hr ?hp (fun _ hk => hk) trivial (Below.refl _ _) (Nat.le_refl _) (by simp) ?_; (case hd => rfl); (case hg => rfl); (case hr => first | (go_simp; done) | (go_simp; rfl)); (case hp => exact (Reps.one (show Kd.M (Kd.int .u8) _ _ _ 96 [.int .u8 96] from rfl) (Reps.none _ _))); intro v119 w15 ho16 hb hg_ hnew_; clear hg_ hnew_; (first | rw [← Ny118.out] at ho16 | (simp only [Int.reduceToNat] at ho16; rw [← Ny118.out] at ho16)); have n0_ := Aside0.mk (Kd.R_lower ho16 (below_size (by repeat (first | (with_reducible first | exact HB.out | apply below_alloc | apply pw_below_drewN | apply below_drew1) | exact HB.out)))); have n1_ := Aside0.mk (below_step (by repeat (first | (with_reducible first | exact HB.out | apply below_alloc | apply pw_below_drewN | apply below_drew1) | exact HB.out)) hb); clear HB; have HO120 := n0_; have HB := n1_; clear n0_ n1_; clear hb ho16; have hcv17 := own_string (P := Try.prog) Try.underlying22 Try.underlying5 Try.underlying9 (Kd.own_of_R HO120.out)) | ((with_reducible refine gate_dst (N := 25) rfl ?_); refine Kd.R_lit k69 _ 69 ?hg (N := 25) ?hd (xs := ([(⟨(⟨#[34, 34, 34]⟩ : ByteArray), true, false, true, false⟩ : S69), (⟨(⟨#[39, 39, 39]⟩ : ByteArray), true, false, true, false⟩ : S69), (⟨(⟨#[34]⟩ : ByteArray), true, false, false, false⟩ : S69), (⟨(⟨#[39]⟩ : ByteArray), true, false, false, false⟩ : S69)] : List (S69))) (inner := [.string (⟨#[34, 34, 34]⟩ : ByteArray), .bool true, .bool false, .bool true, .bool false, .string (⟨#[39, 39, 39]⟩ : ByteArray), .bool true, .bool false, .bool true, .bool false, .string (⟨#[34]⟩ : ByteArray), .bool true, .bool false, .bool false, .bool false, .string (⟨#[39]⟩ : ByteArray), .bool true, .bool false, .bool false, .bool false]) (ok := fun _ => True) (okp := fun _ => True) ?hr ?hp (fun _ hk => hk) trivial (Below.refl _ _) (Nat.le_refl _) (by simp) ?_; (case hd => rfl); (case hg => rfl); (case hr => first | (go_simp; done) | (go_simp; rfl)); (case hp => exact (Reps.c5 (show Kd.M k69 _ _ _ (⟨(⟨#[34, 34, 34]⟩ : ByteArray), true, false, true, false⟩ : S69) [.string (⟨#[34, 34, 34]⟩ : ByteArray), .bool true, .bool false, .bool true, .bool false] from (k69_mkM _ _ _ (⟨(⟨#[34, 34, 34]⟩ : ByteArray), true, false, true, false⟩ : S69) )) (Reps.c5 (show Kd.M k69 _ _ _ (⟨(⟨#[39, 39, 39]⟩ : ByteArray), true, false, true, false⟩ : S69) [.string (⟨#[39, 39, 39]⟩ : ByteArray), .bool true, .bool false, .bool true, .bool false] from (k69_mkM _ _ _ (⟨(⟨#[39, 39, 39]⟩ : ByteArray), true, false, true, false⟩ : S69) )) (Reps.c5 (show Kd.M k69 _ _ _ (⟨(⟨#[34]⟩ : ByteArray), true, false, false, false⟩ : S69) [.string (⟨#[34]⟩ : ByteArray), .bool true, .bool false, .bool false, .bool false] from (k69_mkM _ _ _ (⟨(⟨#[34]⟩ : ByteArray), true, false, false, false⟩ : S69) )) (Reps.c5 (show Kd.M k69 _ _ _ (⟨(⟨#[39]⟩ : ByteArray), true, false, false, false⟩ : S69) [.string (⟨#[39]⟩ : ByteArray), .bool true, .bool false, .bool false, .bool false] from (k69_mkM _ _ _ (⟨(⟨#[39]⟩ : ByteArray), true, false, false, false⟩ : S69) )) (Reps.none _ _)))))); intro v128 w18 ho19 hb hg_ hnew_; clear hg_ hnew_; (first | rw [← Ny127.out] at ho19 | (simp only [Int.reduceToNat] at ho19; rw [← Ny127.out] at ho19)); have n0_ := Aside0.mk (Kd.R_below (by (with_reducible repeat (first | apply Kd.R_alloc | apply Kd.R_drewN | apply Kd.R_drew)); exact HO120.out) hb); have n1_ := Aside0.mk (Kd.R_lower ho19 (below_size (by repeat (first | (with_reducible first | exact HB.out | apply below_alloc | apply pw_below_drewN | apply below_drew1) | exact HB.out)))); have n2_ := Aside0.mk (below_step (by repeat (first | (with_reducible first | exact HB.out | apply below_alloc | apply pw_below_drewN | apply below_drew1) | exact HB.out)) hb); clear HO120; clear HB; have HO120 := n0_; have HO129 := n1_; have HB := n2_; clear n0_ n1_ n2_; clear hb ho19))
        go_ret
        exact ⟨_, by first | rfl | (simp [errW_none, errW_some] <;> rfl) | (simp [*, errW_none, errW_some] <;> rfl), by (with_reducible repeat (first | apply Kd.R_alloc | apply Kd.R_drewN | apply Kd.R_drew)); exact HO129.out, by repeat (first | (with_reducible first | exact HB.out | apply below_alloc | apply pw_below_drewN | apply below_drew1) | exact HB.out)⟩
      · rw [if_neg c14] at H
        have c14b0 : (a0 == 6) = false := beq_eq_false_iff_ne.mpr c14
        have c14b1 : (a0 != 6) = true := bne_iff_ne.mpr c14
        by_cases c20 : a0 = 7
        · rw [if_pos c20] at H
          have c20b0 : (a0 == 7) = true := beq_iff_eq.mpr c20
          have c20b1 : (a0 != 7) = false := bne_eq_false_iff_eq.mpr c20
          clear c20
          obtain ⟨y130, hy130⟩ : ∃ y_ : List (S69), y_ = (([(⟨(⟨#[34]⟩ : ByteArray), true, false, true, false⟩ : S69), (⟨(⟨#[39]⟩ : ByteArray), false, false, true, true⟩ : S69)] : List (S69))) := ⟨_, rfl⟩
          replace H : (some y130) = some r := by first | (rw [hy130]; with_reducible exact H) | (have H2_ := (Option.bind_some _ _).symm.trans H; rw [hy130]; with_reducible exact H2_) | (have H2_ := (Option.bind_some _ _).symm.trans H; with_reducible exact H2_) | with_reducible exact H | (rw [hy130]; exact H) | exact H
          have Ny130 := Aside0.mk hy130
          clear hy130
          obtain rfl := Option.some.inj H
          go_enter Try.func27, Try.ntmps27
          go_wp2_with (first | ((with_reducible refine gate_dst (N := 4) rfl ?_); refine Kd.R_lit (Kd.int .u8) _ 5 ?hg (N := 4) ?hd (xs := ([96] : List Int)) (inner := [.int .u8 96]) (ok := fun _ => True) (okp := fun _ => True) ?hr ?hp (fun _ hk => hk) trivial (Below.refl _ _) (Nat.le_refl _) (by simp) ?_; (case hd => rfl); (case hg => rfl); (case hr => first | (go_simp; done) | (go_simp; rfl)); (case hp => exact (Reps.one (show Kd.M (Kd.int .u8) _ _ _ 96 [.int .u8 96] from rfl) (Reps.none _ _))); intro v119 w21 ho22 hb hg_ hnew_; clear hg_ hnew_; (first | rw [← Ny118.out] at ho22 | (simp only [Int.reduceToNat] at ho22; rw [← Ny118.out] at ho22)); have n0_ := Aside0.mk (Kd.R_lower ho22 (below_size (by repeat (first | (with_reducible first | exact HB.out | apply below_alloc | apply pw_below_drewN | apply below_drew1) | exact HB.out)))); have n1_ := Aside0.mk (below_step (by repeat (first | (with_reducible first | exact HB.out | apply below_alloc | apply pw_below_drewN | apply below_drew1) | exact HB.out)) hb); clear HB; have HO120 := n0_; have HB := n1_; clear n0_ n1_; clear hb ho22; have hcv23 := own_string (P := Try.prog) Try.underlying22 Try.underlying5 Try.underlying9 (Kd.own_of_R HO120.out)) | ((with_reducible refine gate_dst (N := 30) rfl ?_); refine Kd.R_lit k69 _ 69 ?hg (N := 30) ?hd (xs := ([(⟨(⟨#[34]⟩ : ByteArray), true, false, true, false⟩ : S69), (⟨(⟨#[39]⟩ : ByteArray), false, false, true, true⟩ : S69)] : List (S69))) (inner := [.string (⟨#[34]⟩ : ByteArray), .bool true, .bool false, .bool true, .bool false, .string (⟨#[39]⟩ : ByteArray), .bool false, .bool false, .bool true, .bool true]) (ok := fun _ => True) (okp := fun _ => True) ?hr ?hp (fun _ hk => hk) trivial (Below.refl _ _) (Nat.le_refl _) (by simp) ?_; (case hd => rfl); (case hg => rfl); (case hr => first | (go_simp; done) | (go_simp; rfl)); (case hp => exact (Reps.c5 (show Kd.M k69 _ _ _ (⟨(⟨#[34]⟩ : ByteArray), true, false, true, false⟩ : S69) [.string (⟨#[34]⟩ : ByteArray), .bool true, .bool false, .bool true, .bool false] from (k69_mkM _ _ _ (⟨(⟨#[34]⟩ : ByteArray), true, false, true, false⟩ : S69) )) (Reps.c5 (show Kd.M k69 _ _ _ (⟨(⟨#[39]⟩ : ByteArray), false, false, true, true⟩ : S69) [.string (⟨#[39]⟩ : ByteArray), .bool false, .bool false, .bool true, .bool true] from (k69_mkM _ _ _ (⟨(⟨#[39]⟩ : ByteArray), false, false, true, true⟩ : S69) )) (Reps.none _ _)))); intro v131 w24 ho25 hb hg_ hnew_; clear hg_ hnew_; (first | rw [← Ny130.out] at ho25 | (simp only [Int.reduceToNat] at ho25; rw [← Ny130.out] at ho25)); have n0_ := Aside0.mk (Kd.R_below (by (with_reducible repeat (first | apply Kd.R_alloc | apply Kd.R_drewN | apply Kd.R_drew)); exact HO120.out) hb); have n1_ := Aside0.mk (Kd.R_lower ho25 (below_size (by repeat (first | (with_reducible first | exact HB.out | apply below_alloc | apply pw_below_drewN | apply below_drew1) | exact HB.out)))); have n2_ := Aside0.mk (below_step (by repeat (first | (with_reducible first | exact HB.out | apply below_alloc | apply pw_below_drewN | apply below_drew1) | exact HB.out)) hb); clear HO120; clear HB; have HO120 := n0_; have HO132 := n1_; have HB := n2_; clear n0_ n1_ n2_; clear hb ho25))
          go_ret
          exact ⟨_, by first | rfl | (simp [errW_none, errW_some] <;> rfl) | (simp [*, errW_none, errW_some] <;> rfl), by (with_reducible repeat (first | apply Kd.R_alloc | apply Kd.R_drewN | apply Kd.R_drew)); exact HO132.out, by repeat (first | (with_reducible first | exact HB.out | apply below_alloc | apply pw_below_drewN | apply below_drew1) | exact HB.out)⟩
        · rw [if_neg c20] at H
          have c20b0 : (a0 == 7) = false := beq_eq_false_iff_ne.mpr c20
          have c20b1 : (a0 != 7) = true := bne_iff_ne.mpr c20
          obtain ⟨y133, hy133⟩ : ∃ y_ : List (S69), y_ = (([(⟨(⟨#[39]⟩ : ByteArray), false, true, true, false⟩ : S69), (⟨(⟨#[34]⟩ : ByteArray), false, true, true, true⟩ : S69)] : List (S69))) := ⟨_, rfl⟩
          replace H : (some y133) = some r := by first | (rw [hy133]; with_reducible exact H) | (have H2_ := (Option.bind_some _ _).symm.trans H; rw [hy133]; with_reducible exact H2_) | (have H2_ := (Option.bind_some _ _).symm.trans H; with_reducible exact H2_) | with_reducible exact H | (rw [hy133]; exact H) | exact H
          have Ny133 := Aside0.mk hy133
          clear hy133
          obtain rfl := Option.some.inj H
          go_enter Try.func27, Try.ntmps27
          go_wp2_with (first | ((with_reducible refine gate_dst (N := 4) rfl ?_); refine Kd.R_lit (Kd.int .u8) _ 5 ?hg (N := 4) ?hd (xs := ([96] : List Int)) (inner := [.int .u8 96]) (ok := fun _ => True) (okp := fun _ => True) ?hr ?hp (fun _ hk => hk) trivial (Below.refl _ _) (Nat.le_refl _) (by simp) ?_; (case hd => rfl); (case hg => rfl); (case hr => first | (go_simp; done) | (go_simp; rfl)); (case hp => exact (Reps.one (show Kd.M (Kd.int .u8) _ _ _ 96 [.int .u8 96] from rfl) (Reps.none _ _))); intro v119 w26 ho27 hb hg_ hnew_; clear hg_ hnew_; (first | rw [← Ny118.out] at ho27 | (simp only [Int.reduceToNat] at ho27; rw [← Ny118.out] at ho27)); have n0_ := Aside0.mk (Kd.R_lower ho27 (below_size (by repeat (first | (with_reducible first | exact HB.out | apply below_alloc | apply pw_below_drewN | apply below_drew1) | exact HB.out)))); have n1_ := Aside0.mk (below_step (by repeat (first | (with_reducible first | exact HB.out | apply below_alloc | apply pw_below_drewN | apply below_drew1) | exact HB.out)) hb); clear HB; have HO120 := n0_; have HB := n1_; clear n0_ n1_; clear hb ho27; have hcv28 := own_string (P := Try.prog) Try.underlying22 Try.underlying5 Try.underlying9 (Kd.own_of_R HO120.out)) | ((with_reducible refine gate_dst (N := 33) rfl ?_); refine Kd.R_lit k69 _ 69 ?hg (N := 33) ?hd (xs := ([(⟨(⟨#[39]⟩ : ByteArray), false, true, true, false⟩ : S69), (⟨(⟨#[34]⟩ : ByteArray), false, true, true, true⟩ : S69)] : List (S69))) (inner := [.string (⟨#[39]⟩ : ByteArray), .bool false, .bool true, .bool true, .bool false, .string (⟨#[34]⟩ : ByteArray), .bool false, .bool true, .bool true, .bool true]) (ok := fun _ => True) (okp := fun _ => True) ?hr ?hp (fun _ hk => hk) trivial (Below.refl _ _) (Nat.le_refl _) (by simp) ?_; (case hd => rfl); (case hg => rfl); (case hr => first | (go_simp; done) | (go_simp; rfl)); (case hp => exact (Reps.c5 (show Kd.M k69 _ _ _ (⟨(⟨#[39]⟩ : ByteArray), false, true, true, false⟩ : S69) [.string (⟨#[39]⟩ : ByteArray), .bool false, .bool true, .bool true, .bool false] from (k69_mkM _ _ _ (⟨(⟨#[39]⟩ : ByteArray), false, true, true, false⟩ : S69) )) (Reps.c5 (show Kd.M k69 _ _ _ (⟨(⟨#[34]⟩ : ByteArray), false, true, true, true⟩ : S69) [.string (⟨#[34]⟩ : ByteArray), .bool false, .bool true, .bool true, .bool true] from (k69_mkM _ _ _ (⟨(⟨#[34]⟩ : ByteArray), false, true, true, true⟩ : S69) )) (Reps.none _ _)))); intro v134 w29 ho30 hb hg_ hnew_; clear hg_ hnew_; (first | rw [← Ny133.out] at ho30 | (simp only [Int.reduceToNat] at ho30; rw [← Ny133.out] at ho30)); have n0_ := Aside0.mk (Kd.R_below (by (with_reducible repeat (first | apply Kd.R_alloc | apply Kd.R_drewN | apply Kd.R_drew)); exact HO120.out) hb); have n1_ := Aside0.mk (Kd.R_lower ho30 (below_size (by repeat (first | (with_reducible first | exact HB.out | apply below_alloc | apply pw_below_drewN | apply below_drew1) | exact HB.out)))); have n2_ := Aside0.mk (below_step (by repeat (first | (with_reducible first | exact HB.out | apply below_alloc | apply pw_below_drewN | apply below_drew1) | exact HB.out)) hb); clear HO120; clear HB; have HO120 := n0_; have HO135 := n1_; have HB := n2_; clear n0_ n1_ n2_; clear hb ho30))
          go_ret
          exact ⟨_, by first | rfl | (simp [errW_none, errW_some] <;> rfl) | (simp [*, errW_none, errW_some] <;> rfl), by (with_reducible repeat (first | apply Kd.R_alloc | apply Kd.R_drewN | apply Kd.R_drew)); exact HO135.out, by repeat (first | (with_reducible first | exact HB.out | apply below_alloc | apply pw_below_drewN | apply below_drew1) | exact HB.out)⟩

end Go.Proofs.Ytjbbogcoabgcnaa.PSrc
