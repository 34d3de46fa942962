/- bytes.Index by the shelf's contract; until, begins. Conditions: as each lemma says. -/
import Derived.Ground.NamesProg
import Derived.Shelf.LaysM
import Derived.Shelf.Bytes.SlIndexWhole
import Derived.Test.YtcbibbdkjhkmoaaHScan
import Derived.Test.YtcbibbdkjhkmoaaHtmLex
set_option linter.unusedVariables false
set_option linter.unusedSimpArgs false
namespace Go.Proofs.Ytcbibbdkjhkmoaa.H
open Go.RowKit Go.Proofs.YtcbibbdkjhkmoaaW.PrintWords Go.Proofs.Ytcbibbdkjhkmoaa.L Go.Proofs.Ytcbibbdkjhkmoaa.S Go.Proofs.Ytcbibbdkjhkmoaa.Htm Go.Shelf

def idxRen : Go.Shelf.Ren := ⟨fun | 185 => 49 | 187 => 54 | 115 => 53 | 253 => 55 | 224 => 56 | 254 => 57 | 255 => 58 | 291 => 59 | n => n, fun | 37 => 22 | 3 => 3 | 4 => 4 | 0 => 0 | 5 => 5 | 46 => 88 | 9 => 9 | 146 => 90 | 51 => 89 | n => n, fun | 1 => 0 | n => n⟩
theorem idxLays : Go.Proofs.LaysM.n185 Try.prog idxRen := {
  mixed := by kernel_rfl
  f115 := Try.func53.trans (congrArg some (by kernel_rfl))
  f185 := Try.func49.trans (congrArg some (by kernel_rfl))
  f187 := Try.func54.trans (congrArg some (by kernel_rfl))
  f224 := Try.func56.trans (congrArg some (by kernel_rfl))
  f253 := Try.func55.trans (congrArg some (by kernel_rfl))
  f254 := Try.func57.trans (congrArg some (by kernel_rfl))
  f255 := Try.func58.trans (congrArg some (by kernel_rfl))
  f291 := Try.func59.trans (congrArg some (by kernel_rfl))
  t0 := Try.underlying0
  a0 := Try.isAgg0
  z0 := Try.sizeOf0
  v0 := Try.zeroValue0
  t3 := Try.underlying3
  a3 := Try.isAgg3
  z3 := Try.sizeOf3
  v3 := Try.zeroValue3
  t4 := Try.underlying4
  a4 := Try.isAgg4
  z4 := Try.sizeOf4
  v4 := Try.zeroValue4
  t5 := Try.underlying5
  a5 := Try.isAgg5
  z5 := Try.sizeOf5
  v5 := Try.zeroValue5
  t9 := Try.underlying9
  a9 := Try.isAgg9
  z9 := Try.sizeOf9
  v9 := Try.zeroValue9
  t37 := Try.underlying22
  a37 := Try.isAgg22
  z37 := Try.sizeOf22
  v37 := Try.zeroValue22
  t46 := Try.underlying88
  a46 := Try.isAgg88
  z46 := Try.sizeOf88
  v46 := Try.zeroValue88
  t51 := Try.underlying89
  a51 := Try.isAgg89
  z51 := Try.sizeOf89
  v51 := Try.zeroValue89
  t146 := Try.underlying90
  a146 := Try.isAgg90
  z146 := Try.sizeOf90
  v146 := Try.zeroValue90
  g1 := by kernel_rfl
  i0 := by kernel_rfl
  i3 := by kernel_rfl
  i4 := by kernel_rfl
  i5 := by kernel_rfl
  i9 := by kernel_rfl
  i37 := by kernel_rfl
  i46 := by kernel_rfl
  i51 := by kernel_rfl
  i146 := by kernel_rfl
  m1 := by kernel_rfl
  s1_3 := fun w h => Go.Proofs.cell_of_shapedOpen_int (zero := #[.int .i64 0]) (t := 3) h (of_decide_eq_true (by kernel_rfl)) (by kernel_rfl) rfl (by kernel_rfl) (by kernel_rfl) Try.underlying3 }
/-- The cell of a variable of the library's holds a number. -/
def Mx (W : World) : Prop := 0 < W.heap.size ∧ ∃ m, W.cell? ⟨0, 0, none⟩ = some (.int .i64 m)
theorem Mx.below {W W' : World} (h : Mx W) (hb : Below W.heap.size W W') : Mx W' := by
  obtain ⟨h0, m, hm⟩ := h
  exact ⟨Nat.lt_of_lt_of_le h0 hb.size, m, (hb.cell (p := ⟨0, 0, none⟩) h0).trans hm⟩
theorem pfx_lib : ∀ (t l : List Int), Bys t → Bys l → (Lib.bytesOf t).isPrefixOf (Lib.bytesOf l) = t.isPrefixOf l := by
  intro t
  induction t with
  | nil => intro l _ _; cases l <;> rfl
  | cons x t ih =>
    intro l ht hl
    cases l with
    | nil => rfl
    | cons y l =>
      have hx := ht x (by simp)
      have hy := hl y (by simp)
      have e1 : Lib.bytesOf (x :: t) = UInt8.ofNat x.toNat :: Lib.bytesOf t := rfl
      have e2 : Lib.bytesOf (y :: l) = UInt8.ofNat y.toNat :: Lib.bytesOf l := rfl
      rw [e1, e2, List.isPrefixOf_cons_cons, List.isPrefixOf_cons_cons, ih l (fun z hz => ht z (by simp [hz])) (fun z hz => hl z (by simp [hz]))]
      congr 1
      rw [Bool.eq_iff_iff, beq_iff_eq, beq_iff_eq]
      constructor
      · intro h
        have := congrArg UInt8.toNat h
        simp only [UInt8.toNat_ofNat'] at this
        rw [Nat.mod_eq_of_lt (by omega), Nat.mod_eq_of_lt (by omega)] at this
        omega
      · rintro rfl; rfl
def fndI (t l : List Int) : Int := match fnd t l with | some i => (i : Int) | none => -1
theorem index_lib (t : List Int) (ht : Bys t) (hne : t ≠ []) : ∀ l : List Int, Bys l → Lib.index (Lib.bytesOf l) (Lib.bytesOf t) = fndI t l := by
  intro l
  induction l with
  | nil =>
    intro _
    unfold fndI
    rw [fnd_nil t hne]
    cases t with
    | nil => exact absurd rfl hne
    | cons x t => rfl
  | cons x l ih =>
    intro hl
    have ih := ih (fun z hz => hl z (by simp [hz]))
    have e2 : Lib.bytesOf (x :: l) = UInt8.ofNat x.toNat :: Lib.bytesOf l := rfl
    have hp := pfx_lib t (x :: l) ht hl
    rw [e2] at hp ⊢
    rw [Lib.index, hp, ih]
    unfold fndI
    conv => rhs; unfold fnd
    by_cases h : t.isPrefixOf (x :: l) = true
    · rw [if_pos h, if_pos h]; rfl
    · rw [if_neg h, if_neg h]
      cases fnd t l with
      | none => rfl
      | some j =>
        simp only [Option.map_some]
        rw [if_neg (by rw [beq_iff_eq]; omega)]
        omega
theorem bindex_any (a1 : Addr) (A2 : Option Addr) (n c1 k c2 : Nat) (l t : List Int) (w : World) (h1 : Kd.C (Kd.int .u8) w (some a1) n l) (hc : n ≤ c1) (h2 : Kd.C (Kd.int .u8) w A2 k t) (b1 : Bys l) (b2 : Bys t) (hn : n ≤ 65536) (hk : 1 ≤ k) (hkm : k ≤ 65536) (hM : Mx w) :
    Calls Try.prog 49 #[.slice (some a1) n c1, .slice A2 k c2] w fun e w' => e = .returned (.int .i64 (fndI t l)) ∧ Below w.heap.size w w' := by
  obtain ⟨_, m, hm⟩ := hM
  have hne : t ≠ [] := by
    intro e
    have := h2.1
    rw [e] at this
    simp at this
    omega
  obtain ⟨a2, e2, _⟩ := h2.2.2 (by omega)
  subst e2
  have cells : ∀ (a : Addr) (n : Nat) (l : List Int), Kd.C (Kd.int .u8) w (some a) n l → ∀ i, i < n → w.cell? (a.add i) = some (.int .u8 (l.getD i 0)) := by
    intro a n l h i hi
    obtain ⟨ad, e, hc⟩ := Kd.at_int h (i : Int) (by omega) (by omega)
    injection e with e
    subst e
    exact hc
  rw [← index_lib t b2 hne l b1]
  refine (Any.bytes_Index_at { idxLays with } a1 a2 n c1 k c2 l t m w h1.1 h2.1 b1 b2 (cells a1 n l h1) (cells a2 k t h2) hc (by omega) (by omega) hm).mono ?_
  rintro e w' ⟨rfl, q, rfl⟩
  exact ⟨rfl, pw_below_drewN (Below.refl _ _) q⟩
end Go.Proofs.Ytcbibbdkjhkmoaa.H
