/- bytes.Index by the shelf's contract. Conditions: as each lemma says. -/
import Derived.Ground.NamesProg
import Derived.Shelf.LaysM
import Derived.Shelf.Bytes.SlIndexWhole
import Derived.Test.YtkicpaodcmepmaaDoorProg
import Derived.Test.YtkicpaodcmepmaaDoorWWords
import Derived.Test.YtkicpaodcmepmaaDoorLab
import Derived.Test.YtkicpaodcmepmaaDoorSHas
import Derived.Test.YtkicpaodcmepmaaDoorTexPlain
import Derived.WalkKit
import Derived.OwnWalk
import Derived.Lib.Hide
import Derived.KernelRfl
import Derived.RowKit3
import Derived.Deep.LoopGhost
import Derived.Deep.RegionHeld3
import Derived.Deep.DeepCutAuto
import Derived.Deep.CutBlock
import Derived.Laws.Slices
set_option linter.unusedVariables false
set_option linter.unusedSimpArgs false
namespace Go.Proofs.YtkicpaodcmepmaaDoor.T
open Go.RowKit Go.Proofs.YtkicpaodcmepmaaDoorW.PrintWords Go.Proofs.YtkicpaodcmepmaaDoor.L Go.Proofs.YtkicpaodcmepmaaDoor.S Go.Proofs.YtkicpaodcmepmaaDoor.Tex Go.Shelf

def idxRen : Go.Shelf.Ren := ⟨fun | 185 => 51 | 187 => 37 | 115 => 52 | 253 => 54 | 224 => 55 | 254 => 56 | 255 => 48 | 291 => 57 | n => n, fun | 37 => 22 | 3 => 3 | 4 => 4 | 0 => 0 | 5 => 5 | 46 => 80 | 9 => 9 | 146 => 82 | 51 => 81 | n => n, fun | 1 => 2 | n => n⟩
theorem idxLays : Go.Proofs.LaysM.n185 Tryd.prog idxRen := {
  mixed := by kernel_rfl
  f115 := Tryd.func52.trans (congrArg some (by kernel_rfl))
  f185 := Tryd.func51.trans (congrArg some (by kernel_rfl))
  f187 := Tryd.func37.trans (congrArg some (by kernel_rfl))
  f224 := Tryd.func55.trans (congrArg some (by kernel_rfl))
  f253 := Tryd.func54.trans (congrArg some (by kernel_rfl))
  f254 := Tryd.func56.trans (congrArg some (by kernel_rfl))
  f255 := Tryd.func48.trans (congrArg some (by kernel_rfl))
  f291 := Tryd.func57.trans (congrArg some (by kernel_rfl))
  t0 := Tryd.underlying0
  a0 := Tryd.isAgg0
  z0 := Tryd.sizeOf0
  v0 := Tryd.zeroValue0
  t3 := Tryd.underlying3
  a3 := Tryd.isAgg3
  z3 := Tryd.sizeOf3
  v3 := Tryd.zeroValue3
  t4 := Tryd.underlying4
  a4 := Tryd.isAgg4
  z4 := Tryd.sizeOf4
  v4 := Tryd.zeroValue4
  t5 := Tryd.underlying5
  a5 := Tryd.isAgg5
  z5 := Tryd.sizeOf5
  v5 := Tryd.zeroValue5
  t9 := Tryd.underlying9
  a9 := Tryd.isAgg9
  z9 := Tryd.sizeOf9
  v9 := Tryd.zeroValue9
  t37 := Tryd.underlying22
  a37 := Tryd.isAgg22
  z37 := Tryd.sizeOf22
  v37 := Tryd.zeroValue22
  t46 := Tryd.underlying80
  a46 := Tryd.isAgg80
  z46 := Tryd.sizeOf80
  v46 := Tryd.zeroValue80
  t51 := Tryd.underlying81
  a51 := Tryd.isAgg81
  z51 := Tryd.sizeOf81
  v51 := Tryd.zeroValue81
  t146 := Tryd.underlying82
  a146 := Tryd.isAgg82
  z146 := Tryd.sizeOf82
  v146 := Tryd.zeroValue82
  g1 := by kernel_rfl
  i0 := by kernel_rfl
  i3 := by kernel_rfl
  i4 := by kernel_rfl
  i5 := by kernel_rfl
  i9 := by kernel_rfl
  i37 := by kernel_rfl
  i46 := by kernel_rfl
  i51 := by kernel_rfl
  i146 := by kernel_rfl
  m1 := by kernel_rfl
  s1_3 := fun w h => Go.Proofs.cell_of_shapedOpen_int (zero := #[.int .i64 0]) (t := 3) h (of_decide_eq_true (by kernel_rfl)) (by kernel_rfl) rfl (by kernel_rfl) (by kernel_rfl) Tryd.underlying3 }
/-- The cell of a variable of the library's holds a number. -/
def Mx (W : World) : Prop := 2 < W.heap.size ∧ ∃ m, W.cell? ⟨2, 0, none⟩ = some (.int .i64 m)
theorem Mx.below {W W' : World} (h : Mx W) (hb : Below W.heap.size W W') : Mx W' := by
  obtain ⟨h0, m, hm⟩ := h
  exact ⟨Nat.lt_of_lt_of_le h0 hb.size, m, (hb.cell (p := ⟨2, 0, none⟩) h0).trans hm⟩
theorem pfx_lib : ∀ (t l : List Int), Bys t → Bys l → (Lib.bytesOf t).isPrefixOf (Lib.bytesOf l) = t.isPrefixOf l := by
  intro t
  induction t with
  | nil => intro l _ _; cases l <;> rfl
  | cons x t ih =>
    intro l ht hl
    cases l with
    | nil => rfl
    | cons y l =>
      have hx := ht x (by simp)
      have hy := hl y (by simp)
      have e1 : Lib.bytesOf (x :: t) = UInt8.ofNat x.toNat :: Lib.bytesOf t := rfl
      have e2 : Lib.bytesOf (y :: l) = UInt8.ofNat y.toNat :: Lib.bytesOf l := rfl
      rw [e1, e2, List.isPrefixOf_cons_cons, List.isPrefixOf_cons_cons, ih l (fun z hz => ht z (by simp [hz])) (fun z hz => hl z (by simp [hz]))]
      congr 1
      rw [Bool.eq_iff_iff, beq_iff_eq, beq_iff_eq]
      constructor
      · intro h
        have := congrArg UInt8.toNat h
        simp only [UInt8.toNat_ofNat'] at this
        rw [Nat.mod_eq_of_lt (by omega), Nat.mod_eq_of_lt (by omega)] at this
        omega
      · rintro rfl; rfl
def fndI (t l : List Int) : Int := match fnd t l with | some i => (i : Int) | none => -1
theorem index_lib (t : List Int) (ht : Bys t) (hne : t ≠ []) : ∀ l : List Int, Bys l → Lib.index (Lib.bytesOf l) (Lib.bytesOf t) = fndI t l := by
  intro l
  induction l with
  | nil =>
    intro _
    unfold fndI
    rw [fnd_nil t hne]
    cases t with
    | nil => exact absurd rfl hne
    | cons x t => rfl
  | cons x l ih =>
    intro hl
    have ih := ih (fun z hz => hl z (by simp [hz]))
    have e2 : Lib.bytesOf (x :: l) = UInt8.ofNat x.toNat :: Lib.bytesOf l := rfl
    have hp := pfx_lib t (x :: l) ht hl
    rw [e2] at hp ⊢
    rw [Lib.index, hp, ih]
    unfold fndI
    conv => rhs; unfold fnd
    by_cases h : t.isPrefixOf (x :: l) = true
    · rw [if_pos h, if_pos h]; rfl
    · rw [if_neg h, if_neg h]
      cases fnd t l with
      | none => rfl
      | some j =>
        simp only [Option.map_some]
        rw [if_neg (by rw [beq_iff_eq]; omega)]
        omega
theorem bindex_any (a1 : Addr) (A2 : Option Addr) (n c1 k c2 : Nat) (l t : List Int) (w : World) (h1 : Kd.C (Kd.int .u8) w (some a1) n l) (hc : n ≤ c1) (h2 : Kd.C (Kd.int .u8) w A2 k t) (b1 : Bys l) (b2 : Bys t) (hn : n ≤ 65536) (hk : 1 ≤ k) (hkm : k ≤ 65536) (hM : Mx w) :
    Calls Tryd.prog 51 #[.slice (some a1) n c1, .slice A2 k c2] w fun e w' => e = .returned (.int .i64 (fndI t l)) ∧ Below w.heap.size w w' := by
  obtain ⟨_, m, hm⟩ := hM
  have hne : t ≠ [] := by
    intro e
    have := h2.1
    rw [e] at this
    simp at this
    omega
  obtain ⟨a2, e2, _⟩ := h2.2.2 (by omega)
  subst e2
  have cells : ∀ (a : Addr) (n : Nat) (l : List Int), Kd.C (Kd.int .u8) w (some a) n l → ∀ i, i < n → w.cell? (a.add i) = some (.int .u8 (l.getD i 0)) := by
    intro a n l h i hi
    obtain ⟨ad, e, hc⟩ := Kd.at_int h (i : Int) (by omega) (by omega)
    injection e with e
    subst e
    exact hc
  rw [← index_lib t b2 hne l b1]
  refine (Any.bytes_Index_at { idxLays with } a1 a2 n c1 k c2 l t m w h1.1 h2.1 b1 b2 (cells a1 n l h1) (cells a2 k t h2) hc (by omega) (by omega) hm).mono ?_
  rintro e w' ⟨rfl, q, rfl⟩
  exact ⟨rfl, pw_below_drewN (Below.refl _ _) q⟩
end Go.Proofs.YtkicpaodcmepmaaDoor.T
