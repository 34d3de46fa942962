/- The laws' fixed fact of layer 18, walked; openers of its arguments. Conditions: none. -/
import Derived.Test.YtgcjkijndibejaaELw
import Derived.Test.YtgcjkijndibejaaOpn
import Derived.Lib.SlBytesConst
set_option linter.unusedVariables false
set_option linter.unusedSimpArgs false
namespace Go.Proofs.Ytgcjkijndibejaa.Srt
open Go.Lib hiding bytesOf bytesOf_length
open Go.Shelf Go.RowKit Go.Proofs.YtgcjkijndibejaaW.PrintWords Go.Proofs.YtgcjkijndibejaaW.PrintLast Go.Proofs.YtgcjkijndibejaaW.Opn

theorem opBytes : Opens Try.prog 22 (Kd.slice 5 (Kd.int .u8)) (fun xs => Bys xs ∧ xs.length ≤ 140737488351232) :=
  Opens.imp (Opens.slice (B := 1) (Opens.int Try.underlying5) Try.underlying22 (by kernel_rfl) (by kernel_rfl)) (fun xs h => ⟨fun x hx => by
    have := h.2.2 x hx
    simp only [Lit.wf, Bool.and_eq_true, decide_eq_true_eq] at this
    have e1 : IntKind.u8.min = 0 := rfl
    have e2 : IntKind.u8.max = 255 := rfl
    omega, by have := h.2.1; omega⟩)
theorem u8_of {x : Int} (h : (Lit.int .u8 x).wf = true) : ∃ n : Nat, x = n ∧ n < 256 := by
  simp only [Lit.wf, Bool.and_eq_true, decide_eq_true_eq] at h
  have e1 : IntKind.u8.min = 0 := rfl
  have e2 : IntKind.u8.max = 255 := rfl
  exact ⟨x.toNat, by omega, by omega⟩
theorem lit_C (w : World) (t : TypeId) (fr : Nat × Nat) (l : List Int) (hl : l.length ≤ 1000) : Kd.C (Kd.int .u8) (w.alloc (.cells (l.map (Value.int .u8)).toArray t fr)) (some ⟨w.heap.size, 0, none⟩) l.length l := by
  refine ⟨rfl, by omega, fun _ => ⟨_, rfl, fun j p hj => ⟨[.int .u8 p], rfl, rfl, fun i u hu => ?_⟩⟩⟩
  have hi : i = 0 := by
    have := (List.getElem?_eq_some_iff.1 hu).1
    simpa using this
  subst hi
  have hp : Value.int .u8 p = u := by simpa using hu
  subst hp
  have e : (⟨w.heap.size, 0, none⟩ : Addr).add (j * 1 + 0) = ⟨w.heap.size, j, none⟩ := by
    unfold Addr.add
    by_cases h0 : j = 0
    · subst h0; rfl
    · simp [h0]
  have hz : (Kd.int IntKind.u8).sz = 1 := rfl
  rw [hz, e, cell_of_row _ _ _ _ _ _ (blk_new w _)]
  simp [hj]
/-- Edits that lie in a block of their own. -/
theorem EdR.lit {W : World} {g : Nat} (es : List Ed) (h : W.heap[g]? = some (.cells (edC es).toArray 46 (0, 0))) : EdR W (.slice (some ⟨g, 0, none⟩) es.length es.length) es := by
  refine .inr ⟨g, 0, es.length, rfl, Nat.le_refl _, blk_lt h, fun t ht => ?_⟩
  rw [Nat.zero_add, blk_cell h]
  simp
theorem conv_C {W : World} {A : Option Addr} {n c : Nat} {xs : List Int} (h : Kd.C (Kd.int .u8) W A n xs) : (convert 22 9 (.slice A n c)).run Try.prog W = .ok (.string (strOfNums xs)) W :=
  Kd.C_string (P := Try.prog) (c := c) Try.underlying22 Try.underlying5 Try.underlying9 h
theorem aw_apply : applyR [97, 98, 99, 100] [(1, 2, ⟨#[88]⟩)] = [97, 88, 100] := by
  rw [apply_one _ (by intro x hx; simp at hx; omega) _ (by decide)]
  rfl
theorem aw_tidy : tidy [97, 98, 99, 100] [(1, 2, ⟨#[88]⟩)] = (0, [(1, 2, ⟨#[88]⟩)]) := by
  rw [tidy_one _ _ (by decide), if_pos]
  rw [chg_iff _ (by intro x hx; simp at hx; omega)]
  decide
theorem aw_place : place [97, 98, 99, 100] [(1, 2, ⟨#[88]⟩)] 3 = (2, 0) := by
  unfold place
  rw [aw_tidy]
  decide
set_option maxRecDepth 100000 in
set_option maxHeartbeats 2000000 in
theorem awake_any (w : World) :
    Calls Try.prog 10 #[] w fun e w' => e = .returned (.bool true) ∧ Below w.heap.size w w' := by
  have kcv := fun W : World => Lib.run_convert_bytes_const (P := Try.prog) W 22 5 #[.int .u8 97, .int .u8 98, .int .u8 99, .int .u8 100] 4 4 Try.underlying22 Try.underlying5
  go_enter Try.func10, Try.ntmps10
  go_wp2_with fail
  have hb1 := below_alloc (Below.refl w.heap.size w) (.cells #[.int .u8 97, .int .u8 98, .int .u8 99, .int .u8 100] 5 (4, 5))
  have hC1 := lit_C w 5 (4, 5) [97, 98, 99, 100] (by simp)
  have hC1 : Kd.C (Kd.int .u8) (w.alloc (.cells #[.int .u8 97, .int .u8 98, .int .u8 99, .int .u8 100] 5 (4, 5))) (some ⟨w.heap.size, 0, none⟩) 4 [97, 98, 99, 100] := hC1
  have hx1 := blk_new (w.alloc (.cells #[.int .u8 97, .int .u8 98, .int .u8 99, .int .u8 100] 5 (4, 5))) (.cells #[.int .i64 1, .int .i64 2, .string ⟨#[88]⟩] 46)
  have hb2 := below_alloc (Below.refl (w.alloc (.cells #[.int .u8 97, .int .u8 98, .int .u8 99, .int .u8 100] 5 (4, 5))).heap.size _) (.cells #[.int .i64 1, .int .i64 2, .string ⟨#[88]⟩] 46)
  have hC2 := Kd.C_below hC1 hb2
  have hE := EdR.lit [((1 : Int), (2 : Int), (⟨#[88]⟩ : ByteArray))] hx1
  rw [size_alloc1] at hE
  have HB2 := Lib.hid (below_step hb1 hb2)
  have HCE := Lib.hid (And.intro hC2 hE)
  clear hC1 hx1 hC2 hE hb1 hb2
  generalize (w.alloc (.cells #[.int .u8 97, .int .u8 98, .int .u8 99, .int .u8 100] 5 (4, 5))).alloc (.cells #[.int .i64 1, .int .i64 2, .string ⟨#[88]⟩] 46) = wb at *
  refine (apply_any _ 4 [97, 98, 99, 100] _ [((1 : Int), (2 : Int), (⟨#[88]⟩ : ByteArray))] _ HCE.out.1 (by simp) HCE.out.2 (by simp) (by simp) (by intro e he; simp at he; subst he; decide)).mono ?_
  rintro e w3 ⟨v3, rfl, ho3⟩
  rw [aw_tidy]
  rw [aw_apply] at ho3
  obtain ⟨A3, c3, rfl, _, hC3⟩ := ho3.form
  have HO3 := Lib.hid (And.intro (below_step HB2.out ho3.bel) hC3)
  clear ho3 hC3 HB2 HCE
  go_wp2_with fail
  have hb1 := below_alloc (Below.refl w3.heap.size w3) (.cells #[.int .u8 97, .int .u8 98, .int .u8 99, .int .u8 100] 5 (4, 5))
  have hC1 := lit_C w3 5 (4, 5) [97, 98, 99, 100] (by simp)
  have hC1 : Kd.C (Kd.int .u8) (w3.alloc (.cells #[.int .u8 97, .int .u8 98, .int .u8 99, .int .u8 100] 5 (4, 5))) (some ⟨w3.heap.size, 0, none⟩) 4 [97, 98, 99, 100] := hC1
  have hx1 := blk_new (w3.alloc (.cells #[.int .u8 97, .int .u8 98, .int .u8 99, .int .u8 100] 5 (4, 5))) (.cells #[.int .i64 1, .int .i64 2, .string ⟨#[88]⟩] 46)
  have hb2 := below_alloc (Below.refl (w3.alloc (.cells #[.int .u8 97, .int .u8 98, .int .u8 99, .int .u8 100] 5 (4, 5))).heap.size _) (.cells #[.int .i64 1, .int .i64 2, .string ⟨#[88]⟩] 46)
  have hC2 := Kd.C_below hC1 hb2
  have hE := EdR.lit [((1 : Int), (2 : Int), (⟨#[88]⟩ : ByteArray))] hx1
  rw [size_alloc1] at hE
  have HB2 := Lib.hid (below_step hb1 hb2)
  have HCE := Lib.hid (And.intro hC2 hE)
  clear hC1 hx1 hC2 hE hb1 hb2
  generalize (w3.alloc (.cells #[.int .u8 97, .int .u8 98, .int .u8 99, .int .u8 100] 5 (4, 5))).alloc (.cells #[.int .i64 1, .int .i64 2, .string ⟨#[88]⟩] 46) = w4 at *
  refine (place_any _ 4 [97, 98, 99, 100] _ [((1 : Int), (2 : Int), (⟨#[88]⟩ : ByteArray))] 3 _ HCE.out.1 (by simp) HCE.out.2 (by simp) (by simp) (by intro e he; simp at he; subst he; decide)).mono ?_
  rintro e w5 ⟨rfl, hb5⟩
  rw [aw_place]
  have hcv := conv_C (c := c3) (Kd.C_below HO3.out.2 (below_step HB2.out hb5))
  have hs3 : strOfNums [97, 88, 100] = (⟨#[97, 88, 100]⟩ : ByteArray) := rfl
  rw [hs3] at hcv
  have hcv : (convert 22 9 (.slice A3 3 c3)).run Try.prog w5 = .ok (.string ⟨#[97, 88, 100]⟩) w5 := hcv
  have HF := Lib.hid (below_step HO3.out.1 (below_step HB2.out hb5))
  clear HB2 HCE HO3 hb5 hs3
  go_wp2_with fail
  go_ret
  exact ⟨rfl, HF.out⟩
end Go.Proofs.Ytgcjkijndibejaa.Srt
