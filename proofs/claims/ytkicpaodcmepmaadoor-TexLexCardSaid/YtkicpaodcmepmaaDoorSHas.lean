/- bytes.HasPrefix, walked: does one row of bytes begin with another. Conditions: as each lemma says. -/
import Derived.Test.YtkicpaodcmepmaaDoorProg
import Derived.Test.YtkicpaodcmepmaaDoorWWords
import Derived.WalkKit
import Derived.OwnWalk
import Derived.Lib.Hide
import Derived.KernelRfl
import Derived.Laws.BytesArg
import Derived.Outline
import Derived.Shelf.Bytes.SlIndexAt
import Derived.Lib.BytesEntry
set_option linter.unusedVariables false
set_option linter.unusedSimpArgs false
namespace Go.Proofs.YtkicpaodcmepmaaDoor.S
open Go.RowKit Go.Proofs.YtkicpaodcmepmaaDoorW.PrintWords

/-- Bytes. -/
def Bys (l : List Int) : Prop := ∀ x ∈ l, 0 ≤ x ∧ x < 256
theorem Bys.drop {l : List Int} (h : Bys l) (n : Nat) : Bys (l.drop n) := fun x hx => h x (List.mem_of_mem_drop hx)
theorem Bys.take {l : List Int} (h : Bys l) (n : Nat) : Bys (l.take n) := fun x hx => h x (List.mem_of_mem_take hx)
theorem Bys.of (s : ByteArray) : Bys (bytesOf s) := fun x hx => by
  unfold bytesOf at hx
  obtain ⟨c, _, rfl⟩ := List.mem_map.1 hx
  have := c.toNat_lt
  omega
theorem str_eq {a b : List Int} (ha : Bys a) (hb : Bys b) : ((strOfNums a).toList == (strOfNums b).toList) = (a == b) := by
  have e : ∀ (x y : List Int), Bys x → Bys y → (x.map (fun n => UInt8.ofNat n.toNat) = y.map (fun n => UInt8.ofNat n.toNat)) → x = y := by
    intro x
    induction x with
    | nil => intro y _ _ h; cases y <;> simp at h ⊢
    | cons p x ih =>
      intro y hx hy h
      cases y with
      | nil => simp at h
      | cons q y =>
        simp only [List.map_cons, List.cons.injEq] at h
        have hp := hx p (by simp)
        have hq := hy q (by simp)
        have h1 := congrArg UInt8.toNat h.1
        simp only [UInt8.toNat_ofNat'] at h1
        have : p = q := by
          rw [Nat.mod_eq_of_lt (by omega), Nat.mod_eq_of_lt (by omega)] at h1
          omega
        rw [this, ih y (fun z hz => hx z (by simp [hz])) (fun z hz => hy z (by simp [hz])) h.2]
  rw [Bool.eq_iff_iff]
  simp only [beq_iff_eq]
  constructor
  · intro h
    refine e a b ha hb ?_
    rw [ByteArray.toList_eq, ByteArray.toList_eq] at h
    simpa [strOfNums] using h
  · rintro rfl; rfl

theorem equal_any (A0 A1 : Option Addr) (c0 c1 n0 n1 : Nat) (l0 l1 : List Int) (w : World) (h0 : Kd.C (Kd.int .u8) w A0 n0 l0) (h1 : Kd.C (Kd.int .u8) w A1 n1 l1) (b0 : Bys l0) (b1 : Bys l1) :
    Calls Tryd.prog 52 #[.slice A0 n0 c0, .slice A1 n1 c1] w fun e w' => e = .returned (.bool (l0 == l1)) ∧ w = w' := by
  have k0 := Kd.C_string (P := Tryd.prog) (A := A0) (c := c0) Tryd.underlying22 Tryd.underlying5 Tryd.underlying9 h0
  have k1 := Kd.C_string (P := Tryd.prog) (A := A1) (c := c1) Tryd.underlying22 Tryd.underlying5 Tryd.underlying9 h1
  have e := Lib.hid (str_eq b0 b1)
  clear h0 h1 b0 b1
  go_enter Tryd.func52, Tryd.ntmps52
  go_wp2
  go_ret
  exact ⟨congrArg (fun b => Ending.returned (Value.bool b)) e.out, rfl⟩

theorem pfx_take (m s : List Int) (h : m.length ≤ s.length) : (s.take m.length == m) = m.isPrefixOf s := by
  rw [Bool.eq_iff_iff, beq_iff_eq, List.isPrefixOf_iff_prefix, List.prefix_iff_eq_take]
  exact eq_comm
theorem pfx_long (m s : List Int) (h : s.length < m.length) : m.isPrefixOf s = false := by
  rw [Bool.eq_false_iff]
  intro e
  rw [List.isPrefixOf_iff_prefix] at e
  have := e.length_le
  omega
theorem info5 : (Tryd.prog.info? 5).map (fun i => (i.zero, i.size, i.bytes)) = some (some (.int .u8 0), 1, 1) := by kernel_rfl
theorem has_any (A0 A1 : Option Addr) (c0 c1 n0 n1 : Nat) (l0 l1 : List Int) (w : World) (h0 : Kd.C (Kd.int .u8) w A0 n0 l0) (hc0 : n0 ≤ c0) (h1 : Kd.C (Kd.int .u8) w A1 n1 l1) (b0 : Bys l0) (b1 : Bys l1) :
    Calls Tryd.prog 45 #[.slice A0 n0 c0, .slice A1 n1 c1] w fun e w' => e = .returned (.bool (l1.isPrefixOf l0)) ∧ w = w' := by
  obtain rfl := h0.1
  obtain rfl := h1.1
  have hm0 := h0.2.1
  have hm1 := h1.2.1
  by_cases hl : l1.length ≤ l0.length
  · obtain ⟨i0, hi0, _, hsz, _⟩ := info_parts info5
    have hct := cut_to (P := Tryd.prog) 22 5 .i64 Tryd.underlying22 hi0 A0 l0.length c0 (l1.length : Int) (by omega) (by omega) hc0
    simp only [Int.toNat_natCast] at hct
    have hC := Lib.hid (Kd.C_take (m := l1.length) h0 hl)
    have H1 := Lib.hid h1
    have hd : decide (l1.length ≤ l0.length) = true := by simpa using hl
    have hdI : decide ((l1.length : Int) ≤ (l0.length : Int)) = true := by simpa using hl
    have HE := Lib.hid (pfx_take l1 l0 hl)
    have HL := Lib.hid (show (l0.take l1.length).length = l1.length from by rw [List.length_take]; omega)
    clear h0 h1 hi0
    go_enter Tryd.func45, Tryd.ntmps45
    go_wp2_with (go_at_call 52; refine (equal_any A0 A1 c0 c1 _ _ (l0.take l1.length) l1 _ (by have := hC.out; rw [HL.out] at this; exact this) H1.out (b0.take _) b1).mono ?_; rintro e w' ⟨rfl, rfl⟩)
    go_ret
    exact ⟨congrArg (fun b => Ending.returned (Value.bool b)) HE.out, rfl⟩
  · have hd : decide (l1.length ≤ l0.length) = false := by simpa using hl
    have hdI : decide ((l1.length : Int) ≤ (l0.length : Int)) = false := by simpa using hl
    have HE := Lib.hid (pfx_long l1 l0 (by omega))
    go_enter Tryd.func45, Tryd.ntmps45
    go_wp2
    go_ret
    exact ⟨congrArg (fun b => Ending.returned (Value.bool b)) HE.out.symm, rfl⟩

/-! ### bytes.IndexByte -/
/-- Where a byte is. -/
def idx (l : List Int) (c : Int) : Int := if l.findIdx (· == c) < l.length then (l.findIdx (· == c) : Int) else -1
theorem idx_lib (l : List Int) (c : Int) (hl : Bys l) (hc : 0 ≤ c ∧ c < 256) : Lib.indexByte (Lib.bytesOf l) c.toNat.toUInt8 = idx l c := by
  induction l with
  | nil => rfl
  | cons x l ih =>
    have hx := hl x (by simp)
    have e : (UInt8.ofNat x.toNat == c.toNat.toUInt8) = (x == c) := by
      rw [Bool.eq_iff_iff, beq_iff_eq, beq_iff_eq]
      constructor
      · intro h
        have := congrArg UInt8.toNat h
        simp only [UInt8.toNat_ofNat', Nat.toUInt8_eq] at this
        rw [Nat.mod_eq_of_lt (by omega), Nat.mod_eq_of_lt (by omega)] at this
        omega
      · rintro rfl; rfl
    have ih := ih (fun z hz => hl z (by simp [hz]))
    have h1 : Lib.bytesOf (x :: l) = UInt8.ofNat x.toNat :: Lib.bytesOf l := rfl
    rw [h1, Lib.indexByte, e, ih]
    unfold idx
    rw [List.findIdx_cons, List.length_cons]
    by_cases hxc : (x == c) = true
    · rw [if_pos hxc, hxc]; simp
    · have hxc : (x == c) = false := by simpa using hxc
      rw [if_neg (by simp [hxc]), hxc, cond_false]
      generalize l.findIdx (· == c) = f
      by_cases h : f < l.length
      · have e1 : ((f : Int) == -1) = false := by simp
        rw [if_pos (show f + 1 < l.length + 1 by omega)]
        simp only [if_pos h]
        rw [e1]
        simp
      · rw [if_neg (show ¬ (f + 1 < l.length + 1) by omega)]
        simp only [if_neg h]
        rfl
theorem index_any (A : Option Addr) (c n : Nat) (l : List Int) (x : Int) (w : World) (h : Kd.C (Kd.int .u8) w A n l) (hb : Bys l) (hx : 0 ≤ x ∧ x < 256) :
    Calls Tryd.prog 37 #[.slice A n c, .int .u8 x] w fun e w' => e = .returned (.int .i64 (idx l x)) ∧ w = w' := by
  obtain rfl := h.1
  have key : (Extern.BytealgIndexByte.indexByte #[.slice A l.length c, .int .u8 x]).run Tryd.prog w = .ok (.int .i64 (idx l x)) w := by
    rcases A with _ | a
    · have h0 : l.length = 0 := by
        rcases Nat.eq_zero_or_pos l.length with h0 | h0
        · exact h0
        · obtain ⟨ad, e, _⟩ := h.2.2 h0
          cases e
      have hl := List.eq_nil_of_length_eq_zero h0
      subst hl
      exact Lib.run_indexByteNil w _ _ _
    · rw [Lib.run_indexByteAt w a l.length c l rfl ?_ x, idx_lib l x hb hx]
      intro i hi
      obtain ⟨ad, e, hc⟩ := Kd.at_int h (i : Int) (by omega) (by omega)
      cases e
      rw [Int.toNat_natCast] at hc
      rw [hc]
      rfl
  have K := Lib.hid key
  clear key h hb
  go_enter Tryd.func37, Tryd.ntmps37
  go_wp2
  rw [run_callFunc_extern Tryd.func48 (by kernel_rfl) (by kernel_rfl) (by kernel_rfl) (e := Extern.BytealgIndexByte.indexByte) (by kernel_rfl), K.out]
  simp only [Result.andThen]
  rw [Oper.upon_value]
  go_wp2
  go_ret
  exact ⟨rfl, rfl⟩
end Go.Proofs.YtkicpaodcmepmaaDoor.S
