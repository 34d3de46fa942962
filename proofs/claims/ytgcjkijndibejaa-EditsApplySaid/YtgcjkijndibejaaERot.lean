/- slices' stable sort at edits: rotate. Conditions: as each lemma says. -/
import Derived.Test.YtgcjkijndibejaaESw
set_option linter.unusedVariables false
set_option linter.unusedSimpArgs false
namespace Go.Proofs.Ytgcjkijndibejaa.Srt
open Go.Shelf Go.RowKit Go.Lib Go.Sort
variable {P : Program} {α : Type} [Inhabited α]

def rotL (m : Nat) : Nat → Nat → Nat → Array α → Array α
  | 0, i, _, d => swpN d (m - i) m i
  | f + 1, i, j, d => if i = j then swpN d (m - i) m i else if j < i then rotL m f (i - j) j (swpN d (m - i) m j) else rotL m f i (j - i) (swpN d (m - i) (m + j - i) i)
theorem size_rotL (m : Nat) : ∀ (f i j : Nat) (d : Array α), (rotL m f i j d).size = d.size := by
  intro f
  induction f with
  | zero => intro i j d; exact size_swpN _ _ _ _
  | succ f ih =>
    intro i j d
    unfold rotL
    split
    · exact size_swpN _ _ _ _
    · split
      · rw [ih, size_swpN]
      · rw [ih, size_swpN]
theorem rotL_eq (m f i : Nat) (d : Array α) : rotL m f i i d = swpN d (m - i) m i := by
  cases f with
  | zero => rfl
  | succ f => unfold rotL; rw [if_pos rfl]
set_option maxHeartbeats 4000000 in
set_option maxRecDepth 1000000 in
theorem rotate_any (k : Nat) (L : Sb P k) (enc : α → List Value) (cb : Value) (blk off cap a m b : Nat) (d0 d : Array α) (w0 w : World)
    (R : RowK enc k w0 blk off d0) (hs : d.size = d0.size) (S : SWK enc k w0 blk off d w) (ha : a < m) (hm : m < b) (hb : b ≤ d0.size) (hsz : d0.size < 4611686018427387904) :
    Calls P 31 #[.slice (some ⟨blk, off, none⟩) d0.size cap, .int .i64 a, .int .i64 m, .int .i64 b, cb] w fun e w' =>
      e = .returned (.tuple #[]) ∧ SWK enc k w0 blk off (rotL m (b - a) (m - a) (b - m) d) w' := by
  have mixed := L.mixed; have t0 := L.t0; have a0 := L.a0; have z0 := L.z0; have v0 := L.v0; have t3 := L.t3; have a3 := L.a3; have z3 := L.z3; have v3 := L.v3; have t4 := L.t4; have a4 := L.a4; have z4 := L.z4; have v4 := L.v4; have t23 := L.t23; have a23 := L.a23; have z23 := L.z23; have v23 := L.v23; have t55 := L.t55; have a55 := L.a55; have z55 := L.z55; have v55 := L.v55; have aE := L.aE; have zE := L.zE
  have e32 : ∀ args w, (callFunc 32 args).run P w = .ok (.enter 32 args) w := enters_of L.f32 (by kernel_rfl) rfl
  have S0 : Aside _ := S
  clear S
  obtain ⟨i0, hi0⟩ : ∃ i0 : Nat, (m : Int) - (a : Int) = (i0 : Int) := ⟨m - a, by omega⟩
  obtain ⟨j0, hj0⟩ : ∃ j0 : Nat, (b : Int) - (m : Int) = (j0 : Int) := ⟨b - m, by omega⟩
  have ri0 : IntKind.i64.wrap ((m : Int) - (a : Int)) = (i0 : Int) := by rw [IntKind.wrap_i64]; omega
  have rj0 : IntKind.i64.wrap ((b : Int) - (m : Int)) = (j0 : Int) := by rw [IntKind.wrap_i64]; omega
  have e1 : m - a = i0 := by omega
  have e2 : b - m = j0 := by omega
  rw [e1, e2]
  have HI : Hid (1 ≤ i0 ∧ 1 ≤ j0 ∧ i0 ≤ m ∧ m + j0 ≤ d0.size ∧ i0 + j0 = b - a) := by show _ ∧ _; omega
  clear hi0 hj0 e1 e2
  have F31 := L.f31
  go_enter F31, Try.ntmps31
  go_wp2
  go_loopg [10, 11] (b - a) (fun g1 vi vj wr => ∃ (i j : Nat) (dk : Array α), vi = .int .i64 i ∧ vj = .int .i64 j ∧ i ≤ m ∧ m + j ≤ d0.size ∧ 1 ≤ i ∧ 1 ≤ j ∧ dk.size = d0.size ∧ i + j ≤ g1 ∧ Aside (SWK enc k w0 blk off dk wr) ∧ Hid (rotL m g1 i j dk = rotL m (b - a) i0 j0 d))
  case atStart => exact ⟨i0, j0, d, rfl, rfl, HI.out.2.2.1, HI.out.2.2.2.1, HI.out.1, HI.out.2.1, hs, by have := HI.out.2.2.2.2; omega, S0, rfl⟩
  case round =>
    clear S0 ri0 rj0
    obtain ⟨i, j, dk, rfl, rfl, hi, hj, hi1, hj1, hsk, hg, S1, HO⟩ := hrel
    obtain ⟨x, hx⟩ : ∃ x : Nat, (m : Int) - (i : Int) = (x : Int) := ⟨m - i, by omega⟩
    have rx : IntKind.i64.wrap ((m : Int) - (i : Int)) = (x : Int) := by rw [IntKind.wrap_i64]; omega
    have hxm : m - i = x := by omega
    by_cases heq : i = j
    · subst heq
      have hb0 : ((i : Int) != (i : Int)) = false := by simp
      go_wp2_with fail
      refine (swapRange_any k L enc cb blk off cap x m i d0 dk w0 _ R hsk S1.out (by omega) (by omega) hsz).mono ?_
      rintro e w' ⟨rfl, hS⟩
      have S2 : Aside _ := hS
      clear hS S1
      go_wp2
      go_end0
      refine ⟨rfl, ?_⟩
      rw [← HO.out, rotL_eq, hxm]
      exact S2.out
    · have hb1 : ((i : Int) != (j : Int)) = true := by rw [bne_iff_ne]; omega
      obtain ⟨g, rfl⟩ : ∃ g, gk = g + 1 := ⟨gk - 1, by omega⟩
      by_cases hij : j < i
      · have hd : decide ((j : Int) < (i : Int)) = true := by simp; omega
        obtain ⟨y, hy⟩ : ∃ y : Nat, (i : Int) - (j : Int) = (y : Int) := ⟨i - j, by omega⟩
        have ry : IntKind.i64.wrap ((i : Int) - (j : Int)) = (y : Int) := by rw [IntKind.wrap_i64]; omega
        have HE : Hid (rotL m g y j (swpN dk x m j) = rotL m (b - a) i0 j0 d) := by
          show _ = _
          rw [← HO.out]
          conv => rhs; unfold rotL
          rw [if_neg heq, if_pos hij, hxm, show i - j = y by omega]
        clear HO
        go_wp2_with fail
        refine (swapRange_any k L enc cb blk off cap x m j d0 dk w0 _ R hsk S1.out (by omega) (by omega) hsz).mono ?_
        rintro e w' ⟨rfl, hS⟩
        have S2 : Aside _ := hS
        clear hS S1
        go_wp2
        go_roundg g
        case measure => omega
        case rel => exact ⟨y, j, swpN dk x m j, rfl, rfl, by omega, hj, by omega, hj1, by rw [size_swpN]; exact hsk, by omega, S2, HE⟩
      · have hd : decide ((j : Int) < (i : Int)) = false := by simp; omega
        obtain ⟨y, hy⟩ : ∃ y : Nat, (j : Int) - (i : Int) = (y : Int) := ⟨j - i, by omega⟩
        have ry : IntKind.i64.wrap ((j : Int) - (i : Int)) = (y : Int) := by rw [IntKind.wrap_i64]; omega
        obtain ⟨u, hu⟩ : ∃ u : Nat, (m : Int) + (j : Int) = (u : Int) := ⟨m + j, by omega⟩
        have ru : IntKind.i64.wrap ((m : Int) + (j : Int)) = (u : Int) := by rw [IntKind.wrap_i64]; omega
        obtain ⟨z, hz⟩ : ∃ z : Nat, (u : Int) - (i : Int) = (z : Int) := ⟨u - i, by omega⟩
        have rz : IntKind.i64.wrap ((u : Int) - (i : Int)) = (z : Int) := by rw [IntKind.wrap_i64]; omega
        have HE : Hid (rotL m g i y (swpN dk x z i) = rotL m (b - a) i0 j0 d) := by
          show _ = _
          rw [← HO.out]
          conv => rhs; unfold rotL
          rw [if_neg heq, if_neg hij, hxm, show m + j - i = z by omega, show j - i = y by omega]
        clear HO
        go_wp2_with fail
        refine (swapRange_any k L enc cb blk off cap x z i d0 dk w0 _ R hsk S1.out (by omega) (by omega) hsz).mono ?_
        rintro e w' ⟨rfl, hS⟩
        have S2 : Aside _ := hS
        clear hS S1
        go_wp2
        go_roundg g
        case measure => omega
        case rel => exact ⟨i, y, swpN dk x z i, rfl, rfl, hi, by omega, hi1, by omega, by rw [size_swpN]; exact hsk, by omega, S2, HE⟩
end Go.Proofs.Ytgcjkijndibejaa.Srt
