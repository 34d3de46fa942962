/- The reference's parts and their comparison, as printed, in this seat's own words: what they come to. Conditions: as each lemma says. -/
import Derived.Test.YtecpmgbahknneaaPSegsx
import Derived.Test.YtecpmgbahknneaaPSameSegsx
import Derived.Test.YtecpmgbahknneaaLSeg
namespace Go.Proofs.Ytecpmgbahknneaa.L
open Go.RowKit Go.Proofs.YtecpmgbahknneaaW.PrintWords Go.Proofs.Ytecpmgbahknneaa.PSegs

def toS (s : Sg) : S35 := ⟨s.1, ⟨s.2.1, s.2.2⟩⟩

theorem reps_rowC (w : World) (S : List Sg) : Reps (k35.K w) 3 (S.map toS) (rowC S) := by
  induction S with
  | nil => exact Reps.none _ _
  | cons s S ih => exact Reps.c3 (k35_mk w (toS s)) ih
/-- An own row of parts, as the print reads it. -/
theorem own_C {w : World} {base n : Nat} {v : Value} {S : List Sg} (h : w.ownsRow base 35 3 v n (rowC S)) : ∃ A c, v = .slice A (S.map toS).length c ∧ (S.map toS).length ≤ c ∧ Kd.C k35 w A (S.map toS).length (S.map toS) := by
  have hn : n = S.length := by
    have := h.1
    rw [rowC_length] at this
    omega
  subst hn
  have hnc : ∃ A c, v = .slice A S.length c ∧ S.length ≤ c := by
    rcases h.2 with ⟨rfl, h0⟩ | ⟨g, cap, cur, rfl, _, _, hc, _⟩
    · exact ⟨none, 0, by rw [h0], by omega⟩
    · exact ⟨_, cap, rfl, hc⟩
  obtain ⟨A, c, rfl, hc⟩ := hnc
  obtain ⟨A', c', e, hr⟩ := own_reads_row h (reps_rowC w S) (by simp)
  injection e with e1 e2 e3
  subst e1
  refine ⟨A, c, by simp, by simpa using hc, ?_⟩
  rw [List.length_map]
  exact hr
def toQ (s : Sg) : PSameSegs.S35 := ⟨s.1, ⟨s.2.1, s.2.2⟩⟩
theorem C_conv {w : World} {A : Option Addr} {n : Nat} {S : List Sg} (h : Kd.C k35 w A n (S.map toS)) : Kd.C PSameSegs.k35 w A n (S.map toQ) := by
  refine ⟨by have := h.1; simpa using this, h.2.1, fun hn => ?_⟩
  obtain ⟨ad, e, hc⟩ := h.2.2 hn
  refine ⟨ad, e, fun j p hj => ?_⟩
  rw [List.getElem?_map, Option.map_eq_some_iff] at hj
  obtain ⟨s, hs, rfl⟩ := hj
  obtain ⟨c, hl, hk, hcell⟩ := hc j (toS s) (by rw [List.getElem?_map, hs]; rfl)
  obtain rfl := k35_open hk
  exact ⟨_, rfl, PSameSegs.k35_mk w (toQ s), hcell⟩
/-- Labels in a block, as the print reads them. -/
theorem cells_C {w : World} {k t : Nat} {L : List Int} (h : w.heap[k]? = some (.cells (cellsL L) t (0, 0))) (hl : L.length ≤ 9223372036854775807) : Kd.C (Kd.int .u8) w (some ⟨k, 0, none⟩) L.length L := by
  refine ⟨rfl, hl, fun _ => ⟨_, rfl, fun j p hj => ⟨[.int .u8 p], rfl, rfl, fun i u hu => ?_⟩⟩⟩
  have hi : i = 0 := by
    have := (List.getElem?_eq_some_iff.1 hu).1
    simpa using this
  subst hi
  have hp : Value.int .u8 p = u := by simpa using hu
  subst hp
  have e : (⟨k, 0, none⟩ : Addr).add (j * 1 + 0) = ⟨k, j, none⟩ := by
    unfold Addr.add
    by_cases h0 : j = 0
    · subst h0; rfl
    · simp [h0]
  have hz : (Kd.int IntKind.u8).sz = 1 := rfl
  rw [hz, e, blk_cell h, cellsL_get, hj]
  rfl

/-! ### the reference's Segs -/
theorem ref_segs_in (L : List Int) (hL : L.length ≤ 9223372036854775806) (hL2 : L.length < 5864062014805) : ∀ (d k fuel i : Nat) (T : List Sg), L.length - k = d → i < k → k ≤ L.length → 3 * d + 3 ≤ fuel →
    segsTo L k = T ++ [(L.getD i 0, (i : Int), (k : Int) - i)] → redpenref10_Segs.l1 fuel L (T.map toS) i k = some ((segsOf L).map toS) := by
  intro d
  induction d with
  | zero =>
    intro k fuel i T hd hik hk hf hs
    obtain ⟨f, rfl⟩ : ∃ m, fuel = m + 2 := ⟨fuel - 2, by omega⟩
    have hkl : k = L.length := by omega
    have hlen : (T.map toS).length < 5864062014805 := by
      have := (segsTo_ok L k).1
      rw [hs] at this
      simp at this ⊢
      omega
    simp only [redpenref10_Segs.l1, redpenref10_Segs.l0]
    rw [if_neg (by omega), if_pos (by omega), if_pos (by omega), if_pos hlen, if_neg (by omega)]
    have hw : wrap64 ((k : Int) - (i : Int)) = (k : Int) - i := by unfold wrap64; omega
    unfold segsOf
    rw [← hkl, hs, hw]
    simp [toS, rd]
  | succ d ih =>
    intro k fuel i T hd hik hk hf hs
    obtain ⟨f, rfl⟩ : ∃ m, fuel = m + 3 := ⟨fuel - 3, by omega⟩
    have hkl : k < L.length := by omega
    have hw : wrap64 ((k : Int) - (i : Int)) = (k : Int) - i := by unfold wrap64; omega
    have hw1 : wrap64 ((k : Int) + 1) = ((k + 1 : Nat) : Int) := by unfold wrap64; omega
    have hri : rd L (i : Int) = L.getD i 0 := by simp [rd]
    have hrk : rd L (k : Int) = L.getD k 0 := by simp [rd]
    have hstep : segsTo L (k + 1) = segsStep (segsTo L k) k (L.getD k 0) := rfl
    rw [hs, segsStep_snoc] at hstep
    have hlen : (T.map toS).length < 5864062014805 := by
      have := (segsTo_ok L k).1
      rw [hs] at this
      simp at this ⊢
      omega
    rw [redpenref10_Segs.l1, if_pos (by omega), if_pos (by omega), if_pos (by omega), if_pos (by omega), hri, hrk]
    by_cases he : L.getD k 0 = L.getD i 0
    · rw [if_pos he, hw1]
      refine ih (k + 1) _ i T (by omega) (by omega) (by omega) (by omega) ?_
      rw [hstep, if_pos he.symm, show (((k + 1 : Nat) : Int) - (i : Int)) = (k : Int) - i + 1 from by omega]
    · rw [if_neg he, if_pos hlen, redpenref10_Segs.l0, if_pos (by omega), redpenref10_Segs.l1, if_pos (by omega), if_pos (by omega), if_pos (by omega), if_pos (by omega), if_pos rfl, hw1]
      have e : (T.map toS ++ [(⟨L.getD i 0, ⟨(i : Int), wrap64 ((k : Int) - (i : Int))⟩⟩ : S35)]) = (T ++ [(L.getD i 0, (i : Int), (k : Int) - i)]).map toS := by simp [toS, hw]
      rw [e]
      refine ih (k + 1) f k _ (by omega) (by omega) (by omega) (by omega) ?_
      rw [hstep, if_neg (fun h => he h.symm), show (((k + 1 : Nat) : Int) - (k : Int)) = 1 from by omega]
theorem ref_segs (L : List Int) (hL : L.length < 5864062014805) : redpenref10_Segs.f (3 * L.length + 6) L = some ((segsOf L).map toS) := by
  unfold redpenref10_Segs.f
  rw [redpenref10_Segs.l0]
  rcases Nat.eq_zero_or_pos L.length with h0 | h0
  · rw [if_neg (by omega)]
    unfold segsOf
    rw [h0]
    rfl
  · rw [if_pos (by omega), redpenref10_Segs.l1, if_pos (by omega), if_pos (by omega), if_pos (by omega), if_pos (by omega), if_pos rfl]
    have hw1 : wrap64 (0 + 1) = ((1 : Nat) : Int) := by unfold wrap64; omega
    rw [hw1]
    refine ref_segs_in L (by omega) hL (L.length - 1) 1 _ 0 [] rfl (by omega) (by omega) (by omega) ?_
    rfl
/-! ### two lists of parts -/
theorem ref_same (S : List Sg) (hL : S.length ≤ 9223372036854775806) : ∀ (d i fuel : Nat), S.length - i = d → i ≤ S.length → d + 1 ≤ fuel → PSameSegs.redpenref10_SameSegs.l0 fuel (S.map toQ) (S.map toQ) i = some true := by
  intro d
  induction d with
  | zero =>
    intro i fuel hd hi hf
    obtain ⟨f, rfl⟩ : ∃ m, fuel = m + 1 := ⟨fuel - 1, by omega⟩
    rw [PSameSegs.redpenref10_SameSegs.l0, if_neg (by simp; omega)]
  | succ d ih =>
    intro i fuel hd hi hf
    obtain ⟨f, rfl⟩ : ∃ m, fuel = m + 1 := ⟨fuel - 1, by omega⟩
    have hw1 : wrap64 ((i : Int) + 1) = ((i + 1 : Nat) : Int) := by unfold wrap64; omega
    rw [PSameSegs.redpenref10_SameSegs.l0, if_pos (by simp; omega), if_pos (by omega), if_pos (by simp; omega), if_neg (by simp), hw1]
    exact ih (i + 1) f (by omega) (by omega) (by omega)
theorem ref_same_any (S : List Sg) (hL : S.length ≤ 9223372036854775806) : PSameSegs.redpenref10_SameSegs.f (S.length + 1) (S.map toQ) (S.map toQ) = some true := by
  unfold PSameSegs.redpenref10_SameSegs.f
  rw [if_pos rfl]
  exact ref_same S hL S.length 0 _ (by omega) (by omega) (by omega)
/-! ### the walks, in this seat's own words -/
theorem refSegs_any (k : Nat) (c : Nat) (L : List Int) (w : World) (h : w.heap[k]? = some (.cells (cellsL L) 27 (0, 0))) (hc : L.length ≤ c) (hl : L.length ≤ 1000000) :
    Calls Try.prog 18 #[.slice (some ⟨k, 0, none⟩) L.length c] w fun e w' => ∃ A cp, e = .returned (.slice A ((segsOf L).map toQ).length cp) ∧ ((segsOf L).map toQ).length ≤ cp ∧ Kd.C PSameSegs.k35 w' A ((segsOf L).map toQ).length ((segsOf L).map toQ) ∧ Below w.heap.size w w' := by
  refine (redpenref10_Segs.calls (3 * L.length + 6) (some ⟨k, 0, none⟩) c L _ w (cells_C h (by omega)) hc (ref_segs L (by omega))).mono ?_
  rintro e w' ⟨v, rfl, hr, hb⟩
  obtain ⟨A, cp, rfl, hle, hC⟩ := Kd.R_reads hr
  refine ⟨A, cp, by simp, by simpa using hle, ?_, hb⟩
  have := C_conv hC
  simpa using this
theorem own_Q {w : World} {base n : Nat} {v : Value} {S : List Sg} (h : w.ownsRow base 35 3 v n (rowC S)) : ∃ A c, v = .slice A (S.map toQ).length c ∧ (S.map toQ).length ≤ c ∧ Kd.C PSameSegs.k35 w A (S.map toQ).length (S.map toQ) := by
  obtain ⟨A, c, e, hc, hC⟩ := own_C h
  refine ⟨A, c, by simpa using e, by simpa using hc, ?_⟩
  have := C_conv hC
  simpa using this
theorem same_any (A1 A2 : Option Addr) (c1 c2 : Nat) (S : List Sg) (w : World) (hl : S.length ≤ 1000000) (h1 : Kd.C PSameSegs.k35 w A1 (S.map toQ).length (S.map toQ)) (h2 : Kd.C PSameSegs.k35 w A2 (S.map toQ).length (S.map toQ)) (hc1 : (S.map toQ).length ≤ c1) (hc2 : (S.map toQ).length ≤ c2) :
    Calls Try.prog 17 #[.slice A1 (S.map toQ).length c1, .slice A2 (S.map toQ).length c2] w fun e w' => e = .returned (.bool true) ∧ ∃ n, w' = w.drewN n :=
  (PSameSegs.redpenref10_SameSegs.calls (S.length + 1) A1 c1 _ A2 c2 _ true w h1 hc1 h2 hc2 (ref_same_any S (by omega))).mono fun _ _ h => ⟨h.1, h.2.out⟩
end Go.Proofs.Ytecpmgbahknneaa.L
