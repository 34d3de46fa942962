/- Several texts in one: HBits LRef. Conditions: as each lemma says. -/
import Derived.Test.YtcbibbdkjhkmoaaPMisc
import Derived.Test.YtcbibbdkjhkmoaaHScan
import Derived.Test.YtcbibbdkjhkmoaaLSeg
set_option linter.unusedVariables false
set_option linter.unusedSimpArgs false
namespace Go.Proofs.Ytcbibbdkjhkmoaa.H
open Go.RowKit Go.Proofs.YtcbibbdkjhkmoaaW.PrintWords Go.Proofs.Ytcbibbdkjhkmoaa.L Go.Proofs.Ytcbibbdkjhkmoaa.S Go.Proofs.Ytcbibbdkjhkmoaa.Htm

theorem wr (a : Int) (h0 : -1000000 ≤ a) (h : a ≤ 1000000) : wrap64 a = a := by unfold wrap64; omega
theorem wrn (p d : Nat) {n : Nat} (hn : n ≤ 100000) (hp : p ≤ n) (hd : d ≤ 10) : wrap64 ((p : Int) + (d : Int)) = ((p + d : Nat) : Int) := by
  rw [wr _ (by omega) (by omega), Int.natCast_add]
/-- What a number stands for. -/
def pc (P : List ByteArray) (raw : List Int) (a : Int) : List Int :=
  if a.toNat < P.length then bytesOf (P.getD a.toNat ByteArray.empty) else if 0 < raw.length then [raw.getD (a.toNat % raw.length) 0] else []
def btx (P : List ByteArray) (raw l : List Int) : List Int := (l.take 60).flatMap (pc P raw)
theorem rd_bys {l : List Int} (h : Bys l) (i : Nat) (hi : i < l.length) : 0 ≤ rd l (i : Int) ∧ rd l (i : Int) < 256 := by
  have e : rd l (i : Int) = l[i] := by
    unfold rd
    rw [Int.toNat_natCast, List.getD_eq_getElem?_getD, List.getElem?_eq_getElem hi]
    rfl
  rw [e]
  exact h _ (List.getElem_mem _)
theorem drop60 (l : List Int) (i : Nat) (hi : i < l.length) (h : i < 60) : (l.take 60).drop i = rd l (i : Int) :: (l.take 60).drop (i + 1) := by
  have hl : i < (l.take 60).length := by rw [List.length_take]; omega
  rw [List.drop_eq_getElem_cons hl]
  congr 1
  unfold rd
  rw [Int.toNat_natCast, List.getElem_take, List.getD_eq_getElem?_getD, List.getElem?_eq_getElem hi]
  rfl
theorem bits_l0 (P : List ByteArray) (l1 l2 : List Int) (hP : ∀ p ∈ P, p.size ≤ 60) (hPl : P.length ≤ 1000) (h1 : Bys l1) (h2 : Bys l2) (hl2 : l2.length ≤ 1000) (hl1 : l1.length ≤ 140737488351232) :
    ∀ (d i : Nat) (x : List Int), 60 - i ≤ d → i ≤ 60 → i ≤ l1.length → x.length ≤ 60 * i → 
    ∃ k, PBits.redpenlaw11_Bits.l0 k P l2 x l1 (l1.length : Int) i = some (x ++ ((l1.take 60).drop i).flatMap (pc P l2)) ∧ (x ++ ((l1.take 60).drop i).flatMap (pc P l2)).length ≤ 3600 := by
  have done : ∀ (i : Nat), (l1.length ≤ i ∨ 60 ≤ i) → ((l1.take 60).drop i).flatMap (pc P l2) = [] := by
    intro i h
    rw [List.drop_eq_nil_of_le (by rw [List.length_take]; omega)]
    rfl
  intro d
  induction d with
  | zero =>
    intro i x hd hi hil hx
    have e60 : i = 60 := by omega
    rw [done i (.inr (by omega)), List.append_nil]
    refine ⟨1, ?_, by omega⟩
    simp only [PBits.redpenlaw11_Bits.l0]
    by_cases c : i < l1.length
    · rw [if_pos (by omega), if_pos (by omega), if_pos (by omega), if_pos (by omega)]
    · rw [if_neg (by omega)]
  | succ d ih =>
    intro i x hd hi hil hx
    by_cases c : i < l1.length
    · by_cases c60 : i = 60
      · rw [done i (.inr (by omega)), List.append_nil]
        refine ⟨1, ?_, by omega⟩
        simp only [PBits.redpenlaw11_Bits.l0]
        rw [if_pos (by omega), if_pos (by omega), if_pos (by omega), if_pos (by omega)]
      · rw [drop60 l1 i c (by omega), List.flatMap_cons]
        have hr := rd_bys h1 i c
        have hw : wrap64 (rd l1 (i : Int)) = rd l1 (i : Int) := wr _ (by omega) (by omega)
        have hw1 : wrap64 ((i : Int) + 1) = ((i + 1 : Nat) : Int) := wrn i 1 (by omega : 60 ≤ 100000) hi (by decide)
        have g5 : 60 - (i + 1) ≤ d := by clear hw hw1; omega
        have g6 : i + 1 ≤ 60 := by clear hw hw1; omega
        have q1 : (i : Int) < (l1.length : Int) := by clear hw hw1; omega
        have q2 : (0 : Int) ≤ (i : Int) := by clear hw hw1; omega
        have q3 : ¬ ((i : Int) ≥ 60) := by clear hw hw1; omega
        generalize hrr : rd l1 (i : Int) = a at *
        obtain ⟨n, rfl⟩ : ∃ n : Nat, a = n := ⟨a.toNat, by clear hw hw1; omega⟩
        have hn : n < 256 := by clear hw hw1; omega
        have q4 : (0 : Int) ≤ (n : Int) := Int.natCast_nonneg n
        by_cases cp : n < P.length
        · have epc : pc P l2 (n : Int) = bytesOf (P.getD n ByteArray.empty) := by unfold pc; rw [Int.toNat_natCast, if_pos cp]
          have hmem : P.getD n ByteArray.empty ∈ P := by rw [List.getD_eq_getElem?_getD, List.getElem?_eq_getElem cp]; exact List.getElem_mem _
          have hs := hP _ hmem
          have hxl : (x ++ bytesOf (P.getD n ByteArray.empty)).length ≤ 60 * (i + 1) := by rw [List.length_append, bytesOf_length]; clear hw hw1; omega
          obtain ⟨k, hk, hr1⟩ := ih (i + 1) (x ++ bytesOf (P.getD n ByteArray.empty)) g5 g6 c hxl
          rw [epc, ← List.append_assoc]
          refine ⟨k + 1, ?_, hr1⟩
          simp only [PBits.redpenlaw11_Bits.l0]
          rw [if_pos q1, if_pos q2, if_pos q1, if_neg q3, hrr, hw, if_pos (Int.ofNat_lt.2 cp), if_pos q4]
          have e : rdOf ByteArray.empty P (n : Int) = P.getD n ByteArray.empty := rfl
          rw [e, if_pos (by clear hw hw1; omega), hw1]
          exact hk
        · by_cases cl : 0 < l2.length
          · have ht0 : 0 ≤ Int.tmod (n : Int) (l2.length : Int) := Int.tmod_nonneg _ q4
            have ht1 : Int.tmod (n : Int) (l2.length : Int) < (l2.length : Int) := Int.tmod_lt_of_pos _ (by omega)
            have htt : Int.tmod (n : Int) (l2.length : Int) = ((n % l2.length : Nat) : Int) := by rw [Int.tmod_eq_emod_of_nonneg q4]; rfl
            rw [htt] at ht0 ht1
            have epc : pc P l2 (n : Int) = [rd l2 ((n % l2.length : Nat) : Int)] := by
              unfold pc rd
              rw [Int.toNat_natCast, if_neg cp, if_pos cl, Int.toNat_natCast]
            obtain ⟨k, hk, hr1⟩ := ih (i + 1) (x ++ [rd l2 ((n % l2.length : Nat) : Int)]) g5 g6 c (by rw [List.length_append]; simp only [List.length_cons, List.length_nil]; clear hw hw1; omega)
            rw [epc, ← List.append_assoc]
            refine ⟨k + 1, ?_, hr1⟩
            simp only [PBits.redpenlaw11_Bits.l0]
            rw [if_pos q1, if_pos q2, if_pos q1, if_neg q3, hrr, hw, if_neg (fun h => cp (Int.ofNat_lt.1 h)), if_pos (Int.natCast_pos.2 cl), if_neg (by clear hw hw1; omega), htt, if_pos ht0, if_pos ht1, if_pos (by clear hw hw1; omega), hw1]
            exact hk
          · have epc : pc P l2 (n : Int) = [] := by
              unfold pc
              rw [Int.toNat_natCast, if_neg cp, if_neg cl]
            obtain ⟨k, hk, hr1⟩ := ih (i + 1) x g5 g6 c (by clear hw hw1; omega)
            rw [epc, List.nil_append]
            refine ⟨k + 1, ?_, hr1⟩
            simp only [PBits.redpenlaw11_Bits.l0]
            rw [if_pos q1, if_pos q2, if_pos q1, if_neg q3, hrr, hw, if_neg (fun h => cp (Int.ofNat_lt.1 h)), if_neg (fun h => cl (Int.natCast_pos.1 h)), hw1]
            exact hk
    · rw [done i (.inl (by omega)), List.append_nil]
      refine ⟨1, ?_, by omega⟩
      simp only [PBits.redpenlaw11_Bits.l0]
      rw [if_neg (by omega)]
theorem btx_bys (P : List ByteArray) (raw l : List Int) (h : Bys raw) : Bys (btx P raw l) := by
  intro y hy
  unfold btx at hy
  obtain ⟨a, _, ha⟩ := List.mem_flatMap.1 hy
  unfold pc at ha
  split at ha
  · exact Bys.of _ y ha
  split at ha
  · rename_i hr
    rw [List.mem_singleton] at ha
    subst ha
    have hlt := Nat.mod_lt a.toNat hr
    exact h _ (by rw [List.getD_eq_getElem?_getD, List.getElem?_eq_getElem hlt]; exact List.getElem_mem _)
  · cases ha
theorem bits_any (A0 : Option Addr) (c0 : Nat) (P : List ByteArray) (A1 : Option Addr) (c1 : Nat) (l1 : List Int) (A2 : Option Addr) (c2 : Nat) (l2 : List Int) (w : World) (hP : ∀ p ∈ P, p.size ≤ 60) (hPl : P.length ≤ 1000) (h1 : Bys l1) (h2 : Bys l2) (hl2 : l2.length ≤ 1000) (hl1 : l1.length ≤ 140737488351232)
    (hr0 : Kd.C Kd.string w A0 P.length P) (hc0 : P.length ≤ c0) (hr1 : Kd.C (Kd.int .u8) w A1 l1.length l1) (hc1 : l1.length ≤ c1) (hr2 : Kd.C (Kd.int .u8) w A2 l2.length l2) (hc2 : l2.length ≤ c2) :
    Calls Try.prog 10 #[.slice A0 P.length c0, .slice A1 l1.length c1, .slice A2 l2.length c2] w fun e w' => ∃ (A : Option Addr) (c : Nat), e = .returned (.slice A (btx P l2 l1).length c) ∧ (btx P l2 l1).length ≤ 3600 ∧ (btx P l2 l1).length ≤ c ∧ Kd.C (Kd.int .u8) w' A (btx P l2 l1).length (btx P l2 l1) ∧ Below w.heap.size w w' := by
  obtain ⟨k, hk, hrl⟩ := bits_l0 P l1 l2 hP hPl h1 h2 hl2 hl1 60 0 [] (by omega) (by omega) (by omega) (by simp)
  rw [List.drop_zero, List.nil_append] at hk hrl
  refine (PBits.redpenlaw11_Bits.calls k A0 c0 P A1 c1 l1 A2 c2 l2 _ w hr0 hc0 hr1 hc1 hr2 hc2 hk).mono ?_
  rintro e w' ⟨v, rfl, hr, hb⟩
  obtain ⟨A, cp, rfl, hle, hC⟩ := Kd.R_reads hr
  exact ⟨A, cp, rfl, hrl, hle, hC, hb⟩
end Go.Proofs.Ytcbibbdkjhkmoaa.H

namespace Go.Proofs.Ytcbibbdkjhkmoaa.L
open Go.RowKit Go.Proofs.YtcbibbdkjhkmoaaW.PrintWords Go.Proofs.Ytcbibbdkjhkmoaa.PSegs

def toS (s : Sg) : S66 := ⟨s.1, ⟨s.2.1, s.2.2⟩⟩

theorem reps_rowC (w : World) (S : List Sg) : Reps (k66.K w) 3 (S.map toS) (rowC S) := by
  induction S with
  | nil => exact Reps.none _ _
  | cons s S ih => exact Reps.c3 (k66_mk w (toS s)) ih
/-- An own row of parts, as the print reads it. -/
theorem own_C {w : World} {base n : Nat} {v : Value} {S : List Sg} (h : w.ownsRow base 66 3 v n (rowC S)) : ∃ A c, v = .slice A (S.map toS).length c ∧ (S.map toS).length ≤ c ∧ Kd.C k66 w A (S.map toS).length (S.map toS) := by
  have hn : n = S.length := by
    have := h.1
    rw [rowC_length] at this
    omega
  subst hn
  have hnc : ∃ A c, v = .slice A S.length c ∧ S.length ≤ c := by
    rcases h.2 with ⟨rfl, h0⟩ | ⟨g, cap, cur, rfl, _, _, hc, _⟩
    · exact ⟨none, 0, by rw [h0], by omega⟩
    · exact ⟨_, cap, rfl, hc⟩
  obtain ⟨A, c, rfl, hc⟩ := hnc
  obtain ⟨A', c', e, hr⟩ := own_reads_row h (reps_rowC w S) (by simp)
  injection e with e1 e2 e3
  subst e1
  refine ⟨A, c, by simp, by simpa using hc, ?_⟩
  rw [List.length_map]
  exact hr
def toQ (s : Sg) : PSameSegs.S66 := ⟨s.1, ⟨s.2.1, s.2.2⟩⟩
theorem C_conv {w : World} {A : Option Addr} {n : Nat} {S : List Sg} (h : Kd.C k66 w A n (S.map toS)) : Kd.C PSameSegs.k66 w A n (S.map toQ) := by
  refine ⟨by have := h.1; simpa using this, h.2.1, fun hn => ?_⟩
  obtain ⟨ad, e, hc⟩ := h.2.2 hn
  refine ⟨ad, e, fun j p hj => ?_⟩
  rw [List.getElem?_map, Option.map_eq_some_iff] at hj
  obtain ⟨s, hs, rfl⟩ := hj
  obtain ⟨c, hl, hk, hcell⟩ := hc j (toS s) (by rw [List.getElem?_map, hs]; rfl)
  obtain rfl := k66_open hk
  exact ⟨_, rfl, PSameSegs.k66_mk w (toQ s), hcell⟩
/-- Labels in a block, as the print reads them. -/
theorem cells_C {w : World} {k t : Nat} {L : List Int} (h : w.heap[k]? = some (.cells (cellsL L) t (0, 0))) (hl : L.length ≤ 9223372036854775807) : Kd.C (Kd.int .u8) w (some ⟨k, 0, none⟩) L.length L := by
  refine ⟨rfl, hl, fun _ => ⟨_, rfl, fun j p hj => ⟨[.int .u8 p], rfl, rfl, fun i u hu => ?_⟩⟩⟩
  have hi : i = 0 := by
    have := (List.getElem?_eq_some_iff.1 hu).1
    simpa using this
  subst hi
  have hp : Value.int .u8 p = u := by simpa using hu
  subst hp
  have e : (⟨k, 0, none⟩ : Addr).add (j * 1 + 0) = ⟨k, j, none⟩ := by
    unfold Addr.add
    by_cases h0 : j = 0
    · subst h0; rfl
    · simp [h0]
  have hz : (Kd.int IntKind.u8).sz = 1 := rfl
  rw [hz, e, blk_cell h, cellsL_get, hj]
  rfl

/-! ### the reference's Segs -/
theorem ref_segs_in (L : List Int) (hL : L.length ≤ 9223372036854775806) (hL2 : L.length < 5864062014805) : ∀ (d k fuel i : Nat) (T : List Sg), L.length - k = d → i < k → k ≤ L.length → 3 * d + 3 ≤ fuel →
    segsTo L k = T ++ [(L.getD i 0, (i : Int), (k : Int) - i)] → redpenref10_Segs.l1 fuel L (T.map toS) i k = some ((segsOf L).map toS) := by
  intro d
  induction d with
  | zero =>
    intro k fuel i T hd hik hk hf hs
    obtain ⟨f, rfl⟩ : ∃ m, fuel = m + 2 := ⟨fuel - 2, by omega⟩
    have hkl : k = L.length := by omega
    have hlen : (T.map toS).length < 5864062014805 := by
      have := (segsTo_ok L k).1
      rw [hs] at this
      simp at this ⊢
      omega
    simp only [redpenref10_Segs.l1, redpenref10_Segs.l0]
    rw [if_neg (by omega), if_pos (by omega), if_pos (by omega), if_pos hlen, if_neg (by omega)]
    have hw : wrap64 ((k : Int) - (i : Int)) = (k : Int) - i := by unfold wrap64; omega
    unfold segsOf
    rw [← hkl, hs, hw]
    simp [toS, rd]
  | succ d ih =>
    intro k fuel i T hd hik hk hf hs
    obtain ⟨f, rfl⟩ : ∃ m, fuel = m + 3 := ⟨fuel - 3, by omega⟩
    have hkl : k < L.length := by omega
    have hw : wrap64 ((k : Int) - (i : Int)) = (k : Int) - i := by unfold wrap64; omega
    have hw1 : wrap64 ((k : Int) + 1) = ((k + 1 : Nat) : Int) := by unfold wrap64; omega
    have hri : rd L (i : Int) = L.getD i 0 := by simp [rd]
    have hrk : rd L (k : Int) = L.getD k 0 := by simp [rd]
    have hstep : segsTo L (k + 1) = segsStep (segsTo L k) k (L.getD k 0) := rfl
    rw [hs, segsStep_snoc] at hstep
    have hlen : (T.map toS).length < 5864062014805 := by
      have := (segsTo_ok L k).1
      rw [hs] at this
      simp at this ⊢
      omega
    rw [redpenref10_Segs.l1, if_pos (by omega), if_pos (by omega), if_pos (by omega), if_pos (by omega), hri, hrk]
    by_cases he : L.getD k 0 = L.getD i 0
    · rw [if_pos he, hw1]
      refine ih (k + 1) _ i T (by omega) (by omega) (by omega) (by omega) ?_
      rw [hstep, if_pos he.symm, show (((k + 1 : Nat) : Int) - (i : Int)) = (k : Int) - i + 1 from by omega]
    · rw [if_neg he, if_pos hlen, redpenref10_Segs.l0, if_pos (by omega), redpenref10_Segs.l1, if_pos (by omega), if_pos (by omega), if_pos (by omega), if_pos (by omega), if_pos rfl, hw1]
      have e : (T.map toS ++ [(⟨L.getD i 0, ⟨(i : Int), wrap64 ((k : Int) - (i : Int))⟩⟩ : S66)]) = (T ++ [(L.getD i 0, (i : Int), (k : Int) - i)]).map toS := by simp [toS, hw]
      rw [e]
      refine ih (k + 1) f k _ (by omega) (by omega) (by omega) (by omega) ?_
      rw [hstep, if_neg (fun h => he h.symm), show (((k + 1 : Nat) : Int) - (k : Int)) = 1 from by omega]
theorem ref_segs (L : List Int) (hL : L.length < 5864062014805) : redpenref10_Segs.f (3 * L.length + 6) L = some ((segsOf L).map toS) := by
  unfold redpenref10_Segs.f
  rw [redpenref10_Segs.l0]
  rcases Nat.eq_zero_or_pos L.length with h0 | h0
  · rw [if_neg (by omega)]
    unfold segsOf
    rw [h0]
    rfl
  · rw [if_pos (by omega), redpenref10_Segs.l1, if_pos (by omega), if_pos (by omega), if_pos (by omega), if_pos (by omega), if_pos rfl]
    have hw1 : wrap64 (0 + 1) = ((1 : Nat) : Int) := by unfold wrap64; omega
    rw [hw1]
    refine ref_segs_in L (by omega) hL (L.length - 1) 1 _ 0 [] rfl (by omega) (by omega) (by omega) ?_
    rfl
/-! ### two lists of parts -/
theorem ref_same (S : List Sg) (hL : S.length ≤ 9223372036854775806) : ∀ (d i fuel : Nat), S.length - i = d → i ≤ S.length → d + 1 ≤ fuel → PSameSegs.redpenref10_SameSegs.l0 fuel (S.map toQ) (S.map toQ) i = some true := by
  intro d
  induction d with
  | zero =>
    intro i fuel hd hi hf
    obtain ⟨f, rfl⟩ : ∃ m, fuel = m + 1 := ⟨fuel - 1, by omega⟩
    rw [PSameSegs.redpenref10_SameSegs.l0, if_neg (by simp; omega)]
  | succ d ih =>
    intro i fuel hd hi hf
    obtain ⟨f, rfl⟩ : ∃ m, fuel = m + 1 := ⟨fuel - 1, by omega⟩
    have hw1 : wrap64 ((i : Int) + 1) = ((i + 1 : Nat) : Int) := by unfold wrap64; omega
    rw [PSameSegs.redpenref10_SameSegs.l0, if_pos (by simp; omega), if_pos (by omega), if_pos (by simp; omega), if_neg (by simp), hw1]
    exact ih (i + 1) f (by omega) (by omega) (by omega)
theorem ref_same_any (S : List Sg) (hL : S.length ≤ 9223372036854775806) : PSameSegs.redpenref10_SameSegs.f (S.length + 1) (S.map toQ) (S.map toQ) = some true := by
  unfold PSameSegs.redpenref10_SameSegs.f
  rw [if_pos rfl]
  exact ref_same S hL S.length 0 _ (by omega) (by omega) (by omega)
/-! ### the walks, in this seat's own words -/
theorem refSegs_any (k : Nat) (c : Nat) (L : List Int) (w : World) (h : w.heap[k]? = some (.cells (cellsL L) 57 (0, 0))) (hc : L.length ≤ c) (hl : L.length ≤ 1000000) :
    Calls Try.prog 15 #[.slice (some ⟨k, 0, none⟩) L.length c] w fun e w' => ∃ A cp, e = .returned (.slice A ((segsOf L).map toQ).length cp) ∧ ((segsOf L).map toQ).length ≤ cp ∧ Kd.C PSameSegs.k66 w' A ((segsOf L).map toQ).length ((segsOf L).map toQ) ∧ Below w.heap.size w w' := by
  refine (redpenref10_Segs.calls (3 * L.length + 6) (some ⟨k, 0, none⟩) c L _ w (cells_C h (by omega)) hc (ref_segs L (by omega))).mono ?_
  rintro e w' ⟨v, rfl, hr, hb⟩
  obtain ⟨A, cp, rfl, hle, hC⟩ := Kd.R_reads hr
  refine ⟨A, cp, by simp, by simpa using hle, ?_, hb⟩
  have := C_conv hC
  simpa using this
theorem own_Q {w : World} {base n : Nat} {v : Value} {S : List Sg} (h : w.ownsRow base 66 3 v n (rowC S)) : ∃ A c, v = .slice A (S.map toQ).length c ∧ (S.map toQ).length ≤ c ∧ Kd.C PSameSegs.k66 w A (S.map toQ).length (S.map toQ) := by
  obtain ⟨A, c, e, hc, hC⟩ := own_C h
  refine ⟨A, c, by simpa using e, by simpa using hc, ?_⟩
  have := C_conv hC
  simpa using this
theorem same_any (A1 A2 : Option Addr) (c1 c2 : Nat) (S : List Sg) (w : World) (hl : S.length ≤ 1000000) (h1 : Kd.C PSameSegs.k66 w A1 (S.map toQ).length (S.map toQ)) (h2 : Kd.C PSameSegs.k66 w A2 (S.map toQ).length (S.map toQ)) (hc1 : (S.map toQ).length ≤ c1) (hc2 : (S.map toQ).length ≤ c2) :
    Calls Try.prog 13 #[.slice A1 (S.map toQ).length c1, .slice A2 (S.map toQ).length c2] w fun e w' => e = .returned (.bool true) ∧ ∃ n, w' = w.drewN n :=
  (PSameSegs.redpenref10_SameSegs.calls (S.length + 1) A1 c1 _ A2 c2 _ true w h1 hc1 h2 hc2 (ref_same_any S (by omega))).mono fun _ _ h => ⟨h.1, h.2.out⟩
end Go.Proofs.Ytcbibbdkjhkmoaa.L
