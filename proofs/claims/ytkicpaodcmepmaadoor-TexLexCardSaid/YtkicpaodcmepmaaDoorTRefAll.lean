/- Several texts in one: TBits LRef TRefA TRefN TRefT TRefS TRefV TRefG TRefD TRefE. Conditions: as each lemma says. -/
import Derived.Test.YtkicpaodcmepmaaDoorPMisc
import Derived.Test.YtkicpaodcmepmaaDoorTAw
import Derived.Test.YtkicpaodcmepmaaDoorLSeg
import Derived.Test.YtkicpaodcmepmaaDoorTexFnd
import Derived.Test.YtkicpaodcmepmaaDoorPTexM
import Derived.Test.YtkicpaodcmepmaaDoorTexMthL
import Derived.Test.YtkicpaodcmepmaaDoorTexVrbL
set_option linter.unusedVariables false
set_option linter.unusedSimpArgs false
namespace Go.Proofs.YtkicpaodcmepmaaDoor.T
open Go.RowKit Go.Proofs.YtkicpaodcmepmaaDoorW.PrintWords Go.Proofs.YtkicpaodcmepmaaDoorW.PrintMore Go.Proofs.YtkicpaodcmepmaaDoor.L Go.Proofs.YtkicpaodcmepmaaDoor.S Go.Proofs.YtkicpaodcmepmaaDoor.Tex

theorem wr (a : Int) (h0 : -1000000 ≤ a) (h : a ≤ 1000000) : wrap64 a = a := by unfold wrap64; omega
theorem wrn (p d : Nat) {n : Nat} (hn : n ≤ 100000) (hp : p ≤ n) (hd : d ≤ 10) : wrap64 ((p : Int) + (d : Int)) = ((p + d : Nat) : Int) := by
  rw [wr _ (by omega) (by omega), Int.natCast_add]
/-- What a number stands for. -/
def pc (P : List ByteArray) (raw : List Int) (a : Int) : List Int :=
  if a.toNat < P.length then bytesOf (P.getD a.toNat ByteArray.empty) else if 0 < raw.length then [raw.getD (a.toNat % raw.length) 0] else []
def btx (P : List ByteArray) (raw l : List Int) : List Int := (l.take 60).flatMap (pc P raw)
theorem rd_bys {l : List Int} (h : Bys l) (i : Nat) (hi : i < l.length) : 0 ≤ rd l (i : Int) ∧ rd l (i : Int) < 256 := by
  have e : rd l (i : Int) = l[i] := by
    unfold rd
    rw [Int.toNat_natCast, List.getD_eq_getElem?_getD, List.getElem?_eq_getElem hi]
    rfl
  rw [e]
  exact h _ (List.getElem_mem _)
theorem drop60 (l : List Int) (i : Nat) (hi : i < l.length) (h : i < 60) : (l.take 60).drop i = rd l (i : Int) :: (l.take 60).drop (i + 1) := by
  have hl : i < (l.take 60).length := by rw [List.length_take]; omega
  rw [List.drop_eq_getElem_cons hl]
  congr 1
  unfold rd
  rw [Int.toNat_natCast, List.getElem_take, List.getD_eq_getElem?_getD, List.getElem?_eq_getElem hi]
  rfl
theorem bits_l0 (P : List ByteArray) (l1 l2 : List Int) (hP : ∀ p ∈ P, p.size ≤ 60) (hPl : P.length ≤ 1000) (h1 : Bys l1) (h2 : Bys l2) (hl2 : l2.length ≤ 1000) (hl1 : l1.length ≤ 140737488351232) :
    ∀ (d i : Nat) (x : List Int), 60 - i ≤ d → i ≤ 60 → i ≤ l1.length → x.length ≤ 60 * i → 
    ∃ k, PBits.redpenlaw11_Bits.l0 k P l2 x l1 (l1.length : Int) i = some (x ++ ((l1.take 60).drop i).flatMap (pc P l2)) ∧ (x ++ ((l1.take 60).drop i).flatMap (pc P l2)).length ≤ 3600 := by
  have done : ∀ (i : Nat), (l1.length ≤ i ∨ 60 ≤ i) → ((l1.take 60).drop i).flatMap (pc P l2) = [] := by
    intro i h
    rw [List.drop_eq_nil_of_le (by rw [List.length_take]; omega)]
    rfl
  intro d
  induction d with
  | zero =>
    intro i x hd hi hil hx
    have e60 : i = 60 := by omega
    rw [done i (.inr (by omega)), List.append_nil]
    refine ⟨1, ?_, by omega⟩
    simp only [PBits.redpenlaw11_Bits.l0]
    by_cases c : i < l1.length
    · rw [if_pos (by omega), if_pos (by omega), if_pos (by omega), if_pos (by omega)]
    · rw [if_neg (by omega)]
  | succ d ih =>
    intro i x hd hi hil hx
    by_cases c : i < l1.length
    · by_cases c60 : i = 60
      · rw [done i (.inr (by omega)), List.append_nil]
        refine ⟨1, ?_, by omega⟩
        simp only [PBits.redpenlaw11_Bits.l0]
        rw [if_pos (by omega), if_pos (by omega), if_pos (by omega), if_pos (by omega)]
      · rw [drop60 l1 i c (by omega), List.flatMap_cons]
        have hr := rd_bys h1 i c
        have hw : wrap64 (rd l1 (i : Int)) = rd l1 (i : Int) := wr _ (by omega) (by omega)
        have hw1 : wrap64 ((i : Int) + 1) = ((i + 1 : Nat) : Int) := wrn i 1 (by omega : 60 ≤ 100000) hi (by decide)
        have g5 : 60 - (i + 1) ≤ d := by clear hw hw1; omega
        have g6 : i + 1 ≤ 60 := by clear hw hw1; omega
        have q1 : (i : Int) < (l1.length : Int) := by clear hw hw1; omega
        have q2 : (0 : Int) ≤ (i : Int) := by clear hw hw1; omega
        have q3 : ¬ ((i : Int) ≥ 60) := by clear hw hw1; omega
        generalize hrr : rd l1 (i : Int) = a at *
        obtain ⟨n, rfl⟩ : ∃ n : Nat, a = n := ⟨a.toNat, by clear hw hw1; omega⟩
        have hn : n < 256 := by clear hw hw1; omega
        have q4 : (0 : Int) ≤ (n : Int) := Int.natCast_nonneg n
        by_cases cp : n < P.length
        · have epc : pc P l2 (n : Int) = bytesOf (P.getD n ByteArray.empty) := by unfold pc; rw [Int.toNat_natCast, if_pos cp]
          have hmem : P.getD n ByteArray.empty ∈ P := by rw [List.getD_eq_getElem?_getD, List.getElem?_eq_getElem cp]; exact List.getElem_mem _
          have hs := hP _ hmem
          have hxl : (x ++ bytesOf (P.getD n ByteArray.empty)).length ≤ 60 * (i + 1) := by rw [List.length_append, bytesOf_length]; clear hw hw1; omega
          obtain ⟨k, hk, hr1⟩ := ih (i + 1) (x ++ bytesOf (P.getD n ByteArray.empty)) g5 g6 c hxl
          rw [epc, ← List.append_assoc]
          refine ⟨k + 1, ?_, hr1⟩
          simp only [PBits.redpenlaw11_Bits.l0]
          rw [if_pos q1, if_pos q2, if_pos q1, if_neg q3, hrr, hw, if_pos (Int.ofNat_lt.2 cp), if_pos q4]
          have e : rdOf ByteArray.empty P (n : Int) = P.getD n ByteArray.empty := rfl
          rw [e, if_pos (by clear hw hw1; omega), hw1]
          exact hk
        · by_cases cl : 0 < l2.length
          · have ht0 : 0 ≤ Int.tmod (n : Int) (l2.length : Int) := Int.tmod_nonneg _ q4
            have ht1 : Int.tmod (n : Int) (l2.length : Int) < (l2.length : Int) := Int.tmod_lt_of_pos _ (by omega)
            have htt : Int.tmod (n : Int) (l2.length : Int) = ((n % l2.length : Nat) : Int) := by rw [Int.tmod_eq_emod_of_nonneg q4]; rfl
            rw [htt] at ht0 ht1
            have epc : pc P l2 (n : Int) = [rd l2 ((n % l2.length : Nat) : Int)] := by
              unfold pc rd
              rw [Int.toNat_natCast, if_neg cp, if_pos cl, Int.toNat_natCast]
            obtain ⟨k, hk, hr1⟩ := ih (i + 1) (x ++ [rd l2 ((n % l2.length : Nat) : Int)]) g5 g6 c (by rw [List.length_append]; simp only [List.length_cons, List.length_nil]; clear hw hw1; omega)
            rw [epc, ← List.append_assoc]
            refine ⟨k + 1, ?_, hr1⟩
            simp only [PBits.redpenlaw11_Bits.l0]
            rw [if_pos q1, if_pos q2, if_pos q1, if_neg q3, hrr, hw, if_neg (fun h => cp (Int.ofNat_lt.1 h)), if_pos (Int.natCast_pos.2 cl), if_neg (by clear hw hw1; omega), htt, if_pos ht0, if_pos ht1, if_pos (by clear hw hw1; omega), hw1]
            exact hk
          · have epc : pc P l2 (n : Int) = [] := by
              unfold pc
              rw [Int.toNat_natCast, if_neg cp, if_neg cl]
            obtain ⟨k, hk, hr1⟩ := ih (i + 1) x g5 g6 c (by clear hw hw1; omega)
            rw [epc, List.nil_append]
            refine ⟨k + 1, ?_, hr1⟩
            simp only [PBits.redpenlaw11_Bits.l0]
            rw [if_pos q1, if_pos q2, if_pos q1, if_neg q3, hrr, hw, if_neg (fun h => cp (Int.ofNat_lt.1 h)), if_neg (fun h => cl (Int.natCast_pos.1 h)), hw1]
            exact hk
    · rw [done i (.inl (by omega)), List.append_nil]
      refine ⟨1, ?_, by omega⟩
      simp only [PBits.redpenlaw11_Bits.l0]
      rw [if_neg (by omega)]
theorem btx_bys (P : List ByteArray) (raw l : List Int) (h : Bys raw) : Bys (btx P raw l) := by
  intro y hy
  unfold btx at hy
  obtain ⟨a, _, ha⟩ := List.mem_flatMap.1 hy
  unfold pc at ha
  split at ha
  · exact Bys.of _ y ha
  split at ha
  · rename_i hr
    rw [List.mem_singleton] at ha
    subst ha
    have hlt := Nat.mod_lt a.toNat hr
    exact h _ (by rw [List.getD_eq_getElem?_getD, List.getElem?_eq_getElem hlt]; exact List.getElem_mem _)
  · cases ha
theorem bits_any (A0 : Option Addr) (c0 : Nat) (P : List ByteArray) (A1 : Option Addr) (c1 : Nat) (l1 : List Int) (A2 : Option Addr) (c2 : Nat) (l2 : List Int) (w : World) (hP : ∀ p ∈ P, p.size ≤ 60) (hPl : P.length ≤ 1000) (h1 : Bys l1) (h2 : Bys l2) (hl2 : l2.length ≤ 1000) (hl1 : l1.length ≤ 140737488351232)
    (hr0 : Kd.C Kd.string w A0 P.length P) (hc0 : P.length ≤ c0) (hr1 : Kd.C (Kd.int .u8) w A1 l1.length l1) (hc1 : l1.length ≤ c1) (hr2 : Kd.C (Kd.int .u8) w A2 l2.length l2) (hc2 : l2.length ≤ c2) :
    Calls Tryd.prog 12 #[.slice A0 P.length c0, .slice A1 l1.length c1, .slice A2 l2.length c2] w fun e w' => ∃ (A : Option Addr) (c : Nat), e = .returned (.slice A (btx P l2 l1).length c) ∧ (btx P l2 l1).length ≤ 3600 ∧ (btx P l2 l1).length ≤ c ∧ Kd.C (Kd.int .u8) w' A (btx P l2 l1).length (btx P l2 l1) ∧ Below w.heap.size w w' := by
  obtain ⟨k, hk, hrl⟩ := bits_l0 P l1 l2 hP hPl h1 h2 hl2 hl1 60 0 [] (by omega) (by omega) (by omega) (by simp)
  rw [List.drop_zero, List.nil_append] at hk hrl
  refine (PBits.redpenlaw11_Bits.calls k A0 c0 P A1 c1 l1 A2 c2 l2 _ w hr0 hc0 hr1 hc1 hr2 hc2 hk).mono ?_
  rintro e w' ⟨v, rfl, hr, hb⟩
  obtain ⟨A, cp, rfl, hle, hC⟩ := Kd.R_reads hr
  exact ⟨A, cp, rfl, hrl, hle, hC, hb⟩
end Go.Proofs.YtkicpaodcmepmaaDoor.T

namespace Go.Proofs.YtkicpaodcmepmaaDoor.L
open Go.RowKit Go.Proofs.YtkicpaodcmepmaaDoorW.PrintWords Go.Proofs.YtkicpaodcmepmaaDoor.PSegs

def toS (s : Sg) : S55 := ⟨s.1, ⟨s.2.1, s.2.2⟩⟩

theorem reps_rowC (w : World) (S : List Sg) : Reps (k55.K w) 3 (S.map toS) (rowC S) := by
  induction S with
  | nil => exact Reps.none _ _
  | cons s S ih => exact Reps.c3 (k55_mk w (toS s)) ih
/-- An own row of parts, as the print reads it. -/
theorem own_C {w : World} {base n : Nat} {v : Value} {S : List Sg} (h : w.ownsRow base 55 3 v n (rowC S)) : ∃ A c, v = .slice A (S.map toS).length c ∧ (S.map toS).length ≤ c ∧ Kd.C k55 w A (S.map toS).length (S.map toS) := by
  have hn : n = S.length := by
    have := h.1
    rw [rowC_length] at this
    omega
  subst hn
  have hnc : ∃ A c, v = .slice A S.length c ∧ S.length ≤ c := by
    rcases h.2 with ⟨rfl, h0⟩ | ⟨g, cap, cur, rfl, _, _, hc, _⟩
    · exact ⟨none, 0, by rw [h0], by omega⟩
    · exact ⟨_, cap, rfl, hc⟩
  obtain ⟨A, c, rfl, hc⟩ := hnc
  obtain ⟨A', c', e, hr⟩ := own_reads_row h (reps_rowC w S) (by simp)
  injection e with e1 e2 e3
  subst e1
  refine ⟨A, c, by simp, by simpa using hc, ?_⟩
  rw [List.length_map]
  exact hr
def toQ (s : Sg) : PSameSegs.S55 := ⟨s.1, ⟨s.2.1, s.2.2⟩⟩
theorem C_conv {w : World} {A : Option Addr} {n : Nat} {S : List Sg} (h : Kd.C k55 w A n (S.map toS)) : Kd.C PSameSegs.k55 w A n (S.map toQ) := by
  refine ⟨by have := h.1; simpa using this, h.2.1, fun hn => ?_⟩
  obtain ⟨ad, e, hc⟩ := h.2.2 hn
  refine ⟨ad, e, fun j p hj => ?_⟩
  rw [List.getElem?_map, Option.map_eq_some_iff] at hj
  obtain ⟨s, hs, rfl⟩ := hj
  obtain ⟨c, hl, hk, hcell⟩ := hc j (toS s) (by rw [List.getElem?_map, hs]; rfl)
  obtain rfl := k55_open hk
  exact ⟨_, rfl, PSameSegs.k55_mk w (toQ s), hcell⟩
/-- Labels in a block, as the print reads them. -/
theorem cells_C {w : World} {k t : Nat} {L : List Int} (h : w.heap[k]? = some (.cells (cellsL L) t (0, 0))) (hl : L.length ≤ 9223372036854775807) : Kd.C (Kd.int .u8) w (some ⟨k, 0, none⟩) L.length L := by
  refine ⟨rfl, hl, fun _ => ⟨_, rfl, fun j p hj => ⟨[.int .u8 p], rfl, rfl, fun i u hu => ?_⟩⟩⟩
  have hi : i = 0 := by
    have := (List.getElem?_eq_some_iff.1 hu).1
    simpa using this
  subst hi
  have hp : Value.int .u8 p = u := by simpa using hu
  subst hp
  have e : (⟨k, 0, none⟩ : Addr).add (j * 1 + 0) = ⟨k, j, none⟩ := by
    unfold Addr.add
    by_cases h0 : j = 0
    · subst h0; rfl
    · simp [h0]
  have hz : (Kd.int IntKind.u8).sz = 1 := rfl
  rw [hz, e, blk_cell h, cellsL_get, hj]
  rfl

/-! ### the reference's Segs -/
theorem ref_segs_in (L : List Int) (hL : L.length ≤ 9223372036854775806) (hL2 : L.length < 5864062014805) : ∀ (d k fuel i : Nat) (T : List Sg), L.length - k = d → i < k → k ≤ L.length → 3 * d + 3 ≤ fuel →
    segsTo L k = T ++ [(L.getD i 0, (i : Int), (k : Int) - i)] → redpenref10_Segs.l1 fuel L (T.map toS) i k = some ((segsOf L).map toS) := by
  intro d
  induction d with
  | zero =>
    intro k fuel i T hd hik hk hf hs
    obtain ⟨f, rfl⟩ : ∃ m, fuel = m + 2 := ⟨fuel - 2, by omega⟩
    have hkl : k = L.length := by omega
    have hlen : (T.map toS).length < 5864062014805 := by
      have := (segsTo_ok L k).1
      rw [hs] at this
      simp at this ⊢
      omega
    simp only [redpenref10_Segs.l1, redpenref10_Segs.l0]
    rw [if_neg (by omega), if_pos (by omega), if_pos (by omega), if_pos hlen, if_neg (by omega)]
    have hw : wrap64 ((k : Int) - (i : Int)) = (k : Int) - i := by unfold wrap64; omega
    unfold segsOf
    rw [← hkl, hs, hw]
    simp [toS, rd]
  | succ d ih =>
    intro k fuel i T hd hik hk hf hs
    obtain ⟨f, rfl⟩ : ∃ m, fuel = m + 3 := ⟨fuel - 3, by omega⟩
    have hkl : k < L.length := by omega
    have hw : wrap64 ((k : Int) - (i : Int)) = (k : Int) - i := by unfold wrap64; omega
    have hw1 : wrap64 ((k : Int) + 1) = ((k + 1 : Nat) : Int) := by unfold wrap64; omega
    have hri : rd L (i : Int) = L.getD i 0 := by simp [rd]
    have hrk : rd L (k : Int) = L.getD k 0 := by simp [rd]
    have hstep : segsTo L (k + 1) = segsStep (segsTo L k) k (L.getD k 0) := rfl
    rw [hs, segsStep_snoc] at hstep
    have hlen : (T.map toS).length < 5864062014805 := by
      have := (segsTo_ok L k).1
      rw [hs] at this
      simp at this ⊢
      omega
    rw [redpenref10_Segs.l1, if_pos (by omega), if_pos (by omega), if_pos (by omega), if_pos (by omega), hri, hrk]
    by_cases he : L.getD k 0 = L.getD i 0
    · rw [if_pos he, hw1]
      refine ih (k + 1) _ i T (by omega) (by omega) (by omega) (by omega) ?_
      rw [hstep, if_pos he.symm, show (((k + 1 : Nat) : Int) - (i : Int)) = (k : Int) - i + 1 from by omega]
    · rw [if_neg he, if_pos hlen, redpenref10_Segs.l0, if_pos (by omega), redpenref10_Segs.l1, if_pos (by omega), if_pos (by omega), if_pos (by omega), if_pos (by omega), if_pos rfl, hw1]
      have e : (T.map toS ++ [(⟨L.getD i 0, ⟨(i : Int), wrap64 ((k : Int) - (i : Int))⟩⟩ : S55)]) = (T ++ [(L.getD i 0, (i : Int), (k : Int) - i)]).map toS := by simp [toS, hw]
      rw [e]
      refine ih (k + 1) f k _ (by omega) (by omega) (by omega) (by omega) ?_
      rw [hstep, if_neg (fun h => he h.symm), show (((k + 1 : Nat) : Int) - (k : Int)) = 1 from by omega]
theorem ref_segs (L : List Int) (hL : L.length < 5864062014805) : redpenref10_Segs.f (3 * L.length + 6) L = some ((segsOf L).map toS) := by
  unfold redpenref10_Segs.f
  rw [redpenref10_Segs.l0]
  rcases Nat.eq_zero_or_pos L.length with h0 | h0
  · rw [if_neg (by omega)]
    unfold segsOf
    rw [h0]
    rfl
  · rw [if_pos (by omega), redpenref10_Segs.l1, if_pos (by omega), if_pos (by omega), if_pos (by omega), if_pos (by omega), if_pos rfl]
    have hw1 : wrap64 (0 + 1) = ((1 : Nat) : Int) := by unfold wrap64; omega
    rw [hw1]
    refine ref_segs_in L (by omega) hL (L.length - 1) 1 _ 0 [] rfl (by omega) (by omega) (by omega) ?_
    rfl
/-! ### two lists of parts -/
theorem ref_same (S : List Sg) (hL : S.length ≤ 9223372036854775806) : ∀ (d i fuel : Nat), S.length - i = d → i ≤ S.length → d + 1 ≤ fuel → PSameSegs.redpenref10_SameSegs.l0 fuel (S.map toQ) (S.map toQ) i = some true := by
  intro d
  induction d with
  | zero =>
    intro i fuel hd hi hf
    obtain ⟨f, rfl⟩ : ∃ m, fuel = m + 1 := ⟨fuel - 1, by omega⟩
    rw [PSameSegs.redpenref10_SameSegs.l0, if_neg (by simp; omega)]
  | succ d ih =>
    intro i fuel hd hi hf
    obtain ⟨f, rfl⟩ : ∃ m, fuel = m + 1 := ⟨fuel - 1, by omega⟩
    have hw1 : wrap64 ((i : Int) + 1) = ((i + 1 : Nat) : Int) := by unfold wrap64; omega
    rw [PSameSegs.redpenref10_SameSegs.l0, if_pos (by simp; omega), if_pos (by omega), if_pos (by simp; omega), if_neg (by simp), hw1]
    exact ih (i + 1) f (by omega) (by omega) (by omega)
theorem ref_same_any (S : List Sg) (hL : S.length ≤ 9223372036854775806) : PSameSegs.redpenref10_SameSegs.f (S.length + 1) (S.map toQ) (S.map toQ) = some true := by
  unfold PSameSegs.redpenref10_SameSegs.f
  rw [if_pos rfl]
  exact ref_same S hL S.length 0 _ (by omega) (by omega) (by omega)
/-! ### the walks, in this seat's own words -/
theorem refSegs_any (k : Nat) (c : Nat) (L : List Int) (w : World) (h : w.heap[k]? = some (.cells (cellsL L) 28 (0, 0))) (hc : L.length ≤ c) (hl : L.length ≤ 1000000) :
    Calls Tryd.prog 16 #[.slice (some ⟨k, 0, none⟩) L.length c] w fun e w' => ∃ A cp, e = .returned (.slice A ((segsOf L).map toQ).length cp) ∧ ((segsOf L).map toQ).length ≤ cp ∧ Kd.C PSameSegs.k55 w' A ((segsOf L).map toQ).length ((segsOf L).map toQ) ∧ Below w.heap.size w w' := by
  refine (redpenref10_Segs.calls (3 * L.length + 6) (some ⟨k, 0, none⟩) c L _ w (cells_C h (by omega)) hc (ref_segs L (by omega))).mono ?_
  rintro e w' ⟨v, rfl, hr, hb⟩
  obtain ⟨A, cp, rfl, hle, hC⟩ := Kd.R_reads hr
  refine ⟨A, cp, by simp, by simpa using hle, ?_, hb⟩
  have := C_conv hC
  simpa using this
theorem own_Q {w : World} {base n : Nat} {v : Value} {S : List Sg} (h : w.ownsRow base 55 3 v n (rowC S)) : ∃ A c, v = .slice A (S.map toQ).length c ∧ (S.map toQ).length ≤ c ∧ Kd.C PSameSegs.k55 w A (S.map toQ).length (S.map toQ) := by
  obtain ⟨A, c, e, hc, hC⟩ := own_C h
  refine ⟨A, c, by simpa using e, by simpa using hc, ?_⟩
  have := C_conv hC
  simpa using this
theorem same_any (A1 A2 : Option Addr) (c1 c2 : Nat) (S : List Sg) (w : World) (hl : S.length ≤ 1000000) (h1 : Kd.C PSameSegs.k55 w A1 (S.map toQ).length (S.map toQ)) (h2 : Kd.C PSameSegs.k55 w A2 (S.map toQ).length (S.map toQ)) (hc1 : (S.map toQ).length ≤ c1) (hc2 : (S.map toQ).length ≤ c2) :
    Calls Tryd.prog 14 #[.slice A1 (S.map toQ).length c1, .slice A2 (S.map toQ).length c2] w fun e w' => e = .returned (.bool true) ∧ ∃ n, w' = w.drewN n :=
  (PSameSegs.redpenref10_SameSegs.calls (S.length + 1) A1 c1 _ A2 c2 _ true w h1 hc1 h2 hc2 (ref_same_any S (by omega))).mono fun _ _ h => ⟨h.1, h.2.out⟩
end Go.Proofs.YtkicpaodcmepmaaDoor.L

set_option linter.unusedVariables false
set_option linter.unusedSimpArgs false
namespace Go.Proofs.YtkicpaodcmepmaaDoor.T
open Go.RowKit Go.Proofs.YtkicpaodcmepmaaDoorW.PrintWords Go.Proofs.YtkicpaodcmepmaaDoorW.PrintMore Go.Proofs.YtkicpaodcmepmaaDoor.L Go.Proofs.YtkicpaodcmepmaaDoor.S Go.Proofs.YtkicpaodcmepmaaDoor.Tex Go.Proofs.YtkicpaodcmepmaaDoor.PTex

theorem Ev.up {α : Type} {g : Nat → Option α} {r : α} (h : Ev (fun k => g (k + 1)) r) : Ev g r := Ev.step (fun _ => rfl) h
theorem Ev.some_ {α : Type} (r : α) : Ev (fun _ => some r) r := Ev.now r
theorem drop_atR (b : List Int) (p : Nat) (h : p < b.length) : b.drop p = b.getD p 0 :: b.drop (p + 1) := by
  rw [List.drop_eq_getElem_cons h, List.getD_eq_getElem?_getD, List.getElem?_eq_getElem h]
  rfl
theorem getD_someR (b : List Int) (j : Nat) (h : j < b.length) : b[j]? = some (b.getD j 0) := by
  rw [List.getD_eq_getElem?_getD, List.getElem?_eq_getElem h]; rfl
theorem wrl (a : Int) (h0 : -1000000 ≤ a) (h : a ≤ 1000000) : wrap64 a = a := by unfold wrap64; omega
theorem data_lengthR (s : ByteArray) : s.data.toList.length = s.size := rfl
theorem bt_getR (s : ByteArray) (p : Nat) (h : p < s.size) : bt s (p : Int) = (bytesOf s).getD p 0 := by
  unfold bt bytesOf
  rw [dif_pos (show ((p : Int)).toNat < s.size from h)]
  have h' : p < s.data.toList.length := by rw [data_lengthR]; exact h
  rw [List.getD_eq_getElem?_getD, List.getElem?_map, List.getElem?_eq_getElem h']
  rfl
theorem bytesOf_injl {x y : List UInt8} (h : x.map (fun b => (b.toNat : Int)) = y.map (fun b => (b.toNat : Int))) : x = y := by
  induction x generalizing y with
  | nil => cases y <;> simp at h ⊢
  | cons a x ih =>
    cases y with
    | nil => simp at h
    | cons b y =>
      simp only [List.map_cons, List.cons.injEq] at h
      have : a = b := UInt8.toNat_inj.1 (by omega)
      rw [this, ih h.2]
theorem at_f (s m : ByteArray) (i : Nat) (hs : s.size ≤ 100000) (hi : i ≤ 200000) (hm : 0 < m.size) (hm2 : m.size ≤ 100) : redpenref10_at.f s i m = some ((bytesOf m).isPrefixOf ((bytesOf s).drop i)) := by
  unfold redpenref10_at.f
  rw [wrl _ (by omega) (by omega)]
  by_cases h : i + m.size ≤ s.size
  · rw [if_pos (by omega), if_pos (by omega), if_pos (by omega)]
    congr 1
    rw [← pfx_take _ _ (by rw [bytesOf_length, List.length_drop, bytesOf_length]; omega)]
    have e1 : ((i : Int)).toNat = i := rfl
    have e2 : ((i : Int) + (m.size : Int)).toNat = i + m.size := by omega
    rw [e1, e2, ByteArray.toList_eq, ByteArray.toList_eq, bytesOf_length]
    have e3 : (s.extract i (i + m.size)).data.toList = (s.data.toList.drop i).take m.size := by
      rw [ByteArray.data_extract, Array.toList_extract, List.extract_eq_take_drop]
      congr 1
      omega
    rw [e3]
    unfold bytesOf
    rw [← List.map_drop, ← List.map_take]
    rw [Bool.eq_iff_iff, beq_iff_eq, beq_iff_eq]
    exact ⟨fun h => by rw [h], fun h => bytesOf_injl h⟩
  · rw [if_neg (by omega), pfx_long _ _ (by rw [bytesOf_length, List.length_drop, bytesOf_length]; omega)]
theorem rat_any (s m : ByteArray) (i : Nat) (w : World) (hs : s.size ≤ 100000) (hi : i ≤ 200000) (hm : 0 < m.size) (hm2 : m.size ≤ 100) :
    Calls Tryd.prog 30 #[.string s, .int .i64 i, .string m] w fun e w' => e = .returned (.bool ((bytesOf m).isPrefixOf ((bytesOf s).drop i))) ∧ ∃ n, w' = w.drewN n :=
  (redpenref10_at.calls s i m _ w (at_f s m i hs hi hm hm2)).mono fun _ _ h => ⟨h.1, h.2.out⟩
def ltrAt (b : List Int) (p : Nat) : Bool := decide (p < b.length) && ltr (b.getD p 0)
set_option maxRecDepth 100000 in
theorem or32 : ∀ n : Nat, n < 256 → ((if Go.bits .or .u8 (n : Int) 32 ≥ 97 then some (decide (Go.bits .or .u8 (n : Int) 32 ≤ 122)) else some false) : Option Bool) = some (ltr (n : Int)) := by decide
theorem letter_f' (s : ByteArray) (i : Nat) : redpenref10_letter.f s i = some (ltrAt (bytesOf s) i) := by
  unfold redpenref10_letter.f ltrAt
  have hl := bytesOf_length s
  rw [if_neg (by omega)]
  by_cases h : i < s.size
  · rw [if_neg (by omega), if_pos (by omega), if_pos (by omega)]
    have hr := bt_range s i
    obtain ⟨n, hn⟩ : ∃ n : Nat, bt s (i : Int) = n := ⟨(bt s i).toNat, by omega⟩
    rw [hn, or32 n (by omega), ← hn, bt_getR s i h, decide_eq_true (by omega), Bool.true_and]
  · rw [if_pos (by omega), decide_eq_false (by omega), Bool.false_and]
theorem rletter_any (s : ByteArray) (i : Nat) (w : World) :
    Calls Tryd.prog 31 #[.string s, .int .i64 i] w fun e w' => e = .returned (.bool (ltrAt (bytesOf s) i)) ∧ ∃ n, w' = w.drewN n :=
  (redpenref10_letter.calls s i _ w (letter_f' s i)).mono fun _ _ h => ⟨h.1, h.2.out⟩
/-! ### behind -/
theorem untl_yes (t b : List Int) (i : Nat) (hi : i < b.length) (h : t.isPrefixOf (b.drop i) = true) : untl t b i = i + t.length := by
  unfold untl
  rw [drop_atR b i hi] at h ⊢
  unfold fnd
  rw [if_pos h]
  rfl
theorem untl_no (t b : List Int) (i : Nat) (hi : i < b.length) (h : t.isPrefixOf (b.drop i) = false) : untl t b i = untl t b (i + 1) := by
  unfold untl
  rw [drop_atR b i hi] at h ⊢
  rw [show fnd t (b.getD i 0 :: b.drop (i + 1)) = if t.isPrefixOf (b.getD i 0 :: b.drop (i + 1)) then some 0 else (fnd t (b.drop (i + 1))).map (· + 1) from rfl]
  rw [if_neg (by rw [h]; simp)]
  cases fnd t (b.drop (i + 1)) with
  | none => rfl
  | some j => simp only [Option.map_some]; omega
theorem untl_endR (t b : List Int) (i : Nat) (ht : t ≠ []) (hi : b.length ≤ i) : untl t b i = b.length := by
  unfold untl
  rw [List.drop_eq_nil_of_le hi, fnd_nil t ht]
theorem behind_is (s m : ByteArray) (hs : s.size ≤ 100000) (hm : 0 < m.size) (hm2 : m.size ≤ 100) : ∀ (d i : Nat), s.size - i = d → i ≤ 200000 → Ev (fun k => redpenref10_behind.l0 k s i m) ((untl (bytesOf m) (bytesOf s) i : Nat) : Int) := by
  have hl := bytesOf_length s
  have hml := bytesOf_length m
  have hne : bytesOf m ≠ [] := by intro h; rw [h] at hml; simp at hml; omega
  intro d
  induction d with
  | zero =>
    intro i hd hi
    refine Ev.up ?_
    simp only [redpenref10_behind.l0]
    rw [untl_endR _ _ _ hne (by omega)]
    simp only [if_neg (show ¬ ((i : Int) < (s.size : Int)) by omega), hl]
    exact Ev.some_ _
  | succ d ih =>
    intro i hd hi
    refine Ev.up ?_
    simp only [redpenref10_behind.l0, if_pos (show ((i : Int) < (s.size : Int)) by omega), at_f s m i hs hi hm hm2, Option.bind_some]
    cases hp : (bytesOf m).isPrefixOf ((bytesOf s).drop i) with
    | true =>
      rw [untl_yes _ _ _ (by omega) hp]
      simp only [if_pos]
      rw [wrl _ (by omega) (by omega), hml]
      exact Ev.some_ _
    | false =>
      rw [untl_no _ _ _ (by omega) hp]
      simp only [Bool.false_eq_true, if_false]
      rw [wrl _ (by omega) (by omega)]
      exact ih (i + 1) (by omega) (by omega)
theorem rbehind_any (s m : ByteArray) (i : Nat) (w : World) (hs : s.size ≤ 100000) (hi : i ≤ 200000) (hm : 0 < m.size) (hm2 : m.size ≤ 100) :
    Calls Tryd.prog 28 #[.string s, .int .i64 i, .string m] w fun e w' => e = .returned (.int .i64 (untl (bytesOf m) (bytesOf s) i : Nat)) ∧ ∃ n, w' = w.drewN n := by
  obtain ⟨k, hk⟩ := (behind_is s m hs hm hm2 _ i rfl hi).rounds
  exact (redpenref10_behind.calls k s i m _ w hk).mono fun _ _ h => ⟨h.1, h.2.out⟩

/-! ### put -/
theorem put_is (c : Int) (q : Nat) (hq : q ≤ 100000) : ∀ (d : Nat) (L : List Int) (a : Nat), q - a = d → L.length ≤ 100000 → Ev (fun k => redpenref10_Labels_put.l0 k L c q a) (setL L c a q) := by
  intro d
  induction d with
  | zero =>
    intro L a hd hL
    refine Ev.up ?_
    simp only [redpenref10_Labels_put.l0]
    rw [setL_none _ _ _ _ (.inl (by omega))]
    simp only [if_neg (show ¬ ((a : Int) < (q : Int)) by omega)]
    exact Ev.some_ _
  | succ d ih =>
    intro L a hd hL
    refine Ev.up ?_
    simp only [redpenref10_Labels_put.l0, if_pos (show ((a : Int) < (q : Int)) by omega)]
    by_cases ha : a < L.length
    · simp only [if_pos (show ((a : Int) < (L.length : Int)) by omega), if_pos (show (0 : Int) ≤ (a : Int) by omega)]
      rw [wrl _ (by omega) (by omega)]
      have e1 : ((a : Int)).toNat = a := rfl
      rw [e1]
      have := ih (L.set a c) (a + 1) (by omega) (by rw [List.length_set]; exact hL)
      have e2 : setL (L.set a c) c ((a + 1 : Nat) : Int) q = setL L c a q := by
        apply List.ext_getElem?
        intro i
        rw [setL_get, setL_get, List.getElem?_set]
        by_cases hi : a = i
        · subst hi
          rw [if_pos rfl, if_pos ha, List.getElem?_eq_getElem ha, Option.map_some, Option.map_some, if_neg (by omega), if_pos (by omega)]
        · rw [if_neg hi]
          congr 1
          funext x
          by_cases h : ((a + 1 : Nat) : Int) ≤ (i : Int) ∧ (i : Int) < (q : Int)
          · rw [if_pos h, if_pos (by omega)]
          · rw [if_neg h, if_neg (by omega)]
      rw [e2] at this
      exact this
    · simp only [if_neg (show ¬ ((a : Int) < (L.length : Int)) by omega)]
      rw [setL_none _ _ _ _ (.inr (.inr (by omega)))]
      exact Ev.some_ _
/-- The reference's labels in memory. -/
structure Rl (w0 W : World) (v : Value) (L : List Int) : Prop where
  own : Kd.R (Kd.int .u8) 28 W w0.heap.size (fun k => v.ownBlock = some k) v L
  bel : Below w0.heap.size w0 W
section
variable {w0 W W' : World} {v : Value} {L : List Int}
theorem Rl.kept (h : Rl w0 W v L) (hb : Below W.heap.size W W') : Rl w0 W' v L := ⟨Kd.R_below h.own hb, below_step h.bel hb⟩
theorem Rl.drewN (h : Rl w0 W v L) (n : Nat) : Rl w0 (W.drewN n) v L := h.kept (pw_below_drewN (Below.refl _ _) n)
theorem rl_flat {ok : Nat → Prop} (h : Kd.R (Kd.int .u8) 28 W w0.heap.size ok v L) (hb : Below w0.heap.size w0 W) : Rl w0 W v L := ⟨Kd.R_flat (fun h => h) h (fun k hk _ => hk), hb⟩
end
theorem rput_any {w0 W : World} {v : Value} {L : List Int} (h : Rl w0 W v L) (hL : L.length ≤ 100000) (c : Int) (a q : Nat) (hq : q ≤ 100000) :
    Calls Tryd.prog 29 #[v, .int .u8 c, .int .i64 a, .int .i64 q] W fun e w' => e = .returned (.tuple #[]) ∧ Rl w0 w' v (setL L c a q) := by
  obtain ⟨k, hk⟩ := (put_is c q hq _ L a rfl hL).rounds
  refine (redpenref10_Labels_put.calls k _ v L c a q _ w0 W h.bel h.own (by unfold redpenref10_Labels_put.f; exact hk)).mono ?_
  rintro e w' ⟨rfl, hr, hb, _⟩
  exact ⟨rfl, rl_flat hr hb⟩

/-! ### All -/
theorem set_fill (c : Int) (n : Nat) : ∀ (d i : Nat), n - i = d → i ≤ n → n ≤ 100000 → Ev (fun k => redpenref10_All.l0 k n c (List.replicate i c ++ List.replicate (n - i) 0) i) (List.replicate n c) := by
  intro d
  induction d with
  | zero =>
    intro i hd hi hn
    refine Ev.up ?_
    obtain rfl : i = n := by omega
    simp only [redpenref10_All.l0, if_neg (show ¬ ((i : Int) < (i : Int)) by omega), Nat.sub_self, List.replicate_zero, List.append_nil]
    exact Ev.some_ _
  | succ d ih =>
    intro i hd hi hn
    refine Ev.up ?_
    have hlen : (List.replicate i c ++ List.replicate (n - i) (0 : Int)).length = n := by simp; omega
    simp only [redpenref10_All.l0, if_pos (show ((i : Int) < (n : Int)) by omega), if_pos (Int.natCast_nonneg i), hlen, Int.toNat_natCast]
    rw [wrl _ (by omega) (by omega)]
    have e : (List.replicate i c ++ List.replicate (n - i) (0 : Int)).set i c = List.replicate (i + 1) c ++ List.replicate (n - (i + 1)) 0 := by
      rw [List.set_append_right (h := by simp), List.length_replicate, Nat.sub_self, show n - i = (n - (i + 1)) + 1 by omega, List.replicate_succ, List.set_cons_zero, List.replicate_succ', List.append_assoc]
      rfl
    rw [e]
    exact ih (i + 1) (by omega) (by omega) hn
theorem rall_any (n : Nat) (c : Int) (w : World) (hn : n ≤ 100000) :
    Calls Tryd.prog 21 #[.int .i64 n, .int .u8 c] w fun e w' => ∃ v, e = .returned v ∧ Rl w w' v (List.replicate n c) := by
  have h : Ev (fun k => redpenref10_All.f k n c) (List.replicate n c) := by
    unfold redpenref10_All.f
    have h := set_fill c n _ 0 rfl (Nat.zero_le _) hn
    rw [List.replicate_zero, List.nil_append, Nat.sub_zero] at h
    simp only [if_pos (Int.natCast_nonneg n), Int.toNat_natCast, if_pos (show n ≤ 281474976710656 by omega)]
    exact h
  obtain ⟨k, hk⟩ := h.rounds
  refine (redpenref10_All.calls k n c _ w hk).mono ?_
  rintro e w' ⟨v, rfl, hr, hb⟩
  exact ⟨v, rfl, rl_flat hr hb⟩
/-! ### bare, whole -/
theorem toL_inj (s : ByteArray) (l : List UInt8) : (s.toList = l) ↔ (bytesOf s = l.map (fun b => (b.toNat : Int))) := by
  rw [ByteArray.toList_eq]
  unfold bytesOf
  exact ⟨fun h => by rw [h], fun h => bytesOf_injl h⟩
theorem chain_ (x l : List Int) (r : List (List Int)) : (if x = l then some true else some (decide (x ∈ r))) = some (decide (x ∈ l :: r)) := by
  by_cases h : x = l
  · rw [if_pos h, decide_eq_true (List.mem_cons.2 (.inl h))]
  · rw [if_neg h]
    congr 1
    rw [decide_eq_decide, List.mem_cons]
    exact ⟨.inr, fun e => e.resolve_left h⟩
theorem bare_f (s : ByteArray) : redpenref10_bare.f s = some (decide (bytesOf s ∈ bareN)) := by
  unfold redpenref10_bare.f
  simp only [toL_inj]
  generalize bytesOf s = x
  rw [show some false = some (decide (x ∈ ([] : List (List Int)))) from rfl]
  simp only [chain_]
  rfl
theorem rbare_any (s : ByteArray) (w : World) :
    Calls Tryd.prog 33 #[.string s] w fun e w' => e = .returned (.bool (decide (bytesOf s ∈ bareN))) ∧ ∃ n, w' = w.drewN n :=
  (redpenref10_bare.calls s _ w (bare_f s)).mono fun _ _ h => ⟨h.1, h.2.out⟩
theorem whole_f (s : ByteArray) : redpenref10_whole.f s = some (decide (bytesOf s ∈ wholeN)) := by
  unfold redpenref10_whole.f
  simp only [toL_inj]
  generalize bytesOf s = x
  rw [show some false = some (decide (x ∈ ([] : List (List Int)))) from rfl]
  simp only [chain_]
  rfl
theorem rwhole_any (s : ByteArray) (w : World) :
    Calls Tryd.prog 35 #[.string s] w fun e w' => e = .returned (.bool (decide (bytesOf s ∈ wholeN))) ∧ ∃ n, w' = w.drewN n :=
  (redpenref10_whole.calls s _ w (whole_f s)).mono fun _ _ h => ⟨h.1, h.2.out⟩
/-! ### bracket, group -/
def grpI (g : Option Nat) : Int := match g with | some g => (g : Int) | none => -1
theorem bracket_is (s : ByteArray) (hs : s.size ≤ 100000) (o c : Int) (ho : o ≠ 92) (hc : c ≠ 92) (hoc : o ≠ c) : ∀ (n i : Nat) (d : Nat), s.size ≤ i + n → i ≤ 200000 → 1 ≤ d → d ≤ 32 → Ev (fun k => redpenref10_bracket.l0 k s i o c d) (grpI (grpN (bytesOf s) o c n d i)) := by
  have hl := bytesOf_length s
  intro n
  induction n with
  | zero =>
    intro i d h1 h2 h3 h4
    refine Ev.up ?_
    simp only [redpenref10_bracket.l0, if_neg (show ¬ ((i : Int) < (s.size : Int)) by omega)]
    exact Ev.some_ _
  | succ n ih =>
    intro i d h1 h2 h3 h4
    refine Ev.up ?_
    unfold grpN
    by_cases hi : i < s.size
    · simp only [redpenref10_bracket.l0, if_pos (show ((i : Int) < (s.size : Int)) by omega), if_pos (Int.natCast_nonneg i), bt_getR s i hi]
      rw [if_pos (by omega), wrl ((i : Int) + 1) (by omega) (by omega), wrl ((i : Int) + 1 + 1) (by omega) (by omega), wrl ((d : Int) - 1) (by omega) (by omega), wrl ((d : Int) + 1) (by omega) (by omega)]
      by_cases h92 : (bytesOf s).getD i 0 = 92
      · simp only [if_pos h92]
        have := ih (i + 2) d (by omega) (by omega) h3 h4
        rw [show (((i + 2 : Nat)) : Int) = (i : Int) + 1 + 1 by omega] at this
        exact this
      · simp only [if_neg h92]
        by_cases hcc : (bytesOf s).getD i 0 = c
        · simp only [if_pos hcc]
          rw [if_neg (show ¬ (bytesOf s).getD i 0 = o from fun e => hoc (e.symm.trans hcc))]
          by_cases hd : d = 1
          · subst hd
            simp only [if_pos (show ((1 : Nat) : Int) - 1 = 0 by omega)]
            rw [show grpI (some (i + 1)) = (i : Int) + 1 from by show (((i + 1 : Nat)) : Int) = _; omega]
            exact Ev.some_ _
          · simp only [if_neg (show ¬ (d : Int) - 1 = 0 by omega)]
            have := ih (i + 1) (d - 1) (by omega) (by omega) (by omega) (by omega)
            rw [show (((i + 1 : Nat)) : Int) = (i : Int) + 1 by omega, show (((d - 1 : Nat)) : Int) = (d : Int) - 1 by omega] at this
            exact this
        · simp only [if_neg hcc]
          by_cases hoo : (bytesOf s).getD i 0 = o
          · simp only [if_pos hoo]
            by_cases hd : d = 32
            · subst hd
              simp only [if_pos (show ((32 : Nat) : Int) + 1 > 32 by omega), if_pos (show (32 : Int) < ((32 : Nat) : Int) + 1 by omega)]
              exact Ev.some_ _
            · simp only [if_neg (show ¬ (d : Int) + 1 > 32 by omega), if_neg (show ¬ (32 : Int) < (d : Int) + 1 by omega)]
              have := ih (i + 1) (d + 1) (by omega) (by omega) (by omega) (by omega)
              rw [show (((i + 1 : Nat)) : Int) = (i : Int) + 1 by omega, show (((d + 1 : Nat)) : Int) = (d : Int) + 1 by omega] at this
              exact this
          · simp only [if_neg hoo]
            have := ih (i + 1) d (by omega) (by omega) h3 h4
            rw [show (((i + 1 : Nat)) : Int) = (i : Int) + 1 by omega] at this
            exact this
    · simp only [redpenref10_bracket.l0, if_neg (show ¬ ((i : Int) < (s.size : Int)) by omega)]
      rw [if_neg (by omega)]
      exact Ev.some_ _
theorem grpN_first (b : List Int) (o c : Int) (ho : o ≠ 92) (p : Nat) (hp : p < b.length) (h : b.getD p 0 = o) : grpN b o c b.length 0 p = grpN b o c (b.length - 1) 1 (p + 1) := by
  obtain ⟨n, hn⟩ : ∃ n, b.length = n + 1 := ⟨b.length - 1, by omega⟩
  rw [hn]
  conv => lhs; unfold grpN
  rw [if_pos hp, h, if_neg ho, if_pos rfl, if_neg (by omega)]
  rfl
theorem group_is (s : ByteArray) (hs : s.size ≤ 100000) (p : Nat) (hp : p ≤ 100000) : Ev (fun k => redpenref10_group.f k s p) (grpI (grp (bytesOf s) p)) := by
  have hl := bytesOf_length s
  have h1 : redpenref10_at.f s p ⟨#[123]⟩ = some ([123].isPrefixOf ((bytesOf s).drop p)) := at_f s ⟨#[123]⟩ p hs (by omega) (by decide) (by decide)
  have h2 : redpenref10_at.f s p ⟨#[91]⟩ = some ([91].isPrefixOf ((bytesOf s).drop p)) := at_f s ⟨#[91]⟩ p hs (by omega) (by decide) (by decide)
  unfold redpenref10_group.f redpenref10_bracket.f
  simp only [h1, h2, Option.bind_some]
  rw [wrl ((p : Int) + 1) (by omega) (by omega)]
  unfold grp
  by_cases hlt : p < s.size
  · rw [drop_atR _ p (by omega), getD_someR _ p (by omega)]
    simp only [List.isPrefixOf, Bool.and_true, beq_iff_eq, Option.some.injEq]
    by_cases h123 : (bytesOf s).getD p 0 = 123
    · rw [h123]
      simp only [if_pos, if_neg (show ¬ (123 : Int) = 91 by decide)]
      rw [grpN_first _ _ _ (by decide) p (by omega) h123]
      refine Ev.bind (a := grpI (grpN (bytesOf s) 123 125 ((bytesOf s).length - 1) 1 (p + 1))) ?_ (Ev.some_ _)
      have := bracket_is s hs 123 125 (by decide) (by decide) (by decide) ((bytesOf s).length - 1) (p + 1) 1 (by omega) (by omega) (by omega) (by omega)
      rw [show (((p + 1 : Nat)) : Int) = (p : Int) + 1 by omega] at this
      exact this
    · simp only [if_neg (show ¬ (123 : Int) = (bytesOf s).getD p 0 from fun e => h123 e.symm)]
      by_cases h91 : (bytesOf s).getD p 0 = 91
      · rw [h91]
        simp only [if_pos]
        rw [grpN_first _ _ _ (by decide) p (by omega) h91]
        refine Ev.bind (a := grpI (grpN (bytesOf s) 91 93 ((bytesOf s).length - 1) 1 (p + 1))) ?_ (Ev.some_ _)
        have := bracket_is s hs 91 93 (by decide) (by decide) (by decide) ((bytesOf s).length - 1) (p + 1) 1 (by omega) (by omega) (by omega) (by omega)
        rw [show (((p + 1 : Nat)) : Int) = (p : Int) + 1 by omega] at this
        exact this
      · simp only [if_neg (show ¬ (91 : Int) = (bytesOf s).getD p 0 from fun e => h91 e.symm), if_neg h91, if_neg h123]
        exact Ev.some_ _
  · rw [List.drop_eq_nil_of_le (by omega), List.getElem?_eq_none (by omega)]
    simp only [List.isPrefixOf, Bool.false_eq_true, if_false]
    exact Ev.some_ _
theorem rgroup_any (s : ByteArray) (p : Nat) (w : World) (hs : s.size ≤ 100000) (hp : p ≤ 100000) :
    Calls Tryd.prog 34 #[.string s, .int .i64 p] w fun e w' => e = .returned (.int .i64 (grpI (grp (bytesOf s) p))) ∧ ∃ n, w' = w.drewN n := by
  obtain ⟨k, hk⟩ := (group_is s hs p hp).rounds
  exact (redpenref10_group.calls k s p _ w hk).mono fun _ _ h => ⟨h.1, h.2.out⟩
/-! ### Next -/
theorem w32 (a : Int) (h0 : -100000000 ≤ a) (h : a ≤ 100000000) : wrap32 a = a := by unfold wrap32; omega
theorem tail_f (b : List Int) (i : Nat) : redpenref01_tail.f b i = some (decide (i < b.length) && tailB (b.getD i 0)) := by
  unfold redpenref01_tail.f tailB
  have e : rd b (i : Int) = b.getD i 0 := rfl
  by_cases h : i < b.length
  · rw [if_pos (by omega), if_pos (by omega), e, decide_eq_true h, Bool.true_and]
    by_cases h1 : b.getD i 0 ≥ 128
    · rw [if_pos h1, show decide (128 ≤ b.getD i 0) = true from decide_eq_true h1, Bool.true_and]
    · rw [if_neg h1, show decide (128 ≤ b.getD i 0) = false from decide_eq_false h1, Bool.false_and]
  · rw [if_neg (by omega), decide_eq_false h, Bool.false_and]
end Go.Proofs.YtkicpaodcmepmaaDoor.T

set_option linter.unusedVariables false
set_option linter.unusedSimpArgs false
namespace Go.Proofs.YtkicpaodcmepmaaDoor.T
open Go.RowKit Go.Proofs.YtkicpaodcmepmaaDoorW.PrintWords Go.Proofs.YtkicpaodcmepmaaDoorW.PrintMore Go.Proofs.YtkicpaodcmepmaaDoor.L Go.Proofs.YtkicpaodcmepmaaDoor.S Go.Proofs.YtkicpaodcmepmaaDoor.Tex Go.Proofs.YtkicpaodcmepmaaDoor.PTex

def tl (b : List Int) (i : Nat) : Bool := decide (i < b.length) && tailB (b.getD i 0)
theorem tl_lt {b : List Int} {i : Nat} (h : tl b i = true) : i < b.length ∧ 128 ≤ b.getD i 0 ∧ b.getD i 0 < 192 := by
  unfold tl tailB at h
  simp only [Bool.and_eq_true, decide_eq_true_eq] at h
  exact ⟨h.1, h.2.1, h.2.2⟩
theorem bys_D {b : List Int} (h : Bys b) (i : Nat) : 0 ≤ b.getD i 0 ∧ b.getD i 0 < 256 := by
  rw [List.getD_eq_getElem?_getD]
  cases e : b[i]? with
  | none => simp
  | some x => exact h x (List.mem_of_getElem? e)
theorem tail_1 (b : List Int) : redpenref01_tail.f b 1 = some (tl b 1) := tail_f b 1
theorem tail_2 (b : List Int) : redpenref01_tail.f b 2 = some (tl b 2) := tail_f b 2
theorem tail_3 (b : List Int) : redpenref01_tail.f b 3 = some (tl b 3) := tail_f b 3
theorem j4_is (b : List Int) (hb : Bys b) (c : Int) (hc : 0 ≤ c ∧ c < 256) (f : Bool) (hf : f = true → 3 < b.length) :
    ∃ r, Ev (fun k => redpenref01_Next.j4 k b c f) (r, if f = true ∧ 65536 ≤ r4 c (b.getD 1 0) (b.getD 2 0) (b.getD 3 0) ∧ r4 c (b.getD 1 0) (b.getD 2 0) (b.getD 3 0) ≤ 1114111 then 4 else 1) := by
  have h1 := bys_D hb 1
  have h2 := bys_D hb 2
  have h3 := bys_D hb 3
  have e1 : rd b 1 = b.getD 1 0 := rfl
  have e2 : rd b 2 = b.getD 2 0 := rfl
  have e3 : rd b 3 = b.getD 3 0 := rfl
  cases f with
  | false =>
    refine ⟨-1, Ev.up ?_⟩
    simp only [redpenref01_Next.j4, Bool.false_eq_true, if_false, false_and]
    exact Ev.some_ _
  | true =>
    have hl := hf rfl
    unfold r4
    generalize b.getD 1 0 = x at *
    generalize b.getD 2 0 = y at *
    generalize b.getD 3 0 = z at *
    have hsum : ∀ k, redpenref01_Next.j4 (k + 1) b c true = if (c - 240) * 262144 + (x - 128) * 4096 + (y - 128) * 64 + z - 128 ≥ 65536 then (if (c - 240) * 262144 + (x - 128) * 4096 + (y - 128) * 64 + z - 128 ≤ 1114111 then some ((c - 240) * 262144 + (x - 128) * 4096 + (y - 128) * 64 + z - 128, 4) else some (-1, 1)) else some (-1, 1) := by
      intro k
      simp only [redpenref01_Next.j4, if_pos, if_pos (show (1 : Int) < (b.length : Int) by omega), if_pos (show (2 : Int) < (b.length : Int) by omega), if_pos (show (3 : Int) < (b.length : Int) by omega), e1, e2, e3]
      rw [w32 (c - 240) (by omega) (by omega), w32 ((c - 240) * 262144) (by omega) (by omega), w32 x (by omega) (by omega), w32 (x - 128) (by omega) (by omega), w32 ((x - 128) * 4096) (by omega) (by omega), w32 ((c - 240) * 262144 + (x - 128) * 4096) (by omega) (by omega), w32 y (by omega) (by omega), w32 (y - 128) (by omega) (by omega), w32 ((y - 128) * 64) (by omega) (by omega), w32 ((c - 240) * 262144 + (x - 128) * 4096 + (y - 128) * 64) (by omega) (by omega), w32 z (by omega) (by omega), w32 ((c - 240) * 262144 + (x - 128) * 4096 + (y - 128) * 64 + z) (by omega) (by omega), w32 ((c - 240) * 262144 + (x - 128) * 4096 + (y - 128) * 64 + z - 128) (by omega) (by omega)]
    by_cases ha : 65536 ≤ (c - 240) * 262144 + (x - 128) * 4096 + (y - 128) * 64 + z - 128
    · by_cases hd : (c - 240) * 262144 + (x - 128) * 4096 + (y - 128) * 64 + z - 128 ≤ 1114111
      · refine ⟨(c - 240) * 262144 + (x - 128) * 4096 + (y - 128) * 64 + z - 128, Ev.up ?_⟩
        simp only [hsum, if_pos (show (c - 240) * 262144 + (x - 128) * 4096 + (y - 128) * 64 + z - 128 ≥ 65536 from ha), if_pos hd]
        rw [if_pos ⟨trivial, by omega, by omega⟩]
        exact Ev.some_ _
      · refine ⟨-1, Ev.up ?_⟩
        simp only [hsum, if_pos (show (c - 240) * 262144 + (x - 128) * 4096 + (y - 128) * 64 + z - 128 ≥ 65536 from ha), if_neg hd]
        rw [if_neg (by omega)]
        exact Ev.some_ _
    · refine ⟨-1, Ev.up ?_⟩
      simp only [hsum, if_neg (show ¬ (c - 240) * 262144 + (x - 128) * 4096 + (y - 128) * 64 + z - 128 ≥ 65536 from ha)]
      rw [if_neg (by omega)]
      exact Ev.some_ _
def V3 (b : List Int) (c : Int) : Int := if (240 ≤ c ∧ c < 248 ∧ tl b 1 = true ∧ tl b 2 = true ∧ tl b 3 = true) ∧ 65536 ≤ r4 c (b.getD 1 0) (b.getD 2 0) (b.getD 3 0) ∧ r4 c (b.getD 1 0) (b.getD 2 0) (b.getD 3 0) ≤ 1114111 then 4 else 1
theorem j3_is (b : List Int) (hb : Bys b) (c : Int) (hc : 0 ≤ c ∧ c < 256) : ∃ r, Ev (fun k => redpenref01_Next.j3 k b c) (r, V3 b c) := by
  have no : ¬ (240 ≤ c ∧ c < 248 ∧ tl b 1 = true ∧ tl b 2 = true ∧ tl b 3 = true) → ∃ r, Ev (fun k => redpenref01_Next.j4 k b c false) (r, V3 b c) := by
    intro hn
    obtain ⟨r, h⟩ := j4_is b hb c hc false (fun e => by cases e)
    rw [if_neg (fun e => by cases e.1)] at h
    unfold V3
    rw [if_neg (fun e => hn e.1)]
    exact ⟨r, h⟩
  by_cases ha : c ≥ 240
  · by_cases hd : c < 248
    · cases t1 : tl b 1 with
      | false =>
        obtain ⟨r, h⟩ := no (by rw [t1]; simp)
        refine ⟨r, Ev.up ?_⟩
        simp only [redpenref01_Next.j3, if_pos ha, if_pos hd, tail_1, Option.bind_some, t1, Bool.false_eq_true, if_false]
        exact h
      | true =>
        cases t2 : tl b 2 with
        | false =>
          obtain ⟨r, h⟩ := no (by rw [t2]; simp)
          refine ⟨r, Ev.up ?_⟩
          simp only [redpenref01_Next.j3, if_pos ha, if_pos hd, tail_1, tail_2, Option.bind_some, t1, t2, if_pos, Bool.false_eq_true, if_false]
          exact h
        | true =>
          obtain ⟨r, h⟩ := j4_is b hb c hc (tl b 3) (fun e => (tl_lt e).1)
          have e : V3 b c = if tl b 3 = true ∧ 65536 ≤ r4 c (b.getD 1 0) (b.getD 2 0) (b.getD 3 0) ∧ r4 c (b.getD 1 0) (b.getD 2 0) (b.getD 3 0) ≤ 1114111 then 4 else 1 := by
            unfold V3
            by_cases h : tl b 3 = true ∧ 65536 ≤ r4 c (b.getD 1 0) (b.getD 2 0) (b.getD 3 0) ∧ r4 c (b.getD 1 0) (b.getD 2 0) (b.getD 3 0) ≤ 1114111
            · rw [if_pos h, if_pos ⟨⟨ha, hd, t1, t2, h.1⟩, h.2⟩]
            · rw [if_neg h, if_neg (fun e => h ⟨e.1.2.2.2.2, e.2⟩)]
          rw [← e] at h
          refine ⟨r, Ev.up ?_⟩
          simp only [redpenref01_Next.j3, if_pos ha, if_pos hd, tail_1, tail_2, tail_3, Option.bind_some, t1, t2, if_pos]
          exact h
    · obtain ⟨r, h⟩ := no (fun e => hd e.2.1)
      refine ⟨r, Ev.up ?_⟩
      simp only [redpenref01_Next.j3, if_pos ha, if_neg hd]
      exact h
  · obtain ⟨r, h⟩ := no (fun e => ha e.1)
    refine ⟨r, Ev.up ?_⟩
    simp only [redpenref01_Next.j3, if_neg ha]
    exact h
def V2 (b : List Int) (c : Int) (f : Bool) : Int := if f = true ∧ 2048 ≤ r3 c (b.getD 1 0) (b.getD 2 0) ∧ (r3 c (b.getD 1 0) (b.getD 2 0) < 55296 ∨ 57344 ≤ r3 c (b.getD 1 0) (b.getD 2 0)) then 3 else V3 b c
theorem j2_is (b : List Int) (hb : Bys b) (c : Int) (hc : 0 ≤ c ∧ c < 256) (f : Bool) (hf : f = true → 2 < b.length) : ∃ r, Ev (fun k => redpenref01_Next.j2 k b c f) (r, V2 b c f) := by
  have h1 := bys_D hb 1
  have h2 := bys_D hb 2
  have e1 : rd b 1 = b.getD 1 0 := rfl
  have e2 : rd b 2 = b.getD 2 0 := rfl
  unfold V2
  obtain ⟨r3', hj3⟩ := j3_is b hb c hc
  cases f with
  | false =>
    refine ⟨r3', Ev.up ?_⟩
    simp only [redpenref01_Next.j2, Bool.false_eq_true, if_false, false_and]
    exact hj3
  | true =>
    have hl := hf rfl
    unfold r3
    generalize hV : V3 b c = v3 at *
    generalize b.getD 1 0 = x at *
    generalize b.getD 2 0 = y at *
    have hsum : ∀ k, redpenref01_Next.j2 (k + 1) b c true = if (c - 224) * 4096 + (x - 128) * 64 + y - 128 ≥ 2048 then (if (c - 224) * 4096 + (x - 128) * 64 + y - 128 < 55296 then some ((c - 224) * 4096 + (x - 128) * 64 + y - 128, 3) else if (c - 224) * 4096 + (x - 128) * 64 + y - 128 > 57343 then some ((c - 224) * 4096 + (x - 128) * 64 + y - 128, 3) else redpenref01_Next.j3 k b c) else redpenref01_Next.j3 k b c := by
      intro k
      simp only [redpenref01_Next.j2, if_pos, if_pos (show (1 : Int) < (b.length : Int) by omega), if_pos (show (2 : Int) < (b.length : Int) by omega), e1, e2]
      rw [w32 (c - 224) (by omega) (by omega), w32 ((c - 224) * 4096) (by omega) (by omega), w32 x (by omega) (by omega), w32 (x - 128) (by omega) (by omega), w32 ((x - 128) * 64) (by omega) (by omega), w32 _ (show _ ≤ (c - 224) * 4096 + (x - 128) * 64 by omega) (by omega), w32 y (by omega) (by omega), w32 _ (show _ ≤ (c - 224) * 4096 + (x - 128) * 64 + y by omega) (by omega), w32 _ (show _ ≤ (c - 224) * 4096 + (x - 128) * 64 + y - 128 by omega) (by omega)]
    by_cases ha : 2048 ≤ (c - 224) * 4096 + (x - 128) * 64 + y - 128
    · by_cases hd : (c - 224) * 4096 + (x - 128) * 64 + y - 128 < 55296
      · refine ⟨(c - 224) * 4096 + (x - 128) * 64 + y - 128, Ev.up ?_⟩
        simp only [hsum, if_pos (show (c - 224) * 4096 + (x - 128) * 64 + y - 128 ≥ 2048 from ha), if_pos hd]
        rw [if_pos ⟨trivial, by omega, .inl (by omega)⟩]
        exact Ev.some_ _
      · by_cases he : (c - 224) * 4096 + (x - 128) * 64 + y - 128 > 57343
        · refine ⟨(c - 224) * 4096 + (x - 128) * 64 + y - 128, Ev.up ?_⟩
          simp only [hsum, if_pos (show (c - 224) * 4096 + (x - 128) * 64 + y - 128 ≥ 2048 from ha), if_neg hd, if_pos he]
          rw [if_pos ⟨trivial, by omega, .inr (by omega)⟩]
          exact Ev.some_ _
        · refine ⟨r3', Ev.up ?_⟩
          simp only [hsum, if_pos (show (c - 224) * 4096 + (x - 128) * 64 + y - 128 ≥ 2048 from ha), if_neg hd, if_neg he]
          rw [if_neg (by omega)]
          exact hj3
    · refine ⟨r3', Ev.up ?_⟩
      simp only [hsum, if_neg (show ¬ (c - 224) * 4096 + (x - 128) * 64 + y - 128 ≥ 2048 from ha)]
      rw [if_neg (by omega)]
      exact hj3
def F1 (b : List Int) (c : Int) : Bool := decide (224 ≤ c) && decide (c < 240) && tl b 1 && tl b 2
theorem j1_is (b : List Int) (hb : Bys b) (c : Int) (hc : 0 ≤ c ∧ c < 256) : ∃ r, Ev (fun k => redpenref01_Next.j1 k b c) (r, V2 b c (F1 b c)) := by
  obtain ⟨r, h⟩ := j2_is b hb c hc (F1 b c) (fun e => by
    unfold F1 at e
    simp only [Bool.and_eq_true] at e
    exact (tl_lt e.2).1)
  refine ⟨r, Ev.up ?_⟩
  refine Ev.congr (fun k => ?_) h
  simp only [redpenref01_Next.j1, tail_1, tail_2, Option.bind_some]
  unfold F1
  by_cases ha : c ≥ 224
  · rw [if_pos ha, decide_eq_true (show 224 ≤ c from ha)]
    by_cases hd : c < 240
    · rw [if_pos hd, decide_eq_true hd]
      cases tl b 1 with
      | false => rfl
      | true => rfl
    · rw [if_neg hd, decide_eq_false hd]; rfl
  · rw [if_neg ha, decide_eq_false (show ¬ 224 ≤ c from ha)]; rfl
def F0 (b : List Int) (c : Int) : Bool := decide (192 ≤ c) && decide (c < 224) && tl b 1
def V0 (b : List Int) (c : Int) : Int := if F0 b c = true ∧ 128 ≤ (c - 192) * 64 + b.getD 1 0 - 128 then 2 else V2 b c (F1 b c)
theorem j0_is (b : List Int) (hb : Bys b) (c : Int) (hc : 0 ≤ c ∧ c < 256) : ∃ r, Ev (fun k => redpenref01_Next.j0 k b c (F0 b c)) (r, V0 b c) := by
  have h1 := bys_D hb 1
  have e1 : rd b 1 = b.getD 1 0 := rfl
  obtain ⟨r', hj1⟩ := j1_is b hb c hc
  unfold V0
  cases hF : F0 b c with
  | false =>
    refine ⟨r', Ev.up ?_⟩
    simp only [redpenref01_Next.j0, Bool.false_eq_true, if_false, false_and]
    exact hj1
  | true =>
    have hl : 1 < b.length := by
      unfold F0 at hF
      simp only [Bool.and_eq_true] at hF
      exact (tl_lt hF.2).1
    generalize hV : V2 b c (F1 b c) = v2 at *
    generalize b.getD 1 0 = x at *
    have hsum : ∀ k, redpenref01_Next.j0 (k + 1) b c true = if (c - 192) * 64 + x - 128 ≥ 128 then some ((c - 192) * 64 + x - 128, 2) else redpenref01_Next.j1 k b c := by
      intro k
      simp only [redpenref01_Next.j0, if_pos, if_pos (show (1 : Int) < (b.length : Int) by omega), e1]
      rw [w32 (c - 192) (by omega) (by omega), w32 ((c - 192) * 64) (by omega) (by omega), w32 x (by omega) (by omega), w32 _ (show _ ≤ (c - 192) * 64 + x by omega) (by omega), w32 _ (show _ ≤ (c - 192) * 64 + x - 128 by omega) (by omega)]
    by_cases ha : 128 ≤ (c - 192) * 64 + x - 128
    · refine ⟨(c - 192) * 64 + x - 128, Ev.up ?_⟩
      simp only [hsum, if_pos (show (c - 192) * 64 + x - 128 ≥ 128 from ha)]
      rw [if_pos ⟨trivial, ha⟩]
      exact Ev.some_ _
    · refine ⟨r', Ev.up ?_⟩
      simp only [hsum, if_neg (show ¬ (c - 192) * 64 + x - 128 ≥ 128 from ha)]
      rw [if_neg (fun e => ha e.2)]
      exact hj1
theorem V0_wid (c : Int) (r : List Int) (hb : Bys (c :: r)) (hc : 128 ≤ c) : V0 (c :: r) c = (wid (c :: r) : Int) := by
  have h0 := bys_D hb 0
  have h1 := bys_D hb 1
  have h2 := bys_D hb 2
  have h3 := bys_D hb 3
  rw [wid_cons, if_neg (by omega)]
  unfold V0 V2 V3 F0 F1 tl tailB
  rcases r with _ | ⟨x, _ | ⟨y, _ | ⟨z, r⟩⟩⟩
  · simp [w2, w3, w4]
  · simp only [List.length_cons, List.length_nil, List.getD_cons_zero, List.getD_cons_succ, List.getD_nil, w2, w3, w4, tailB] at *
    simp
    repeat' split
    all_goals first | rfl | omega
  · simp only [List.length_cons, List.length_nil, List.getD_cons_zero, List.getD_cons_succ, List.getD_nil, w2, w3, w4, tailB, r3, r4] at *
    simp
    repeat' split
    all_goals first | rfl | omega
  · simp only [List.length_cons, List.getD_cons_zero, List.getD_cons_succ, List.getD_nil, w2, w3, w4, tailB, r3, r4] at *
    have l1 : 1 < r.length + 1 + 1 + 1 + 1 := by omega
    have l2 : 2 < r.length + 1 + 1 + 1 + 1 := by omega
    have l3 : 3 < r.length + 1 + 1 + 1 + 1 := by omega
    simp only [decide_eq_true l1, decide_eq_true l2, decide_eq_true l3, Bool.true_and, Bool.and_eq_true, decide_eq_true_eq]
    repeat' split
    all_goals first | rfl | omega
theorem next_is (b : List Int) (hb : Bys b) : ∃ r, Ev (fun k => redpenref01_Next.f k b) (r, (wid b : Int)) := by
  unfold redpenref01_Next.f
  cases b with
  | nil =>
    refine ⟨-1, ?_⟩
    simp only [List.length_nil]
    exact Ev.some_ _
  | cons c r =>
    have hc := bys_D hb 0
    have e0 : rd (c :: r) 0 = c := rfl
    have hc0 : 0 ≤ c ∧ c < 256 := hc
    simp only [e0, w32 c (by omega) (by omega), if_neg (show ¬ (((c :: r).length : Nat) : Int) = 0 by rw [List.length_cons]; omega), if_pos (show (0 : Int) < (((c :: r).length : Nat) : Int) by rw [List.length_cons]; omega)]
    by_cases h : c < 128
    · refine ⟨c, ?_⟩
      simp only [if_pos h]
      rw [wid_cons, if_pos h]
      exact Ev.some_ _
    · simp only [if_neg h]
      obtain ⟨v, hv⟩ := j0_is (c :: r) hb c hc0
      rw [V0_wid c r hb (by omega)] at hv
      refine ⟨v, Ev.congr (fun k => ?_) hv⟩
      rw [tail_1, Option.bind_some]
      unfold F0
      by_cases ha : c ≥ 192
      · rw [if_pos ha, decide_eq_true (show 192 ≤ c from ha)]
        by_cases hd : c < 224
        · rw [if_pos hd, decide_eq_true hd]; rfl
        · rw [if_neg hd, decide_eq_false hd]; rfl
      · rw [if_neg ha, decide_eq_false (show ¬ 192 ≤ c from ha)]; rfl
theorem rnext_any (b : List Int) (hb : Bys b) (A : Option Addr) (c : Nat) (w : World) (hC : Kd.C (Kd.int .u8) w A b.length b) (hc : b.length ≤ c) :
    Calls Tryd.prog 32 #[.slice A b.length c] w fun e w' => (∃ r : Int, e = .returned (.tuple #[.int .i32 r, .int .i64 (wid b : Nat)])) ∧ ∃ n, w' = w.drewN n := by
  obtain ⟨r, h⟩ := next_is b hb
  obtain ⟨k, hk⟩ := h.rounds
  refine (redpenref01_Next.calls k A c b r _ w hC hc hk).mono ?_
  rintro e w' ⟨he, h2⟩
  exact ⟨⟨r, he⟩, h2.out⟩
end Go.Proofs.YtkicpaodcmepmaaDoor.T

set_option linter.unusedVariables false
set_option linter.unusedSimpArgs false
namespace Go.Proofs.YtkicpaodcmepmaaDoor.T
open Go.RowKit Go.Proofs.YtkicpaodcmepmaaDoorW.PrintWords Go.Proofs.YtkicpaodcmepmaaDoorW.PrintMore Go.Proofs.YtkicpaodcmepmaaDoor.L Go.Proofs.YtkicpaodcmepmaaDoor.S Go.Proofs.YtkicpaodcmepmaaDoor.Tex

theorem ix_atR (s : ByteArray) (p : Nat) (h : p < s.size) : ∀ w : World, (Instr.index 9 (.string s) (.int .i64 (p : Int))).run Tryd.prog w = .ok (.int .u8 ((bytesOf s).getD p 0)) w := by
  intro w
  have h1 : (p : Int) < (s.size : Int) := by omega
  rw [← bt_getR s p h]
  have hb := bt_at s (p : Int)
  go_simp
  exact hb h
theorem fnd_ten : ∀ l : List Int, fnd [10] l = if l.findIdx (· == 10) < l.length then some (l.findIdx (· == 10)) else none := by
  intro l
  induction l with
  | nil => rfl
  | cons x l ih =>
    unfold fnd
    rw [List.findIdx_cons, List.length_cons]
    by_cases h : x = 10
    · subst h
      rw [if_pos (by simp [List.isPrefixOf])]
      simp
    · have h1 : ((10 : Int) == x) = false := by rw [beq_eq_false_iff_ne]; exact fun e => h e.symm
      have h2 : (x == 10) = false := by rw [beq_eq_false_iff_ne]; exact h
      rw [if_neg (by simp [List.isPrefixOf, h1]), ih, h2]
      simp only [cond_false]
      by_cases h3 : l.findIdx (· == 10) < l.length
      · rw [if_pos h3, if_pos (by omega)]; rfl
      · rw [if_neg h3, if_neg (by omega)]; rfl
theorem untl_line (b : List Int) (p : Nat) (hp : p ≤ b.length) : untl [10] b p = lineE b p := by
  unfold untl lineE
  rw [fnd_ten, List.length_drop]
  simp only []
  by_cases h : (b.drop p).findIdx (· == 10) < b.length - p
  · rw [if_pos h, if_pos h]; rfl
  · rw [if_neg h, if_neg h]
/-- What one step comes to. -/
def RT (b : List Int) (p : Nat) (L : List Int) (w0 : World) (v : Value) (e : Ending) (w' : World) : Prop := e = .returned (.int .i64 ((Tex.step b p L).1 : Nat)) ∧ Rl w0 w' v (Tex.step b p L).2
theorem RT.mk {b : List Int} {p : Nat} {L : List Int} {w0 w' : World} {v : Value} {q : Nat} {L' : List Int} (h : Tex.step b p L = (q, L')) (hr : Rl w0 w' v L') : RT b p L w0 v (.returned (.int .i64 (q : Nat))) w' := by
  unfold RT
  rw [h]
  exact ⟨rfl, hr⟩

set_option maxRecDepth 100000 in
set_option maxHeartbeats 4000000 in
theorem rtex_pct (s : ByteArray) (L : List Int) (p : Nat) (w0 W : World) (v : Value) (h : Rl w0 W v L) (hL : L.length = s.size) (hp : p < s.size) (hs : s.size ≤ 65536) (hc : (bytesOf s).getD p 0 = 37) :
    Calls Tryd.prog 22 #[v, .string s, .int .i64 p] W (RT (bytesOf s) p L w0 v) := by
  have hl := bytesOf_length s
  have HH := Lib.hid h
  have hix := ix_atR s p hp
  rw [hc] at hix
  have HSt := Lib.hid (show Tex.step (bytesOf s) p L = (lineE (bytesOf s) p, setL L 3 (p : Int) (lineE (bytesOf s) p : Int)) from by unfold Tex.step; rw [if_pos hc])
  have hle := lineE_le (bytesOf s) p (by omega)
  have hun := untl_line (bytesOf s) p (by omega)
  clear h hc
  go_enter Tryd.func22, Tryd.ntmps22
  go_wp2_with fail
  refine (rbehind_any s ⟨#[10]⟩ p _ (by omega) (by omega) (by decide) (by decide)).mono ?_
  rintro e w1 ⟨rfl, n1, rfl⟩
  rw [show bytesOf ⟨#[10]⟩ = [10] from rfl, hun]
  generalize lineE (bytesOf s) p = q at *
  go_wp2_with fail
  refine (rput_any (HH.out.drewN n1) (by omega) 3 p q (by omega)).mono ?_
  rintro e w2 ⟨rfl, hr⟩
  have HR := Lib.hid hr
  clear hr
  go_wp2_with fail
  go_ret
  exact RT.mk HSt.out HR.out

set_option maxRecDepth 100000 in
set_option maxHeartbeats 4000000 in
theorem rtex_mark (s : ByteArray) (L : List Int) (p : Nat) (w0 W : World) (v : Value) (h : Rl w0 W v L) (hL : L.length = s.size) (hp : p < s.size) (hs : s.size ≤ 65536) (hc : isMk ((bytesOf s).getD p 0) = true) :
    Calls Tryd.prog 22 #[v, .string s, .int .i64 p] W (RT (bytesOf s) p L w0 v) := by
  have hl := bytesOf_length s
  have HH := Lib.hid h
  have hix := ix_atR s p hp
  have HSt := Lib.hid (step_mark (bytesOf s) p L hc)
  have hx : (bytesOf s).getD p 0 = 123 ∨ (bytesOf s).getD p 0 = 125 ∨ (bytesOf s).getD p 0 = 126 ∨ (bytesOf s).getD p 0 = 38 ∨ (bytesOf s).getD p 0 = 35 ∨ (bytesOf s).getD p 0 = 94 ∨ (bytesOf s).getD p 0 = 95 := by
    unfold isMk at hc
    simp only [Bool.or_eq_true, beq_iff_eq] at hc
    exact hc
  clear h hc
  generalize (bytesOf s).getD p 0 = x at *
  rcases hx with rfl | rfl | rfl | rfl | rfl | rfl | rfl
  all_goals
    go_enter Tryd.func22, Tryd.ntmps22
    go_wp2_with fail
    refine (rput_any HH.out (by omega) 2 p (p + 1) (by omega)).mono ?_
    rintro e w2 ⟨rfl, hr⟩
    have HR := Lib.hid hr
    clear hr
    go_wp2_with fail
    go_ret
    exact RT.mk HSt.out HR.out

set_option maxRecDepth 100000 in
set_option maxHeartbeats 4000000 in
theorem rtex_plain (s : ByteArray) (L : List Int) (p : Nat) (w0 W : World) (v : Value) (h : Rl w0 W v L) (hL : L.length = s.size) (hp : p < s.size) (hs : s.size ≤ 65536) (hc : plainB ((bytesOf s).getD p 0) = true) :
    Calls Tryd.prog 22 #[v, .string s, .int .i64 p] W (RT (bytesOf s) p L w0 v) := by
  have hl := bytesOf_length s
  have HH := Lib.hid h
  have hix := ix_atR s p hp
  have HSt := Lib.hid (step_plain (bytesOf s) p L hc)
  generalize (bytesOf s).getD p 0 = x at *
  unfold plainB isMk at hc
  simp only [Bool.and_eq_true, bne_iff_ne, Bool.not_eq_true', Bool.or_eq_false_iff] at hc
  obtain ⟨⟨⟨h37, h92⟩, h36⟩, m1, m2, m3, m4, m5, m6, m7⟩ := hc
  have k1 : (x == 37) = false := by rw [beq_eq_false_iff_ne]; exact h37
  have k2 : (x == 92) = false := by rw [beq_eq_false_iff_ne]; exact h92
  have k3 : (x == 36) = false := by rw [beq_eq_false_iff_ne]; exact h36
  clear h h37 h92 h36
  go_enter Tryd.func22, Tryd.ntmps22
  go_wp2_with fail
  go_ret
  exact RT.mk HSt.out HH.out
end Go.Proofs.YtkicpaodcmepmaaDoor.T

set_option linter.unusedVariables false
set_option linter.unusedSimpArgs false
namespace Go.Proofs.YtkicpaodcmepmaaDoor.T
open Go.RowKit Go.Proofs.YtkicpaodcmepmaaDoorW.PrintWords Go.Proofs.YtkicpaodcmepmaaDoorW.PrintMore Go.Proofs.YtkicpaodcmepmaaDoor.L Go.Proofs.YtkicpaodcmepmaaDoor.S Go.Proofs.YtkicpaodcmepmaaDoor.Tex

theorem ltrAt_in {b : List Int} {k : Nat} (h : ltrAt b k = true) : k < b.length ∧ ltr (b.getD k 0) = true := by
  unfold ltrAt at h
  simp only [Bool.and_eq_true, decide_eq_true_eq] at h
  exact h
theorem wrdN_yes {b : List Int} {n k : Nat} (h : ltrAt b k = true) : wrdN b (n + 1) k = wrdN b n (k + 1) := by
  conv => lhs; unfold wrdN
  rw [if_pos (ltrAt_in h)]
theorem wrdN_no {b : List Int} {n k : Nat} (h : ltrAt b k = false) : wrdN b n k = k := by
  cases n with
  | zero => rfl
  | succ n =>
    unfold wrdN
    rw [if_neg]
    rintro ⟨h1, h2⟩
    unfold ltrAt at h
    rw [decide_eq_true h1, h2] at h
    cases h
theorem bytesOf_extR (s : ByteArray) (a c : Nat) : bytesOf (s.extract a c) = ((bytesOf s).drop a).take (c - a) := by
  unfold bytesOf
  rw [ByteArray.data_extract, Array.toList_extract, List.extract_eq_take_drop, ← List.map_drop, ← List.map_take]
theorem bytesOf_dropR (s : ByteArray) (a : Nat) : bytesOf (s.extract a s.size) = (bytesOf s).drop a := by
  rw [bytesOf_extR, List.take_of_length_le (by rw [List.length_drop, bytesOf_length]; exact Nat.le_refl _)]
theorem size_extR (s : ByteArray) (a c : Nat) : (s.extract a c).size ≤ s.size := by
  rw [← bytesOf_length (s.extract a c), bytesOf_extR, List.length_take, List.length_drop, bytesOf_length]
  omega
theorem rnext_str (X : ByteArray) (A : Option Addr) (c : Nat) (w : World) (hC : Kd.C (Kd.int .u8) w A X.size (bytesOf X)) (hc : X.size ≤ c) :
    Calls Tryd.prog 32 #[.slice A X.size c] w fun e w' => (∃ r : Int, e = .returned (.tuple #[.int .i32 r, .int .i64 (wid (bytesOf X) : Nat)])) ∧ ∃ n, w' = w.drewN n := by
  have hl := bytesOf_length X
  rw [← hl] at hC hc ⊢
  exact rnext_any (bytesOf X) (Bys.of X) A c w hC hc
theorem pfx_at (b : List Int) (k : Nat) (y : Int) : [y].isPrefixOf (b.drop k) = (decide (k < b.length) && (b.getD k 0 == y)) := by
  rcases Nat.lt_or_ge k b.length with h | h
  · rw [drop_atR b k h, decide_eq_true h, Bool.true_and, List.isPrefixOf_cons_cons]
    rw [Bool.eq_iff_iff]
    simp only [Bool.and_eq_true, beq_iff_eq]
    constructor
    · intro h; exact h.1.symm
    · intro h; exact ⟨h.symm, by cases b.drop (k + 1) <;> rfl⟩
  · rw [List.drop_eq_nil_of_le h, decide_eq_false (by omega), Bool.false_and]
    rfl
theorem Rl.bytes {w0 W : World} {v : Value} {L : List Int} (h : Rl w0 W v L) (s : ByteArray) : Rl w0 (Lib.bytesWorld W 5 s) v L := h.kept (bytes_below (Below.refl _ _) (Nat.le_refl _) _ _)

set_option maxRecDepth 100000 in
set_option maxHeartbeats 8000000 in
theorem rtex_sign (s : ByteArray) (L : List Int) (p : Nat) (w0 W : World) (v : Value) (h : Rl w0 W v L) (hL : L.length = s.size) (hp : p < s.size) (hs : s.size ≤ 65536) (hc : (bytesOf s).getD p 0 = 92) (hw : wrd (bytesOf s) (p + 1) = p + 1) :
    Calls Tryd.prog 22 #[v, .string s, .int .i64 p] W (RT (bytesOf s) p L w0 v) := by
  have hl := bytesOf_length s
  have HH := Lib.hid h
  have hix := ix_atR s p hp
  rw [hc] at hix
  have HSt := Lib.hid (show Tex.step (bytesOf s) p L = sgn (bytesOf s) p L from by rw [step_slash (bytesOf s) p L hc]; unfold cmd; rw [if_pos hw])
  have HWd := Lib.hid hw
  clear h hc hw
  go_enter Tryd.func22, Tryd.ntmps22
  go_upto_block 3 with fail
  clear hix
  go_wp2_with fail
  go_loopg [11] s.size (fun gn kv wr => ∃ k : Nat, kv = .int .i64 k ∧ p + 1 ≤ k ∧ k ≤ s.size ∧ Hid (Rl w0 wr v L ∧ wrdN (bytesOf s) gn k = wrd (bytesOf s) (p + 1) ∧ s.size ≤ k + gn))
  case atStart => exact ⟨p + 1, by go_num, Nat.le_refl _, by omega, HH.out, (by unfold wrd; rw [hl]), by omega⟩
  case round =>
  obtain ⟨k, rfl, hk1, hk2, HQ⟩ := hrel
  clear HH
  have HWr := Lib.hid HQ.out.1
  have HN := Lib.hid HQ.out.2
  clear HQ
  go_wp2_with fail
  refine (rletter_any s k _).mono ?_
  rintro e w1 ⟨rfl, n1, rfl⟩
  have HW1 := Lib.hid (HWr.out.drewN n1)
  clear HWr
  generalize wr.drewN n1 = w1 at *
  cases hlk : ltrAt (bytesOf s) k with
  | true =>
    exfalso
    have h1 := (ltrAt_in hlk).1
    obtain ⟨m, rfl⟩ : ∃ m, gk = m + 1 := ⟨gk - 1, by have := HN.out.2; omega⟩
    have h2 := HN.out.1
    rw [wrdN_yes hlk, HWd.out] at h2
    have h3 := (wrdN_le (bytesOf s) m (k + 1) (by omega)).1
    omega
  | false =>
    have hkp : k = p + 1 := by have := HN.out.1; rw [wrdN_no hlk, HWd.out] at this; exact this
    have h34 : ((k : Int) == (p : Int) + 1) = true := by rw [beq_iff_eq]; omega
    have HK := Lib.hid hkp
    have HS2 := Lib.hid (show sgn (bytesOf s) p L = if k = s.size then (k, setL L 2 (p : Int) (k : Int)) else if (bytesOf s).getD k 0 = 40 then (untl [92, 41] (bytesOf s) (k + 1), setL L 4 (p : Int) (untl [92, 41] (bytesOf s) (k + 1) : Int)) else if (bytesOf s).getD k 0 = 91 then (untl [92, 93] (bytesOf s) (k + 1), setL L 4 (p : Int) (untl [92, 93] (bytesOf s) (k + 1) : Int)) else (k + wid ((bytesOf s).drop k), setL L 2 (p : Int) ((k + wid ((bytesOf s).drop k) : Nat) : Int)) from by
      subst hkp
      unfold sgn
      rw [hl])
    clear hlk hkp HN
    go_wp2_with fail
    refine (rat_any s ⟨#[40]⟩ k _ (by omega) (by omega) (by decide) (by decide)).mono ?_
    rintro e w2 ⟨rfl, n2, rfl⟩
    rw [show bytesOf ⟨#[40]⟩ = [40] from rfl, pfx_at]
    have HW2 := Lib.hid (HW1.out.drewN n2)
    clear HW1
    generalize w1.drewN n2 = w2 at *
    cases h40 : (decide (k < (bytesOf s).length) && ((bytesOf s).getD k 0 == 40)) with
    | true =>
      simp only [Bool.and_eq_true, decide_eq_true_eq, beq_iff_eq] at h40
      have HS3 := Lib.hid (show sgn (bytesOf s) p L = (untl [92, 41] (bytesOf s) (k + 1), setL L 4 (p : Int) (untl [92, 41] (bytesOf s) (k + 1) : Int)) from by rw [HS2.out, if_neg (by omega), if_pos h40.2])
      have hle := untl_le [92, 41] (bytesOf s) (k + 1) (by simp) (by omega)
      clear HS2 h40
      go_wp2_with fail
      refine (rbehind_any s ⟨#[92, 41]⟩ (k + 1) _ (by omega) (by omega) (by decide) (by decide)).mono ?_
      rintro e w3 ⟨rfl, n3, rfl⟩
      rw [show bytesOf ⟨#[92, 41]⟩ = [92, 41] from rfl]
      generalize untl [92, 41] (bytesOf s) (k + 1) = q at *
      go_wp2_with fail
      refine (rput_any (HW2.out.drewN n3) (by omega) 4 p q (by omega)).mono ?_
      rintro e w4 ⟨rfl, hr⟩
      have HR := Lib.hid hr
      clear hr HW2
      go_wp2_with fail
      go_ret
      exact RT.mk (HSt.out.trans HS3.out) HR.out
    | false =>
      have HN40 := Lib.hid h40
      clear h40
      go_wp2_with fail
      refine (rat_any s ⟨#[91]⟩ k _ (by omega) (by omega) (by decide) (by decide)).mono ?_
      rintro e w3 ⟨rfl, n3, rfl⟩
      rw [show bytesOf ⟨#[91]⟩ = [91] from rfl, pfx_at]
      have HW3 := Lib.hid (HW2.out.drewN n3)
      clear HW2
      generalize w2.drewN n3 = w3 at *
      cases h91 : (decide (k < (bytesOf s).length) && ((bytesOf s).getD k 0 == 91)) with
      | true =>
        simp only [Bool.and_eq_true, decide_eq_true_eq, beq_iff_eq] at h91
        have HS3 := Lib.hid (show sgn (bytesOf s) p L = (untl [92, 93] (bytesOf s) (k + 1), setL L 4 (p : Int) (untl [92, 93] (bytesOf s) (k + 1) : Int)) from by rw [HS2.out, if_neg (by omega), if_neg (by omega), if_pos h91.2])
        have hle := untl_le [92, 93] (bytesOf s) (k + 1) (by simp) (by omega)
        clear HS2 h91
        go_wp2_with fail
        refine (rbehind_any s ⟨#[92, 93]⟩ (k + 1) _ (by omega) (by omega) (by decide) (by decide)).mono ?_
        rintro e w4 ⟨rfl, n4, rfl⟩
        rw [show bytesOf ⟨#[92, 93]⟩ = [92, 93] from rfl]
        generalize untl [92, 93] (bytesOf s) (k + 1) = q at *
        go_wp2_with fail
        refine (rput_any (HW3.out.drewN n4) (by omega) 4 p q (by omega)).mono ?_
        rintro e w5 ⟨rfl, hr⟩
        have HR := Lib.hid hr
        clear hr HW3
        go_wp2_with fail
        go_ret
        exact RT.mk (HSt.out.trans HS3.out) HR.out
      | false =>
        have HS3 := Lib.hid (show sgn (bytesOf s) p L = (k + wid ((bytesOf s).drop k), setL L 2 (p : Int) ((k + wid ((bytesOf s).drop k) : Nat) : Int)) from by
          rw [HS2.out]
          by_cases hks : k = s.size
          · rw [if_pos hks, List.drop_eq_nil_of_le (by omega)]; rfl
          · have h1 := HN40.out
            rw [decide_eq_true (by omega), Bool.true_and, beq_eq_false_iff_ne] at h1
            rw [decide_eq_true (by omega), Bool.true_and, beq_eq_false_iff_ne] at h91
            rw [if_neg hks, if_neg h1, if_neg h91])
        have hwd := (wid_le ((bytesOf s).drop k)).1
        rw [List.length_drop, hl] at hwd
        obtain ⟨X, hX⟩ : ∃ X, s.extract k s.size = X := ⟨_, rfl⟩
        have HXb := Lib.hid (show bytesOf X = (bytesOf s).drop k from by rw [← hX]; exact bytesOf_dropR s k)
        have hXs : X.size ≤ 65536 := by have := size_extR s k s.size; rw [hX] at this; omega
        have kc := conv_run X
        have HCv := Lib.hid (conv_C w3 X (by omega))
        clear HS2 h91 HN40
        go_wp2_with fail
        refine (rnext_str X _ _ _ HCv.out (grownCap_ge _ _ _ _)).mono ?_
        rintro e w4 ⟨⟨r, rfl⟩, n4, rfl⟩
        have HW4 := Lib.hid ((HW3.out.bytes X).drewN n4)
        clear HW3 HCv kc
        generalize (Lib.bytesWorld w3 5 X).drewN n4 = w4 at *
        rw [HXb.out]
        generalize wid ((bytesOf s).drop k) = n at *
        obtain ⟨q, hq⟩ : ∃ q : Nat, (k : Int) + (n : Int) = (q : Int) := ⟨k + n, by omega⟩
        have hq2 : q ≤ 65536 := by omega
        have HQ := Lib.hid (show k + n = q from by omega)
        go_wp2_with fail
        refine (rput_any HW4.out (by omega) 2 p q (by omega)).mono ?_
        rintro e w5 ⟨rfl, hr⟩
        have HR := Lib.hid hr
        clear hr HW4
        go_wp2_with fail
        go_ret
        have h3 := HS3.out
        rw [HQ.out] at h3
        exact RT.mk (HSt.out.trans h3) HR.out
end Go.Proofs.YtkicpaodcmepmaaDoor.T

set_option linter.unusedVariables false
set_option linter.unusedSimpArgs false
namespace Go.Proofs.YtkicpaodcmepmaaDoor.T
open Go.RowKit Go.Proofs.YtkicpaodcmepmaaDoorW.PrintWords Go.Proofs.YtkicpaodcmepmaaDoorW.PrintMore Go.Proofs.YtkicpaodcmepmaaDoor.L Go.Proofs.YtkicpaodcmepmaaDoor.S Go.Proofs.YtkicpaodcmepmaaDoor.Tex

theorem sub_get (b : List Int) (T k i : Nat) (hT : T ≤ b.length) (hi : i < ((b.take T).drop k).length) : ((b.take T).drop k)[i] = b.getD (k + i) 0 := by
  have h2 : k + i < b.length := by
    rw [List.length_drop, List.length_take] at hi
    omega
  rw [List.getElem_drop, List.getElem_take, List.getD_eq_getElem?_getD, List.getElem?_eq_getElem h2]
  rfl
theorem verbE_hit (b : List Int) (k j : Nat) (hk : k < b.length) (h1 : k + 1 ≤ j) (h2 : j < lineE b k) (hb : b.getD j 0 = b.getD k 0) (hno : ∀ i, k + 1 ≤ i → i < j → b.getD i 0 ≠ b.getD k 0) : verbE b k = j + 1 := by
  have hT := lineE_le b k (by omega)
  unfold verbE
  simp only []
  have hlen : ((b.take (lineE b k)).drop (k + 1)).length = lineE b k - (k + 1) := by rw [List.length_drop, List.length_take]; omega
  have hf : ((b.take (lineE b k)).drop (k + 1)).findIdx (· == b.getD k 0) = j - (k + 1) := by
    rw [List.findIdx_eq (by omega)]
    refine ⟨?_, fun i hi => ?_⟩
    · rw [sub_get b _ _ _ hT.2, show k + 1 + (j - (k + 1)) = j by omega, hb]; exact beq_self_eq_true _
    · rw [sub_get b _ _ _ hT.2, beq_eq_false_iff_ne]
      exact hno _ (by omega) (by omega)
  rw [hf, if_pos (by omega)]
  omega
theorem verbE_no (b : List Int) (k : Nat) (hk : k < b.length) (hno : ∀ i, k + 1 ≤ i → i < lineE b k → b.getD i 0 ≠ b.getD k 0) : verbE b k = lineE b k := by
  have hT := lineE_le b k (by omega)
  unfold verbE
  simp only []
  have hlen : ((b.take (lineE b k)).drop (k + 1)).length = lineE b k - (k + 1) := by rw [List.length_drop, List.length_take]; omega
  have hf : ((b.take (lineE b k)).drop (k + 1)).findIdx (· == b.getD k 0) = ((b.take (lineE b k)).drop (k + 1)).length := by
    refine List.findIdx_eq_length_of_false (fun x hx => ?_)
    obtain ⟨i, hi, rfl⟩ := List.getElem_of_mem hx
    rw [sub_get b _ _ _ hT.2, beq_eq_false_iff_ne]
    exact hno _ (by omega) (by omega)
  rw [hf, hlen, if_neg (by omega)]
theorem nam_eq (s : ByteArray) (a k : Nat) : bytesOf (s.extract a k) = ((bytesOf s).take k).drop a := by
  rw [bytesOf_extR, List.drop_take]

set_option maxRecDepth 100000 in
set_option maxHeartbeats 8000000 in
theorem rtex_verb (s : ByteArray) (L : List Int) (p : Nat) (w0 W : World) (v : Value) (h : Rl w0 W v L) (hL : L.length = s.size) (hp : p < s.size) (hs : s.size ≤ 65536) (hc : (bytesOf s).getD p 0 = 92) (hw : wrd (bytesOf s) (p + 1) ≠ p + 1) (hv : ((bytesOf s).take (wrd (bytesOf s) (p + 1))).drop (p + 1) = nVerb) :
    Calls Tryd.prog 22 #[v, .string s, .int .i64 p] W (RT (bytesOf s) p L w0 v) := by
  have hl := bytesOf_length s
  have HH := Lib.hid h
  have hix := ix_atR s p hp
  rw [hc] at hix
  have HSt := Lib.hid (show Tex.step (bytesOf s) p L = verbS (bytesOf s) (wrd (bytesOf s) (p + 1)) (setL L 2 (p : Int) (wrd (bytesOf s) (p + 1) : Int)) from by rw [step_slash (bytesOf s) p L hc]; unfold cmd; rw [if_neg hw, hv]; rfl)
  have HWd := Lib.hid hw
  have HVn := Lib.hid hv
  clear h hc hw hv
  go_enter Tryd.func22, Tryd.ntmps22
  go_upto_block 3 with fail
  clear hix
  go_wp2_with fail
  go_loopg [11] s.size (fun gn kv wr => ∃ k : Nat, kv = .int .i64 k ∧ p + 1 ≤ k ∧ k ≤ s.size ∧ Hid (Rl w0 wr v L ∧ wrdN (bytesOf s) gn k = wrd (bytesOf s) (p + 1) ∧ s.size ≤ k + gn))
  case atStart => exact ⟨p + 1, by go_num, Nat.le_refl _, by omega, HH.out, (by unfold wrd; rw [hl]), by omega⟩
  case round =>
  obtain ⟨k, rfl, hk1, hk2, HQ⟩ := hrel
  clear HH
  have HWr := Lib.hid HQ.out.1
  have HN := Lib.hid HQ.out.2
  clear HQ
  go_wp2_with fail
  refine (rletter_any s k _).mono ?_
  rintro e w1 ⟨rfl, n1, rfl⟩
  have HW1 := Lib.hid (HWr.out.drewN n1)
  clear HWr
  generalize wr.drewN n1 = w1 at *
  cases hlk : ltrAt (bytesOf s) k with
  | true =>
    have h1 := (ltrAt_in hlk).1
    obtain ⟨m, rfl⟩ : ∃ m, gk = m + 1 := ⟨gk - 1, by have := HN.out.2; omega⟩
    have HN2 := Lib.hid (wrdN_yes hlk ▸ HN.out.1 : wrdN (bytesOf s) m (k + 1) = wrd (bytesOf s) (p + 1))
    have hgm : s.size ≤ k + 1 + m := by have := HN.out.2; omega
    clear hlk
    go_wp2_with fail
    go_roundg m
    case measure => omega
    case rel => exact ⟨k + 1, by go_num, by omega, by omega, HW1.out, HN2.out, by omega⟩
  | false =>
    have hkw : k = wrd (bytesOf s) (p + 1) := by have := HN.out.1; rw [wrdN_no hlk] at this; exact this
    have hkp : p + 1 < k := by have := HWd.out; omega
    obtain ⟨a, ha⟩ : ∃ a : Nat, (p : Int) + 1 = (a : Int) := ⟨p + 1, by omega⟩
    have hak : a ≤ k := by omega
    have hap : a = p + 1 := by omega
    have h34 : ((k : Int) == (a : Int)) = false := by rw [beq_eq_false_iff_ne]; omega
    have HS1 := Lib.hid (show Tex.step (bytesOf s) p L = verbS (bytesOf s) k (setL L 2 (p : Int) (k : Int)) from by rw [HSt.out, hkw])
    obtain ⟨Y, hY⟩ : ∃ Y, s.extract a k = Y := ⟨_, rfl⟩
    have hyv : (Y.toList == ([118, 101, 114, 98] : List UInt8)) = true := by
      rw [beq_iff_eq, toL_inj, ← hY, nam_eq, hkw, hap, HVn.out]
      rfl
    clear hlk hkw HN HWd HVn HSt hap
    go_upto_region 47 with fail
    clear hY ha h34 hak
    go_wp2_with fail
    refine (rput_any HW1.out (by omega) 2 p k (by omega)).mono ?_
    rintro e w2 ⟨rfl, hr⟩
    have HW2 := Lib.hid hr
    have hL1 : (setL L 2 (p : Int) (k : Int)).length = s.size := by rw [setL_length]; exact hL
    clear hr HW1
    generalize setL L 2 (p : Int) (k : Int) = L1 at *
    obtain ⟨B, hB⟩ : ∃ B : Bool, (decide (k < (bytesOf s).length) && ((bytesOf s).getD k 0 == 42)) = B := ⟨_, rfl⟩
    have HB := Lib.hid hB
    go_upto_if 156 with (go_at_call 30; refine (rat_any s ⟨#[42]⟩ k _ (by omega) (by omega) (by decide) (by decide)).mono ?_; rintro e w3 ⟨rfl, n3, rfl⟩; rw [show bytesOf ⟨#[42]⟩ = [42] from rfl, pfx_at, hB])
    have HW3 := Lib.hid (HW2.out.drewN n3)
    clear HW2 hB hyv
    generalize w2.drewN n3 = w3 at *
    go_cut [11] (fun u wx => ∃ (q : Nat) (L2 : List Int), u = .int .i64 q ∧ q ≤ s.size ∧ L2.length = s.size ∧ Hid (Rl w0 wx v L2 ∧ Tex.step (bytesOf s) p L = verbB (bytesOf s) q L2))
    case first =>
      cases B with
      | true =>
        have hb := HB.out
        simp only [Bool.and_eq_true, decide_eq_true_eq, beq_iff_eq] at hb
        have hk3 : k < s.size := by omega
        have HV := Lib.hid (show Tex.step (bytesOf s) p L = verbB (bytesOf s) (k + 1) (setL L1 2 (k : Int) ((k + 1 : Nat) : Int)) from by
          rw [HS1.out]
          unfold verbS
          rw [if_pos (by rw [getD_someR _ _ hb.1, hb.2])])
        clear hb
        go_wp2_with fail
        refine (rput_any HW3.out (by omega) 2 k (k + 1) (by omega)).mono ?_
        rintro e w4 ⟨rfl, hr⟩
        have HR := Lib.hid hr
        clear hr HW3
        go_wp2_with fail
        go_meet
        exact ⟨k + 1, _, by go_num, by omega, by rw [setL_length]; exact hL1, HR.out, HV.out⟩
      | false =>
        have HV := Lib.hid (show Tex.step (bytesOf s) p L = verbB (bytesOf s) k L1 from by
          rw [HS1.out]
          unfold verbS
          rw [if_neg]
          intro e
          have h1 := (List.getElem?_eq_some_iff.1 e).1
          have h2 := HB.out
          rw [decide_eq_true h1, Bool.true_and, beq_eq_false_iff_ne] at h2
          rw [getD_someR _ _ h1] at e
          exact h2 (Option.some.inj e))
        go_wp2_with fail
        go_meet
        exact ⟨k, L1, rfl, hk2, hL1, HW3.out, HV.out⟩
    case rest =>
    obtain ⟨q, L2, rfl, hq, hL2, HV⟩ := hcut
    clear HW3 HB HS1
    by_cases hq1 : q < s.size
    · have hd1 : decide ((s.size : Int) ≤ (q : Int)) = false := by simp; omega
      have hixq := ix_atR s q hq1
      by_cases hq10 : (bytesOf s).getD q 0 = 10
      · rw [hq10] at hixq
        have HE := Lib.hid (show verbB (bytesOf s) q L2 = (q, L2) from by unfold verbB; rw [if_pos (.inr hq10)])
        clear hq10
        go_wp2_with fail
        go_ret
        exact RT.mk (HV.out.2.trans HE.out) HV.out.1
      · have hb10 : ((bytesOf s).getD q 0 == 10) = false := by rw [beq_eq_false_iff_ne]; exact hq10
        have HE := Lib.hid (show verbB (bytesOf s) q L2 = (verbE (bytesOf s) q, setL L2 4 (q : Int) (verbE (bytesOf s) q : Int)) from by unfold verbB; rw [if_neg (by omega)])
        have hT := lineE_le (bytesOf s) q (by omega)
        have hT2 := lineE_lt (bytesOf s) q (by omega)
        have hun := untl_line (bytesOf s) q (by omega)
        have HHit := Lib.hid (verbE_hit (bytesOf s) q)
        have HNo := Lib.hid (verbE_no (bytesOf s) q (by omega))
        generalize hy : (bytesOf s).getD q 0 = y at *
        clear hq10
        go_upto_region 54 with fail
        clear hb10
        go_wp2_with fail
        refine (rbehind_any s ⟨#[10]⟩ q _ (by omega) (by omega) (by decide) (by decide)).mono ?_
        rintro e w5 ⟨rfl, n5, rfl⟩
        rw [show bytesOf ⟨#[10]⟩ = [10] from rfl, hun]
        have HW5 := Lib.hid (HV.out.1.drewN n5)
        have HV2 := Lib.hid (HV.out.2.trans HE.out)
        clear HV HE hun
        generalize wc.drewN n5 = w5 at *
        generalize hTT : lineE (bytesOf s) q = T at *
        go_upto_block 6 with fail
        go_wp2_with fail
        go_loopg [17, 18] T (fun gn ev jv wr => ∃ j : Nat, ev = .int .i64 T ∧ jv = .int .i64 j ∧ q + 1 ≤ j ∧ j ≤ T ∧ Hid (Rl w0 wr v L2 ∧ (∀ i, q + 1 ≤ i → i < j → (bytesOf s).getD i 0 ≠ y) ∧ T ≤ j + gn))
        case atStart => exact ⟨q + 1, rfl, by go_num, Nat.le_refl _, by omega, HW5.out, fun i h1 h2 => by omega, by omega⟩
        case round =>
        obtain ⟨j, rfl, rfl, hj1, hj2, HQ⟩ := hrel
        clear HW5
        have HWj := Lib.hid HQ.out.1
        have HNj := Lib.hid HQ.out.2
        clear HQ
        by_cases hjt : j < T
        · have hd2 : decide ((j : Int) < (T : Int)) = true := by simp; omega
          have hixj := ix_atR s j (by omega)
          by_cases hyj : (bytesOf s).getD j 0 = y
          · rw [hyj] at hixj
            have HX := Lib.hid (HHit.out j (by omega) hj1 hjt hyj HNj.out.1)
            clear hyj
            go_upto_region 59 with fail
            go_quiet (fail)
            have HWk := Lib.hid (HWj.out.drewN nq)
            clear HWj
            go_wp2_with fail
            refine (rput_any HWk.out (by omega) 4 q (j + 1) (by omega)).mono ?_
            rintro e w6 ⟨rfl, hr⟩
            have HR := Lib.hid hr
            clear hr HWk
            go_wp2_with fail
            go_ret
            have hh := HV2.out
            rw [HX.out] at hh
            exact RT.mk hh HR.out
          · have hbj : ((bytesOf s).getD j 0 == y) = false := by rw [beq_eq_false_iff_ne]; exact hyj
            have HX := Lib.hid (show ∀ i, q + 1 ≤ i → i < j + 1 → (bytesOf s).getD i 0 ≠ y from fun i h1 h2 => by
              by_cases e : i = j
              · rw [e]; exact hyj
              · exact HNj.out.1 i h1 (by omega))
            clear hyj
            generalize (bytesOf s).getD j 0 = z at *
            go_upto_region 59 with fail
            go_quiet (fail)
            have HWk := Lib.hid (HWj.out.drewN nq)
            clear HWj
            go_wp2_with fail
            go_roundg (T - (j + 1))
            case measure => have := HNj.out.2; omega
            case rel => exact ⟨j + 1, rfl, by go_num, by omega, by omega, HWk.out, HX.out, by omega⟩
        · have hd2 : decide ((j : Int) < (T : Int)) = false := by simp; omega
          have HX := Lib.hid (HNo.out (fun i h1 h2 => HNj.out.1 i h1 (by omega)))
          go_wp2_with fail
          refine (rput_any HWj.out (by omega) 4 q T (by omega)).mono ?_
          rintro e w6 ⟨rfl, hr⟩
          have HR := Lib.hid hr
          clear hr HWj
          go_wp2_with fail
          go_ret
          have hh := HV2.out
          rw [HX.out] at hh
          exact RT.mk hh HR.out
    · have hd1 : decide ((s.size : Int) ≤ (q : Int)) = true := by simp; omega
      have HE := Lib.hid (show verbB (bytesOf s) q L2 = (q, L2) from by unfold verbB; rw [if_pos (.inl (by omega))])
      go_wp2_with fail
      go_ret
      exact RT.mk (HV.out.2.trans HE.out) HV.out.1
end Go.Proofs.YtkicpaodcmepmaaDoor.T

set_option linter.unusedVariables false
set_option linter.unusedSimpArgs false
namespace Go.Proofs.YtkicpaodcmepmaaDoor.T
open Go.RowKit Go.Proofs.YtkicpaodcmepmaaDoorW.PrintWords Go.Proofs.YtkicpaodcmepmaaDoorW.PrintMore Go.Proofs.YtkicpaodcmepmaaDoor.L Go.Proofs.YtkicpaodcmepmaaDoor.S Go.Proofs.YtkicpaodcmepmaaDoor.Tex

theorem grpsN_go (b : List Int) (n e g : Nat) (h : grp b e = some g) : grpsN b (n + 1) e = grpsN b n g := by
  conv => lhs; unfold grpsN
  rw [h]
theorem grpsN_stop (b : List Int) (n e : Nat) (h : grp b e = none) : grpsN b n e = e := by
  cases n with
  | zero => rfl
  | succ n => unfold grpsN; rw [h]
theorem setL_swap (L : List Int) (a j q : Nat) (h1 : a ≤ j) (h2 : j ≤ q) : setL (setL L 4 (a : Int) (j : Int)) 2 (j : Int) (q : Int) = setL (setL L 2 (j : Int) (q : Int)) 4 (a : Int) (j : Int) := by
  refine List.ext_getElem? (fun i => ?_)
  rw [setL_get, setL_get, setL_get, setL_get]
  cases L[i]? with
  | none => rfl
  | some x =>
    simp only [Option.map_some]
    congr 1
    by_cases h : a ≤ i ∧ i < j
    · rw [if_neg (by omega), if_pos (by omega), if_pos (by omega)]
    · rw [if_neg (show ¬ ((a : Int) ≤ (i : Int) ∧ (i : Int) < (j : Int)) by omega), if_neg (show ¬ ((a : Int) ≤ (i : Int) ∧ (i : Int) < (j : Int)) by omega)]
/-- The environment's condition, as the reference asks it. -/
theorem arg_cond (b : List Int) (k g : Nat) (hk : k ≤ b.length) (hg : grp b k = some g) (nm : List Int) :
    (nm = nBegin ∧ k + 2 < grps b k ∧ b.getD k 0 = 123 ∧ (b.take (g - 1)).drop (k + 1) ∈ wholeN) ↔ (nm = nBegin ∧ b.getD k 0 = 123 ∧ (b.take (g - 1)).drop (k + 1) ∈ wholeN) := by
  constructor
  · rintro ⟨h1, _, h3, h4⟩
    exact ⟨h1, h3, h4⟩
  · rintro ⟨h1, h3, h4⟩
    refine ⟨h1, ?_, h3, h4⟩
    have h5 := (whole_ok _ h4).1
    rw [List.length_drop, List.length_take] at h5
    have hgl := grp_le b k g hg
    have hgs : g ≤ grps b k := by
      unfold grps
      obtain ⟨n, hn⟩ : ∃ n, b.length = n + 1 := ⟨b.length - 1, by omega⟩
      rw [hn, grpsN_go b n k g hg]
      exact (grpsN_le b n g hgl.2.1).1
    omega

set_option maxRecDepth 100000 in
set_option maxHeartbeats 16000000 in
theorem rtex_word (s : ByteArray) (L : List Int) (p : Nat) (w0 W : World) (v : Value) (h : Rl w0 W v L) (hL : L.length = s.size) (hp : p < s.size) (hs : s.size ≤ 65536) (hc : (bytesOf s).getD p 0 = 92) (hw : wrd (bytesOf s) (p + 1) ≠ p + 1) (hv : ((bytesOf s).take (wrd (bytesOf s) (p + 1))).drop (p + 1) ≠ nVerb) :
    Calls Tryd.prog 22 #[v, .string s, .int .i64 p] W (RT (bytesOf s) p L w0 v) := by
  have hl := bytesOf_length s
  have HH := Lib.hid h
  have hix := ix_atR s p hp
  rw [hc] at hix
  have HSt := Lib.hid (show Tex.step (bytesOf s) p L = namS (bytesOf s) (((bytesOf s).take (wrd (bytesOf s) (p + 1))).drop (p + 1)) (wrd (bytesOf s) (p + 1)) (setL L 2 (p : Int) (wrd (bytesOf s) (p + 1) : Int)) from by rw [step_slash (bytesOf s) p L hc]; unfold cmd; rw [if_neg hw])
  have HWd := Lib.hid hw
  have HVn := Lib.hid hv
  clear h hc hw hv
  go_enter Tryd.func22, Tryd.ntmps22
  go_upto_block 3 with fail
  clear hix
  go_wp2_with fail
  go_loopg [11] s.size (fun gn kv wr => ∃ k : Nat, kv = .int .i64 k ∧ p + 1 ≤ k ∧ k ≤ s.size ∧ Hid (Rl w0 wr v L ∧ wrdN (bytesOf s) gn k = wrd (bytesOf s) (p + 1) ∧ s.size ≤ k + gn))
  case atStart => exact ⟨p + 1, by go_num, Nat.le_refl _, by omega, HH.out, (by unfold wrd; rw [hl]), by omega⟩
  case round =>
  obtain ⟨k, rfl, hk1, hk2, HQ⟩ := hrel
  clear HH
  have HWr := Lib.hid HQ.out.1
  have HN := Lib.hid HQ.out.2
  clear HQ
  go_wp2_with fail
  refine (rletter_any s k _).mono ?_
  rintro e w1 ⟨rfl, n1, rfl⟩
  have HW1 := Lib.hid (HWr.out.drewN n1)
  clear HWr
  generalize wr.drewN n1 = w1 at *
  cases hlk : ltrAt (bytesOf s) k with
  | true =>
    have h1 := (ltrAt_in hlk).1
    obtain ⟨m, rfl⟩ : ∃ m, gk = m + 1 := ⟨gk - 1, by have := HN.out.2; omega⟩
    have HN2 := Lib.hid (wrdN_yes hlk ▸ HN.out.1 : wrdN (bytesOf s) m (k + 1) = wrd (bytesOf s) (p + 1))
    have hgm : s.size ≤ k + 1 + m := by have := HN.out.2; omega
    clear hlk
    go_wp2_with fail
    go_roundg m
    case measure => omega
    case rel => exact ⟨k + 1, by go_num, by omega, by omega, HW1.out, HN2.out, by omega⟩
  | false =>
    have hkw : k = wrd (bytesOf s) (p + 1) := by have := HN.out.1; rw [wrdN_no hlk] at this; exact this
    have hkp : p + 1 < k := by have := HWd.out; omega
    obtain ⟨a, ha⟩ : ∃ a : Nat, (p : Int) + 1 = (a : Int) := ⟨p + 1, by omega⟩
    have hak : a ≤ k := by omega
    have hap : a = p + 1 := by omega
    have h34 : ((k : Int) == (a : Int)) = false := by rw [beq_eq_false_iff_ne]; omega
    have HS1 := Lib.hid (show Tex.step (bytesOf s) p L = namS (bytesOf s) (((bytesOf s).take k).drop (p + 1)) k (setL L 2 (p : Int) (k : Int)) from by rw [HSt.out, hkw])
    have hvn : ((bytesOf s).take k).drop (p + 1) ≠ nVerb := by rw [hkw]; exact HVn.out
    obtain ⟨Y, hY⟩ : ∃ Y, s.extract a k = Y := ⟨_, rfl⟩
    have hYb : bytesOf Y = ((bytesOf s).take k).drop (p + 1) := by rw [← hY, nam_eq, hap]
    have hyv : (Y.toList == ([118, 101, 114, 98] : List UInt8)) = false := by
      rw [beq_eq_false_iff_ne, Ne, toL_inj, hYb]
      exact hvn
    have HYb := Lib.hid hYb
    have HVk := Lib.hid hvn
    rw [← hYb] at HS1
    clear hlk hkw HN HWd HVn HSt hap hvn hYb
    go_upto_region 47 with fail
    clear hY ha h34 hak
    go_wp2_with fail
    refine (rput_any HW1.out (by omega) 2 p k (by omega)).mono ?_
    rintro e w2 ⟨rfl, hr⟩
    have HW2 := Lib.hid hr
    have hL1 : (setL L 2 (p : Int) (k : Int)).length = s.size := by rw [setL_length]; exact hL
    clear hr HW1
    generalize setL L 2 (p : Int) (k : Int) = L1 at *
    go_wp2_with fail
    refine (rbare_any Y _).mono ?_
    rintro e w3 ⟨rfl, n3, rfl⟩
    have HW3 := Lib.hid (HW2.out.drewN n3)
    clear HW2 hyv
    generalize w2.drewN n3 = w3 at *
    have HVk2 := Lib.hid (show bytesOf Y ≠ nVerb from by rw [HYb.out]; exact HVk.out)
    clear HVk
    by_cases hbare : bytesOf Y ∈ bareN
    · rw [decide_eq_true hbare]
      have HS2 := Lib.hid (show Tex.step (bytesOf s) p L = argS (bytesOf s) (bytesOf Y) k (grps (bytesOf s) k) ((grp (bytesOf s) k).getD 0) (setL L1 2 (k : Int) (grps (bytesOf s) k : Int)) from by rw [HS1.out]; unfold namS; rw [if_neg HVk2.out, if_pos hbare])
      clear hbare HS1
      go_upto_block 8 with fail
      go_wp2_with fail
      go_loopg [19] s.size (fun gn ev wr => ∃ e : Nat, ev = .int .i64 e ∧ k ≤ e ∧ e ≤ s.size ∧ Hid (Rl w0 wr v L1 ∧ grpsN (bytesOf s) gn e = grps (bytesOf s) k ∧ s.size ≤ e + gn))
      case atStart => exact ⟨k, rfl, Nat.le_refl _, hk2, HW3.out, by unfold grps; rw [hl], by omega⟩
      case round =>
      obtain ⟨e, rfl, he1, he2, HQ⟩ := hrel
      clear HW3
      have HWe := Lib.hid HQ.out.1
      have HNe := Lib.hid HQ.out.2
      clear HQ
      go_wp2_with fail
      refine (rgroup_any s e _ (by omega) (by omega)).mono ?_
      rintro e_ w4 ⟨rfl, n4, rfl⟩
      have HW4 := Lib.hid (HWe.out.drewN n4)
      clear HWe
      generalize wr.drewN n4 = w4 at *
      cases hg : grp (bytesOf s) e with
      | some g =>
        rw [show grpI (some g) = (g : Int) from rfl]
        have hgl := grp_le (bytesOf s) e g hg
        have hg0 : decide ((0 : Int) < (g : Int)) = true := by simp; omega
        obtain ⟨m, rfl⟩ : ∃ m, gk = m + 1 := ⟨gk - 1, by have := HNe.out.2; omega⟩
        have HNg := Lib.hid (show grpsN (bytesOf s) m g = grps (bytesOf s) k from by rw [← HNe.out.1, grpsN_go _ m e g hg])
        have hgm : s.size ≤ g + m := by have := HNe.out.2; omega
        go_wp2_with fail
        refine (rgroup_any s e _ (by omega) (by omega)).mono ?_
        rintro e_ w5 ⟨rfl, n5, rfl⟩
        rw [hg, show grpI (some g) = (g : Int) from rfl]
        have HW5 := Lib.hid (HW4.out.drewN n5)
        clear HW4 hg
        go_wp2_with fail
        go_roundg m
        case measure => omega
        case rel => exact ⟨g, rfl, by omega, by omega, HW5.out, HNg.out, hgm⟩
      | none =>
        rw [show grpI none = -1 from rfl]
        have hee : grps (bytesOf s) k = e := by rw [← HNe.out.1, grpsN_stop _ _ _ hg]
        rw [hee] at HS2
        have HE := Lib.hid hee
        clear hg HNe hee
        go_wp2_with fail
        refine (rput_any HW4.out (by omega) 2 k e (by omega)).mono ?_
        rintro e_ w5 ⟨rfl, hr⟩
        have HW5 := Lib.hid hr
        have hL2 : (setL L1 2 (k : Int) (e : Int)).length = s.size := by rw [setL_length]; exact hL1
        clear hr HW4
        generalize setL L1 2 (k : Int) (e : Int) = L2 at *
        go_wp2_with fail
        refine (rgroup_any s k _ (by omega) (by omega)).mono ?_
        rintro e_ w6 ⟨rfl, n6, rfl⟩
        have HW6 := Lib.hid (HW5.out.drewN n6)
        clear HW5
        generalize w5.drewN n6 = w6 at *
        obtain ⟨Bb, hBb⟩ : ∃ Bb : Bool, (Y.toList == ([98, 101, 103, 105, 110] : List UInt8)) = Bb := ⟨_, rfl⟩
        have HBb := Lib.hid (show Bb = true ↔ bytesOf Y = nBegin from by rw [← hBb, beq_iff_eq, toL_inj]; exact Iff.rfl)
        cases hgk : grp (bytesOf s) k with
        | none =>
          rw [show grpI none = -1 from rfl]
          have HS3 := Lib.hid (show Tex.step (bytesOf s) p L = (e, L2) from by
            rw [HS2.out]
            unfold argS
            rw [if_neg]
            intro hh
            have h1 := grps_none (bytesOf s) k hgk
            rw [HE.out] at h1
            omega)
          clear HS2 hgk
          cases Bb with
          | true =>
            go_wp2_with fail
            go_ret
            exact RT.mk HS3.out HW6.out
          | false =>
            go_wp2_with fail
            go_ret
            exact RT.mk HS3.out HW6.out
        | some g =>
          rw [show grpI (some g) = (g : Int) from rfl]
          have hgl := grp_le (bytesOf s) k g hgk
          have hg0 : decide ((0 : Int) < (g : Int)) = true := by simp; omega
          obtain ⟨a2, ha2⟩ : ∃ a2 : Nat, (k : Int) + 1 = (a2 : Int) := ⟨k + 1, by omega⟩
          obtain ⟨g2, hg2⟩ : ∃ g2 : Nat, (g : Int) - 1 = (g2 : Int) := ⟨g - 1, by omega⟩
          have hag : a2 ≤ g2 := by omega
          have hgs : g2 ≤ s.size := by omega
          have HAG := Lib.hid (show a2 = k + 1 ∧ g2 = g - 1 from ⟨by omega, by omega⟩)
          obtain ⟨Z, hZ⟩ : ∃ Z, s.extract a2 g2 = Z := ⟨_, rfl⟩
          have HZb := Lib.hid (show bytesOf Z = ((bytesOf s).take (g - 1)).drop (k + 1) from by rw [← hZ, nam_eq, HAG.out.1, HAG.out.2])
          have HC := Lib.hid (arg_cond (bytesOf s) k g (by omega) hgk (bytesOf Y))
          rw [hgk, show (some g).getD 0 = g from rfl] at HS2
          obtain ⟨C, hC⟩ : ∃ C : Bool, C = decide (bytesOf Y = nBegin ∧ (bytesOf s).getD k 0 = 123 ∧ ((bytesOf s).take (g - 1)).drop (k + 1) ∈ wholeN) := ⟨_, rfl⟩
          have HCc := Lib.hid hC
          have hixk := ix_atR s k (by omega)
          clear hC hgk
          go_upto_region 70 with fail
          go_cut [239] (fun u wx => u = .bool C ∧ Hid (Rl w0 wx v L2))
          case first =>
            cases Bb with
            | false =>
              obtain rfl : C = false := by rw [HCc.out]; exact decide_eq_false (fun hh => by have := HBb.out.2 hh.1; cases this)
              go_wp2_with fail
              go_meet
              exact ⟨rfl, HW6.out⟩
            | true =>
              have hyB := HBb.out.1 rfl
              by_cases h123 : (bytesOf s).getD k 0 = 123
              · rw [h123] at hixk
                have HCd := Lib.hid (show C = decide (bytesOf Z ∈ wholeN) from by
                  rw [HCc.out, HZb.out, decide_eq_decide]
                  exact ⟨fun hh => hh.2.2, fun hh => ⟨hyB, h123, hh⟩⟩)
                clear h123 hyB
                go_wp2_with fail
                refine (rwhole_any Z _).mono ?_
                rintro e_ w7 ⟨rfl, n7, rfl⟩
                rw [← HCd.out]
                go_wp2_with fail
                go_meet
                exact ⟨rfl, HW6.out.drewN _⟩
              · have hb123 : ((bytesOf s).getD k 0 == 123) = false := by rw [beq_eq_false_iff_ne]; exact h123
                obtain rfl : C = false := by rw [HCc.out]; exact decide_eq_false (fun hh => h123 hh.2.1)
                clear h123 hyB
                generalize (bytesOf s).getD k 0 = x at *
                go_wp2_with fail
                go_meet
                exact ⟨rfl, HW6.out⟩
          case rest =>
          obtain ⟨rfl, HW7⟩ := hcut
          clear HW6 hixk hBb
          cases C with
          | false =>
            have HS3 := Lib.hid (show Tex.step (bytesOf s) p L = (e, L2) from by
              rw [HS2.out]
              unfold argS
              rw [if_neg]
              intro hh
              rw [HE.out] at HC
              exact of_decide_eq_false HCc.out.symm (HC.out.1 hh))
            go_wp2_with fail
            go_ret
            exact RT.mk HS3.out HW7.out
          | true =>
            have hcc := of_decide_eq_true HCc.out.symm
            have hwz : bytesOf Z ∈ wholeN := by rw [HZb.out]; exact hcc.2.2
            have hzs := whole_ok _ hwz
            rw [bytesOf_length] at hzs
            have hz10 := hzs.2.1
            have HS3 := Lib.hid (show Tex.step (bytesOf s) p L = envS (bytesOf s) (bytesOf Z) e L2 from by
              rw [HS2.out]
              unfold argS
              rw [HE.out] at HC
              rw [if_pos (HC.out.2 hcc), HZb.out])
            have hq1 : (9223372036854775807 < 5 + Z.size) = False := by simp; omega
            have hq2 : (9223372036854775807 < 5 + Z.size + 1) = False := by simp; omega
            clear hcc hwz hzs HS2 HC HCc
            go_upto_region 72 with fail
            clear hZ ha2 hg2 hq1 hq2
            obtain ⟨T, hT⟩ : ∃ T, (⟨#[92, 101, 110, 100, 123]⟩ ++ Z ++ ⟨#[125]⟩ : ByteArray) = T := ⟨_, rfl⟩
            have hTb : bytesOf T = shutT (bytesOf Z) := by rw [← hT, bytesOf_append, bytesOf_append]; rfl
            have hTs : T.size = Z.size + 6 := by rw [← bytesOf_length, hTb]; unfold shutT; simp [bytesOf_length]
            have hT16 : T.size ≤ 16 := by omega
            have hT1 : 0 < T.size := by omega
            rw [hT]
            have HTb := Lib.hid hTb
            have HTl := Lib.hid (show (shutT (bytesOf Z)).length = T.size from by rw [← hTb, bytesOf_length])
            clear hT hTb hTs
            go_wp2_with fail
            go_loopg [22] s.size (fun gn jv wr => ∃ j : Nat, jv = .int .i64 j ∧ e ≤ j ∧ j ≤ s.size ∧ Hid (Rl w0 wr v L2 ∧ (∀ i, e ≤ i → i < j → (shutT (bytesOf Z)).isPrefixOf ((bytesOf s).drop i) = false) ∧ s.size ≤ j + gn))
            case atStart => exact ⟨e, rfl, Nat.le_refl _, he2, HW7.out, fun i h1 h2 => by omega, by omega⟩
            case round =>
            obtain ⟨j, rfl, hj1, hj2, HQ⟩ := hrel
            clear HW7
            have HWj := Lib.hid HQ.out.1
            have HNj := Lib.hid HQ.out.2
            clear HQ
            by_cases hjs : j < s.size
            · have hdj : decide ((j : Int) < (s.size : Int)) = true := by simp; omega
              go_wp2_with fail
              refine (rat_any s T j _ (by omega) (by omega) hT1 (by omega)).mono ?_
              rintro e_ w8 ⟨rfl, n8, rfl⟩
              have HW8 := Lib.hid (HWj.out.drewN n8)
              clear HWj
              generalize wr.drewN n8 = w8 at *
              rw [HTb.out]
              cases hpf : (shutT (bytesOf Z)).isPrefixOf ((bytesOf s).drop j) with
              | true =>
                have hfn : fnd (shutT (bytesOf Z)) ((bytesOf s).drop e) = some (j - e) := by
                  refine fnd_first _ _ _ ?_ (by rw [List.length_drop]; omega) (fun i hi => ?_)
                  · rw [List.drop_drop, show e + (j - e) = j by omega]; exact hpf
                  · rw [List.drop_drop]; exact HNj.out.1 _ (by omega) (by omega)
                have hple := (List.isPrefixOf_iff_prefix.1 hpf).length_le
                rw [List.length_drop, HTl.out] at hple
                obtain ⟨q, hq⟩ : ∃ q : Nat, (j : Int) + (T.size : Int) = (q : Int) := ⟨j + T.size, by omega⟩
                have HS4 := Lib.hid (show Tex.step (bytesOf s) p L = (q, setL (setL L2 4 (e : Int) (j : Int)) 2 (j : Int) (q : Int)) from by
                  rw [HS3.out]
                  unfold envS
                  rw [hfn]
                  simp only []
                  rw [HTl.out, show e + (j - e) = j by omega, show j + T.size = q by omega, setL_swap L2 e j q hj1 (by omega)])
                have hq6 : q ≤ 65536 := by omega
                clear hfn hpf hple HNj HS3
                go_wp2_with fail
                refine (rput_any HW8.out (by omega) 4 e j (by omega)).mono ?_
                rintro e_ w9 ⟨rfl, hr⟩
                have HW9 := Lib.hid hr
                clear hr HW8
                go_wp2_with fail
                refine (rput_any HW9.out (by rw [setL_length]; omega) 2 j q (by omega)).mono ?_
                rintro e_ w10 ⟨rfl, hr⟩
                have HR := Lib.hid hr
                clear hr HW9
                go_wp2_with fail
                go_ret
                exact RT.mk HS4.out HR.out
              | false =>
                have HX := Lib.hid (show ∀ i, e ≤ i → i < j + 1 → (shutT (bytesOf Z)).isPrefixOf ((bytesOf s).drop i) = false from fun i h1 h2 => by
                  by_cases e' : i = j
                  · rw [e']; exact hpf
                  · exact HNj.out.1 i h1 (by omega))
                clear hpf
                go_wp2_with fail
                go_roundg (s.size - (j + 1))
                case measure => have := HNj.out.2; omega
                case rel => exact ⟨j + 1, by go_num, by omega, by omega, HW8.out, HX.out, by omega⟩
            · have hdj : decide ((j : Int) < (s.size : Int)) = false := by simp; omega
              have HS4 := Lib.hid (show Tex.step (bytesOf s) p L = (s.size, setL L2 4 (e : Int) (s.size : Int)) from by
                rw [HS3.out]
                unfold envS
                rw [fnd_no _ _ (fun i hi => by
                  rw [List.drop_drop]
                  by_cases hij : e + i < s.size
                  · exact HNj.out.1 _ (by omega) (by omega)
                  · rw [List.drop_eq_nil_of_le (by omega)]; rfl)]
                simp only []
                rw [hl])
              go_wp2_with fail
              refine (rput_any HWj.out (by omega) 4 e s.size (by omega)).mono ?_
              rintro e_ w8 ⟨rfl, hr⟩
              have HR := Lib.hid hr
              clear hr HWj
              go_wp2_with fail
              go_ret
              exact RT.mk HS4.out HR.out
    · rw [decide_eq_false hbare]
      have HS2 := Lib.hid (show Tex.step (bytesOf s) p L = (k, L1) from by rw [HS1.out]; unfold namS; rw [if_neg HVk2.out, if_neg hbare])
      clear hbare
      go_wp2_with fail
      go_ret
      exact RT.mk HS2.out HW3.out
end Go.Proofs.YtkicpaodcmepmaaDoor.T

set_option linter.unusedVariables false
set_option linter.unusedSimpArgs false
namespace Go.Proofs.YtkicpaodcmepmaaDoor.T
open Go.RowKit Go.Proofs.YtkicpaodcmepmaaDoorW.PrintWords Go.Proofs.YtkicpaodcmepmaaDoorW.PrintMore Go.Proofs.YtkicpaodcmepmaaDoor.L Go.Proofs.YtkicpaodcmepmaaDoor.S Go.Proofs.YtkicpaodcmepmaaDoor.Tex

theorem mathM_at (b : List Int) (p : Nat) (hp : p < b.length) (hc : b.getD p 0 = 36) : [36, 36].isPrefixOf (b.drop p) = (b[p + 1]? == some 36) := by
  rw [drop_atR b p hp, hc, List.isPrefixOf_cons_cons]
  rcases Nat.lt_or_ge (p + 1) b.length with h | h
  · rw [drop_atR b (p + 1) h, List.isPrefixOf_cons_cons, getD_someR b (p + 1) h, Bool.eq_iff_iff]
    simp only [Bool.and_eq_true, beq_iff_eq, Option.some.injEq, true_and]
    constructor
    · intro h; exact h.1.symm
    · intro h; exact ⟨h.symm, by cases b.drop (p + 1 + 1) <;> rfl⟩
  · rw [List.drop_eq_nil_of_le h, List.getElem?_eq_none h]
    simp
theorem mathN_one (b m : List Int) (n k : Nat) (hk : k < b.length) : mathN b m (n + 1) k = if b.getD k 0 = 92 then mathN b m n (k + 2) else if m.isPrefixOf (b.drop k) then k + m.length else mathN b m n (k + 1) := by
  conv => lhs; unfold mathN
  rw [if_pos hk]
  rfl
theorem mathN_outR (b m : List Int) (n k : Nat) (hk : b.length ≤ k) : mathN b m n k = b.length := by
  cases n with
  | zero => rfl
  | succ n => unfold mathN; rw [if_neg (by omega)]

set_option maxRecDepth 100000 in
set_option maxHeartbeats 4000000 in
theorem rtex_dollar (s : ByteArray) (L : List Int) (p : Nat) (w0 W : World) (v : Value) (h : Rl w0 W v L) (hL : L.length = s.size) (hp : p < s.size) (hs : s.size ≤ 65536) (hc : (bytesOf s).getD p 0 = 36) :
    Calls Tryd.prog 22 #[v, .string s, .int .i64 p] W (RT (bytesOf s) p L w0 v) := by
  have hl := bytesOf_length s
  have HH := Lib.hid h
  have hix := ix_atR s p hp
  rw [hc] at hix
  have HSt := Lib.hid (show Tex.step (bytesOf s) p L = (mathE (bytesOf s) p, setL L 4 (p : Int) (mathE (bytesOf s) p : Int)) from by unfold Tex.step; rw [if_neg (by omega), if_neg (by omega), if_pos hc])
  have HMt := Lib.hid (mathM_at (bytesOf s) p (by omega) hc)
  have HEl := Lib.hid (mathE_le (bytesOf s) p (by omega))
  clear h hc
  go_enter Tryd.func22, Tryd.ntmps22
  go_upto_region 18 with fail
  clear hix
  obtain ⟨M, hM⟩ : ∃ M : ByteArray, M = if (bytesOf s)[p + 1]? = some 36 then ⟨#[36, 36]⟩ else ⟨#[36]⟩ := ⟨_, rfl⟩
  have hMb : bytesOf M = mathM (bytesOf s) p := by
    unfold mathM
    rw [hM]
    by_cases h : (bytesOf s)[p + 1]? = some 36
    · rw [if_pos h, if_pos h]; rfl
    · rw [if_neg h, if_neg h]; rfl
  have hMs : 1 ≤ M.size ∧ M.size ≤ 2 := by
    rw [hM]
    by_cases h : (bytesOf s)[p + 1]? = some 36
    · rw [if_pos h]; decide
    · rw [if_neg h]; decide
  have HM := Lib.hid hM
  have HMb := Lib.hid hMb
  clear hM hMb
  obtain ⟨B, hB⟩ : ∃ B : Bool, ((bytesOf s)[p + 1]? == some 36) = B := ⟨_, rfl⟩
  have HB := Lib.hid hB
  go_upto_if 57 with (go_at_call 30; refine (rat_any s ⟨#[36, 36]⟩ p _ (by omega) (by omega) (by decide) (by decide)).mono ?_; rintro e w1 ⟨rfl, n1, rfl⟩; rw [show bytesOf ⟨#[36, 36]⟩ = [36, 36] from rfl, HMt.out, hB])
  clear hB
  go_cut [8] (fun u wx => u = .string M ∧ Hid (Rl w0 wx v L))
  case first =>
    cases B with
    | true =>
      have h := eq_of_beq HB.out
      obtain rfl : M = ⟨#[36, 36]⟩ := by rw [HM.out, if_pos h]
      clear h
      go_wp2_with fail
      go_meet
      exact ⟨rfl, HH.out.drewN _⟩
    | false =>
      have h := beq_eq_false_iff_ne.1 HB.out
      obtain rfl : M = ⟨#[36]⟩ := by rw [HM.out, if_neg h]
      clear h
      go_wp2_with fail
      go_meet
      exact ⟨rfl, HH.out.drewN _⟩
  case rest =>
  obtain ⟨rfl, HW⟩ := hcut
  clear HM HMt HH
  have hMs1 := hMs.1
  have hMs2 := hMs.2
  have HMl := Lib.hid (show (mathM (bytesOf s) p).length = M.size from by rw [← HMb.out, bytesOf_length])
  go_wp2_with fail
  go_loopg [9, 10] s.size (fun gn ev kv wr => ∃ k : Nat, ev = .int .i64 s.size ∧ kv = .int .i64 k ∧ k ≤ s.size + 3 ∧ Hid (Rl w0 wr v L ∧ mathN (bytesOf s) (mathM (bytesOf s) p) gn k = mathE (bytesOf s) p ∧ s.size ≤ k + gn))
  case atStart => exact ⟨p + M.size, rfl, by go_num, by omega, HW.out, by unfold mathE; rw [HMl.out, hl], by omega⟩
  case round =>
  obtain ⟨k, rfl, rfl, hk, HQ⟩ := hrel
  clear HW
  have HWr := Lib.hid HQ.out.1
  by_cases hlt : k < s.size
  · have hd : decide ((k : Int) < (s.size : Int)) = true := by simp; omega
    obtain ⟨m, rfl⟩ : ∃ m, gk = m + 1 := ⟨gk - 1, by have := HQ.out.2.2; omega⟩
    have hone := mathN_one (bytesOf s) (mathM (bytesOf s) p) m k (by omega)
    rw [HQ.out.2.1] at hone
    have HO := Lib.hid hone
    have HG := Lib.hid HQ.out.2.2
    have hix := ix_atR s k hlt
    clear HQ hone
    by_cases h92 : (bytesOf s).getD k 0 = 92
    · rw [h92] at hix
      have HE := Lib.hid (HO.out.trans (if_pos h92))
      clear HO h92
      go_wp2_with fail
      go_roundg m
      case measure => omega
      case rel => exact ⟨k + 2, rfl, by go_num, by omega, HWr.out, HE.out.symm, by have := HG.out; omega⟩
    · have hb92 : ((bytesOf s).getD k 0 == 92) = false := by rw [beq_eq_false_iff_ne]; exact h92
      have HE := Lib.hid (HO.out.trans (if_neg h92))
      clear HO h92
      generalize (bytesOf s).getD k 0 = x at *
      go_wp2_with fail
      refine (rat_any s M k _ (by omega) (by omega) (by omega) (by omega)).mono ?_
      rintro e w1 ⟨rfl, n1, rfl⟩
      have HW1 := Lib.hid (HWr.out.drewN n1)
      clear HWr hix hb92
      generalize wr.drewN n1 = w1 at *
      rw [HMb.out]
      cases hpf : (mathM (bytesOf s) p).isPrefixOf ((bytesOf s).drop k) with
      | true =>
        have HE2 := Lib.hid (show mathE (bytesOf s) p = k + M.size from by rw [HE.out, hpf, if_pos rfl, HMl.out])
        have hkE : k + M.size ≤ 65536 := by rw [← HE2.out]; have := HEl.out.2; omega
        clear hpf
        obtain ⟨q, hq⟩ : ∃ q : Nat, (k : Int) + (M.size : Int) = (q : Int) := ⟨k + M.size, by omega⟩
        have HE3 := Lib.hid (show mathE (bytesOf s) p = q from by rw [HE2.out]; omega)
        have hq6 : q ≤ 65536 := by omega
        clear HE2 hkE
        go_wp2_with fail
        refine (rput_any HW1.out (by omega) 4 p q (by omega)).mono ?_
        rintro e w2 ⟨rfl, hr⟩
        have HR := Lib.hid hr
        clear hr HW1
        go_wp2_with fail
        go_ret
        have hst := HSt.out
        rw [HE3.out] at hst
        exact RT.mk hst HR.out
      | false =>
        have HE2 := Lib.hid (show mathE (bytesOf s) p = mathN (bytesOf s) (mathM (bytesOf s) p) m (k + 1) from by rw [HE.out, hpf]; rfl)
        clear hpf
        go_wp2_with fail
        go_roundg m
        case measure => omega
        case rel => exact ⟨k + 1, rfl, by go_num, by omega, HW1.out, HE2.out.symm, by have := HG.out; omega⟩
  · have hd : decide ((k : Int) < (s.size : Int)) = false := by simp; omega
    have HE2 := Lib.hid (show mathE (bytesOf s) p = s.size from by rw [← HQ.out.2.1, mathN_outR _ _ _ _ (by omega), hl])
    clear HQ
    go_wp2_with fail
    refine (rput_any HWr.out (by omega) 4 p s.size (by omega)).mono ?_
    rintro e w2 ⟨rfl, hr⟩
    have HR := Lib.hid hr
    clear hr HWr
    go_wp2_with fail
    go_ret
    have hst := HSt.out
    rw [HE2.out] at hst
    exact RT.mk hst HR.out
end Go.Proofs.YtkicpaodcmepmaaDoor.T

set_option linter.unusedVariables false
set_option linter.unusedSimpArgs false
namespace Go.Proofs.YtkicpaodcmepmaaDoor.T
open Go.RowKit Go.Proofs.YtkicpaodcmepmaaDoorW.PrintWords Go.Proofs.YtkicpaodcmepmaaDoorW.PrintMore Go.Proofs.YtkicpaodcmepmaaDoor.L Go.Proofs.YtkicpaodcmepmaaDoor.S Go.Proofs.YtkicpaodcmepmaaDoor.Tex

theorem pieces_any (w : World) : Calls Tryd.prog 13 #[] w fun e w' => ∃ (P : List ByteArray) (A : Option Addr) (c : Nat), e = .returned (.slice A P.length c) ∧ (∀ p ∈ P, p.size ≤ 60) ∧ P.length ≤ 1000 ∧ P.length ≤ c ∧ Kd.C Kd.string w' A P.length P ∧ Below w.heap.size w w' := by
  refine (Ppieces.redpenlaw13_pieces.calls _ w rfl).mono ?_
  rintro e w' ⟨v, rfl, hr, hb⟩
  obtain ⟨A, cp, rfl, hle, hC⟩ := Kd.R_reads hr
  exact ⟨_, A, cp, rfl, by decide, by decide, hle, hC, hb⟩
theorem refSegs_C (A : Option Addr) (c : Nat) (L : List Int) (w : World) (h : Kd.C (Kd.int .u8) w A L.length L) (hc : L.length ≤ c) (hl : L.length ≤ 1000000) :
    Calls Tryd.prog 16 #[.slice A L.length c] w fun e w' => ∃ A cp, e = .returned (.slice A ((segsOf L).map toQ).length cp) ∧ ((segsOf L).map toQ).length ≤ cp ∧ Kd.C PSameSegs.k55 w' A ((segsOf L).map toQ).length ((segsOf L).map toQ) ∧ Below w.heap.size w w' := by
  refine (PSegs.redpenref10_Segs.calls (3 * L.length + 6) A c L _ w h hc (ref_segs L (by omega))).mono ?_
  rintro e w' ⟨v, rfl, hr, hb⟩
  obtain ⟨A, cp, rfl, hle, hC⟩ := Kd.R_reads hr
  refine ⟨A, cp, by simp, by simpa using hle, ?_, hb⟩
  have := C_conv hC
  simpa using this
theorem lexN_lenE (b : List Int) : ∀ (n p : Nat) (L : List Int), L.length = b.length → (lexN b n p L).length = b.length := by
  intro n
  induction n with
  | zero => intro p L h; exact h
  | succ n ih =>
    intro p L h
    unfold lexN
    split
    · rename_i hp
      exact ih _ _ (step_ok b p L hp h).2.2
    · exact h
theorem lexL_lenE (b : List Int) : (lexL b).length = b.length := lexN_lenE b _ 0 _ (by simp)
theorem rtex_any (s : ByteArray) (L : List Int) (p : Nat) (w0 W : World) (v : Value) (h : Rl w0 W v L) (hL : L.length = s.size) (hp : p < s.size) (hs : s.size ≤ 65536) :
    Calls Tryd.prog 22 #[v, .string s, .int .i64 p] W (RT (bytesOf s) p L w0 v) := by
  by_cases h37 : (bytesOf s).getD p 0 = 37
  · exact rtex_pct s L p w0 W v h hL hp hs h37
  by_cases h92 : (bytesOf s).getD p 0 = 92
  · by_cases hw : wrd (bytesOf s) (p + 1) = p + 1
    · exact rtex_sign s L p w0 W v h hL hp hs h92 hw
    · by_cases hv : ((bytesOf s).take (wrd (bytesOf s) (p + 1))).drop (p + 1) = nVerb
      · exact rtex_verb s L p w0 W v h hL hp hs h92 hw hv
      · exact rtex_word s L p w0 W v h hL hp hs h92 hw hv
  by_cases h36 : (bytesOf s).getD p 0 = 36
  · exact rtex_dollar s L p w0 W v h hL hp hs h36
  cases hm : isMk ((bytesOf s).getD p 0) with
  | true => exact rtex_mark s L p w0 W v h hL hp hs hm
  | false =>
    refine rtex_plain s L p w0 W v h hL hp hs ?_
    unfold plainB
    rw [hm]
    simp only [Bool.and_eq_true, bne_iff_ne]
    exact ⟨⟨⟨h37, h92⟩, h36⟩, rfl⟩
set_option maxHeartbeats 1000000 in
theorem rtexall_any (s : ByteArray) (W : World) (hs : s.size ≤ 65536) :
    Calls Tryd.prog 17 #[.string s] W fun e w' => ∃ v, e = .returned v ∧ Rl W w' v (lexL (bytesOf s)) := by
  have hl := bytesOf_length s
  go_enter Tryd.func17, Tryd.ntmps17
  go_wp2_with fail
  refine (rall_any s.size 1 _ (by omega)).mono ?_
  rintro e w1 ⟨v, rfl, hr1⟩
  have HS := Lib.hid hr1
  clear hr1
  go_wp2_with fail
  go_loopg [4] s.size (fun gn pv wr => ∃ (p : Nat) (L : List Int), pv = .int .i64 p ∧ p ≤ s.size ∧ Hid (Rl W wr v L ∧ L.length = s.size ∧ lexN (bytesOf s) gn p L = lexL (bytesOf s) ∧ s.size ≤ p + gn))
  case atStart => exact ⟨0, List.replicate s.size 1, rfl, Nat.zero_le _, HS.out, by simp, by unfold lexL; rw [hl], by omega⟩
  case round =>
    obtain ⟨p, L, rfl, hp, HQ⟩ := hrel
    clear HS
    by_cases hlt : p < s.size
    · have hd : decide ((p : Int) < (s.size : Int)) = true := by simp; omega
      obtain ⟨m, rfl⟩ : ∃ m, gk = m + 1 := ⟨gk - 1, by have := HQ.out.2.2.2; omega⟩
      have HN := Lib.hid (lexN_step (bytesOf s) m p L HQ.out.2.2.1 (by omega))
      have HOk := Lib.hid (step_ok (bytesOf s) p L (by omega) (by rw [hl]; exact HQ.out.2.1))
      have HG := Lib.hid HQ.out.2.2.2
      go_wp2_with fail
      refine (rtex_any s L p W _ v HQ.out.1 HQ.out.2.1 hlt hs).mono ?_
      rintro e w2 ⟨rfl, hr⟩
      have HR := Lib.hid hr
      clear hr HQ
      generalize (Tex.step (bytesOf s) p L).1 = q at *
      generalize (Tex.step (bytesOf s) p L).2 = L' at *
      go_wp2_with fail
      go_roundg m
      case measure => omega
      case rel => exact ⟨q, L', rfl, by have := HOk.out.2.1; omega, HR.out, by rw [← hl]; exact HOk.out.2.2, HN.out, by have := HG.out; have := HOk.out.1; omega⟩
    · obtain rfl : p = s.size := by omega
      have hd : decide ((s.size : Int) < (s.size : Int)) = false := by simp
      have HE := Lib.hid (lexN_end (bytesOf s) gk L (by rw [hl]; exact HQ.out.2.2.1))
      go_wp2_with fail
      go_ret
      exact ⟨v, rfl, HE.out ▸ HQ.out.1⟩
/-- The reference's labels of TeX bytes. -/
theorem refTex_any (b : List Int) (w : World) (hb : Bys b) (hl : b.length ≤ 65536) :
    Calls Tryd.prog 17 #[.string (strOfNums b)] w fun e w' => ∃ A c, e = .returned (.slice A (lexL b).length c) ∧ (lexL b).length ≤ c ∧ Kd.C (Kd.int .u8) w' A (lexL b).length (lexL b) ∧ Below w.heap.size w w' := by
  have h := rtexall_any (strOfNums b) w (by rw [strOfNums_size]; exact hl)
  rw [bytesOf_str b hb] at h
  refine h.mono ?_
  rintro e w' ⟨v, rfl, hr⟩
  obtain ⟨A, cp, rfl, hle, hC⟩ := Kd.R_reads hr.own
  exact ⟨A, cp, rfl, hle, hC, hr.bel⟩
theorem same_Q (Q : List PSameSegs.S55) (A1 A2 : Option Addr) (c1 c2 : Nat) (S : List Sg) (w : World) (hQ : Q = S.map toQ) (hl : S.length ≤ 1000000) (h1 : Kd.C PSameSegs.k55 w A1 Q.length Q) (h2 : Kd.C PSameSegs.k55 w A2 Q.length Q) (hc1 : Q.length ≤ c1) (hc2 : Q.length ≤ c2) :
    Calls Tryd.prog 14 #[.slice A1 Q.length c1, .slice A2 Q.length c2] w fun e w' => e = .returned (.bool true) ∧ ∃ n, w' = w.drewN n := by
  subst hQ
  exact same_any A1 A2 c1 c2 S w hl h1 h2 hc1 hc2
/-- A text, as a slice of bytes. -/
structure Tt (W : World) (v : Value) (A : Option Addr) (c : Nat) (b : List Int) : Prop where
  e : v = .slice A b.length c
  C : Kd.C (Kd.int .u8) W A b.length b
  c : b.length ≤ c
  m : b.length ≤ 4000
  b : Bys b
def Two (W : World) (B : Nat) (x y : Value) (t : Nat) : Prop := W.heap[B]? = some (.cells #[x, y] t (0, 0))
theorem Tt.below {W W' : World} {v : Value} {A : Option Addr} {c : Nat} {b : List Int} (h : Tt W v A c b) (hb : Below W.heap.size W W') : Tt W' v A c b := ⟨h.e, Kd.C_below h.C hb, h.c, h.m, h.b⟩
theorem two_below {W W' : World} {B t : Nat} {x y : Value} (h : Two W B x y t) (hb : Below W.heap.size W W') : Two W' B x y t := blk_below h hb
theorem two_at {W : World} {B t : Nat} {x y : Value} (h : Two W B x y t) (j : Nat) (hj : j < 2) : W.cell? ⟨B, j, none⟩ = some (if j = 0 then x else y) := by
  rw [blk_cell h]
  match j, hj with
  | 0, _ => rfl
  | 1, _ => rfl
theorem bys_flat {α : Type} (l : List α) (f : α → List Int) (h : ∀ a ∈ l, Bys (f a)) : Bys (l.flatMap f) := by
  intro x hx
  obtain ⟨a, ha, hxa⟩ := List.mem_flatMap.1 hx
  exact h a ha x hxa
theorem pc_bys (P : List ByteArray) (raw : List Int) (a : Int) (h : Bys raw) : Bys (pc P raw a) := by
  unfold pc
  split
  · exact Bys.of _
  · split
    · rename_i hr
      intro x hx
      simp only [List.mem_singleton] at hx
      subst hx
      have hlt : a.toNat % raw.length < raw.length := Nat.mod_lt _ hr
      rw [List.getD_eq_getElem?_getD, List.getElem?_eq_getElem hlt]
      exact h _ (List.getElem_mem hlt)
    · intro x hx
      cases hx
end Go.Proofs.YtkicpaodcmepmaaDoor.T
