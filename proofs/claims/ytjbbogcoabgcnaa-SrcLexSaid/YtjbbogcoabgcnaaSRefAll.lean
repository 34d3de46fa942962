/- Several texts in one: LRef SRefP SRefQ SRefF SRefG SRefL SBits. Conditions: as each lemma says. -/
import Derived.Test.YtjbbogcoabgcnaaPMisc
import Derived.Test.YtjbbogcoabgcnaaLSeg
import Derived.Test.YtjbbogcoabgcnaaPSrcx4
import Derived.Test.YtjbbogcoabgcnaaSNext
namespace Go.Proofs.Ytjbbogcoabgcnaa.L
open Go.RowKit Go.Proofs.YtjbbogcoabgcnaaW.PrintWords Go.Proofs.Ytjbbogcoabgcnaa.PSegs

def toS (s : Sg) : S50 := ⟨s.1, ⟨s.2.1, s.2.2⟩⟩

theorem reps_rowC (w : World) (S : List Sg) : Reps (k50.K w) 3 (S.map toS) (rowC S) := by
  induction S with
  | nil => exact Reps.none _ _
  | cons s S ih => exact Reps.c3 (k50_mk w (toS s)) ih
/-- An own row of parts, as the print reads it. -/
theorem own_C {w : World} {base n : Nat} {v : Value} {S : List Sg} (h : w.ownsRow base 50 3 v n (rowC S)) : ∃ A c, v = .slice A (S.map toS).length c ∧ (S.map toS).length ≤ c ∧ Kd.C k50 w A (S.map toS).length (S.map toS) := by
  have hn : n = S.length := by
    have := h.1
    rw [rowC_length] at this
    omega
  subst hn
  have hnc : ∃ A c, v = .slice A S.length c ∧ S.length ≤ c := by
    rcases h.2 with ⟨rfl, h0⟩ | ⟨g, cap, cur, rfl, _, _, hc, _⟩
    · exact ⟨none, 0, by rw [h0], by omega⟩
    · exact ⟨_, cap, rfl, hc⟩
  obtain ⟨A, c, rfl, hc⟩ := hnc
  obtain ⟨A', c', e, hr⟩ := own_reads_row h (reps_rowC w S) (by simp)
  injection e with e1 e2 e3
  subst e1
  refine ⟨A, c, by simp, by simpa using hc, ?_⟩
  rw [List.length_map]
  exact hr
def toQ (s : Sg) : PSameSegs.S50 := ⟨s.1, ⟨s.2.1, s.2.2⟩⟩
theorem C_conv {w : World} {A : Option Addr} {n : Nat} {S : List Sg} (h : Kd.C k50 w A n (S.map toS)) : Kd.C PSameSegs.k50 w A n (S.map toQ) := by
  refine ⟨by have := h.1; simpa using this, h.2.1, fun hn => ?_⟩
  obtain ⟨ad, e, hc⟩ := h.2.2 hn
  refine ⟨ad, e, fun j p hj => ?_⟩
  rw [List.getElem?_map, Option.map_eq_some_iff] at hj
  obtain ⟨s, hs, rfl⟩ := hj
  obtain ⟨c, hl, hk, hcell⟩ := hc j (toS s) (by rw [List.getElem?_map, hs]; rfl)
  obtain rfl := k50_open hk
  exact ⟨_, rfl, PSameSegs.k50_mk w (toQ s), hcell⟩
/-- Labels in a block, as the print reads them. -/
theorem cells_C {w : World} {k t : Nat} {L : List Int} (h : w.heap[k]? = some (.cells (cellsL L) t (0, 0))) (hl : L.length ≤ 9223372036854775807) : Kd.C (Kd.int .u8) w (some ⟨k, 0, none⟩) L.length L := by
  refine ⟨rfl, hl, fun _ => ⟨_, rfl, fun j p hj => ⟨[.int .u8 p], rfl, rfl, fun i u hu => ?_⟩⟩⟩
  have hi : i = 0 := by
    have := (List.getElem?_eq_some_iff.1 hu).1
    simpa using this
  subst hi
  have hp : Value.int .u8 p = u := by simpa using hu
  subst hp
  have e : (⟨k, 0, none⟩ : Addr).add (j * 1 + 0) = ⟨k, j, none⟩ := by
    unfold Addr.add
    by_cases h0 : j = 0
    · subst h0; rfl
    · simp [h0]
  have hz : (Kd.int IntKind.u8).sz = 1 := rfl
  rw [hz, e, blk_cell h, cellsL_get, hj]
  rfl

/-! ### the reference's Segs -/
theorem ref_segs_in (L : List Int) (hL : L.length ≤ 9223372036854775806) (hL2 : L.length < 5864062014805) : ∀ (d k fuel i : Nat) (T : List Sg), L.length - k = d → i < k → k ≤ L.length → 3 * d + 3 ≤ fuel →
    segsTo L k = T ++ [(L.getD i 0, (i : Int), (k : Int) - i)] → redpenref10_Segs.l1 fuel L (T.map toS) i k = some ((segsOf L).map toS) := by
  intro d
  induction d with
  | zero =>
    intro k fuel i T hd hik hk hf hs
    obtain ⟨f, rfl⟩ : ∃ m, fuel = m + 2 := ⟨fuel - 2, by omega⟩
    have hkl : k = L.length := by omega
    have hlen : (T.map toS).length < 5864062014805 := by
      have := (segsTo_ok L k).1
      rw [hs] at this
      simp at this ⊢
      omega
    simp only [redpenref10_Segs.l1, redpenref10_Segs.l0]
    rw [if_neg (by omega), if_pos (by omega), if_pos (by omega), if_pos hlen, if_neg (by omega)]
    have hw : wrap64 ((k : Int) - (i : Int)) = (k : Int) - i := by unfold wrap64; omega
    unfold segsOf
    rw [← hkl, hs, hw]
    simp [toS, rd]
  | succ d ih =>
    intro k fuel i T hd hik hk hf hs
    obtain ⟨f, rfl⟩ : ∃ m, fuel = m + 3 := ⟨fuel - 3, by omega⟩
    have hkl : k < L.length := by omega
    have hw : wrap64 ((k : Int) - (i : Int)) = (k : Int) - i := by unfold wrap64; omega
    have hw1 : wrap64 ((k : Int) + 1) = ((k + 1 : Nat) : Int) := by unfold wrap64; omega
    have hri : rd L (i : Int) = L.getD i 0 := by simp [rd]
    have hrk : rd L (k : Int) = L.getD k 0 := by simp [rd]
    have hstep : segsTo L (k + 1) = segsStep (segsTo L k) k (L.getD k 0) := rfl
    rw [hs, segsStep_snoc] at hstep
    have hlen : (T.map toS).length < 5864062014805 := by
      have := (segsTo_ok L k).1
      rw [hs] at this
      simp at this ⊢
      omega
    rw [redpenref10_Segs.l1, if_pos (by omega), if_pos (by omega), if_pos (by omega), if_pos (by omega), hri, hrk]
    by_cases he : L.getD k 0 = L.getD i 0
    · rw [if_pos he, hw1]
      refine ih (k + 1) _ i T (by omega) (by omega) (by omega) (by omega) ?_
      rw [hstep, if_pos he.symm, show (((k + 1 : Nat) : Int) - (i : Int)) = (k : Int) - i + 1 from by omega]
    · rw [if_neg he, if_pos hlen, redpenref10_Segs.l0, if_pos (by omega), redpenref10_Segs.l1, if_pos (by omega), if_pos (by omega), if_pos (by omega), if_pos (by omega), if_pos rfl, hw1]
      have e : (T.map toS ++ [(⟨L.getD i 0, ⟨(i : Int), wrap64 ((k : Int) - (i : Int))⟩⟩ : S50)]) = (T ++ [(L.getD i 0, (i : Int), (k : Int) - i)]).map toS := by simp [toS, hw]
      rw [e]
      refine ih (k + 1) f k _ (by omega) (by omega) (by omega) (by omega) ?_
      rw [hstep, if_neg (fun h => he h.symm), show (((k + 1 : Nat) : Int) - (k : Int)) = 1 from by omega]
theorem ref_segs (L : List Int) (hL : L.length < 5864062014805) : redpenref10_Segs.f (3 * L.length + 6) L = some ((segsOf L).map toS) := by
  unfold redpenref10_Segs.f
  rw [redpenref10_Segs.l0]
  rcases Nat.eq_zero_or_pos L.length with h0 | h0
  · rw [if_neg (by omega)]
    unfold segsOf
    rw [h0]
    rfl
  · rw [if_pos (by omega), redpenref10_Segs.l1, if_pos (by omega), if_pos (by omega), if_pos (by omega), if_pos (by omega), if_pos rfl]
    have hw1 : wrap64 (0 + 1) = ((1 : Nat) : Int) := by unfold wrap64; omega
    rw [hw1]
    refine ref_segs_in L (by omega) hL (L.length - 1) 1 _ 0 [] rfl (by omega) (by omega) (by omega) ?_
    rfl
/-! ### two lists of parts -/
theorem ref_same (S : List Sg) (hL : S.length ≤ 9223372036854775806) : ∀ (d i fuel : Nat), S.length - i = d → i ≤ S.length → d + 1 ≤ fuel → PSameSegs.redpenref10_SameSegs.l0 fuel (S.map toQ) (S.map toQ) i = some true := by
  intro d
  induction d with
  | zero =>
    intro i fuel hd hi hf
    obtain ⟨f, rfl⟩ : ∃ m, fuel = m + 1 := ⟨fuel - 1, by omega⟩
    rw [PSameSegs.redpenref10_SameSegs.l0, if_neg (by simp; omega)]
  | succ d ih =>
    intro i fuel hd hi hf
    obtain ⟨f, rfl⟩ : ∃ m, fuel = m + 1 := ⟨fuel - 1, by omega⟩
    have hw1 : wrap64 ((i : Int) + 1) = ((i + 1 : Nat) : Int) := by unfold wrap64; omega
    rw [PSameSegs.redpenref10_SameSegs.l0, if_pos (by simp; omega), if_pos (by omega), if_pos (by simp; omega), if_neg (by simp), hw1]
    exact ih (i + 1) f (by omega) (by omega) (by omega)
theorem ref_same_any (S : List Sg) (hL : S.length ≤ 9223372036854775806) : PSameSegs.redpenref10_SameSegs.f (S.length + 1) (S.map toQ) (S.map toQ) = some true := by
  unfold PSameSegs.redpenref10_SameSegs.f
  rw [if_pos rfl]
  exact ref_same S hL S.length 0 _ (by omega) (by omega) (by omega)
/-! ### the walks, in this seat's own words -/
theorem refSegs_any (k : Nat) (c : Nat) (L : List Int) (w : World) (h : w.heap[k]? = some (.cells (cellsL L) 43 (0, 0))) (hc : L.length ≤ c) (hl : L.length ≤ 1000000) :
    Calls Try.prog 16 #[.slice (some ⟨k, 0, none⟩) L.length c] w fun e w' => ∃ A cp, e = .returned (.slice A ((segsOf L).map toQ).length cp) ∧ ((segsOf L).map toQ).length ≤ cp ∧ Kd.C PSameSegs.k50 w' A ((segsOf L).map toQ).length ((segsOf L).map toQ) ∧ Below w.heap.size w w' := by
  refine (redpenref10_Segs.calls (3 * L.length + 6) (some ⟨k, 0, none⟩) c L _ w (cells_C h (by omega)) hc (ref_segs L (by omega))).mono ?_
  rintro e w' ⟨v, rfl, hr, hb⟩
  obtain ⟨A, cp, rfl, hle, hC⟩ := Kd.R_reads hr
  refine ⟨A, cp, by simp, by simpa using hle, ?_, hb⟩
  have := C_conv hC
  simpa using this
theorem own_Q {w : World} {base n : Nat} {v : Value} {S : List Sg} (h : w.ownsRow base 50 3 v n (rowC S)) : ∃ A c, v = .slice A (S.map toQ).length c ∧ (S.map toQ).length ≤ c ∧ Kd.C PSameSegs.k50 w A (S.map toQ).length (S.map toQ) := by
  obtain ⟨A, c, e, hc, hC⟩ := own_C h
  refine ⟨A, c, by simpa using e, by simpa using hc, ?_⟩
  have := C_conv hC
  simpa using this
theorem same_any (A1 A2 : Option Addr) (c1 c2 : Nat) (S : List Sg) (w : World) (hl : S.length ≤ 1000000) (h1 : Kd.C PSameSegs.k50 w A1 (S.map toQ).length (S.map toQ)) (h2 : Kd.C PSameSegs.k50 w A2 (S.map toQ).length (S.map toQ)) (hc1 : (S.map toQ).length ≤ c1) (hc2 : (S.map toQ).length ≤ c2) :
    Calls Try.prog 14 #[.slice A1 (S.map toQ).length c1, .slice A2 (S.map toQ).length c2] w fun e w' => e = .returned (.bool true) ∧ ∃ n, w' = w.drewN n :=
  (PSameSegs.redpenref10_SameSegs.calls (S.length + 1) A1 c1 _ A2 c2 _ true w h1 hc1 h2 hc2 (ref_same_any S (by omega))).mono fun _ _ h => ⟨h.1, h.2.out⟩
end Go.Proofs.Ytjbbogcoabgcnaa.L

set_option linter.unusedVariables false
set_option linter.unusedSimpArgs false
namespace Go.Proofs.Ytjbbogcoabgcnaa.S
open Go.RowKit Go.Proofs.YtjbbogcoabgcnaaW.PrintWords Go.Proofs.Ytjbbogcoabgcnaa.L Go.Proofs.Ytjbbogcoabgcnaa.Src Go.Proofs.Ytjbbogcoabgcnaa.PSrc

theorem Ev.up {α : Type} {g : Nat → Option α} {r : α} (h : Ev (fun k => g (k + 1)) r) : Ev g r := Ev.step (fun _ => rfl) h
theorem Ev.some_ {α : Type} (r : α) : Ev (fun _ => some r) r := Ev.now r
theorem wr (a : Int) (h0 : -1000000 ≤ a) (h : a ≤ 1000000) : wrap64 a = a := by unfold wrap64; omega

/-! ### at -/
theorem bytesOf_inj {x y : List UInt8} (h : x.map (fun b => (b.toNat : Int)) = y.map (fun b => (b.toNat : Int))) : x = y := by
  induction x generalizing y with
  | nil => cases y <;> simp at h ⊢
  | cons a x ih =>
    cases y with
    | nil => simp at h
    | cons b y =>
      simp only [List.map_cons, List.cons.injEq] at h
      have : a = b := UInt8.toNat_inj.1 (by omega)
      rw [this, ih h.2]
theorem at_is (s m : ByteArray) (i : Nat) (hi : i ≤ s.size) (hs : s.size ≤ 100000) (hm : 0 < m.size) (hm2 : m.size ≤ 10) : redpenref10_at.f s i m = some (beg (bytesOf m) ((bytesOf s).drop i)) := by
  unfold redpenref10_at.f
  have hb : beg (bytesOf m) ((bytesOf s).drop i) = (bytesOf m).isPrefixOf ((bytesOf s).drop i) := by
    unfold beg
    cases e : bytesOf m with
    | nil => have := bytesOf_length m; rw [e] at this; simp at this; omega
    | cons x r => rfl
  rw [wr _ (by omega) (by omega), hb]
  by_cases h : i + m.size ≤ s.size
  · rw [if_pos (by omega), if_pos (by omega), if_pos (by omega)]
    congr 1
    rw [← pfx_take _ _ (by rw [bytesOf_length, List.length_drop, bytesOf_length]; omega)]
    have e1 : ((i : Int)).toNat = i := rfl
    have e2 : ((i : Int) + (m.size : Int)).toNat = i + m.size := by omega
    rw [e1, e2, ByteArray.toList_eq, ByteArray.toList_eq, bytesOf_length]
    have e3 : (s.extract i (i + m.size)).data.toList = (s.data.toList.drop i).take m.size := by
      rw [ByteArray.data_extract, Array.toList_extract, List.extract_eq_take_drop]
      congr 1
      omega
    rw [e3]
    unfold bytesOf
    rw [← List.map_drop, ← List.map_take]
    rw [Bool.eq_iff_iff, beq_iff_eq, beq_iff_eq]
    exact ⟨fun h => by rw [h], fun h => bytesOf_inj h⟩
  · rw [if_neg (by omega), pfx_long _ _ (by rw [bytesOf_length, List.length_drop, bytesOf_length]; omega)]

/-! ### put -/
theorem put_is (c : Int) (q : Nat) (hq : q ≤ 100000) : ∀ (d : Nat) (L : List Int) (a : Nat), q - a = d → L.length ≤ 100000 → Ev (fun k => redpenref10_Labels_put.l0 k L c q a) (setL L c a q) := by
  intro d
  induction d with
  | zero =>
    intro L a hd hL
    refine Ev.up ?_
    simp only [redpenref10_Labels_put.l0]
    rw [setL_none _ _ _ _ (.inl (by omega))]
    simp only [if_neg (show ¬ ((a : Int) < (q : Int)) by omega)]
    exact Ev.some_ _
  | succ d ih =>
    intro L a hd hL
    refine Ev.up ?_
    simp only [redpenref10_Labels_put.l0, if_pos (show ((a : Int) < (q : Int)) by omega)]
    by_cases ha : a < L.length
    · simp only [if_pos (show ((a : Int) < (L.length : Int)) by omega), if_pos (show (0 : Int) ≤ (a : Int) by omega)]
      rw [wr _ (by omega) (by omega)]
      have e1 : ((a : Int)).toNat = a := rfl
      rw [e1]
      have := ih (L.set a c) (a + 1) (by omega) (by rw [List.length_set]; exact hL)
      have e2 : setL (L.set a c) c ((a + 1 : Nat) : Int) q = setL L c a q := by
        apply List.ext_getElem?
        intro i
        rw [setL_get, setL_get, List.getElem?_set]
        by_cases hi : a = i
        · subst hi
          rw [if_pos rfl, if_pos ha, List.getElem?_eq_getElem ha, Option.map_some, Option.map_some, if_neg (by omega), if_pos (by omega)]
        · rw [if_neg hi]
          congr 1
          funext x
          by_cases h : ((a + 1 : Nat) : Int) ≤ (i : Int) ∧ (i : Int) < (q : Int)
          · rw [if_pos h, if_pos (by omega)]
          · rw [if_neg h, if_neg (by omega)]
      rw [e2] at this
      exact this
    · simp only [if_neg (show ¬ ((a : Int) < (L.length : Int)) by omega)]
      rw [setL_none _ _ _ _ (.inr (.inr (by omega)))]
      exact Ev.some_ _
/-- A label laid behind what is laid. -/
theorem putov_is (L : List Int) (at_ : Nat) (X : List Int) (p m : Nat) (c : Int) (q : Int) (hp : p = at_ + X.length) (hm : p + m ≤ L.length) (hL : L.length ≤ 100000) (hq : q = (p : Int) + m) : Ev (fun k => redpenref10_Labels_put.f k (ov L at_ X) c p q) (ov L at_ (X ++ List.replicate m c)) := by
  subst hq
  have h := put_is c (p + m) (by omega) _ (ov L at_ X) p rfl (by rw [ov_length _ _ _ (by omega)]; exact hL)
  rw [Int.natCast_add, ov_set L at_ X c m (by omega) _ (by rw [hp])] at h
  exact h

/-! ### a remark between marks -/
theorem lit2 : bytesOf (⟨#[42, 47]⟩ : ByteArray) = [42, 47] := by rfl
theorem lit3 : bytesOf (⟨#[47, 42]⟩ : ByteArray) = [47, 42] := by rfl
theorem beg2 {b m : List Int} {p : Nat} (h : beg m (b.drop p) = true) : p + m.length ≤ b.length ∧ 0 < m.length := by
  have := beg_length h
  rw [List.length_drop] at this
  omega
theorem not_both (s : List Int) (h : beg [42, 47] s = true) : beg [47, 42] s = false := by
  cases s with
  | nil => rfl
  | cons c r =>
    rw [beg_cons] at h ⊢
    rw [Bool.and_eq_true, beq_iff_eq] at h
    have : ((47 : Int) == c) = false := by rw [← h.1]; rfl
    rw [this]; rfl
set_option maxHeartbeats 4000000 in
theorem blk_l0 (F : Fam) (ho : F.opn = [47, 42]) (hs : F.shut = [42, 47]) (s : ByteArray) (hz : s.size ≤ 65536) (L : List Int) (hL : L.length = s.size) (at_ : Nat) :
    ∀ (m p deep : Nat) (X : List Int), s.size - p ≤ m → p = at_ + X.length → p ≤ s.size → 1 ≤ deep → deep ≤ 32 →
    Ev (fun k => redpenref10_Labels_block.l0 k (ov L at_ X) s p F.nest deep) (((at_ + (X ++ blkW F deep ((bytesOf s).drop p)).length : Nat) : Int), ov L at_ (X ++ blkW F deep ((bytesOf s).drop p))) := by
  intro m
  induction m with
  | zero =>
    intro p deep X hm hp hle hd hd2
    have e : (bytesOf s).drop p = [] := List.drop_eq_nil_of_le (by rw [bytesOf_length]; omega)
    rw [e, blkW_end, List.append_nil]
    refine Ev.up ?_
    simp only [redpenref10_Labels_block.l0, if_neg (show ¬ ((p : Int) < (s.size : Int)) by omega)]
    refine Ev.up ?_
    simp only [redpenref10_Labels_block.j1, Bool.false_eq_true, if_false]
    rw [hp]
    exact Ev.some_ _
  | succ m ih =>
    intro p deep X hm hp hle hd hd2
    by_cases h : p < s.size
    · have h5 : ∀ q, p < q → s.size - q ≤ m := fun q hq => by omega
      refine Ev.up ?_
      simp only [redpenref10_Labels_block.l0, if_pos (show ((p : Int) < (s.size : Int)) by omega)]
      refine Ev.up ?_
      have hd0 : decide ((deep : Int) > 0) = true := decide_eq_true (by omega)
      have a1 := at_is s ⟨#[42, 47]⟩ p hle (by omega) (by decide) (by decide)
      have a2 := at_is s ⟨#[47, 42]⟩ p hle (by omega) (by decide) (by decide)
      rw [lit2] at a1
      rw [lit3] at a2
      have e2 : wrap64 ((p : Int) + 2) = ((p + 2 : Nat) : Int) := by rw [wr _ (by omega) (by omega)]; omega
      have e1 : wrap64 ((p : Int) + 1) = ((p + 1 : Nat) : Int) := by rw [wr _ (by omega) (by omega)]; omega
      simp only [redpenref10_Labels_block.j1, hd0, if_true, a1, Option.bind_some]
      by_cases b1 : beg [42, 47] ((bytesOf s).drop p) = true
      · have hb := beg2 b1
        rw [bytesOf_length] at hb
        have hn : ¬ (beg F.opn ((bytesOf s).drop p) = true ∧ (deep = 0 ∨ F.nest = true)) := by rw [ho, not_both _ b1]; simp
        simp only [b1, if_true]
        simp only [e2]
        refine Ev.bind (putov_is L at_ X p 2 3 ((p + 2 : Nat) : Int) hp (by simp at hb; omega) (by omega) (by omega)) ?_
        by_cases h1 : deep = 1
        · subst h1
          rw [blkW_ss F _ hn (by rw [hs]; exact b1)]
          refine Ev.up ?_
          have e0 : decide ((wrap64 (((1 : Nat) : Int) - 1)) > 0) = false := decide_eq_false (by rw [wr _ (by omega) (by omega)]; omega)
          have goal : Ev (fun k => redpenref10_Labels_block.j1 k (ov L at_ (X ++ List.replicate 2 3)) s ((p + 2 : Nat) : Int) F.nest (wrap64 (((1 : Nat) : Int) - 1)) false) (((at_ + (X ++ List.replicate F.shut.length 3).length : Nat) : Int), ov L at_ (X ++ List.replicate F.shut.length 3)) := by
            refine Ev.up ?_
            simp only [redpenref10_Labels_block.j1, Bool.false_eq_true, if_false]
            rw [hs, hp]
            have e : at_ + X.length + 2 = at_ + (X ++ List.replicate [42, 47].length (3 : Int)).length := by simp; omega
            rw [e]
            exact Ev.some_ _
          refine Ev.congr (fun k => ?_) goal
          simp only [redpenref10_Labels_block.l0, e0]
          split <;> rfl
        · have e3 : wrap64 ((deep : Int) - 1) = ((deep - 1 : Nat) : Int) := by rw [wr _ (by omega) (by omega)]; omega
          simp only [e3]
          have := ih (p + 2) (deep - 1) (X ++ List.replicate 2 3) (by omega) (by simp; omega) (by simp at hb; omega) (by omega) (by omega)
          rw [blkW_s F deep _ hn (by rw [hs]; exact b1) (by omega), hs]
          rw [List.append_assoc] at this
          rw [List.drop_drop]
          exact this
      · have b1' : beg [42, 47] ((bytesOf s).drop p) = false := by simpa using b1
        simp only [b1', Bool.false_eq_true, if_false]
        -- the next: an opener within, or a plain byte
        have plain : ¬ (beg F.opn ((bytesOf s).drop p) = true ∧ (deep = 0 ∨ F.nest = true)) → Ev (fun k => redpenref10_Labels_block.j2 k (ov L at_ X) s p F.nest deep false) (((at_ + (X ++ blkW F deep ((bytesOf s).drop p)).length : Nat) : Int), ov L at_ (X ++ blkW F deep ((bytesOf s).drop p))) := by
          intro hn
          refine Ev.up ?_
          simp only [redpenref10_Labels_block.j2, Bool.false_eq_true, if_false]
          have hlen : (ov L at_ X).length = s.size := by rw [ov_length _ _ _ (by omega), hL]
          simp only [if_pos (show (0 : Int) ≤ (p : Int) by omega), hlen, if_pos (show (p : Int) < (s.size : Int) by omega)]
          have en : ((p : Int)).toNat = p := rfl
          simp only [e1, en]
          have es : (ov L at_ X).set p 1 = ov L at_ (X ++ List.replicate 1 1) := by
            rw [← ov_set L at_ X 1 1 (by omega) ((at_ + X.length : Nat) : Int) rfl]
            rw [← hp]
            apply List.ext_getElem?
            intro i
            rw [setL_get, List.getElem?_set]
            by_cases hi : p = i
            · subst hi
              rw [if_pos rfl, hlen, if_pos h, List.getElem?_eq_getElem (by rw [hlen]; exact h), Option.map_some, if_pos (by omega)]
            · rw [if_neg hi]
              cases (ov L at_ X)[i]? with
              | none => rfl
              | some x => rw [Option.map_some, if_neg (by omega)]
          have := ih (p + 1) deep (X ++ List.replicate 1 1) (by omega) (by simp; omega) (by omega) hd hd2
          rw [drop_at _ p (by rw [bytesOf_length]; exact h)] at hn ⊢
          rw [drop_at _ p (by rw [bytesOf_length]; exact h)] at b1'
          rw [blkW_p F deep _ _ hn (by rw [hs]; exact b1')]
          rw [es]
          rw [List.append_assoc] at this
          exact this
        by_cases hn : F.nest = true
        · simp only [hn, if_true, a2, Option.bind_some]
          by_cases b2 : beg [47, 42] ((bytesOf s).drop p) = true
          · have hb := beg2 b2
            rw [bytesOf_length] at hb
            simp only [b2]
            refine Ev.up ?_
            simp only [redpenref10_Labels_block.j2, if_true]
            by_cases h32 : deep = 32
            · subst h32
              simp only [if_pos (show ((32 : Nat) : Int) = 32 by rfl)]
              rw [blkW_oo F 32 _ (by rw [ho]; exact b2) (.inr hn) (by omega), List.length_drop, bytesOf_length]
              refine Ev.bind (putov_is L at_ X p (s.size - p) 6 (s.size : Int) hp (by omega) (by omega) (by omega)) ?_
              have e : (s.size : Int) = ((at_ + (X ++ List.replicate (s.size - p) (6 : Int)).length : Nat) : Int) := by simp; omega
              rw [e]
              exact Ev.some_ _
            · simp only [if_neg (show ¬ ((deep : Int) = 32) by omega)]
              have e3 : wrap64 ((deep : Int) + 1) = ((deep + 1 : Nat) : Int) := by rw [wr _ (by omega) (by omega)]; omega
              simp only [e2, e3]
              refine Ev.bind (putov_is L at_ X p 2 3 ((p + 2 : Nat) : Int) hp (by simp at hb; omega) (by omega) (by omega)) ?_
              have h6 : p + 2 = at_ + (X ++ List.replicate 2 (3 : Int)).length := by rw [List.length_append, List.length_replicate]; omega
              have h7 : p + 2 ≤ s.size := by simp only [List.length_cons, List.length_nil] at hb; omega
              have := ih (p + 2) (deep + 1) (X ++ List.replicate 2 3) (h5 _ (Nat.lt_add_of_pos_right (by decide))) h6 h7 (Nat.le_add_left 1 deep) (Nat.lt_of_le_of_ne hd2 h32)
              rw [blkW_o F deep _ (by rw [ho]; exact b2) (.inr hn) (Nat.lt_of_le_of_ne hd2 h32), ho]
              rw [List.append_assoc, hn] at this
              rw [List.drop_drop]
              exact this
          · have b2' : beg [47, 42] ((bytesOf s).drop p) = false := by simpa using b2
            simp only [b2']
            have := plain (by rw [ho]; exact fun x => b2 x.1)
            rw [hn] at this
            exact this
        · have hn' : F.nest = false := by simpa using hn
          simp only [hn', Bool.false_eq_true, if_false]
          have := plain (by rintro ⟨_, x | x⟩; omega; exact hn x)
          rw [hn'] at this
          exact this
    · have e : (bytesOf s).drop p = [] := List.drop_eq_nil_of_le (by rw [bytesOf_length]; omega)
      exact ih p deep X (by omega) hp hle hd hd2
theorem block_is (F : Fam) (ho : F.opn = [47, 42]) (hs : F.shut = [42, 47]) (s : ByteArray) (hz : s.size ≤ 65536) (L : List Int) (hL : L.length = s.size) (at_ : Nat) (hb : beg [47, 42] ((bytesOf s).drop at_) = true) :
    Ev (fun k => redpenref10_Labels_block.f k L s at_ F.nest) (((at_ + (blkW F 0 ((bytesOf s).drop at_)).length : Nat) : Int), ov L at_ (blkW F 0 ((bytesOf s).drop at_))) := by
  have hl := beg2 hb
  rw [bytesOf_length] at hl
  simp only [List.length_cons, List.length_nil] at hl
  unfold redpenref10_Labels_block.f
  have e2 : wrap64 ((at_ : Int) + 2) = ((at_ + 2 : Nat) : Int) := by rw [wr _ (by omega) (by omega)]; omega
  simp only [e2]
  have h1 := putov_is L at_ [] at_ 2 3 ((at_ + 2 : Nat) : Int) (by simp) (by omega) (by omega) (by omega)
  rw [ov_nil] at h1
  refine Ev.bind h1 ?_
  have := blk_l0 F ho hs s hz L hL at_ _ (at_ + 2) 1 (List.replicate 2 3) (Nat.le_refl _) (by simp) (by omega) (by omega) (by omega)
  rw [blkW_o F 0 _ (by rw [ho]; exact hb) (.inl rfl) (by omega), ho, List.drop_drop]
  exact this

/-! ### a string -/
theorem bt_is (s : ByteArray) (p : Nat) (h : p < s.size) : bt s (p : Int) = (bytesOf s).getD p 0 := by
  have hb := bt_at s (p : Int) (by exact h)
  rw [← hb, List.getD_eq_getElem?_getD]
  have hl : p < (bytesOf s).length := by rw [bytesOf_length]; exact h
  rw [List.getElem?_eq_getElem hl]
  simp only [bytesOf, List.getElem_map, Option.getD_some]
  rfl
end Go.Proofs.Ytjbbogcoabgcnaa.S

set_option linter.unusedVariables false
set_option linter.unusedSimpArgs false
namespace Go.Proofs.Ytjbbogcoabgcnaa.S
open Go.RowKit Go.Proofs.YtjbbogcoabgcnaaW.PrintWords Go.Proofs.Ytjbbogcoabgcnaa.L Go.Proofs.Ytjbbogcoabgcnaa.Src Go.Proofs.Ytjbbogcoabgcnaa.PSrc

theorem wrn (p d : Nat) {n : Nat} (hn : n ≤ 100000) (hp : p ≤ n) (hd : d ≤ 10) : wrap64 ((p : Int) + (d : Int)) = ((p + d : Nat) : Int) := by
  rw [wr _ (by omega) (by omega), Int.natCast_add]
section
variable (mk : ByteArray) (esc tw lg rw_ : Bool) (s : ByteArray) (L : List Int) (a0 : Nat)
/-- A kind of strings, as the reference keeps it. -/
def tx : Tx := ⟨bytesOf mk, esc, tw, lg, if rw_ = true then 7 else 5⟩
def RR (X : List Int) : Int × List Int := (((a0 + X.length : Nat) : Int), ov L a0 X)

set_option maxHeartbeats 8000000 in
theorem quoted_l0 (hz : s.size ≤ 65536) (hL : L.length = s.size) (hm : 0 < mk.size) (hm3 : mk.size ≤ 3) (htw : tw = true → mk.size = 1) (hcode : ∀ i, a0 ≤ i → i < s.size → L[i]? = some 4) (w9 : Int) (hw9 : w9 = (tx mk esc tw lg rw_).what) :
    ∀ (m p : Nat) (X : List Int), s.size - p ≤ m → p = a0 + X.length → p ≤ s.size →
    Ev (fun k => redpenref10_Labels_quoted.l0 k (ov L a0 X) s p w9 mk esc tw lg rw_) (RR L a0 (X ++ txtW (tx mk esc tw lg rw_) ((bytesOf s).drop p))) := by
  intro m
  induction m with
  | zero =>
    intro p X hmm hp hle
    have e : (bytesOf s).drop p = [] := List.drop_eq_nil_of_le (by rw [bytesOf_length]; omega)
    rw [e, txtW_end, List.append_nil]
    refine Ev.up ?_
    simp only [redpenref10_Labels_quoted.l0, if_neg (show ¬ ((p : Int) < (s.size : Int)) by omega)]
    have : (s.size : Int) = ((a0 + X.length : Nat) : Int) := by omega
    rw [this]
    exact Ev.some_ _
  | succ m ih =>
    intro p X hmm hp hle
    by_cases h : p < s.size
    · have h5 : ∀ q, p < q → s.size - q ≤ m := fun q hq => by omega
      have h1s : p + 1 ≤ s.size := h
      have h6 : ∀ (d : Nat) (v : Int), p + d = a0 + (X ++ List.replicate d v).length := fun d v => by rw [List.length_append, List.length_replicate]; omega
      have hz2 : s.size ≤ 100000 := by omega
      have hL2 : L.length ≤ 100000 := by omega
      have cast : ∀ d : Nat, ((p + d : Nat) : Int) = (p : Int) + (d : Int) := fun d => Int.natCast_add p d
      have hpl : p < (bytesOf s).length := by rw [bytesOf_length]; exact h
      have hpi : (p : Int) < (s.size : Int) := by omega
      have hp0 : (0 : Int) ≤ (p : Int) := by omega
      have e2 : Unit → wrap64 ((p : Int) + 2) = ((p + 2 : Nat) : Int) := fun _ => wrn p 2 hz2 hle (by decide)
      have e1 : Unit → wrap64 ((p : Int) + 1) = ((p + 1 : Nat) : Int) := fun _ => wrn p 1 hz2 hle (by decide)
      have em : Unit → wrap64 ((p : Int) + (mk.size : Int)) = ((p + mk.size : Nat) : Int) := fun _ => wrn p mk.size hz2 hle (Nat.le_trans hm3 (by decide))
      have eb : bt s (p : Int) = (bytesOf s).getD p 0 := bt_is s p h
      have hT : (tx mk esc tw lg rw_).mark = bytesOf mk := rfl
      generalize hTT : tx mk esc tw lg rw_ = T at *
      have t1 : T.escape = esc := by rw [← hTT]; rfl
      have t2 : T.twice = tw := by rw [← hTT]; rfl
      have t3 : T.long = lg := by rw [← hTT]; rfl
      have dr := drop_at _ p hpl
      -- the last way: the mark, or one byte
      have last : ¬ ((bytesOf s).getD p 0 = 10 ∧ T.long = false) → noesc T ((bytesOf s).getD p 0) ((bytesOf s).drop (p + 1)) → ¬ (T.twice = true ∧ beg (T.mark ++ T.mark) ((bytesOf s).drop p) = true) →
          Ev (fun k => redpenref10_Labels_quoted.j4 k (ov L a0 X) s p w9 1 false mk esc tw lg rw_) (RR L a0 (X ++ txtW T ((bytesOf s).drop p))) := by
        intro h0 hn ht
        refine Ev.up ?_
        simp only [redpenref10_Labels_quoted.j4, Bool.false_eq_true, if_false, at_is s mk p hle hz2 hm (Nat.le_trans hm3 (by decide)), Option.bind_some]
        by_cases b1 : beg (bytesOf mk) ((bytesOf s).drop p) = true
        · simp only [b1, if_true, em ()]
          have hb := beg2 b1
          rw [bytesOf_length, bytesOf_length] at hb
          rw [dr] at ht b1 ⊢
          rw [txtW_mark T _ _ h0 hn ht (by rw [hT]; exact b1), hT, bytesOf_length]
          unfold RR
          rw [ov_same L a0 X 4 mk.size (by omega) (fun i h1 h2 => hcode i (by omega) (by omega))]
          have : ((p + mk.size : Nat) : Int) = ((a0 + (X ++ List.replicate mk.size (4 : Int)).length : Nat) : Int) := by simp; omega
          rw [this]
          exact Ev.some_ _
        · have b1' : beg (bytesOf mk) ((bytesOf s).drop p) = false := by simpa using b1
          simp only [b1', Bool.false_eq_true, if_false, e1 ()]
          refine Ev.bind (putov_is L a0 X p 1 w9 ((p + 1 : Nat) : Int) hp (by rw [hL]; exact h1s) hL2 (cast 1)) ?_
          have := ih (p + 1) (X ++ List.replicate 1 w9) (h5 _ (Nat.lt_add_of_pos_right (by decide))) (h6 1 w9) h1s
          rw [dr] at ht b1' ⊢
          rw [txtW_one T _ _ h0 hn ht (by rw [hT]; exact b1')]
          rw [List.append_assoc, hw9] at this
          rw [hw9]
          exact this
      -- twice the mark, or the last way
      have twice_ : ¬ ((bytesOf s).getD p 0 = 10 ∧ T.long = false) → noesc T ((bytesOf s).getD p 0) ((bytesOf s).drop (p + 1)) →
          Ev (fun k => redpenref10_Labels_quoted.j3 k (ov L a0 X) s p w9 1 false mk esc tw lg rw_) (RR L a0 (X ++ txtW T ((bytesOf s).drop p))) := by
        intro h0 hn
        refine Ev.up ?_
        simp only [redpenref10_Labels_quoted.j3, Bool.false_eq_true, if_false]
        by_cases ht : tw = true
        · have hms := htw ht
          have hss : (mk ++ mk).size = 2 := by rw [ByteArray.size_append, hms]
          simp only [ht, if_true, if_pos (show mk.size + mk.size ≤ 9223372036854775807 by rw [hms]; decide), at_is s (mk ++ mk) p hle hz2 (by rw [hss]; decide) (by rw [hss]; decide), Option.bind_some]
          rw [bytesOf_append]
          by_cases b1 : beg (bytesOf mk ++ bytesOf mk) ((bytesOf s).drop p) = true
          · simp only [b1]
            have hb := beg2 b1
            rw [List.length_append, bytesOf_length, bytesOf_length, hms] at hb
            have hq2 : p + 2 ≤ s.size := hb.1
            refine Ev.up ?_
            simp only [redpenref10_Labels_quoted.j4, if_true, e2 ()]
            refine Ev.bind (putov_is L a0 X p 2 w9 ((p + 2 : Nat) : Int) hp (by rw [hL]; exact hq2) hL2 (cast 2)) ?_
            have := ih (p + 2) (X ++ List.replicate 2 w9) (h5 _ (Nat.lt_add_of_pos_right (by decide))) (h6 2 w9) hq2
            rw [dr] at b1 ⊢
            rw [txtW_twice T _ _ h0 hn (by rw [t2]; exact ht) (by rw [hT]; exact b1), hT, bytesOf_length, hms, ← dr, List.drop_drop]
            rw [List.append_assoc, hw9, ht] at this
            rw [hw9]
            exact this
          · have b1' : beg (bytesOf mk ++ bytesOf mk) ((bytesOf s).drop p) = false := by simpa using b1
            simp only [b1']
            have := last h0 hn (by rw [hT, b1']; simp)
            rw [ht] at this
            exact this
        · have ht' : tw = false := by simpa using ht
          simp only [ht', Bool.false_eq_true, if_false]
          have := last h0 hn (by rw [t2, ht']; simp)
          rw [ht'] at this
          exact this
      -- an escape, or the rest
      have esc_ : ¬ ((bytesOf s).getD p 0 = 10 ∧ T.long = false) → Ev (fun k => redpenref10_Labels_quoted.j2 k (ov L a0 X) s p w9 false mk esc tw lg rw_) (RR L a0 (X ++ txtW T ((bytesOf s).drop p))) := by
        intro h0
        have yes : esc = true → (bytesOf s).getD p 0 = 92 → (hq : p + 1 < s.size) → (lg = true ∨ (bytesOf s).getD (p + 1) 0 ≠ 10) → Ev (fun k => redpenref10_Labels_quoted.j3 k (ov L a0 X) s p w9 1 true mk esc tw lg rw_) (RR L a0 (X ++ txtW T ((bytesOf s).drop p))) := by
          intro h1 h2 h3 h4
          have hq2 : p + 2 ≤ s.size := h3
          refine Ev.up ?_
          simp only [redpenref10_Labels_quoted.j3, if_true, e2 ()]
          refine Ev.bind (putov_is L a0 X p 2 w9 ((p + 2 : Nat) : Int) hp (by rw [hL]; exact hq2) hL2 (cast 2)) ?_
          have := ih (p + 2) (X ++ List.replicate 2 w9) (h5 _ (Nat.lt_add_of_pos_right (by decide))) (h6 2 w9) hq2
          rw [dr, drop_at _ (p + 1) (by rw [bytesOf_length]; exact h3), h2, txtW_esc T _ _ (by rw [t1]; exact h1) (by rw [t3]; exact h4)]
          rw [List.append_assoc, hw9] at this
          rw [hw9]
          exact this
        have no : ¬ (esc = true ∧ (bytesOf s).getD p 0 = 92 ∧ p + 1 < s.size ∧ (lg = true ∨ (bytesOf s).getD (p + 1) 0 ≠ 10)) → Ev (fun k => redpenref10_Labels_quoted.j3 k (ov L a0 X) s p w9 1 false mk esc tw lg rw_) (RR L a0 (X ++ txtW T ((bytesOf s).drop p))) := by
          intro hno
          refine twice_ h0 ?_
          rintro ⟨a, b, c, d⟩
          rw [t1] at a
          rw [t3] at d
          have hq : p + 1 < s.size := by
            rcases Nat.lt_or_ge (p + 1) s.size with h | h
            · exact h
            · exact absurd (List.drop_eq_nil_of_le (by rw [bytesOf_length]; exact h)) c
          refine hno ⟨a, b, hq, d.imp id fun d e => d ?_⟩
          rw [drop_at _ (p + 1) (by rw [bytesOf_length]; exact hq), e]
          rfl
        refine Ev.up ?_
        simp only [redpenref10_Labels_quoted.j2, Bool.false_eq_true, if_false, if_pos hpi, if_pos hp0, e1 (), eb]
        by_cases c1 : esc = true
        · simp only [if_pos c1]
          by_cases c2 : (bytesOf s).getD p 0 = 92
          · simp only [if_pos c2]
            by_cases c3 : p + 1 < s.size
            · simp only [if_pos (show ((p + 1 : Nat) : Int) < (s.size : Int) by omega), if_pos (show (0 : Int) ≤ ((p + 1 : Nat) : Int) by omega), bt_is s (p + 1) c3]
              by_cases c4 : lg = true
              · simp only [if_pos c4]
                exact yes c1 c2 c3 (.inl c4)
              · simp only [if_neg c4]
                by_cases c5 : (bytesOf s).getD (p + 1) 0 = 10
                · have e : ((bytesOf s).getD (p + 1) 0 != 10) = false := by rw [c5]; rfl
                  simp only [e]
                  exact no (fun x => by rcases x.2.2.2 with y | y; exact c4 y; exact y c5)
                · have e : ((bytesOf s).getD (p + 1) 0 != 10) = true := by rw [bne_iff_ne]; exact c5
                  simp only [e]
                  exact yes c1 c2 c3 (.inr c5)
            · simp only [if_neg (show ¬ (((p + 1 : Nat) : Int) < (s.size : Int)) by omega)]
              exact no (fun x => c3 x.2.2.1)
          · simp only [if_neg c2]
            exact no (fun x => c2 x.2.1)
        · simp only [if_neg c1]
          exact no (fun x => c1 x.1)
      refine Ev.up ?_
      simp only [redpenref10_Labels_quoted.l0, if_pos hpi, if_pos hp0, eb]
      by_cases c4 : lg = true
      · simp only [if_pos c4]
        exact esc_ (fun x => by rw [t3, c4] at x; exact absurd x.2 (by simp))
      · simp only [if_neg c4]
        by_cases c5 : (bytesOf s).getD p 0 = 10
        · have e : ((bytesOf s).getD p 0 == 10) = true := by rw [beq_iff_eq]; exact c5
          simp only [e]
          refine Ev.up ?_
          simp only [redpenref10_Labels_quoted.j2, if_true]
          rw [dr, c5, txtW_nl T _ (by rw [t3]; simpa using c4), List.append_nil, hp]
          exact Ev.some_ _
        · have e : ((bytesOf s).getD p 0 == 10) = false := by rw [beq_eq_false_iff_ne]; exact c5
          simp only [e]
          exact esc_ (fun x => c5 x.1)
    · have e : (bytesOf s).drop p = [] := List.drop_eq_nil_of_le (by rw [bytesOf_length]; omega)
      exact ih p X (by omega) hp hle
theorem quoted_is (hz : s.size ≤ 65536) (hL : L.length = s.size) (hm : 0 < mk.size) (hm3 : mk.size ≤ 3) (htw : tw = true → mk.size = 1) (hcode : ∀ i, a0 ≤ i → i < s.size → L[i]? = some 4) (ha : a0 ≤ s.size) :
    Ev (fun k => redpenref10_Labels_quoted.f k L s a0 mk esc tw lg rw_) (RR L a0 (txtW (tx mk esc tw lg rw_) ((bytesOf s).drop a0))) := by
  have h := quoted_l0 mk esc tw lg rw_ s L a0 hz hL hm hm3 htw hcode _ rfl _ a0 [] (Nat.le_refl _) (by simp) ha
  rw [ov_nil, List.nil_append] at h
  unfold redpenref10_Labels_quoted.f
  cases rw_ with
  | true =>
    simp only [if_true]
    refine Ev.up ?_
    simp only [redpenref10_Labels_quoted.j0]
    exact h
  | false =>
    simp only [Bool.false_eq_true, if_false]
    refine Ev.up ?_
    simp only [redpenref10_Labels_quoted.j0]
    exact h
end
end Go.Proofs.Ytjbbogcoabgcnaa.S

set_option linter.unusedVariables false
set_option linter.unusedSimpArgs false
namespace Go.Proofs.Ytjbbogcoabgcnaa.S
open Go.RowKit Go.Proofs.YtjbbogcoabgcnaaW.PrintWords Go.Proofs.Ytjbbogcoabgcnaa.L Go.Proofs.Ytjbbogcoabgcnaa.Src Go.Proofs.Ytjbbogcoabgcnaa.PSrc

/-- How long a mark of a remark stands at a place; 0: none. -/
def nt (F : Fam) (p : Int) (s : List Int) : Nat := match F.line.find? (fun m => beg m s && (!F.apart || gap p)) with | some m => m.length | none => 0
def tq (q : S69) : Tx := tx q.f0 q.f1 q.f2 q.f3 q.f4
/-- A format of the reference. -/
structure Rf (f : Int) (F : Fam) (Q : List S69) : Prop where
  note : ∀ (s : ByteArray) (p : Nat), p ≤ s.size → s.size ≤ 65536 → Ev (fun k => redpenref10_note.f k f s p) ((nt F (prv (bytesOf s) p) ((bytesOf s).drop p) : Nat) : Int)
  nl : ∀ m ∈ F.line, 0 < m.length ∧ m.length ≤ 2
  blk : (f = 6 ∨ f = 7) ∧ F.opn = [] ∨ (f ≠ 6 ∧ f ≠ 7 ∧ F.opn = [47, 42] ∧ F.shut = [42, 47] ∧ F.nest = (f == 8))
  quo : redpenref10_quotes.f f = some Q
  txt : F.texts = Q.map tq
  qs : ∀ q ∈ Q, 0 < q.f0.size ∧ q.f0.size ≤ 3 ∧ (q.f2 = true → q.f0.size = 1)
  ql : Q.length ≤ 9

/-! ### note -/
theorem l_ss : bytesOf (⟨#[47, 47]⟩ : ByteArray) = [47, 47] := by rfl
theorem l_dd : bytesOf (⟨#[45, 45]⟩ : ByteArray) = [45, 45] := by rfl
theorem l_h : bytesOf (⟨#[35]⟩ : ByteArray) = [35] := by rfl
theorem at_ss (s : ByteArray) (p : Nat) (hp : p ≤ s.size) (hz : s.size ≤ 65536) : redpenref10_at.f s p ⟨#[47, 47]⟩ = some (beg [47, 47] ((bytesOf s).drop p)) := by
  rw [at_is s _ p hp (by omega) (by decide) (by decide), l_ss]
theorem at_dd (s : ByteArray) (p : Nat) (hp : p ≤ s.size) (hz : s.size ≤ 65536) : redpenref10_at.f s p ⟨#[45, 45]⟩ = some (beg [45, 45] ((bytesOf s).drop p)) := by
  rw [at_is s _ p hp (by omega) (by decide) (by decide), l_dd]
theorem at_h (s : ByteArray) (p : Nat) (hp : p ≤ s.size) (hz : s.size ≤ 65536) : redpenref10_at.f s p ⟨#[35]⟩ = some (beg [35] ((bytesOf s).drop p)) := by
  rw [at_is s _ p hp (by omega) (by decide) (by decide), l_h]
theorem nt_one (F : Fam) (m : List Int) (hl : F.line = [m]) (ha : F.apart = false) (p : Int) (s : List Int) : nt F p s = if beg m s = true then m.length else 0 := by
  unfold nt
  rw [hl, ha]
  cases h : beg m s <;> simp [List.find?, h]
theorem note_c (f : Int) (hf : f = 4 ∨ f = 5) (s : ByteArray) (p : Nat) (hp : p ≤ s.size) (hz : s.size ≤ 65536) : Ev (fun k => redpenref10_note.f k f s p) (((if beg [47, 47] ((bytesOf s).drop p) = true then 2 else 0 : Nat)) : Int) := by
  have h8 : ¬ f = 8 := by omega
  have h6 : ¬ f = 6 := by omega
  have h7 : ¬ f = 7 := by omega
  have main : Ev (fun k => redpenref10_note.j0 k f s p (beg [47, 47] ((bytesOf s).drop p))) (((if beg [47, 47] ((bytesOf s).drop p) = true then 2 else 0 : Nat)) : Int) := by
    refine Ev.up (Ev.up (Ev.up ?_))
    cases beg [47, 47] ((bytesOf s).drop p) with
    | true =>
      simp only [redpenref10_note.j0, redpenref10_note.j1, if_true]
      exact Ev.some_ _
    | false =>
      simp only [redpenref10_note.j0, redpenref10_note.j1, redpenref10_note.j2, Bool.false_eq_true, if_false, if_neg h8, if_neg h6, if_neg h7]
      exact Ev.some_ _
  unfold redpenref10_note.f
  rcases hf with rfl | rfl
  · simp only [if_true, at_ss s p hp hz, Option.bind_some]
    exact main
  · simp only [if_true, at_ss s p hp hz, Option.bind_some, if_neg (show ¬ ((5 : Int) = 4) by omega)]
    exact main
theorem note_q (s : ByteArray) (p : Nat) (hp : p ≤ s.size) (hz : s.size ≤ 65536) : Ev (fun k => redpenref10_note.f k 8 s p) (((if beg [45, 45] ((bytesOf s).drop p) = true then 2 else 0 : Nat)) : Int) := by
  unfold redpenref10_note.f
  simp only [if_neg (show ¬ ((8 : Int) = 4) by omega), if_neg (show ¬ ((8 : Int) = 5) by omega)]
  refine Ev.up (Ev.up (Ev.up ?_))
  simp only [redpenref10_note.j0, Bool.false_eq_true, if_false, if_true, at_dd s p hp hz, Option.bind_some]
  cases beg [45, 45] ((bytesOf s).drop p) with
  | true =>
    simp only [redpenref10_note.j1, if_true]
    exact Ev.some_ _
  | false =>
    simp only [redpenref10_note.j1, redpenref10_note.j2, Bool.false_eq_true, if_false, if_neg (show ¬ ((8 : Int) = 6) by omega), if_neg (show ¬ ((8 : Int) = 7) by omega)]
    exact Ev.some_ _
theorem note_p (s : ByteArray) (p : Nat) (hp : p ≤ s.size) (hz : s.size ≤ 65536) : Ev (fun k => redpenref10_note.f k 6 s p) (((if beg [35] ((bytesOf s).drop p) = true then 1 else 0 : Nat)) : Int) := by
  unfold redpenref10_note.f
  simp only [if_neg (show ¬ ((6 : Int) = 4) by omega), if_neg (show ¬ ((6 : Int) = 5) by omega)]
  refine Ev.up (Ev.up (Ev.up ?_))
  simp only [redpenref10_note.j0, redpenref10_note.j1, Bool.false_eq_true, if_false, if_true, at_h s p hp hz, Option.bind_some, if_neg (show ¬ ((6 : Int) = 8) by omega)]
  cases beg [35] ((bytesOf s).drop p) with
  | true =>
    simp only [redpenref10_note.j2, if_true]
    exact Ev.some_ _
  | false =>
    simp only [redpenref10_note.j2, Bool.false_eq_true, if_false, if_neg (show ¬ ((6 : Int) = 7) by omega)]
    exact Ev.some_ _
theorem note_s (s : ByteArray) (p : Nat) (hp : p ≤ s.size) (hz : s.size ≤ 65536) : Ev (fun k => redpenref10_note.f k 7 s p) (((if (beg [35] ((bytesOf s).drop p) && gap (prv (bytesOf s) p)) = true then 1 else 0 : Nat)) : Int) := by
  unfold redpenref10_note.f
  simp only [if_neg (show ¬ ((7 : Int) = 4) by omega), if_neg (show ¬ ((7 : Int) = 5) by omega)]
  refine Ev.up (Ev.up (Ev.up ?_))
  simp only [redpenref10_note.j0, redpenref10_note.j1, redpenref10_note.j2, Bool.false_eq_true, if_false, if_true, at_h s p hp hz, Option.bind_some, if_neg (show ¬ ((7 : Int) = 8) by omega), if_neg (show ¬ ((7 : Int) = 6) by omega)]
  cases beg [35] ((bytesOf s).drop p) with
  | false =>
    simp only [Bool.false_and, Bool.false_eq_true, if_false]
    exact Ev.some_ _
  | true =>
    simp only [Bool.true_and, if_true]
    rcases Nat.eq_zero_or_pos p with h0 | h0
    · subst h0
      have hg : gap (prv (bytesOf s) 0) = true := by rfl
      simp only [if_pos (show ((0 : Nat) : Int) = 0 by rfl), hg, if_true]
      exact Ev.some_ _
    · have e : wrap64 ((p : Int) - 1) = ((p - 1 : Nat) : Int) := by rw [wr _ (by omega) (by omega)]; omega
      have hp1 : p - 1 < s.size := by clear e; omega
      have g0 : (0 : Int) ≤ ((p - 1 : Nat) : Int) := Int.natCast_nonneg _
      have g1 : ((p - 1 : Nat) : Int) < (s.size : Int) := Int.ofNat_lt.2 hp1
      have g2 : ¬ ((p : Int) = 0) := by clear e; omega
      simp only [if_neg g2, e, if_pos g0, if_pos g1, bt_is s (p - 1) hp1]
      have hpr : prv (bytesOf s) p = (bytesOf s).getD (p - 1) 0 := by unfold prv; rw [if_neg (by clear e; omega)]
      rw [hpr]
      have hb := bt_range s ((p - 1 : Nat) : Int)
      rw [bt_is s (p - 1) hp1] at hb
      generalize (bytesOf s).getD (p - 1) 0 = x at *
      clear e hpr
      unfold gap
      have h1 : (x == (-1 : Int)) = false := by rw [beq_eq_false_iff_ne]; omega
      rw [h1]
      by_cases c1 : x = 32
      · subst c1; exact Ev.some_ _
      by_cases c2 : x = 9
      · subst c2; exact Ev.some_ _
      by_cases c3 : x = 10
      · subst c3; exact Ev.some_ _
      by_cases c4 : x = 13
      · subst c4; exact Ev.some_ _
      by_cases c5 : x = 59
      · subst c5; exact Ev.some_ _
      have d1 : (x == (32 : Int)) = false := by rw [beq_eq_false_iff_ne]; exact c1
      have d2 : (x == (9 : Int)) = false := by rw [beq_eq_false_iff_ne]; exact c2
      have d3 : (x == (10 : Int)) = false := by rw [beq_eq_false_iff_ne]; exact c3
      have d4 : (x == (13 : Int)) = false := by rw [beq_eq_false_iff_ne]; exact c4
      have d5 : (x == (59 : Int)) = false := by rw [beq_eq_false_iff_ne]; exact c5
      simp only [d1, d2, d3, d4, d5, if_neg c1, if_neg c2, if_neg c3, if_neg c4, if_neg c5, Bool.or_false, Bool.false_eq_true, if_false]
      exact Ev.some_ _

/-! ### the formats -/
def q1 : S69 := ⟨(⟨#[34]⟩ : ByteArray), true, false, false, false⟩
def q2 : S69 := ⟨(⟨#[39]⟩ : ByteArray), true, false, false, false⟩
def q3 : S69 := ⟨strOfNums (([96] : List Int)), false, false, true, true⟩
def q4 : S69 := ⟨(⟨#[34, 34, 34]⟩ : ByteArray), true, false, true, false⟩
def q5 : S69 := ⟨(⟨#[39, 39, 39]⟩ : ByteArray), true, false, true, false⟩
def q6 : S69 := ⟨(⟨#[34]⟩ : ByteArray), true, false, true, false⟩
def q7 : S69 := ⟨(⟨#[39]⟩ : ByteArray), false, false, true, true⟩
def q8 : S69 := ⟨(⟨#[39]⟩ : ByteArray), false, true, true, false⟩
def q9 : S69 := ⟨(⟨#[34]⟩ : ByteArray), false, true, true, true⟩
theorem rf4 : Rf 4 famC [q1, q2] where
  note := fun s p hp hz => by rw [nt_one famC [47, 47] rfl rfl]; exact note_c 4 (.inl rfl) s p hp hz
  nl := by decide
  blk := .inr ⟨by decide, by decide, rfl, rfl, rfl⟩
  quo := rfl
  txt := rfl
  qs := by
    intro q hq
    simp only [List.mem_cons, List.not_mem_nil, or_false] at hq
    rcases hq with rfl | rfl <;> decide
  ql := by decide
theorem rf5 : Rf 5 famG [q1, q2, q3] where
  note := fun s p hp hz => by rw [nt_one famG [47, 47] rfl rfl]; exact note_c 5 (.inr rfl) s p hp hz
  nl := by decide
  blk := .inr ⟨by decide, by decide, rfl, rfl, rfl⟩
  quo := rfl
  txt := rfl
  qs := by
    intro q hq
    simp only [List.mem_cons, List.not_mem_nil, or_false] at hq
    rcases hq with rfl | rfl | rfl <;> decide
  ql := by decide
theorem rf6 : Rf 6 famP [q4, q5, q1, q2] where
  note := fun s p hp hz => by rw [nt_one famP [35] rfl rfl]; exact note_p s p hp hz
  nl := by decide
  blk := .inl ⟨.inl rfl, rfl⟩
  quo := rfl
  txt := rfl
  qs := by
    intro q hq
    simp only [List.mem_cons, List.not_mem_nil, or_false] at hq
    rcases hq with rfl | rfl | rfl | rfl <;> decide
  ql := by decide
theorem nt_s (p : Int) (s : List Int) : nt famS p s = if (beg [35] s && gap p) = true then 1 else 0 := by
  unfold nt
  have : famS.line = [[35]] := rfl
  rw [this]
  have : famS.apart = true := rfl
  rw [this]
  cases h : (beg [35] s && gap p) <;> simp [List.find?, h]
theorem rf7 : Rf 7 famS [q6, q7] where
  note := fun s p hp hz => by rw [nt_s]; exact note_s s p hp hz
  nl := by decide
  blk := .inl ⟨.inr rfl, rfl⟩
  quo := rfl
  txt := rfl
  qs := by
    intro q hq
    simp only [List.mem_cons, List.not_mem_nil, or_false] at hq
    rcases hq with rfl | rfl <;> decide
  ql := by decide
theorem rf8 : Rf 8 famQ [q8, q9] where
  note := fun s p hp hz => by rw [nt_one famQ [45, 45] rfl rfl]; exact note_q s p hp hz
  nl := by decide
  blk := .inr ⟨by decide, by decide, rfl, rfl, rfl⟩
  quo := rfl
  txt := rfl
  qs := by
    intro q hq
    simp only [List.mem_cons, List.not_mem_nil, or_false] at hq
    rcases hq with rfl | rfl <;> decide
  ql := by decide
theorem rf_any (f : Int) (F : Fam) (h : famOf f = some F) : ∃ Q, Rf f F Q := by
  unfold famOf at h
  split at h
  · rename_i e; subst e; injection h with h; subst h; exact ⟨_, rf4⟩
  split at h
  · rename_i e; subst e; injection h with h; subst h; exact ⟨_, rf5⟩
  split at h
  · rename_i e; subst e; injection h with h; subst h; exact ⟨_, rf6⟩
  split at h
  · rename_i e; subst e; injection h with h; subst h; exact ⟨_, rf7⟩
  split at h
  · rename_i e; subst e; injection h with h; subst h; exact ⟨_, rf8⟩
  · exact absurd h (by simp)
end Go.Proofs.Ytjbbogcoabgcnaa.S

set_option linter.unusedVariables false
set_option linter.unusedSimpArgs false
namespace Go.Proofs.Ytjbbogcoabgcnaa.S
open Go.RowKit Go.Proofs.YtjbbogcoabgcnaaW.PrintWords Go.Proofs.Ytjbbogcoabgcnaa.L Go.Proofs.Ytjbbogcoabgcnaa.Src Go.Proofs.Ytjbbogcoabgcnaa.PSrc

section
variable {f : Int} {F : Fam} {Q : List S69} (s : ByteArray) (L : List Int) (R : List Int × Bool)
/-- The rest of a line. -/
theorem line_l1 (hz : s.size ≤ 65536) (hL : L.length = s.size) (a0 : Nat) : ∀ (m q : Nat) (Y : List Int), s.size - q ≤ m → q = a0 + Y.length → q ≤ s.size →
    Ev (fun k => redpenref10_Src.l0 k f s (ov L a0 (Y ++ List.replicate (((bytesOf s).drop q).findIdx (· == 10)) 1)) ((q + ((bytesOf s).drop q).findIdx (· == 10) : Nat) : Int)) R →
    Ev (fun k => redpenref10_Src.l1 k f s (ov L a0 Y) q) R := by
  intro m
  induction m with
  | zero =>
    intro q Y hm hq hle h
    have e : (bytesOf s).drop q = [] := List.drop_eq_nil_of_le (by rw [bytesOf_length]; omega)
    rw [e] at h
    have e0 : ([] : List Int).findIdx (· == 10) = 0 := rfl
    rw [e0, List.replicate_zero, List.append_nil, Nat.add_zero] at h
    refine Ev.up ?_
    simp only [redpenref10_Src.l1, if_neg (show ¬ ((q : Int) < (s.size : Int)) by omega)]
    exact h
  | succ m ih =>
    intro q Y hm hq hle h
    by_cases hlt : q < s.size
    · have h5 : s.size - (q + 1) ≤ m := by omega
      have hz2 : s.size ≤ 100000 := by omega
      have hlen : (ov L a0 Y).length = s.size := by rw [ov_length _ _ _ (by omega), hL]
      have hqi : (q : Int) < (s.size : Int) := by omega
      have hq0 : (0 : Int) ≤ (q : Int) := by omega
      have es : (ov L a0 Y).set q 1 = ov L a0 (Y ++ List.replicate 1 1) := by
        rw [← ov_set L a0 Y 1 1 (by omega) ((a0 + Y.length : Nat) : Int) rfl]
        rw [← hq]
        apply List.ext_getElem?
        intro i
        rw [setL_get, List.getElem?_set]
        by_cases hi : q = i
        · subst hi
          rw [if_pos rfl, hlen, if_pos hlt, List.getElem?_eq_getElem (by rw [hlen]; exact hlt), Option.map_some, if_pos (by omega)]
        · rw [if_neg hi]
          cases (ov L a0 Y)[i]? with
          | none => rfl
          | some x => rw [Option.map_some, if_neg (by omega)]
      rw [drop_at _ q (by rw [bytesOf_length]; exact hlt), List.findIdx_cons] at h
      have hY : q + 1 = a0 + (Y ++ List.replicate 1 (1 : Int)).length := by rw [List.length_append, List.length_replicate]; omega
      refine Ev.up ?_
      simp only [redpenref10_Src.l1, if_pos hqi, if_pos hq0, bt_is s q hlt, hlen]
      by_cases c : (bytesOf s).getD q 0 = 10
      · simp only [if_pos c]
        rw [c] at h
        have e0 : ((10 : Int) == 10) = true := rfl
        simp only [e0, cond_true, List.replicate_zero, List.append_nil, Nat.add_zero] at h
        exact h
      · simp only [if_neg c]
        have e1 : wrap64 ((q : Int) + 1) = ((q + 1 : Nat) : Int) := wrn q 1 hz2 hle (by decide)
        have en : ((q : Int)).toNat = q := rfl
        simp only [e1, en, es]
        refine ih (q + 1) _ h5 hY hlt ?_
        have e0 : ((bytesOf s).getD q 0 == 10) = false := by rw [beq_eq_false_iff_ne]; exact c
        simp only [e0, cond_false] at h
        rw [List.append_assoc, List.replicate_append_replicate]
        have ea : ∀ j : Nat, 1 + j = j + 1 := fun j => Nat.add_comm 1 j
        have eb : ∀ j : Nat, q + 1 + j = q + (j + 1) := fun j => by rw [Nat.add_assoc, ea]
        rw [ea, eb]
        exact h
    · exact ih q Y (by omega) hq hle h
/-- The search of a string's mark. -/
theorem find_l2 (hz : s.size ≤ 65536) (hq9 : Q.length ≤ 9) (hqs : ∀ q ∈ Q, 0 < q.f0.size ∧ q.f0.size ≤ 3) (p : Nat) (hp : p < s.size)
    (hN : Q.find? (fun q => beg (bytesOf q.f0) ((bytesOf s).drop p)) = none → Ev (fun k => redpenref10_Src.l0 k f s L ((p + 1 : Nat) : Int)) R)
    (hS : ∀ q, Q.find? (fun q => beg (bytesOf q.f0) ((bytesOf s).drop p)) = some q → Ev (fun k => (redpenref10_Labels_quoted.f k L s ((p + q.f0.size : Nat) : Int) q.f0 q.f1 q.f2 q.f3 q.f4).bind fun bt158 => redpenref10_Src.l0 k f s bt158.2 bt158.1) R) :
    ∀ (m j : Nat), Q.length - j ≤ m → j ≤ Q.length → (∀ i, i < j → beg (bytesOf (Q.getD i z69).f0) ((bytesOf s).drop p) = false) → Ev (fun k => redpenref10_Src.l2 k f s L p Q j) R := by
  have hz2 : s.size ≤ 100000 := by omega
  have stop : (∀ i, i < Q.length → beg (bytesOf (Q.getD i z69).f0) ((bytesOf s).drop p) = false) → Ev (fun k => redpenref10_Src.l2 k f s L p Q (Q.length : Int)) R := by
    intro h
    refine Ev.up ?_
    simp only [redpenref10_Src.l2, if_neg (Int.lt_irrefl (Q.length : Int)), if_true]
    have e1 : wrap64 ((p : Int) + 1) = ((p + 1 : Nat) : Int) := wrn p 1 hz2 (Nat.le_of_lt hp) (by decide)
    simp only [e1]
    exact hN (find_no _ Q z69 h)
  intro m
  induction m with
  | zero =>
    intro j hm hj h
    have : j = Q.length := by omega
    subst this
    exact stop h
  | succ m ih =>
    intro j hm hj h
    by_cases hlt : j < Q.length
    · have h5 : Q.length - (j + 1) ≤ m := by omega
      have hji : (j : Int) < (Q.length : Int) := by omega
      have hj0 : (0 : Int) ≤ (j : Int) := by omega
      have hjn : ¬ ((j : Int) = (Q.length : Int)) := by omega
      have hr : rd_T69 Q (j : Int) = Q.getD j z69 := rfl
      have hmem : Q.getD j z69 ∈ Q := by rw [List.getD_eq_getElem?_getD, List.getElem?_eq_getElem hlt]; exact List.getElem_mem _
      have hb := hqs _ hmem
      refine Ev.up ?_
      simp only [redpenref10_Src.l2, if_pos hji, if_pos hj0, hr, at_is s _ p (Nat.le_of_lt hp) hz2 hb.1 (Nat.le_trans hb.2 (by decide)), Option.bind_some]
      by_cases c : beg (bytesOf (Q.getD j z69).f0) ((bytesOf s).drop p) = true
      · simp only [c, if_true, if_neg hjn]
        have e1 : wrap64 ((p : Int) + ((Q.getD j z69).f0.size : Int)) = ((p + (Q.getD j z69).f0.size : Nat) : Int) := wrn p _ hz2 (Nat.le_of_lt hp) (Nat.le_trans hb.2 (by decide))
        simp only [e1]
        exact hS _ (find_at _ Q z69 j hlt h c)
      · have c' : beg (bytesOf (Q.getD j z69).f0) ((bytesOf s).drop p) = false := by simpa using c
        simp only [c', Bool.false_eq_true, if_false]
        have e1 : wrap64 ((j : Int) + 1) = ((j + 1 : Nat) : Int) := wrn j 1 (Nat.le_trans hq9 (by decide)) hj (by decide)
        simp only [e1]
        refine ih (j + 1) h5 hlt fun i hi => ?_
        rcases Nat.lt_or_ge i j with g | g
        · exact h i g
        · have : i = j := Nat.le_antisymm (Nat.le_of_lt_succ hi) g
          subst this
          exact c'
    · have : j = Q.length := by omega
      subst this
      exact stop h
end
end Go.Proofs.Ytjbbogcoabgcnaa.S

set_option linter.unusedVariables false
set_option linter.unusedSimpArgs false
namespace Go.Proofs.Ytjbbogcoabgcnaa.S
open Go.RowKit Go.Proofs.YtjbbogcoabgcnaaW.PrintWords Go.Proofs.Ytjbbogcoabgcnaa.L Go.Proofs.Ytjbbogcoabgcnaa.Src Go.Proofs.Ytjbbogcoabgcnaa.PSrc

theorem drop_len {b : List Int} {p : Nat} {c : Int} {r : List Int} (h : b.drop p = c :: r) : b.length - p = r.length + 1 := by
  have := congrArg List.length h
  rw [List.length_drop] at this
  simpa using this
theorem prv_next (b : List Int) (p m : Nat) (h : 1 ≤ m) (hm : p + m ≤ b.length) : (b.drop p).getD (m - 1) 0 = prv b (p + m) := by
  unfold prv
  rw [if_neg (by omega), List.getD_eq_getElem?_getD, List.getElem?_drop, List.getD_eq_getElem?_getD]
  congr 2
  omega
theorem src_l0 {f : Int} {F : Fam} {Q : List S69} (h : Rf f F Q) (s : ByteArray) (hz : s.size ≤ 65536) : ∀ (m p : Nat) (X : List Int), s.size - p ≤ m → p = X.length → p ≤ s.size →
    Ev (fun k => redpenref10_Src.l0 k f s (X ++ List.replicate (s.size - p) 4) p) (X ++ lexF F (prv (bytesOf s) p) ((bytesOf s).drop p), true) := by
  intro m
  induction m with
  | zero =>
    intro p X hm hp hle
    have e : (bytesOf s).drop p = [] := List.drop_eq_nil_of_le (by rw [bytesOf_length]; omega)
    have e1 : s.size - p = 0 := by omega
    rw [e, e1, List.replicate_zero, lexF]
    refine Ev.up ?_
    simp only [redpenref10_Src.l0, if_neg (show ¬ ((p : Int) < (s.size : Int)) by omega)]
    exact Ev.some_ _
  | succ m ih =>
    intro p X hm hp hle
    by_cases hlt : p < s.size
    · have hz2 : s.size ≤ 100000 := by omega
      have hpl : p < (bytesOf s).length := by rw [bytesOf_length]; exact hlt
      have hpi : (p : Int) < (s.size : Int) := by omega
      have hbl : (bytesOf s).length = s.size := bytesOf_length s
      have hd : ∃ c r, (bytesOf s).drop p = c :: r := ⟨_, _, drop_at _ p hpl⟩
      obtain ⟨c, r, hcr⟩ := hd
      have hrl := drop_len hcr
      have hM1 := stp_pos F (prv (bytesOf s) p) c r
      have hM2 := stp_le F (prv (bytesOf s) p) c r
      have hlex := lexF_cons F (prv (bytesOf s) p) c r
      rw [← hcr] at hM1 hM2 hlex
      generalize hMM : stp F (prv (bytesOf s) p) ((bytesOf s).drop p) = M at *
      have hpM : p + M.length ≤ s.size := by omega
      rw [prv_next _ p _ hM1 (by rw [hbl]; exact hpM), List.drop_drop] at hlex
      have hX : (X ++ List.replicate (s.size - p) 4).length = s.size := by rw [List.length_append, List.length_replicate]; omega
      have hcode : ∀ i, p ≤ i → i < s.size → (X ++ List.replicate (s.size - p) (4 : Int))[i]? = some 4 := by
        intro i h1 h2
        rw [List.getElem?_append_right (by omega), List.getElem?_replicate, if_pos (by omega)]
      have hov : ov (X ++ List.replicate (s.size - p) 4) p M = (X ++ M) ++ List.replicate (s.size - (p + M.length)) 4 := by
        have := ov_code X M (s.size - p) (by omega)
        rw [← hp] at this
        rw [this, Nat.sub_sub]
      have go := ih (p + M.length) (X ++ M) (by omega) (by rw [List.length_append]; omega) hpM
      rw [← hov, List.append_assoc, ← hlex] at go
      clear hov hlex ih
      generalize hLL : X ++ List.replicate (s.size - p) (4 : Int) = L at *
      generalize hRR : (X ++ lexF F (prv (bytesOf s) p) ((bytesOf s).drop p), true) = R at *
      have hLs : L.length ≤ 100000 := by omega
      have same : ∀ j : Nat, p + j ≤ s.size → ov L p (List.replicate j 4) = L := by
        intro j hj
        have := ov_same L p [] 4 j (by simp; omega) (fun i h1 h2 => hcode i (by simp at h1; exact h1) (by simp at h2; omega))
        rw [List.nil_append, ov_nil] at this
        exact this
      have unf : M = stp F (prv (bytesOf s) p) ((bytesOf s).drop p) := hMM.symm
      unfold stp at unf
      -- a string, or plain code
      have texts : F.line.find? (fun m => beg m ((bytesOf s).drop p) && (!F.apart || gap (prv (bytesOf s) p))) = none → beg F.opn ((bytesOf s).drop p) = false → Ev (fun k => redpenref10_Src.j3 k f s L p false) R := by
        intro hn ho
        rw [hn] at unf
        simp only [ho, Bool.false_eq_true, if_false, h.txt] at unf
        have hmf : (Q.map tq).find? (fun t => beg t.mark ((bytesOf s).drop p)) = (Q.find? (fun q => beg (bytesOf q.f0) ((bytesOf s).drop p))).map tq := map_find _ _ _
        rw [hmf] at unf
        refine Ev.up ?_
        simp only [redpenref10_Src.j3, Bool.false_eq_true, if_false, h.quo, Option.bind_some]
        refine find_l2 s L R hz h.ql (fun q hq => ⟨(h.qs q hq).1, (h.qs q hq).2.1⟩) p hlt (fun hN => ?_) (fun q hS => ?_) _ 0 (Nat.le_refl _) (Nat.zero_le _) (fun i hi => absurd hi (Nat.not_lt_zero i))
        · rw [hN] at unf
          simp only [Option.map_none] at unf
          rw [unf] at go
          have e := same 1 hlt
          have e2 : List.replicate 1 (4 : Int) = [4] := rfl
          rw [e2] at e
          rw [e] at go
          exact go
        · rw [hS] at unf
          simp only [Option.map_some] at unf
          have hq := h.qs q (List.mem_of_find?_eq_some hS)
          have hbq : beg (bytesOf q.f0) ((bytesOf s).drop p) = true := List.find?_some (p := fun q : S69 => beg (bytesOf q.f0) ((bytesOf s).drop p)) hS
          have hl2 := beg2 hbq
          rw [bytesOf_length, hbl] at hl2
          have hqd := quoted_is q.f0 q.f1 q.f2 q.f3 q.f4 s L (p + q.f0.size) hz hX hq.1 hq.2.1 hq.2.2 (fun i h1 h2 => hcode i (by omega) h2) hl2.1
          refine Ev.bind hqd ?_
          have hmk : (tq q).mark = bytesOf q.f0 := rfl
          rw [hmk, bytesOf_length, txtW_fuel _ _ _ (by simp only [List.length_drop]; omega), List.drop_drop] at unf
          have ht : tq q = tx q.f0 q.f1 q.f2 q.f3 q.f4 := rfl
          rw [ht] at unf
          unfold RR
          have hoo := ov_ov L p (List.replicate q.f0.size 4) (txtW (tx q.f0 q.f1 q.f2 q.f3 q.f4) ((bytesOf s).drop (p + q.f0.size))) (by
            have := hpM
            rw [unf, List.length_append] at this
            rw [hX]
            omega)
          rw [same _ hl2.1, List.length_replicate] at hoo
          rw [hoo, ← unf]
          have hlM : M.length = q.f0.size + (txtW (tx q.f0 q.f1 q.f2 q.f3 q.f4) ((bytesOf s).drop (p + q.f0.size))).length := by rw [unf, List.length_append, List.length_replicate]
          rw [hlM] at go
          rw [Nat.add_assoc]
          exact go
      refine Ev.up ?_
      simp only [redpenref10_Src.l0, if_pos hpi]
      refine Ev.bind (h.note s p hle hz) ?_
      unfold nt
      cases hfind : F.line.find? (fun m => beg m ((bytesOf s).drop p) && (!F.apart || gap (prv (bytesOf s) p))) with
      | some mm =>
        rw [hfind] at unf
        simp only at unf ⊢
        have hnl := h.nl mm (List.mem_of_find?_eq_some hfind)
        have hbm : beg mm ((bytesOf s).drop p) = true := by
          have := List.find?_some (p := fun m => beg m ((bytesOf s).drop p) && (!F.apart || gap (prv (bytesOf s) p))) hfind
          rw [Bool.and_eq_true] at this
          exact this.1
        have hl2 := beg2 hbm
        rw [hbl] at hl2
        have hpos : ((mm.length : Nat) : Int) > 0 := Int.natCast_pos.2 hnl.1
        have e1 : wrap64 ((p : Int) + (mm.length : Int)) = ((p + mm.length : Nat) : Int) := wrn p _ hz2 hle (Nat.le_trans hnl.2 (by decide))
        simp only [if_pos hpos, e1]
        have hput := putov_is L p [] p mm.length 3 ((p + mm.length : Nat) : Int) rfl (by rw [hX]; exact hl2.1) hLs (Int.natCast_add p mm.length)
        rw [ov_nil, List.nil_append] at hput
        refine Ev.bind hput ?_
        refine line_l1 s L R hz hX p _ (p + mm.length) (List.replicate mm.length 3) (Nat.le_refl _) (by rw [List.length_replicate]) hl2.1 ?_
        rw [List.drop_drop] at unf
        rw [← unf]
        have hlM : M.length = mm.length + ((bytesOf s).drop (p + mm.length)).findIdx (· == 10) := by rw [unf, List.length_append, List.length_replicate, List.length_replicate]
        rw [hlM] at go
        rw [Nat.add_assoc]
        exact go
      | none =>
        have hno : ¬ (((0 : Nat) : Int) > 0) := by decide
        simp only [if_neg hno]
        rcases h.blk with ⟨h67, ho⟩ | ⟨h6, h7, ho, hs, hnest⟩
        · have hop : beg F.opn ((bytesOf s).drop p) = false := by rw [ho]; rfl
          rcases h67 with e | e
          · simp only [if_pos e]
            exact texts hfind hop
          · have h6 : ¬ f = 6 := by clear hLL hRR; omega
            simp only [if_neg h6, if_pos e]
            exact texts hfind hop
        · simp only [if_neg h6, if_neg h7]
          have a2 := at_is s ⟨#[47, 42]⟩ p hle hz2 (by decide) (by decide)
          rw [lit3] at a2
          simp only [a2, Option.bind_some]
          by_cases hb : beg [47, 42] ((bytesOf s).drop p) = true
          · rw [hfind] at unf
            have hb2 : beg F.opn ((bytesOf s).drop p) = true := by rw [ho]; exact hb
            simp only [hb2, if_true] at unf
            have unf2 : M = blkW F 0 ((bytesOf s).drop p) := unf
            simp only [hb]
            refine Ev.up ?_
            simp only [redpenref10_Src.j3, if_true]
            have hbk := block_is F ho hs s hz L hX p hb
            rw [hnest, ← unf2] at hbk
            exact Ev.bind hbk go
          · have hb' : beg [47, 42] ((bytesOf s).drop p) = false := by simpa using hb
            simp only [hb']
            exact texts hfind (by rw [ho]; exact hb')
    · have e : (bytesOf s).drop p = [] := List.drop_eq_nil_of_le (by rw [bytesOf_length]; omega)
      exact ih p X (by omega) hp hle
theorem all_l0 (n : Nat) (c : Int) (hn : n ≤ 100000) : ∀ (m a : Nat), n - a ≤ m → a ≤ n → Ev (fun k => redpenref10_All.l0 k n c (List.replicate a c ++ List.replicate (n - a) 0) a) (List.replicate n c) := by
  intro m
  induction m with
  | zero =>
    intro a hm ha
    have e : a = n := by omega
    subst e
    refine Ev.up ?_
    simp only [redpenref10_All.l0, if_neg (Int.lt_irrefl (a : Int)), Nat.sub_self, List.replicate_zero, List.append_nil]
    exact Ev.some_ _
  | succ m ih =>
    intro a hm ha
    by_cases hlt : a < n
    · have h5 : n - (a + 1) ≤ m := by omega
      have hl : (List.replicate a c ++ List.replicate (n - a) (0 : Int)).length = n := by rw [List.length_append, List.length_replicate, List.length_replicate]; omega
      have es : (List.replicate a c ++ List.replicate (n - a) (0 : Int)).set a c = List.replicate (a + 1) c ++ List.replicate (n - (a + 1)) 0 := by
        have hna : n - a = (n - (a + 1)) + 1 := by omega
        rw [hna, List.replicate_succ, List.set_append_right _ _ (by rw [List.length_replicate]; exact Nat.le_refl _), List.length_replicate, Nat.sub_self, List.set_cons_zero, List.replicate_succ', List.append_assoc]
        rfl
      have hai : (a : Int) < (n : Int) := by omega
      have ha0 : (0 : Int) ≤ (a : Int) := by omega
      refine Ev.up ?_
      have e1 : wrap64 ((a : Int) + 1) = ((a + 1 : Nat) : Int) := wrn a 1 hn ha (by decide)
      have en : ((a : Int)).toNat = a := rfl
      simp only [redpenref10_All.l0, if_pos hai, if_pos ha0, hl, e1, en, es]
      exact ih (a + 1) h5 hlt
    · exact ih a (by omega) ha
theorem all_is (n : Nat) (c : Int) (hn : n ≤ 100000) : Ev (fun k => redpenref10_All.f k n c) (List.replicate n c) := by
  unfold redpenref10_All.f
  have h := all_l0 n c hn _ 0 (Nat.le_refl _) (Nat.zero_le _)
  have en : ((n : Int)).toNat = n := rfl
  simp only [if_pos (Int.natCast_nonneg n), en, if_pos (show n ≤ 281474976710656 by omega)]
  exact h
/-- The reference's labels are the plain law's. -/
theorem src_is {f : Int} {F : Fam} (hf : famOf f = some F) (s : ByteArray) (hz : s.size ≤ 65536) : Ev (fun k => redpenref10_Src.f k f s) (lexF F (-1) (bytesOf s), true) := by
  obtain ⟨Q, h⟩ := rf_any f F hf
  have hr : 4 ≤ f ∧ f ≤ 8 := by
    unfold famOf at hf
    split at hf
    · omega
    split at hf
    · omega
    split at hf
    · omega
    split at hf
    · omega
    split at hf
    · omega
    · exact absurd hf (by simp)
  unfold redpenref10_Src.f
  have h8 : decide (f > 8) = false := decide_eq_false (by omega)
  simp only [if_neg (show ¬ f < 4 by omega), h8]
  refine Ev.up ?_
  simp only [redpenref10_Src.j0, Bool.false_eq_true, if_false]
  refine Ev.bind (all_is s.size 4 (by omega)) ?_
  exact src_l0 h s hz s.size 0 [] (Nat.sub_le _ _) rfl (Nat.zero_le _)
theorem src_no {f : Int} (hf : famOf f = none) (s : ByteArray) : Ev (fun k => redpenref10_Src.f k f s) ([], false) := by
  have hr : f < 4 ∨ 8 < f := by
    unfold famOf at hf
    by_cases h1 : f < 4
    · exact .inl h1
    · right
      split at hf
      · simp at hf
      split at hf
      · simp at hf
      split at hf
      · simp at hf
      split at hf
      · simp at hf
      split at hf
      · simp at hf
      · omega
  unfold redpenref10_Src.f
  by_cases h1 : f < 4
  · simp only [if_pos h1]
    refine Ev.up ?_
    simp only [redpenref10_Src.j0, if_true]
    exact Ev.some_ _
  · have h8 : decide (f > 8) = true := decide_eq_true (by omega)
    simp only [if_neg h1, h8]
    refine Ev.up ?_
    simp only [redpenref10_Src.j0, if_true]
    exact Ev.some_ _
end Go.Proofs.Ytjbbogcoabgcnaa.S

set_option linter.unusedVariables false
set_option linter.unusedSimpArgs false
namespace Go.Proofs.Ytjbbogcoabgcnaa.S
open Go.RowKit Go.Proofs.YtjbbogcoabgcnaaW.PrintWords Go.Proofs.Ytjbbogcoabgcnaa.L Go.Proofs.Ytjbbogcoabgcnaa.Src

theorem bytes_strB (l : List Int) (h : Bys l) : bytesOf (strOfNums l) = l := by
  unfold bytesOf strOfNums
  simp only [List.map_map]
  induction l with
  | nil => rfl
  | cons x l ih =>
    have hx := h x (by simp)
    simp only [List.map_cons, Function.comp]
    rw [ih (fun y hy => h y (by simp [hy]))]
    congr 1
    simp only [UInt8.toNat_ofNat']
    omega
theorem rd_bys {l : List Int} (h : Bys l) (i : Nat) (hi : i < l.length) : 0 ≤ rd l (i : Int) ∧ rd l (i : Int) < 256 := by
  have e : rd l (i : Int) = l[i] := by
    unfold rd
    rw [Int.toNat_natCast, List.getD_eq_getElem?_getD, List.getElem?_eq_getElem hi]
    rfl
  rw [e]
  exact h _ (List.getElem_mem _)
theorem bits_l0 (P : List ByteArray) (l1 l2 : List Int) (hP : ∀ p ∈ P, p.size ≤ 8) (hPl : P.length ≤ 1000) (h1 : Bys l1) (h2 : Bys l2) (hl2 : l2.length ≤ 1000) (hl1 : l1.length ≤ 140737488351232) :
    ∀ (d i : Nat) (x : List Int), 60 - i ≤ d → i ≤ 60 → i ≤ l1.length → x.length ≤ 8 * i → Bys x →
    ∃ k r, PBits.redpenlaw11_Bits.l0 k P l2 x l1 (l1.length : Int) i = some r ∧ r.length ≤ 480 ∧ Bys r := by
  intro d
  induction d with
  | zero =>
    intro i x hd hi hil hx hb
    refine ⟨1, x, ?_, by omega, hb⟩
    have e60 : i = 60 := by omega
    simp only [PBits.redpenlaw11_Bits.l0]
    by_cases c : i < l1.length
    · rw [if_pos (by omega), if_pos (by omega), if_pos (by omega), if_pos (by omega)]
    · rw [if_neg (by omega)]
  | succ d ih =>
    intro i x hd hi hil hx hb
    by_cases c : i < l1.length
    · by_cases c60 : i = 60
      · refine ⟨1, x, ?_, by omega, hb⟩
        simp only [PBits.redpenlaw11_Bits.l0]
        rw [if_pos (by omega), if_pos (by omega), if_pos (by omega), if_pos (by omega)]
      · have hr := rd_bys h1 i c
        have hw : wrap64 (rd l1 (i : Int)) = rd l1 (i : Int) := wr _ (by omega) (by omega)
        have hw1 : wrap64 ((i : Int) + 1) = ((i + 1 : Nat) : Int) := wrn i 1 (Nat.le_refl 100000 |> fun _ => (by omega : 60 ≤ 100000)) hi (by decide)
        have g5 : 60 - (i + 1) ≤ d := by clear hw hw1; omega
        have g6 : i + 1 ≤ 60 := by clear hw hw1; omega
        have q1 : (i : Int) < (l1.length : Int) := by clear hw hw1; omega
        have q2 : (0 : Int) ≤ (i : Int) := by clear hw hw1; omega
        have q3 : ¬ ((i : Int) ≥ 60) := by clear hw hw1; omega
        generalize hrr : rd l1 (i : Int) = a at *
        obtain ⟨n, rfl⟩ : ∃ n : Nat, a = n := ⟨a.toNat, by clear hw hw1; omega⟩
        have hn : n < 256 := by clear hw hw1; omega
        have q4 : (0 : Int) ≤ (n : Int) := Int.natCast_nonneg n
        by_cases cp : n < P.length
        · have hmem : P.getD n ByteArray.empty ∈ P := by rw [List.getD_eq_getElem?_getD, List.getElem?_eq_getElem cp]; exact List.getElem_mem _
          have hs := hP _ hmem
          have hxl : (x ++ bytesOf (P.getD n ByteArray.empty)).length ≤ 8 * (i + 1) := by rw [List.length_append, bytesOf_length]; clear hw hw1; omega
          obtain ⟨k, r, hk, hr1, hr2⟩ := ih (i + 1) (x ++ bytesOf (P.getD n ByteArray.empty)) g5 g6 c hxl (by
            intro y hy
            rcases List.mem_append.1 hy with h | h
            · exact hb y h
            · exact Bys.of _ y h)
          refine ⟨k + 1, r, ?_, hr1, hr2⟩
          simp only [PBits.redpenlaw11_Bits.l0]
          rw [if_pos q1, if_pos q2, if_pos q1, if_neg q3, hrr, hw, if_pos (Int.ofNat_lt.2 cp), if_pos q4]
          have e : rdOf ByteArray.empty P (n : Int) = P.getD n ByteArray.empty := rfl
          rw [e, if_pos (by clear hw hw1; omega), hw1]
          exact hk
        · by_cases cl : 0 < l2.length
          · have ht0 : 0 ≤ Int.tmod (n : Int) (l2.length : Int) := Int.tmod_nonneg _ q4
            have ht1 : Int.tmod (n : Int) (l2.length : Int) < (l2.length : Int) := Int.tmod_lt_of_pos _ (by omega)
            obtain ⟨t, ht⟩ : ∃ t : Nat, Int.tmod (n : Int) (l2.length : Int) = t := ⟨(Int.tmod (n : Int) (l2.length : Int)).toNat, by omega⟩
            rw [ht] at ht0 ht1
            have htl : t < l2.length := by omega
            have hy := rd_bys h2 t htl
            obtain ⟨k, r, hk, hr1, hr2⟩ := ih (i + 1) (x ++ [rd l2 (t : Int)]) g5 g6 c (by rw [List.length_append]; simp only [List.length_cons, List.length_nil]; clear hw hw1; omega) (by
              intro y hy2
              rcases List.mem_append.1 hy2 with h | h
              · exact hb y h
              · rw [List.mem_singleton.1 h]; exact hy)
            refine ⟨k + 1, r, ?_, hr1, hr2⟩
            simp only [PBits.redpenlaw11_Bits.l0]
            rw [if_pos q1, if_pos q2, if_pos q1, if_neg q3, hrr, hw, if_neg (fun h => cp (Int.ofNat_lt.1 h)), if_pos (Int.natCast_pos.2 cl), if_neg (by clear hw hw1; omega), ht, if_pos ht0, if_pos ht1, if_pos (by clear hw hw1; omega), hw1]
            exact hk
          · obtain ⟨k, r, hk, hr1, hr2⟩ := ih (i + 1) x g5 g6 c (by clear hw hw1; omega) hb
            refine ⟨k + 1, r, ?_, hr1, hr2⟩
            simp only [PBits.redpenlaw11_Bits.l0]
            rw [if_pos q1, if_pos q2, if_pos q1, if_neg q3, hrr, hw, if_neg (fun h => cp (Int.ofNat_lt.1 h)), if_neg (fun h => cl (Int.natCast_pos.1 h)), hw1]
            exact hk
    · refine ⟨1, x, ?_, by omega, hb⟩
      simp only [PBits.redpenlaw11_Bits.l0]
      rw [if_neg (by omega)]
theorem bits_any (A0 : Option Addr) (c0 : Nat) (P : List ByteArray) (A1 : Option Addr) (c1 : Nat) (l1 : List Int) (A2 : Option Addr) (c2 : Nat) (l2 : List Int) (w : World) (hP : ∀ p ∈ P, p.size ≤ 8) (hPl : P.length ≤ 1000) (h1 : Bys l1) (h2 : Bys l2) (hl2 : l2.length ≤ 1000) (hl1 : l1.length ≤ 140737488351232)
    (hr0 : Kd.C Kd.string w A0 P.length P) (hc0 : P.length ≤ c0) (hr1 : Kd.C (Kd.int .u8) w A1 l1.length l1) (hc1 : l1.length ≤ c1) (hr2 : Kd.C (Kd.int .u8) w A2 l2.length l2) (hc2 : l2.length ≤ c2) :
    Calls Try.prog 10 #[.slice A0 P.length c0, .slice A1 l1.length c1, .slice A2 l2.length c2] w fun e w' => ∃ (r : List Int) (A : Option Addr) (c : Nat), e = .returned (.slice A r.length c) ∧ r.length ≤ 480 ∧ Bys r ∧ r.length ≤ c ∧ Kd.C (Kd.int .u8) w' A r.length r ∧ Below w.heap.size w w' := by
  obtain ⟨k, r, hk, hrl, hrb⟩ := bits_l0 P l1 l2 hP hPl h1 h2 hl2 hl1 60 0 [] (by omega) (by omega) (by omega) (by simp) (by intro x hx; simp at hx)
  refine (PBits.redpenlaw11_Bits.calls k A0 c0 P A1 c1 l1 A2 c2 l2 r w hr0 hc0 hr1 hc1 hr2 hc2 hk).mono ?_
  rintro e w' ⟨v, rfl, hr, hb⟩
  obtain ⟨A, cp, rfl, hle, hC⟩ := Kd.R_reads hr
  exact ⟨r, A, cp, rfl, hrl, hrb, hle, hC, hb⟩
theorem pieces_any (w : World) : Calls Try.prog 11 #[] w fun e w' => ∃ (P : List ByteArray) (A : Option Addr) (c : Nat), e = .returned (.slice A P.length c) ∧ (∀ p ∈ P, p.size ≤ 8) ∧ P.length ≤ 1000 ∧ P.length ≤ c ∧ Kd.C Kd.string w' A P.length P ∧ Below w.heap.size w w' := by
  refine (Ppieces.redpenlaw14_pieces.calls _ w rfl).mono ?_
  rintro e w' ⟨v, rfl, hr, hb⟩
  obtain ⟨A, cp, rfl, hle, hC⟩ := Kd.R_reads hr
  exact ⟨_, A, cp, rfl, by decide, by decide, hle, hC, hb⟩

theorem refSegs_C (A : Option Addr) (c : Nat) (L : List Int) (w : World) (h : Kd.C (Kd.int .u8) w A L.length L) (hc : L.length ≤ c) (hl : L.length ≤ 1000000) :
    Calls Try.prog 16 #[.slice A L.length c] w fun e w' => ∃ A cp, e = .returned (.slice A ((segsOf L).map toQ).length cp) ∧ ((segsOf L).map toQ).length ≤ cp ∧ Kd.C PSameSegs.k50 w' A ((segsOf L).map toQ).length ((segsOf L).map toQ) ∧ Below w.heap.size w w' := by
  refine (PSegs.redpenref10_Segs.calls (3 * L.length + 6) A c L _ w h hc (ref_segs L (by omega))).mono ?_
  rintro e w' ⟨v, rfl, hr, hb⟩
  obtain ⟨A, cp, rfl, hle, hC⟩ := Kd.R_reads hr
  refine ⟨A, cp, by simp, by simpa using hle, ?_, hb⟩
  have := C_conv hC
  simpa using this
/-- The reference's labels of a program of bytes. -/
theorem refSrc_any (f : Int) (F : Fam) (b : List Int) (w : World) (hf : famOf f = some F) (hb : Bys b) (hl : b.length ≤ 65536) :
    Calls Try.prog 13 #[.int .u8 f, .string (strOfNums b)] w fun e w' => ∃ A c, e = .returned (.tuple #[.slice A (lexF F (-1) b).length c, .bool true]) ∧ (lexF F (-1) b).length ≤ c ∧ Kd.C (Kd.int .u8) w' A (lexF F (-1) b).length (lexF F (-1) b) ∧ Below w.heap.size w w' := by
  have hs : (strOfNums b).size = b.length := strOfNums_size b
  have h := src_is hf (strOfNums b) (by rw [hs]; exact hl)
  obtain ⟨k, hk⟩ := h.rounds
  rw [bytes_strB b hb] at hk
  refine (PSrc.redpenref10_Src.calls k f _ _ _ w hk).mono ?_
  rintro e w' ⟨v, rfl, hr, hbw⟩
  obtain ⟨A, cp, rfl, hle, hC⟩ := Kd.R_reads hr
  exact ⟨A, cp, rfl, hle, hC, hbw⟩
theorem refSrc_no (f : Int) (b : List Int) (w : World) (hf : famOf f = none) :
    Calls Try.prog 13 #[.int .u8 f, .string (strOfNums b)] w fun e w' => ∃ v, e = .returned (.tuple #[v, .bool false]) ∧ Below w.heap.size w w' := by
  obtain ⟨k, hk⟩ := (src_no hf (strOfNums b)).rounds
  refine (PSrc.redpenref10_Src.calls k f _ _ _ w hk).mono ?_
  rintro e w' ⟨v, rfl, hr, hbw⟩
  exact ⟨v, rfl, hbw⟩
end Go.Proofs.Ytjbbogcoabgcnaa.S
