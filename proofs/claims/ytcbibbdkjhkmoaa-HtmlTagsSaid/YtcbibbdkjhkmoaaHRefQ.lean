/- Several texts in one: HLow HRefA. Conditions: as each lemma says. -/
import Derived.Test.YtcbibbdkjhkmoaaHMo
import Derived.Test.YtcbibbdkjhkmoaaPMisd
import Derived.Test.YtcbibbdkjhkmoaaHtmTag
import Derived.Test.YtcbibbdkjhkmoaaHRead
set_option linter.unusedVariables false
set_option linter.unusedSimpArgs false
namespace Go.Proofs.Ytcbibbdkjhkmoaa.H
open Go.RowKit Go.Proofs.YtcbibbdkjhkmoaaW.PrintWords Go.Proofs.Ytcbibbdkjhkmoaa.L Go.Proofs.Ytcbibbdkjhkmoaa.S Go.Proofs.Ytcbibbdkjhkmoaa.Htm Go.Proofs.Ytcbibbdkjhkmoaa.PHtml

theorem wrl (a : Int) (h0 : -1000000 ≤ a) (h : a ≤ 1000000) : wrap64 a = a := by unfold wrap64; omega
theorem bt_get (s : ByteArray) (p : Nat) (h : p < s.size) : bt s (p : Int) = (bytesOf s).getD p 0 := by
  unfold bt bytesOf
  rw [dif_pos (show ((p : Int)).toNat < s.size from h)]
  have h' : p < s.data.toList.length := by rw [data_length]; exact h
  rw [List.getD_eq_getElem?_getD, List.getElem?_map, List.getElem?_eq_getElem h']
  rfl
theorem bytesOf_injl {x y : List UInt8} (h : x.map (fun b => (b.toNat : Int)) = y.map (fun b => (b.toNat : Int))) : x = y := by
  induction x generalizing y with
  | nil => cases y <;> simp at h ⊢
  | cons a x ih =>
    cases y with
    | nil => simp at h
    | cons b y =>
      simp only [List.map_cons, List.cons.injEq] at h
      have : a = b := UInt8.toNat_inj.1 (by omega)
      rw [this, ih h.2]
theorem at_f (s m : ByteArray) (i : Nat) (hs : s.size ≤ 100000) (hi : i ≤ 200000) (hm : 0 < m.size) (hm2 : m.size ≤ 10) : redpenref10_at.f s i m = some ((bytesOf m).isPrefixOf ((bytesOf s).drop i)) := by
  unfold redpenref10_at.f
  rw [wrl _ (by omega) (by omega)]
  by_cases h : i + m.size ≤ s.size
  · rw [if_pos (by omega), if_pos (by omega), if_pos (by omega)]
    congr 1
    rw [← pfx_take _ _ (by rw [bytesOf_length, List.length_drop, bytesOf_length]; omega)]
    have e1 : ((i : Int)).toNat = i := rfl
    have e2 : ((i : Int) + (m.size : Int)).toNat = i + m.size := by omega
    rw [e1, e2, ByteArray.toList_eq, ByteArray.toList_eq, bytesOf_length]
    have e3 : (s.extract i (i + m.size)).data.toList = (s.data.toList.drop i).take m.size := by
      rw [ByteArray.data_extract, Array.toList_extract, List.extract_eq_take_drop]
      congr 1
      omega
    rw [e3]
    unfold bytesOf
    rw [← List.map_drop, ← List.map_take]
    rw [Bool.eq_iff_iff, beq_iff_eq, beq_iff_eq]
    exact ⟨fun h => by rw [h], fun h => bytesOf_injl h⟩
  · rw [if_neg (by omega), pfx_long _ _ (by rw [bytesOf_length, List.length_drop, bytesOf_length]; omega)]
theorem rat_any (s m : ByteArray) (i : Nat) (w : World) (hs : s.size ≤ 100000) (hi : i ≤ 200000) (hm : 0 < m.size) (hm2 : m.size ≤ 10) :
    Calls Try.prog 32 #[.string s, .int .i64 i, .string m] w fun e w' => e = .returned (.bool ((bytesOf m).isPrefixOf ((bytesOf s).drop i))) ∧ ∃ n, w' = w.drewN n :=
  (redpenref10_at.calls s i m _ w (at_f s m i hs hi hm hm2)).mono fun _ _ h => ⟨h.1, h.2.out⟩
theorem pfx_one (y : Int) (b : List Int) (p : Nat) : [y].isPrefixOf (b.drop p) = isAt b p y := by
  unfold isAt
  rcases Nat.lt_or_ge p b.length with h | h
  · rw [drop_at b p h, List.isPrefixOf_cons_cons]
    have e : b[p]? = some (b.getD p 0) := getD_some b p h
    rw [e, Bool.eq_iff_iff]
    simp only [Bool.and_eq_true, beq_iff_eq, decide_eq_true_eq, Option.some.injEq]
    constructor
    · intro h; exact h.1.symm
    · intro h; exact ⟨h.symm, by cases b.drop (p + 1) <;> rfl⟩
  · rw [List.drop_eq_nil_of_le h, List.getElem?_eq_none h]
    simp
set_option maxRecDepth 100000 in
theorem or32 : ∀ n : Nat, n < 256 → ((if Go.bits .or .u8 (n : Int) 32 ≥ 97 then some (decide (Go.bits .or .u8 (n : Int) 32 ≤ 122)) else some false) : Option Bool) = some (letterB (n : Int)) := by decide
theorem letter_f' (s : ByteArray) (i : Nat) : redpenref10_letter.f s i = some (isLetter (bytesOf s) i) := by
  unfold redpenref10_letter.f
  have hl := bytesOf_length s
  rw [if_neg (by omega)]
  by_cases h : i < s.size
  · rw [if_neg (by omega), if_pos (by omega), if_pos (by omega)]
    have hr := bt_range s i
    obtain ⟨n, hn⟩ : ∃ n : Nat, bt s (i : Int) = n := ⟨(bt s i).toNat, by omega⟩
    rw [hn, or32 n (by omega), ← hn, bt_get s i h, isLetter_in _ _ (by omega)]
  · rw [if_pos (by omega), isLetter_out _ _ (by omega)]
theorem rletter_any (s : ByteArray) (i : Nat) (w : World) :
    Calls Try.prog 35 #[.string s, .int .i64 i] w fun e w' => e = .returned (.bool (isLetter (bytesOf s) i)) ∧ ∃ n, w' = w.drewN n :=
  (redpenref10_letter.calls s i _ w (letter_f' s i)).mono fun _ _ h => ⟨h.1, h.2.out⟩
def isBlank (b : List Int) (p : Nat) : Bool := (b[p]?.map blankB).getD false
theorem isBlank_in (b : List Int) (p : Nat) (h : p < b.length) : isBlank b p = blankB (b.getD p 0) := by
  unfold isBlank
  rw [getD_some b p h]
  rfl
theorem isBlank_out (b : List Int) (p : Nat) (h : b.length ≤ p) : isBlank b p = false := by
  unfold isBlank
  rw [List.getElem?_eq_none h]
  rfl
theorem blank_f (x : Int) : (if x = 32 then some true else if x = 9 then some true else if x = 10 then some true else if x = 13 then some true else some (x == 12)) = some (blankB x) := by
  unfold blankB
  by_cases h1 : x = 32
  · subst h1; rfl
  by_cases h2 : x = 9
  · subst h2; rfl
  by_cases h3 : x = 10
  · subst h3; rfl
  by_cases h4 : x = 13
  · subst h4; rfl
  have e1 : (x == (32 : Int)) = false := by rw [beq_eq_false_iff_ne]; exact h1
  have e2 : (x == (9 : Int)) = false := by rw [beq_eq_false_iff_ne]; exact h2
  have e3 : (x == (10 : Int)) = false := by rw [beq_eq_false_iff_ne]; exact h3
  have e4 : (x == (13 : Int)) = false := by rw [beq_eq_false_iff_ne]; exact h4
  rw [if_neg h1, if_neg h2, if_neg h3, if_neg h4, e1, e2, e3, e4]
  rfl
theorem blank_f' (s : ByteArray) (i : Nat) : redpenref10_blank.f s i = some (isBlank (bytesOf s) i) := by
  unfold redpenref10_blank.f
  have hl := bytesOf_length s
  by_cases h : i < s.size
  · rw [if_pos (by omega), if_pos (by omega), blank_f, bt_get s i h, isBlank_in _ _ (by omega)]
  · rw [if_neg (by omega), isBlank_out _ _ (by omega)]
theorem rblank_any (s : ByteArray) (i : Nat) (w : World) :
    Calls Try.prog 46 #[.string s, .int .i64 i] w fun e w' => e = .returned (.bool (isBlank (bytesOf s) i)) ∧ ∃ n, w' = w.drewN n :=
  (redpenref10_blank.calls s i _ w (blank_f' s i)).mono fun _ _ h => ⟨h.1, h.2.out⟩

theorem Mo.store {w0 W : World} {g n cap : Nat} {xs : List Int} (h : Mo w0 W (.slice (some ⟨g, 0, none⟩) n cap) xs) (j : Nat) (y : Int) (hj : j < xs.length) : Mo w0 (W.setCell ⟨g, j, none⟩ (.int .u8 y)) (.slice (some ⟨g, 0, none⟩) n cap) (xs.set j y) := by
  obtain ⟨g', cap', e, h1, h2, h3, h4, h5, h6⟩ := h.form
  injection e with e1 e2 e3
  injection e1 with e1
  injection e1 with e1 _ _
  subst e1
  subst e2
  subst e3
  refine ⟨⟨g, cap, by rw [List.length_set], h1, by simpa using h2, by rw [List.length_set]; exact h3, h4, fun k hk => ⟨?_, ?_⟩, fun k u hu => ?_⟩, h.bel.setCell h1 _⟩
  · by_cases hkj : j = k
    · subst hkj
      obtain ⟨v, hv⟩ := Option.isSome_iff_exists.1 (h5 j hk).1
      rw [World.cell?_setCell_same _ _ _ hv]
      rfl
    · rw [World.cell?_setCell_other _ _ _ _ (show (⟨g, j, none⟩ : Addr) ≠ ⟨g, k, none⟩ from fun e => hkj (by injection e))]
      exact (h5 k hk).1
  · rw [World.frozen?_setCell]
    exact (h5 k hk).2
  · by_cases hkj : j = k
    · subst hkj
      obtain ⟨v, hv⟩ := Option.isSome_iff_exists.1 (h5 j (by omega)).1
      rw [World.cell?_setCell_same _ _ _ hv]
      rw [nums, List.getElem?_map, List.getElem?_set, if_pos rfl, if_pos hj, Option.map_some] at hu
      exact hu
    · rw [World.cell?_setCell_other _ _ _ _ (show (⟨g, j, none⟩ : Addr) ≠ ⟨g, k, none⟩ from fun e => hkj (by injection e))]
      refine h6 k u ?_
      rw [nums, List.getElem?_map, List.getElem?_set, if_neg hkj] at hu
      rw [nums, List.getElem?_map]
      exact hu
set_option maxRecDepth 100000 in
set_option maxHeartbeats 2000000 in
theorem low_any (s : ByteArray) (W : World) (hs : s.size ≤ 65536) :
    Calls Try.prog 45 #[.string s] W fun e w' => e = .returned (.string (strOfNums ((bytesOf s).map sm))) ∧ Below W.heap.size W w' := by
  have kc := conv_run s
  have m1 := Mo.conv W W s (Below.refl _ _) (by omega)
  have hl := bytesOf_length s
  have HB := Lib.hid (Bys.of s)
  obtain ⟨n, hn⟩ : ∃ n, s.size = n := ⟨_, rfl⟩
  rw [hn] at m1
  have HM := Lib.hid m1
  clear m1
  go_enter Try.func45, Try.ntmps45
  go_wp2_with fail
  clear kc
  generalize hb : bytesOf s = b at *
  generalize hcp : grownCap W n 0 5 = cap at *
  generalize hg : W.heap.size = g at *
  rw [hn] at hl
  go_loopg [4] n (fun gn iv wr => ∃ j : Nat, iv = .int .i64 j ∧ j ≤ n ∧ Hid (Mo W wr (.slice (some ⟨g, 0, none⟩) n cap) (smN b j) ∧ gn = n - j))
  case atStart => exact ⟨0, rfl, Nat.zero_le _, by rw [smN_zero]; exact HM.out, rfl⟩
  case round =>
    obtain ⟨j, rfl, hj, HQ⟩ := hrel
    clear HM
    by_cases hlt : j < n
    · have hjl : j < b.length := by omega
      have hd : decide ((j : Int) < (n : Int)) = true := by simp; omega
      have hx := HB.out _ (show b.getD j 0 ∈ b from by rw [List.getD_eq_getElem?_getD, List.getElem?_eq_getElem hjl]; exact List.getElem_mem _)
      have hsl := smN_length b j (by omega)
      have hat := smN_at b j hjl
      have hst := Mo.store HQ.out.1 j (sm (b.getD j 0)) (by omega)
      rw [← smN_step b j hjl] at hst
      have hsame := smN_same b j hjl
      obtain ⟨hcell, hfr⟩ : wr.cell? ⟨g, j, none⟩ = some (.int .u8 (b.getD j 0)) ∧ wr.frozen? ⟨g, j, none⟩ = false := by
        obtain ⟨g', cap', e, _, _, h3, _, h5, h6⟩ := HQ.out.1.form
        injection e with e1 e2 e3
        injection e1 with e1
        injection e1 with e1 _ _
        subst e1
        subst e3
        refine ⟨h6 j _ ?_, (h5 j (by omega)).2⟩
        rw [nums, List.getElem?_map, List.getElem?_eq_getElem (by omega), Option.map_some, ← hat, List.getD_eq_getElem?_getD, List.getElem?_eq_getElem (by omega)]
        rfl
      generalize b.getD j 0 = x at *
      have HST := Lib.hid hst
      have HSame := Lib.hid hsame
      clear hst hsame hat hsl
      by_cases hup : 65 ≤ x ∧ x ≤ 90
      · have hs2 : sm x = x + 32 := if_pos hup
        rw [hs2] at HST
        have t1 : decide ((65 : Int) ≤ x) = true := by simp; omega
        have t2 : decide (x ≤ 90) = true := by simp; omega
        have hu1 := hup.1
        have hu2 := hup.2
        clear hs2 hup
        go_wp2_with fail
        go_roundg (n - (j + 1))
        case measure => have := HQ.out.2; omega
        case rel => exact ⟨j + 1, by go_num, by omega, HST.out, rfl⟩
      · have hs2 : sm x = x := if_neg hup
        have HSm := Lib.hid (HSame.out hs2)
        have HU := Lib.hid hup
        clear hs2 hup
        by_cases h65 : 65 ≤ x
        · have t1 : decide ((65 : Int) ≤ x) = true := by simp; omega
          have t2 : decide (x ≤ 90) = false := by simp; have := HU.out; omega
          go_wp2_with fail
          go_roundg (n - (j + 1))
          case measure => have := HQ.out.2; omega
          case rel => exact ⟨j + 1, by go_num, by omega, by rw [HSm.out]; exact HQ.out.1, rfl⟩
        · have t1 : decide ((65 : Int) ≤ x) = false := by simp; omega
          go_wp2_with fail
          go_roundg (n - (j + 1))
          case measure => have := HQ.out.2; omega
          case rel => exact ⟨j + 1, by go_num, by omega, by rw [HSm.out]; exact HQ.out.1, rfl⟩
    · obtain rfl : j = n := by omega
      have hd : decide ((j : Int) < (j : Int)) = false := by simp
      have hq := HQ.out.1
      rw [← hl, smN_all] at hq
      obtain ⟨A3, c3, e3, _, hC3⟩ := hq.reads
      injection e3 with e1 e2 e4
      subst e1
      subst e4
      rw [← e2, hl] at hC3
      have hcv : (convert 22 9 (.slice (some ⟨g, 0, none⟩) j cap)).run Try.prog wr = .ok (.string (strOfNums (b.map sm))) wr := Kd.C_string (P := Try.prog) (c := cap) Try.underlying22 Try.underlying5 Try.underlying9 hC3
      have HF := Lib.hid hq.bel
      clear hq hC3 e2
      go_wp2_with fail
      go_ret
      exact ⟨by rw [hb]; rfl, hg ▸ HF.out⟩
end Go.Proofs.Ytcbibbdkjhkmoaa.H

set_option linter.unusedVariables false
set_option linter.unusedSimpArgs false
namespace Go.Proofs.Ytcbibbdkjhkmoaa.H
open Go.RowKit Go.Proofs.YtcbibbdkjhkmoaaW.PrintWords Go.Proofs.Ytcbibbdkjhkmoaa.L Go.Proofs.Ytcbibbdkjhkmoaa.S Go.Proofs.Ytcbibbdkjhkmoaa.Htm

abbrev tfC (x : Int) (y : ByteArray) (z : Bool) (u : Value) : Obj := .cells #[.int .i64 x, .string y, .bool z, u] 46 (0, 0)
theorem tf_cells {W : World} {g : Nat} {x : Int} {y : ByteArray} {z : Bool} {u : Value} (h : W.heap[g]? = some (tfC x y z u)) :
    W.cell? ⟨g, 0, none⟩ = some (.int .i64 x) ∧ W.cell? ⟨g, 1, none⟩ = some (.string y) ∧ W.cell? ⟨g, 2, none⟩ = some (.bool z) ∧ W.cell? ⟨g, 3, none⟩ = some u :=
  ⟨(blk_cell h 0).trans rfl, (blk_cell h 1).trans rfl, (blk_cell h 2).trans rfl, (blk_cell h 3).trans rfl⟩
/-- The reference's reading under way. -/
structure Rf (w0 W : World) (t r : Nat) (nm : List Int) (cl : Bool) (v : Value) (S : List (Nat × Nat)) : Prop where
  tb : W.heap[t]? = some (tfC 0 (strOfNums nm) cl v)
  rb : W.heap[r]? = some (tfC 0 ⟨#[]⟩ false (.slice none 0 0))
  own : W.ownsRow w0.heap.size 54 2 v S.length (spC S)
  bel : Below w0.heap.size w0 W
  lt : w0.heap.size ≤ t
  lr : w0.heap.size ≤ r
  ne : t ≠ r
section
variable {w0 W W' : World} {t r : Nat} {nm : List Int} {cl : Bool} {v : Value} {S : List (Nat × Nat)}
theorem Rf.below (h : Rf w0 W t r nm cl v S) (hb : Below W.heap.size W W') : Rf w0 W' t r nm cl v S :=
  ⟨blk_below h.tb hb, blk_below h.rb hb, pw_own_below h.own hb, below_step h.bel hb, h.lt, h.lr, h.ne⟩
theorem Rf.drewN (h : Rf w0 W t r nm cl v S) (n : Nat) : Rf w0 (W.drewN n) t r nm cl v S := h.below (pw_below_drewN (Below.refl _ _) n)
theorem Rf.tput (h : Rf w0 W t r nm cl v S) (j : Nat) (u : Value) (nm' : List Int) (cl' : Bool) (hb : (W.setCell ⟨t, j, none⟩ u).heap[t]? = some (tfC 0 (strOfNums nm') cl' v)) : Rf w0 (W.setCell ⟨t, j, none⟩ u) t r nm' cl' v S :=
  ⟨hb, blk_far h.rb (p := ⟨t, j, none⟩) h.ne.symm u, h.own.kept (grown_set W t j u) (Or.inr (own_ne h.own h.tb (by decide))), below_grown h.bel h.lt (grown_set W t j u), h.lt, h.lr, h.ne⟩
theorem Rf.tcl (h : Rf w0 W t r nm cl v S) (z : Bool) : Rf w0 (W.setCell ⟨t, 2, none⟩ (.bool z)) t r nm z v S := h.tput 2 _ nm z (blk_set h.tb 2 (.bool z))
theorem Rf.tnm (h : Rf w0 W t r nm cl v S) (l : List Int) : Rf w0 (W.setCell ⟨t, 1, none⟩ (.string (strOfNums l))) t r l cl v S := h.tput 1 _ l cl (blk_set h.tb 1 (.string (strOfNums l)))
theorem Rf.c0 (h : Rf w0 W t r nm cl v S) : W.cell? ⟨t, 0, none⟩ = some (.int .i64 0) := (blk_cell h.tb 0).trans rfl
theorem Rf.c1 (h : Rf w0 W t r nm cl v S) : W.cell? ⟨t, 1, none⟩ = some (.string (strOfNums nm)) := (blk_cell h.tb 1).trans rfl
theorem Rf.c2 (h : Rf w0 W t r nm cl v S) : W.cell? ⟨t, 2, none⟩ = some (.bool cl) := (blk_cell h.tb 2).trans rfl
theorem Rf.c3 (h : Rf w0 W t r nm cl v S) : W.cell? ⟨t, 3, none⟩ = some v := (blk_cell h.tb 3).trans rfl
theorem Rf.fz (h : Rf w0 W t r nm cl v S) (j : Nat) : W.frozen? ⟨t, j, none⟩ = false := blk_frozen h.tb j
theorem Rf.fr (h : Rf w0 W t r nm cl v S) (j : Nat) : W.frozen? ⟨r, j, none⟩ = false := blk_frozen h.rb j
theorem fput_ {x0 : Int} {y0 : ByteArray} {z0 : Bool} {u0 : Value} (hr : W.heap[r]? = some (tfC x0 y0 z0 u0)) (hb : Below w0.heap.size w0 W) (lr : w0.heap.size ≤ r) (own : W.ownsRow w0.heap.size 54 2 v S.length (spC S)) (x : Int) (y : ByteArray) (z : Bool) (u : Value) :
    ((((W.setCell ⟨r, 0, none⟩ (.int .i64 x)).setCell ⟨r, 1, none⟩ (.string y)).setCell ⟨r, 2, none⟩ (.bool z)).setCell ⟨r, 3, none⟩ u).heap[r]? = some (tfC x y z u) ∧
    Below w0.heap.size w0 ((((W.setCell ⟨r, 0, none⟩ (.int .i64 x)).setCell ⟨r, 1, none⟩ (.string y)).setCell ⟨r, 2, none⟩ (.bool z)).setCell ⟨r, 3, none⟩ u) ∧
    ((((W.setCell ⟨r, 0, none⟩ (.int .i64 x)).setCell ⟨r, 1, none⟩ (.string y)).setCell ⟨r, 2, none⟩ (.bool z)).setCell ⟨r, 3, none⟩ u).ownsRow w0.heap.size 54 2 v S.length (spC S) := by
  have hg := grown_trans (grown_trans (grown_trans (grown_set W r 0 (.int .i64 x)) (grown_set _ r 1 (.string y))) (grown_set _ r 2 (.bool z))) (grown_set _ r 3 u)
  exact ⟨blk_set (blk_set (blk_set (blk_set hr 0 (.int .i64 x)) 1 (.string y)) 2 (.bool z)) 3 u, below_grown hb lr hg, own.kept hg (Or.inr (own_ne own hr (by decide)))⟩
theorem Rf.fin (h : Rf w0 W t r nm cl v S) (x : Int) :
    (W.setCell ⟨t, 0, none⟩ (.int .i64 x)).heap[t]? = some (tfC x (strOfNums nm) cl v) ∧ (W.setCell ⟨t, 0, none⟩ (.int .i64 x)).heap[r]? = some (tfC 0 ⟨#[]⟩ false (.slice none 0 0)) ∧ Below w0.heap.size w0 (W.setCell ⟨t, 0, none⟩ (.int .i64 x)) ∧ (W.setCell ⟨t, 0, none⟩ (.int .i64 x)).ownsRow w0.heap.size 54 2 v S.length (spC S) :=
  ⟨blk_set h.tb 0 (.int .i64 x), blk_far h.rb (p := ⟨t, 0, none⟩) h.ne.symm _, below_grown h.bel h.lt (grown_set W t 0 (.int .i64 x)), h.own.kept (grown_set W t 0 (.int .i64 x)) (Or.inr (own_ne h.own h.tb (by decide)))⟩
theorem Rf.app (h : Rf w0 W t r nm cl v S) {v1 : Value} {W1 : World} {u y : Nat} (ho : W1.ownsRow w0.heap.size 54 2 v1 (S.length + 1) (spC S ++ [.int .i64 u, .int .i64 y])) (hb : Below w0.heap.size w0 W1) (hg : W.grownBy W1 v.ownBlock) :
    W1.frozen? ⟨t, 3, none⟩ = false ∧ W1.cell? ⟨t, 3, none⟩ = some v ∧ Rf w0 (W1.setCell ⟨t, 3, none⟩ v1) t r nm cl v1 (S ++ [(u, y)]) := by
  have ht : W1.heap[t]? = some (tfC 0 (strOfNums nm) cl v) := blk_grown h.tb hg (fun e => own_ne h.own h.tb (by decide) e.symm)
  have hr : W1.heap[r]? = some (tfC 0 ⟨#[]⟩ false (.slice none 0 0)) := blk_grown h.rb hg (fun e => own_ne h.own h.rb (by decide) e.symm)
  refine ⟨blk_frozen ht 3, (blk_cell ht 3).trans rfl, blk_set ht 3 v1, blk_far hr (p := ⟨t, 3, none⟩) h.ne.symm _, ?_, below_grown hb h.lt (grown_set W1 t 3 v1), h.lt, h.lr, h.ne⟩
  rw [spC_snoc, List.length_append, List.length_singleton]
  exact ho.kept (grown_set W1 t 3 v1) (Or.inr (own_ne ho ht (by decide)))
end
/-- Does a loop go on at a place? -/
def cnd (P : Int → Bool) (b : List Int) (q : Nat) : Bool := decide (q < b.length) && P (b.getD q 0)
theorem cnd_in (P : Int → Bool) (b : List Int) (q : Nat) (h : q < b.length) : cnd P b q = P (b.getD q 0) := by unfold cnd; rw [decide_eq_true h, Bool.true_and]
theorem cnd_out (P : Int → Bool) (b : List Int) (q : Nat) (h : ¬ q < b.length) : cnd P b q = false := by unfold cnd; rw [decide_eq_false h, Bool.false_and]
theorem cnd_yes {P : Int → Bool} {b : List Int} {q : Nat} (h : cnd P b q = true) : q < b.length ∧ whl P b q = whl P b (q + 1) := by
  unfold cnd at h
  rw [Bool.and_eq_true, decide_eq_true_eq] at h
  exact ⟨h.1, whl_yes P b q h.1 h.2⟩
theorem cnd_no {P : Int → Bool} {b : List Int} {q : Nat} (h : cnd P b q = false) (hq : q ≤ b.length) : whl P b q = q := by
  by_cases hlt : q < b.length
  · rw [cnd_in P b q hlt] at h
    exact whl_no P b q hlt h
  · obtain rfl : q = b.length := by omega
    exact whl_end P b
theorem cnd_blank (b : List Int) (q : Nat) : cnd blankB b q = isBlank b q := by
  by_cases h : q < b.length
  · rw [cnd_in _ _ _ h, isBlank_in _ _ h]
  · rw [cnd_out _ _ _ h, isBlank_out _ _ (by omega)]
theorem ix_at (s : ByteArray) (p : Nat) (h : p < s.size) : ∀ w : World, (Instr.index 9 (.string s) (.int .i64 (p : Int))).run Try.prog w = .ok (.int .u8 ((bytesOf s).getD p 0)) w := by
  intro w
  have h1 : (p : Int) < (s.size : Int) := by omega
  rw [← bt_get s p h]
  have hb := bt_at s (p : Int)
  go_simp
  exact hb h
theorem bytesOf_ext (s : ByteArray) (a c : Nat) : bytesOf (s.extract a c) = ((bytesOf s).drop a).take (c - a) := by
  unfold bytesOf
  rw [ByteArray.data_extract, Array.toList_extract, List.extract_eq_take_drop, ← List.map_drop, ← List.map_take]
theorem size_ext (s : ByteArray) (a c : Nat) : (s.extract a c).size ≤ s.size := by
  rw [← bytesOf_length (s.extract a c), bytesOf_ext, List.length_take, List.length_drop, bytesOf_length]
  omega
theorem attrs_gap (b : List Int) (m p : Nat) (S : List (Nat × Nat)) (h : p < b.length) (hg : gapB (b.getD p 0) = true) : attrs b m p S = attrs b m (p + 1) S := by
  cases m with
  | zero => rfl
  | succ m =>
    unfold attrs
    rw [whl_yes gapB b p h hg]
theorem attrs_end (b : List Int) (m : Nat) (S : List (Nat × Nat)) : attrs b m b.length S = none := by
  cases m with
  | zero => rfl
  | succ m =>
    unfold attrs
    rw [whl_end, if_pos (List.getElem?_eq_none (Nat.le_refl _))]
theorem attrs_go (b : List Int) (m p : Nat) (S : List (Nat × Nat)) (h : p < b.length) (hg : gapB (b.getD p 0) = false) : attrs b (m + 1) p S = if b.getD p 0 = 62 then some (p + 1, S) else attrs b m (attr b p).1 (S ++ (attr b p).2.toList) := by
  rw [attrs_succ b m p S p (whl_no gapB b p h hg), getD_some b p h, if_neg (by simp)]
  by_cases h62 : b.getD p 0 = 62
  · rw [if_pos (by rw [h62]), if_pos h62]
  · rw [if_neg (fun e => h62 (Option.some.inj e)), if_neg h62]
end Go.Proofs.Ytcbibbdkjhkmoaa.H
