/- Plain law of edits that are apart: put in order, done, undone; where places stand behind them. Conditions: as each lemma says. -/
import Derived.Test.YtgcjkijndibejaaELw
set_option linter.unusedVariables false
set_option linter.unusedSimpArgs false
namespace Go.Proofs.Ytgcjkijndibejaa.Srt
open Go.Lib hiding bytesOf bytesOf_length
open Go.Shelf Go.RowKit Go.Proofs.YtgcjkijndibejaaW.PrintWords

/-- Edits of n bytes in order, from a on, the next one g behind the end at least. -/
structure Ap (n : Nat) (g a : Int) (S : List Ed) : Prop where
  rng : ∀ e ∈ S, a ≤ e.1 ∧ 0 ≤ e.2.1 ∧ e.1 + e.2.1 ≤ n
  seq : S.Pairwise (fun x y => x.1 + x.2.1 + g ≤ y.1)
theorem Ap.nil (n : Nat) (g a : Int) : Ap n g a [] := ⟨fun e h => (List.not_mem_nil h).elim, List.Pairwise.nil⟩
theorem Ap.head {n : Nat} {g a : Int} {x : Ed} {r : List Ed} (h : Ap n g a (x :: r)) : a ≤ x.1 ∧ 0 ≤ x.2.1 ∧ x.1 + x.2.1 ≤ n := h.rng x (List.mem_cons_self)
theorem Ap.tail {n : Nat} {g a : Int} {x : Ed} {r : List Ed} (h : Ap n g a (x :: r)) (hg : 0 ≤ g) : Ap n g (x.1 + x.2.1) r := by
  have h2 := List.pairwise_cons.1 h.seq
  refine ⟨fun e he => ?_, h2.2⟩
  have h3 := h.rng e (List.mem_cons_of_mem _ he)
  have h4 := h2.1 e he
  exact ⟨by omega, h3.2⟩
theorem Ap.filter {n : Nat} {g a : Int} {S : List Ed} (h : Ap n g a S) (p : Ed → Bool) : Ap n g a (S.filter p) := ⟨fun e he => h.rng e (List.mem_filter.1 he).1, h.seq.filter p⟩
theorem Ap.less {n : Nat} {g g' a a' : Int} {S : List Ed} (h : Ap n g a S) (hg : g' ≤ g) (ha : a' ≤ a) : Ap n g' a' S := ⟨fun e he => by have := h.rng e he; exact ⟨by omega, this.2⟩, h.seq.imp (fun {x y} hxy => by omega)⟩
theorem Ap.chk {n : Nat} {g a : Int} {S : List Ed} (h : Ap n g a S) (ha : 0 ≤ a) : ∀ e ∈ S, chk n e = true := fun e he => by
  have := h.rng e he
  rw [chk_iff]
  omega
theorem Ap.lt {n : Nat} {a : Int} {S : List Ed} (h : Ap n 1 a S) : S.Pairwise (fun x y => ltE x y = true) := by
  have hall := h.rng
  refine h.seq.imp_of_mem (fun {x y} hx hy hxy => ?_)
  have := hall x hx
  rw [ltE_iff]
  exact .inl (by omega)
theorem Ap.okL {n : Nat} {a : Int} {S : List Ed} (h : Ap n 1 a S) : okL S = true := by
  rw [okL_iff]
  intro i hi
  have h1 := List.pairwise_iff_getElem.1 h.seq i (i + 1) (by omega) hi (by omega)
  have h2 := h.rng (S[i]'(by omega)) (List.getElem_mem _)
  rw [okP_iff, List.getD_eq_getElem?_getD, List.getElem?_eq_getElem (by omega), List.getD_eq_getElem?_getD, List.getElem?_eq_getElem hi]
  simp only [Option.getD_some]
  omega
/-- Edits that are apart, in whatever order. -/
theorem tidy_ap (b : List Int) (S es : List Ed) (a : Int) (h : Ap b.length 1 a S) (ha : 0 ≤ a) (hp : es.Perm S) (hl : es.length ≤ 65536) : tidy b es = (0, kept b S) := by
  have hk : srtE (kept b es) = kept b S := srtE_of _ _ (hp.filter _) (h.filter _).lt
  have h2 : es.all (Srt.chk b.length) = true := List.all_eq_true.2 (fun e he => h.chk ha e (hp.mem_iff.1 he))
  unfold tidy
  rw [if_neg (by omega), if_pos h2, hk, if_pos (show Srt.okL (kept b S) = true from (h.filter _).okL)]
/-- What Tidy answers is in order. -/
theorem Ap.of_ok {n : Nat} : ∀ {S : List Ed}, OkS n S → Ap n 0 0 S := by
  intro S
  induction S with
  | nil => exact fun _ => Ap.nil _ _ _
  | cons x r ih =>
    intro h
    have hr : OkS n r := ⟨fun i hi => h.rng (i + 1) (by simpa using hi), fun i hi => h.seq (i + 1) (by simpa using hi)⟩
    have h1 := ih hr
    have hx := (chk_iff _ _).1 (h.rng 0 (by simp))
    have hx0 : (x :: r).getD 0 dE = x := rfl
    rw [hx0] at hx
    refine ⟨fun e he => ?_, List.pairwise_cons.2 ⟨fun y hy => ?_, h1.seq⟩⟩
    · rcases List.mem_cons.1 he with rfl | he
      · exact hx
      · exact h1.rng e he
    · cases r with
      | nil => exact (List.not_mem_nil hy).elim
      | cons z s =>
        have hz := (okP_iff _ _).1 (h.seq 0 (by simp))
        have e0 : (x :: z :: s).getD 0 dE = x := rfl
        have e1 : (x :: z :: s).getD (0 + 1) dE = z := rfl
        rw [e0, e1] at hz
        rcases List.mem_cons.1 hy with rfl | hy
        · omega
        · have h3 := (List.pairwise_cons.1 h1.seq).1 y hy
          have h4 := h1.rng z (List.mem_cons_self)
          omega
/-- What comes of bytes from a on. -/
def apl (b : List Int) : Nat → List Ed → List Int
  | a, [] => b.drop a
  | a, x :: r => (b.drop a).take (x.1.toNat - a) ++ bytesOf x.2.2 ++ apl b (x.1.toNat + x.2.1.toNat) r
theorem apl_drop (b : List Int) (S : List Ed) : ∀ k i, i + k = S.length → outE b S S.length ++ b.drop (atE S S.length) = outE b S i ++ apl b (atE S i) (S.drop i) := by
  intro k
  induction k with
  | zero =>
    intro i hi
    obtain rfl : i = S.length := by omega
    rw [List.drop_length]
    rfl
  | succ k ih =>
    intro i hi
    rw [ih (i + 1) (by omega), drop_getD S i (by omega), out_succ, at_succ]
    show _ = outE b S i ++ ((b.drop (atE S i)).take ((S.getD i dE).1.toNat - atE S i) ++ bytesOf (S.getD i dE).2.2 ++ apl b ((S.getD i dE).1.toNat + (S.getD i dE).2.1.toNat) (S.drop (i + 1)))
    simp only [List.append_assoc]
theorem applyL_apl (b : List Int) (S : List Ed) : applyL b S = apl b 0 S := apl_drop b S S.length 0 (by omega)
/-- What undoes edits; m: how much further places stand. -/
def bk (b : List Int) : Int → List Ed → List Ed
  | _, [] => []
  | m, x :: r => (x.1 + m, (x.2.2.size : Int), strOfNums (cut b x)) :: bk b (m + ((x.2.2.size : Int) - x.2.1)) r
theorem bk_drop (b : List Int) (S : List Ed) : ∀ k i, i + k = S.length → bkE b S S.length = bkE b S i ++ bk b (mvE S i) (S.drop i) := by
  intro k
  induction k with
  | zero =>
    intro i hi
    obtain rfl : i = S.length := by omega
    rw [List.drop_length]
    show _ = _ ++ []
    rw [List.append_nil]
  | succ k ih =>
    intro i hi
    rw [ih (i + 1) (by omega), drop_getD S i (by omega), bk_succ]
    show _ = bkE b S i ++ ((S.getD i dE).1 + mvE S i, ((S.getD i dE).2.2.size : Int), strOfNums (cut b (S.getD i dE))) :: bk b (mvE S i + (((S.getD i dE).2.2.size : Int) - (S.getD i dE).2.1)) (S.drop (i + 1))
    rw [List.append_assoc]
    rfl
theorem bkE_bk (b : List Int) (S : List Ed) : bkE b S S.length = bk b 0 S := bk_drop b S S.length 0 (by omega)
theorem bysL {b : List Int} (hb : Bys b) : ∀ (S : List Ed) (a : Nat), Bys (apl b a S) := by
  intro S
  induction S with
  | nil => exact fun a => hb.drop a
  | cons x r ih => exact fun a => ((hb.drop a).take _).append (Bys.of _) |>.append (ih _)
/-- The edits that undo edits stand as they do, change as they do, and bring the bytes back. -/
theorem undo {b : List Int} (hb : Bys b) : ∀ (S : List Ed) (a : Nat) (m : Int) (x P : List Int), Ap b.length 1 a S → a ≤ b.length → (P.length : Int) = a + m → x = P ++ apl b a S → Bys x →
    Ap x.length 1 P.length (bk b m S) ∧ apl x P.length (bk b m S) = b.drop a ∧ ((∀ e ∈ S, chg b e = true) → ∀ e ∈ bk b m S, chg x e = true) := by
  intro S
  induction S with
  | nil =>
    intro a m x P _ ha hP hx hbx
    refine ⟨Ap.nil _ _ _, ?_, fun _ e he => (List.not_mem_nil he).elim⟩
    show x.drop P.length = _
    rw [hx, List.drop_left]
    rfl
  | cons e r ih =>
    intro a m x P h ha hP hx hbx
    have he := h.head
    have ht : Ap b.length 1 ((e.1.toNat + e.2.1.toNat : Nat) : Int) r := by
      have e1 : ((e.1.toNat + e.2.1.toNat : Nat) : Int) = e.1 + e.2.1 := by omega
      rw [e1]
      exact h.tail (by omega)
    have hbl := bytesOf_length e.2.2
    have hTl : ((b.drop a).take (e.1.toNat - a)).length = e.1.toNat - a := by rw [List.length_take, List.length_drop]; omega
    have hx2 : x = (P ++ (b.drop a).take (e.1.toNat - a) ++ bytesOf e.2.2) ++ apl b (e.1.toNat + e.2.1.toNat) r := by
      rw [hx]
      show P ++ ((b.drop a).take (e.1.toNat - a) ++ bytesOf e.2.2 ++ apl b (e.1.toNat + e.2.1.toNat) r) = _
      simp only [List.append_assoc]
    have hPl : ((P ++ (b.drop a).take (e.1.toNat - a) ++ bytesOf e.2.2).length : Int) = ((e.1.toNat + e.2.1.toNat : Nat) : Int) + (m + ((e.2.2.size : Int) - e.2.1)) := by
      rw [List.length_append, List.length_append, hTl, hbl]
      omega
    obtain ⟨i1, i2, i3⟩ := ih (e.1.toNat + e.2.1.toNat) (m + ((e.2.2.size : Int) - e.2.1)) x _ ht (by omega) hPl hx2 hbx
    have hseq := (List.pairwise_cons.1 h.seq).1
    have hxl : x.length = P.length + (e.1.toNat - a) + e.2.2.size + (apl b (e.1.toNat + e.2.1.toNat) r).length := by
      rw [hx2, List.length_append, List.length_append, List.length_append, hTl, hbl]
    have hn1 : (e.1 + m).toNat = P.length + (e.1.toNat - a) := by omega
    have hcut : cut x (e.1 + m, (e.2.2.size : Int), strOfNums (cut b e)) = bytesOf e.2.2 := by
      show (x.drop (e.1 + m).toNat).take ((e.2.2.size : Int)).toNat = _
      have hPT : P.length + (e.1.toNat - a) = (P ++ (b.drop a).take (e.1.toNat - a)).length := by rw [List.length_append, hTl]
      rw [hn1, hPT, hx2, List.append_assoc (P ++ _), List.drop_left, Int.toNat_natCast, ← hbl, List.take_left]
    have hcons : ∀ m2 : Int, bk b m (e :: r) = (e.1 + m, (e.2.2.size : Int), strOfNums (cut b e)) :: bk b (m + ((e.2.2.size : Int) - e.2.1)) r := fun _ => rfl
    rw [hcons 0]
    rw [hPl] at i1
    have hgap : ∀ y ∈ bk b (m + ((e.2.2.size : Int) - e.2.1)) r, e.1 + m + (e.2.2.size : Int) + 1 ≤ y.1 := by
      intro y hy
      cases r with
      | nil => exact (List.not_mem_nil hy).elim
      | cons z s =>
        have hz := hseq z (List.mem_cons_self)
        have hzz : bk b (m + ((e.2.2.size : Int) - e.2.1)) (z :: s) = (z.1 + (m + ((e.2.2.size : Int) - e.2.1)), (z.2.2.size : Int), strOfNums (cut b z)) :: bk b (m + ((e.2.2.size : Int) - e.2.1) + ((z.2.2.size : Int) - z.2.1)) s := rfl
        rw [hzz] at hy i1
        rcases List.mem_cons.1 hy with rfl | hy
        · show _ ≤ z.1 + _
          omega
        · have := (List.pairwise_cons.1 i1.seq).1 y hy
          have this : z.1 + (m + ((e.2.2.size : Int) - e.2.1)) + (z.2.2.size : Int) + 1 ≤ y.1 := this
          omega
    refine ⟨⟨fun y hy => ?_, List.pairwise_cons.2 ⟨fun y hy => hgap y hy, i1.seq⟩⟩, ?_, fun hc y hy => ?_⟩
    · rcases List.mem_cons.1 hy with rfl | hy
      · show (P.length : Int) ≤ e.1 + m ∧ 0 ≤ (e.2.2.size : Int) ∧ e.1 + m + (e.2.2.size : Int) ≤ (x.length : Int)
        omega
      · have h1 := i1.rng y hy
        have h2 := hgap y hy
        exact ⟨by omega, h1.2⟩
    · show (x.drop P.length).take ((e.1 + m).toNat - P.length) ++ bytesOf (strOfNums (cut b e)) ++ apl x ((e.1 + m).toNat + ((e.2.2.size : Int)).toNat) (bk b (m + ((e.2.2.size : Int) - e.2.1)) r) = b.drop a
      have hn2 : (e.1 + m).toNat + ((e.2.2.size : Int)).toNat = (P ++ (b.drop a).take (e.1.toNat - a) ++ bytesOf e.2.2).length := by omega
      have hn3 : (e.1 + m).toNat - P.length = e.1.toNat - a := by omega
      have hx3 : x.drop P.length = (b.drop a).take (e.1.toNat - a) ++ (bytesOf e.2.2 ++ apl b (e.1.toNat + e.2.1.toNat) r) := by
        rw [hx2, List.append_assoc, List.append_assoc, List.drop_left]
      rw [hn2, i2, bytes_strOf _ (hb.cut e), hn3, hx3]
      rw [List.take_append_of_le_length (by rw [hTl]; omega), List.take_take, Nat.min_self]
      show (b.drop a).take (e.1.toNat - a) ++ (b.drop e.1.toNat).take e.2.1.toNat ++ b.drop (e.1.toNat + e.2.1.toNat) = b.drop a
      rw [List.append_assoc, ← List.drop_drop, List.take_append_drop]
      have e2 : b.drop e.1.toNat = (b.drop a).drop (e.1.toNat - a) := by
        rw [List.drop_drop]
        congr 1
        omega
      rw [e2, List.take_append_drop]
    · rcases List.mem_cons.1 hy with rfl | hy
      · rw [chg_iff _ hbx, hcut]
        have h2 := (chg_iff _ hb e).1 (hc e (List.mem_cons_self))
        show ¬ bytesOf e.2.2 = bytesOf (strOfNums (cut b e))
        rw [bytes_strOf _ (hb.cut e)]
        exact fun h => h2 h.symm
      · exact i3 (fun y hy => hc y (List.mem_cons_of_mem _ hy)) y hy
/-- Edits that are apart, done in whatever order; the edits that undo them bring the bytes back. -/
theorem back_all {b : List Int} (hb : Bys b) (S es : List Ed) (h : Ap b.length 1 0 S) (hp : es.Perm S) (hl : es.length ≤ 65536) :
    applyR b es = apl b 0 (kept b S) ∧ backR b es = bk b 0 (kept b S) ∧ tidy (apl b 0 (kept b S)) (bk b 0 (kept b S)) = (0, bk b 0 (kept b S)) ∧ applyR (apl b 0 (kept b S)) (bk b 0 (kept b S)) = b := by
  have ht := tidy_ap b S es 0 h (by omega) hp hl
  have h1 : applyR b es = apl b 0 (kept b S) := by unfold applyR; rw [ht, if_pos rfl, applyL_apl]
  have h2 : backR b es = bk b 0 (kept b S) := by unfold backR; rw [ht, if_pos rfl, bkE_bk]
  have hkl : (bk b 0 (kept b S)).length ≤ 65536 := by
    rw [← bkE_bk, bk_len]
    have := kept_len b S
    have := hp.length_eq
    omega
  obtain ⟨u1, u2, u3⟩ := undo hb (kept b S) 0 0 (apl b 0 (kept b S)) [] (h.filter _) (by omega) (by simp) (by simp) (bysL hb _ _)
  have hall := u3 (fun e he => (List.mem_filter.1 he).2)
  have hk : kept (apl b 0 (kept b S)) (bk b 0 (kept b S)) = bk b 0 (kept b S) := List.filter_eq_self.2 hall
  have h3 : tidy (apl b 0 (kept b S)) (bk b 0 (kept b S)) = (0, bk b 0 (kept b S)) := by
    rw [tidy_ap _ _ _ 0 u1 (by omega) (List.Perm.refl _) hkl, hk]
  refine ⟨h1, h2, h3, ?_⟩
  unfold applyR
  rw [h3, if_pos rfl, applyL_apl]
  exact u2
theorem bk_txt (b : List Int) (k : Nat) : ∀ (S : List Ed) (m : Int), (∀ e ∈ S, (cut b e).length ≤ k) → ∀ e ∈ bk b m S, e.2.2.size ≤ k := by
  intro S
  induction S with
  | nil => exact fun m _ e he => (List.not_mem_nil he).elim
  | cons x r ih =>
    intro m h e he
    rcases List.mem_cons.1 (show e ∈ _ :: bk b _ r from he) with rfl | he
    · show (strOfNums (cut b x)).size ≤ k
      rw [strOfNums_size']
      exact h x (List.mem_cons_self)
    · exact ih _ (fun y hy => h y (List.mem_cons_of_mem _ hy)) e he
theorem bk_length (b : List Int) : ∀ (S : List Ed) (m : Int), (bk b m S).length = S.length := by
  intro S
  induction S with
  | nil => exact fun m => rfl
  | cons x r ih => exact fun m => congrArg (· + 1) (ih _)
theorem apl_len (b : List Int) (k : Nat) : ∀ (S : List Ed) (a : Nat), Ap b.length 0 a S → a ≤ b.length → (∀ e ∈ S, e.2.2.size ≤ k) → (apl b a S).length ≤ b.length - a + S.length * k := by
  intro S
  induction S with
  | nil => intro a _ ha _; show (b.drop a).length ≤ _; rw [List.length_drop]; omega
  | cons x r ih =>
    intro a h ha hk
    have he := h.head
    have ht : Ap b.length 0 ((x.1.toNat + x.2.1.toNat : Nat) : Int) r := by
      have e1 : ((x.1.toNat + x.2.1.toNat : Nat) : Int) = x.1 + x.2.1 := by omega
      rw [e1]
      exact h.tail (by omega)
    have h1 := ih _ ht (by omega) (fun y hy => hk y (List.mem_cons_of_mem _ hy))
    have h2 := hk x (List.mem_cons_self)
    show ((b.drop a).take (x.1.toNat - a) ++ bytesOf x.2.2 ++ apl b (x.1.toNat + x.2.1.toNat) r).length ≤ _
    rw [List.length_append, List.length_append, List.length_take, List.length_drop, bytesOf_length, List.length_cons, Nat.add_mul]
    omega
/-! ### where places stand -/
theorem plc_add (t : Int) : ∀ (S : List Ed) (m : Int), plc t S m = plc t S 0 + m := by
  intro S
  induction S with
  | nil => intro m; show t + m = t + 0 + m; omega
  | cons x r ih =>
    intro m
    show (if t < x.1 ∨ (t = x.1 ∧ 0 < x.2.1) then t + m else if t < x.1 + x.2.1 then x.1 + m else plc t r (m + ((x.2.2.size : Int) - x.2.1))) = (if t < x.1 ∨ (t = x.1 ∧ 0 < x.2.1) then t + 0 else if t < x.1 + x.2.1 then x.1 + 0 else plc t r (0 + ((x.2.2.size : Int) - x.2.1))) + m
    split
    · omega
    · split
      · omega
      · rw [ih (m + _), ih (0 + _)]
        omega
theorem plc_cons (t : Int) (x : Ed) (r : List Ed) : plc t (x :: r) 0 = if t < x.1 ∨ (t = x.1 ∧ 0 < x.2.1) then t else if t < x.1 + x.2.1 then x.1 else plc t r 0 + ((x.2.2.size : Int) - x.2.1) := by
  show (if t < x.1 ∨ (t = x.1 ∧ 0 < x.2.1) then t + 0 else if t < x.1 + x.2.1 then x.1 + 0 else plc t r (0 + ((x.2.2.size : Int) - x.2.1))) = _
  rw [plc_add t r (0 + _), Int.add_zero, Int.add_zero, Int.zero_add]
theorem plc_low {n : Nat} (t : Int) : ∀ (S : List Ed) (a : Int), Ap n 0 a S → a ≤ t → a ≤ plc t S 0 := by
  intro S
  induction S with
  | nil => intro a _ h; show a ≤ t + 0; omega
  | cons x r ih =>
    intro a h ht
    have he := h.head
    rw [plc_cons]
    split
    · exact ht
    · split
      · exact he.1
      · have := ih (x.1 + x.2.1) (h.tail (by omega)) (by omega)
        omega
theorem plc_mono {n : Nat} (t u : Int) (htu : t ≤ u) : ∀ (S : List Ed) (a : Int), Ap n 0 a S → a ≤ t → plc t S 0 ≤ plc u S 0 := by
  intro S
  induction S with
  | nil => intro a _ h; show t + 0 ≤ u + 0; omega
  | cons x r ih =>
    intro a h ht
    have he := h.head
    rw [plc_cons, plc_cons]
    have hlow : x.1 + x.2.1 ≤ u → x.1 + x.2.1 ≤ plc u r 0 := fun hu => plc_low u r _ (h.tail (by omega)) hu
    have hih : x.1 + x.2.1 ≤ t → plc t r 0 ≤ plc u r 0 := fun h1 => ih _ (h.tail (by omega)) h1
    repeat' split
    all_goals (first | omega | (have := hih (by omega); omega) | (have := hlow (by omega); omega))
theorem plc_top {b : List Int} : ∀ (S : List Ed) (a : Nat), Ap b.length 0 a S → a ≤ b.length → plc b.length S 0 = a + (apl b a S).length := by
  intro S
  induction S with
  | nil => intro a _ ha; show (b.length : Int) + 0 = a + ((b.drop a).length : Int); rw [List.length_drop]; omega
  | cons x r ih =>
    intro a h ha
    have he := h.head
    have ht : Ap b.length 0 ((x.1.toNat + x.2.1.toNat : Nat) : Int) r := by
      have e1 : ((x.1.toNat + x.2.1.toNat : Nat) : Int) = x.1 + x.2.1 := by omega
      rw [e1]
      exact h.tail (by omega)
    have h1 := ih _ ht (by omega)
    rw [plc_cons, if_neg (by omega), if_neg (by omega), h1]
    show _ = (a : Int) + (((b.drop a).take (x.1.toNat - a) ++ bytesOf x.2.2 ++ apl b (x.1.toNat + x.2.1.toNat) r).length : Int)
    rw [List.length_append, List.length_append, List.length_take, List.length_drop, bytesOf_length]
    omega
/-- A byte that no edit touches stands where it is told to. -/
theorem plc_stay {b : List Int} (t : Nat) (htn : t < b.length) : ∀ (S : List Ed) (a : Nat), Ap b.length 0 a S → a ≤ t → (∀ e ∈ S, ¬ (e.1 ≤ t ∧ (t : Int) < e.1 + e.2.1)) → ∃ p : Nat, plc t S 0 = a + p ∧ (apl b a S)[p]? = b[t]? := by
  intro S
  induction S with
  | nil =>
    intro a _ ha _
    refine ⟨t - a, by show (t : Int) + 0 = _; omega, ?_⟩
    show (b.drop a)[t - a]? = _
    rw [List.getElem?_drop]
    congr 1
    omega
  | cons x r ih =>
    intro a h ha hu
    have he := h.head
    have hux := hu x (List.mem_cons_self)
    have hTl : ((b.drop a).take (x.1.toNat - a)).length = x.1.toNat - a := by rw [List.length_take, List.length_drop]; omega
    have hbl := bytesOf_length x.2.2
    rw [plc_cons]
    show ∃ p : Nat, _ ∧ ((b.drop a).take (x.1.toNat - a) ++ bytesOf x.2.2 ++ apl b (x.1.toNat + x.2.1.toNat) r)[p]? = _
    by_cases h1 : (t : Int) < x.1
    · refine ⟨t - a, by rw [if_pos (.inl h1)]; omega, ?_⟩
      rw [List.getElem?_append_left (by rw [List.length_append, hTl]; omega), List.getElem?_append_left (by rw [hTl]; omega), List.getElem?_take_of_lt (by omega), List.getElem?_drop]
      congr 1
      omega
    · have ht : Ap b.length 0 ((x.1.toNat + x.2.1.toNat : Nat) : Int) r := by
        have e1 : ((x.1.toNat + x.2.1.toNat : Nat) : Int) = x.1 + x.2.1 := by omega
        rw [e1]
        exact h.tail (by omega)
      obtain ⟨p, h2, h3⟩ := ih _ ht (by omega) (fun e he => hu e (List.mem_cons_of_mem _ he))
      refine ⟨x.1.toNat - a + x.2.2.size + p, by rw [if_neg (by omega), if_neg (by omega), h2]; omega, ?_⟩
      have hlen : ((b.drop a).take (x.1.toNat - a) ++ bytesOf x.2.2).length = x.1.toNat - a + x.2.2.size := by rw [List.length_append, hTl, hbl]
      rw [List.getElem?_append_right (by rw [hlen]; omega), hlen, ← h3]
      congr 1
      omega
end Go.Proofs.Ytgcjkijndibejaa.Srt
