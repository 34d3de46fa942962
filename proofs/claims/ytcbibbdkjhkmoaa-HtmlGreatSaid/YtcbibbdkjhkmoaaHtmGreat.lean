/- Great letters in the place of small ones change no label. Conditions: none. -/
import Derived.Test.YtcbibbdkjhkmoaaHtmTag
set_option linter.unusedVariables false
set_option linter.unusedSimpArgs false
namespace Go.Proofs.Ytcbibbdkjhkmoaa.Htm
open Go.Proofs.Ytcbibbdkjhkmoaa.L

theorem sm_sm (c : Int) : sm (sm c) = sm c := by
  have : ¬ (65 ≤ sm c ∧ sm c ≤ 90) := by unfold sm; split <;> omega
  exact if_neg this
theorem map_sm_sm (l : List Int) : (l.map sm).map sm = l.map sm := by
  rw [List.map_map]
  exact List.map_congr_left (fun c _ => sm_sm c)
/-- A byte that is no letter is that byte when made small, and no other is. -/
theorem sm_is (c t : Int) (h1 : t < 65 ∨ 122 < t ∨ (90 < t ∧ t < 97)) : (sm c = t) ↔ (c = t) := by
  unfold sm
  split <;> omega
theorem get_sm (b : List Int) (p : Nat) : (b.map sm)[p]? = b[p]?.map sm := List.getElem?_map
theorem get_is (b : List Int) (p : Nat) (t : Int) (h : t < 65 ∨ 122 < t ∨ (90 < t ∧ t < 97)) : ((b.map sm)[p]? = some t) ↔ (b[p]? = some t) := by
  rw [get_sm, Option.map_eq_some_iff]
  constructor
  · rintro ⟨c, hc, e⟩
    rw [hc, (sm_is c t h).1 e]
  · intro hc
    exact ⟨t, hc, (sm_is t t h).2 rfl⟩
theorem get_none (b : List Int) (p : Nat) : ((b.map sm)[p]? = none) ↔ (b[p]? = none) := by rw [get_sm]; cases b[p]? <;> simp
def Resp (P : Int → Bool) : Prop := ∀ c, P (sm c) = P c
theorem tw_sm {P : Int → Bool} (h : Resp P) : ∀ l : List Int, ((l.map sm).takeWhile P).length = (l.takeWhile P).length := by
  intro l
  induction l with
  | nil => rfl
  | cons c l ih =>
    rw [List.map_cons, List.takeWhile_cons, List.takeWhile_cons, h c]
    cases P c with
    | true => simp only [if_true, List.length_cons, ih]
    | false => rfl
theorem whl_sm {P : Int → Bool} (h : Resp P) (b : List Int) (p : Nat) : whl P (b.map sm) p = whl P b p := by
  unfold whl
  rw [← List.map_drop, tw_sm h]
theorem letter_sm : Resp letterB := by
  intro c
  unfold letterB
  rw [Bool.eq_iff_iff]
  simp only [Bool.or_eq_true, decide_eq_true_eq]
  unfold sm
  split <;> omega
theorem blank_sm : Resp blankB := by
  intro c
  unfold blankB
  rw [Bool.eq_iff_iff]
  simp only [Bool.or_eq_true, beq_iff_eq]
  unfold sm
  split <;> omega
theorem beq_sm (c t : Int) (h : t < 65 ∨ 122 < t ∨ (90 < t ∧ t < 97)) : (sm c == t) = (c == t) := by
  rw [Bool.eq_iff_iff, beq_iff_eq, beq_iff_eq]
  exact sm_is c t h
theorem name_sm : Resp nameB := by
  intro c
  unfold nameB
  rw [letter_sm c, beq_sm c 45 (by omega)]
  congr 2
  apply decide_eq_decide.2
  unfold sm
  split <;> omega
theorem gap_sm : Resp gapB := by intro c; unfold gapB; rw [blank_sm c, beq_sm c 47 (by omega)]
theorem key_sm : Resp keyB := by
  intro c
  unfold keyB bne
  rw [blank_sm c, beq_sm c 47 (by omega), beq_sm c 62 (by omega), beq_sm c 61 (by omega)]
theorem bare_sm : Resp bareB := by intro c; unfold bareB bne; rw [blank_sm c, beq_sm c 62 (by omega)]
theorem quote_sm (q : Int) (h : q = 34 ∨ q = 39) : Resp (fun c => c != q) := by
  intro c
  show (!(sm c == q)) = (!(c == q))
  rw [beq_sm c q (by omega)]
theorem getD_is (b : List Int) (p : Nat) (q : Int) (h : b[p]? = some q) : b.getD p 0 = q := by rw [List.getD_eq_getElem?_getD, h]; rfl
theorem attr_sm (b : List Int) (p : Nat) : attr (b.map sm) p = attr b p := by
  unfold attr
  simp only [whl_sm key_sm, whl_sm blank_sm]
  have hk : (((b.map sm).drop p).take (whl keyB b (p + 1) - p)).map sm = ((b.drop p).take (whl keyB b (p + 1) - p)).map sm := by
    rw [← List.map_drop, ← List.map_take, map_sm_sm]
  rw [hk]
  generalize whl blankB b (whl keyB b (p + 1)) = p2
  by_cases h2 : b[p2]? = some 61
  · rw [if_pos h2, if_pos ((get_is b p2 61 (by omega)).2 h2)]
    generalize whl blankB b (p2 + 1) = p3
    by_cases h3 : b[p3]? = some 34 ∨ b[p3]? = some 39
    · have h3' : (b.map sm)[p3]? = some 34 ∨ (b.map sm)[p3]? = some 39 := by
        rcases h3 with h | h
        · exact .inl ((get_is b p3 34 (by omega)).2 h)
        · exact .inr ((get_is b p3 39 (by omega)).2 h)
      rw [if_pos h3, if_pos h3']
      obtain ⟨q, hq, hg, hg'⟩ : ∃ q : Int, (q = 34 ∨ q = 39) ∧ b.getD p3 0 = q ∧ (b.map sm).getD p3 0 = q := by
        rcases h3 with h | h
        · exact ⟨34, .inl rfl, getD_is _ _ _ h, getD_is _ _ _ ((get_is b p3 34 (by omega)).2 h)⟩
        · exact ⟨39, .inr rfl, getD_is _ _ _ h, getD_is _ _ _ ((get_is b p3 39 (by omega)).2 h)⟩
      rw [hg, hg', whl_sm (quote_sm q hq), List.length_map]
    · rw [if_neg h3, if_neg (fun h => h3 (h.imp (get_is b p3 34 (by omega)).1 (get_is b p3 39 (by omega)).1)), whl_sm bare_sm]
  · rw [if_neg h2, if_neg (fun h => h2 ((get_is b p2 61 (by omega)).1 h))]
theorem attrs_sm (b : List Int) : ∀ (n p : Nat) (S : List (Nat × Nat)), attrs (b.map sm) n p S = attrs b n p S := by
  intro n
  induction n with
  | zero => intro p S; rfl
  | succ n ih =>
    intro p S
    unfold attrs
    simp only [whl_sm gap_sm, attr_sm, ih]
    generalize whl gapB b p = q
    by_cases h1 : b[q]? = none
    · rw [if_pos h1, if_pos ((get_none b q).2 h1)]
    · rw [if_neg h1, if_neg (fun h => h1 ((get_none b q).1 h))]
      by_cases h2 : b[q]? = some 62
      · rw [if_pos h2, if_pos ((get_is b q 62 (by omega)).2 h2)]
      · rw [if_neg h2, if_neg (fun h => h2 ((get_is b q 62 (by omega)).1 h))]
theorem opens_sm (b : List Int) (p : Nat) : opens (b.map sm) p = opens b p := by
  unfold opens
  by_cases h : b[p + 1]? = some 47
  · rw [if_pos h, if_pos ((get_is b _ 47 (by omega)).2 h)]
  · rw [if_neg h, if_neg (fun e => h ((get_is b _ 47 (by omega)).1 e))]
theorem isLetter_sm (b : List Int) (p : Nat) : isLetter (b.map sm) p = isLetter b p := by
  unfold isLetter
  rw [get_sm]
  cases b[p]? with
  | none => rfl
  | some c => exact letter_sm c
theorem read_sm (b : List Int) (p : Nat) : read (b.map sm) p = read b p := by
  unfold read
  rw [opens_sm, isLetter_sm, whl_sm name_sm, List.length_map, attrs_sm]
  have hn : (((b.map sm).drop (opens b p)).take (whl nameB b (opens b p) - opens b p)).map sm = ((b.drop (opens b p)).take (whl nameB b (opens b p) - opens b p)).map sm := by
    rw [← List.map_drop, ← List.map_take, map_sm_sm]
  have hc : decide ((b.map sm)[p + 1]? = some 47) = decide (b[p + 1]? = some 47) := decide_eq_decide.2 (get_is b _ 47 (by omega))
  rw [hn, hc]
  by_cases h : b[p]? = some 60 ∧ isLetter b (opens b p) = true
  · rw [if_pos h, if_pos ⟨(get_is b p 60 (by omega)).2 h.1, h.2⟩]
  · rw [if_neg h, if_neg (fun e => h ⟨(get_is b p 60 (by omega)).1 e.1, e.2⟩)]
theorem obeq_sm (b : List Int) (p : Nat) (t : Int) (h : t < 65 ∨ 122 < t ∨ (90 < t ∧ t < 97)) : ((b.map sm)[p]? == some t) = (b[p]? == some t) := by
  rw [Bool.eq_iff_iff, beq_iff_eq, beq_iff_eq]
  exact get_is b p t h
theorem endB_sm (b : List Int) (k : Nat) : endB (b.map sm) k = endB b k := by
  unfold endB
  rw [get_sm]
  cases b[k]? with
  | none => rfl
  | some c =>
    show (gapB (sm c) || sm c == 62) = (gapB c || c == 62)
    rw [gap_sm c, beq_sm c 62 (by omega)]
theorem isShut_sm (b nm : List Int) (i : Nat) : isShut (b.map sm) nm i = isShut b nm i := by
  unfold isShut
  rw [obeq_sm b i 60 (by omega), obeq_sm b (i + 1) 47 (by omega), List.length_map, endB_sm]
  have hn : (((b.map sm).drop (i + 2)).take nm.length).map sm = ((b.drop (i + 2)).take nm.length).map sm := by
    rw [← List.map_drop, ← List.map_take, map_sm_sm]
  rw [hn]
theorem shutN_sm (b nm : List Int) : ∀ (n i : Nat), shutN (b.map sm) nm n i = shutN b nm n i := by
  intro n
  induction n with
  | zero => intro i; exact List.length_map _
  | succ n ih =>
    intro i
    unfold shutN
    rw [List.length_map, isShut_sm, ih]
theorem shutP_sm (b nm : List Int) (i : Nat) : shutP (b.map sm) nm i = shutP b nm i := by
  unfold shutP
  rw [List.length_map, shutN_sm]
def Plain (t : List Int) : Prop := ∀ x ∈ t, x < 65 ∨ 122 < x ∨ (90 < x ∧ x < 97)
theorem pfx_sm : ∀ (t l : List Int), Plain t → t.isPrefixOf (l.map sm) = t.isPrefixOf l := by
  intro t
  induction t with
  | nil => intro l _; cases l <;> rfl
  | cons x t ih =>
    intro l h
    cases l with
    | nil => rfl
    | cons c l =>
      rw [List.map_cons, List.isPrefixOf_cons_cons, List.isPrefixOf_cons_cons, ih l (fun y hy => h y (by simp [hy]))]
      congr 1
      rw [Bool.eq_iff_iff, beq_iff_eq, beq_iff_eq]
      constructor
      · intro e; exact ((sm_is c x (h x (by simp))).1 e.symm).symm
      · intro e; exact ((sm_is c x (h x (by simp))).2 e.symm).symm
theorem fnd_sm (t : List Int) (h : Plain t) : ∀ l : List Int, fnd t (l.map sm) = fnd t l := by
  intro l
  induction l with
  | nil => rfl
  | cons c l ih =>
    have hp := pfx_sm t (c :: l) h
    rw [List.map_cons] at hp ⊢
    unfold fnd
    rw [hp, ih]
theorem untl_sm (t : List Int) (h : Plain t) (b : List Int) (p : Nat) : untl t (b.map sm) p = untl t b p := by
  unfold untl
  rw [← List.map_drop, fnd_sm t h, List.length_map]
theorem begs_sm (b : List Int) (p : Nat) (t : List Int) (h : Plain t) : begs (b.map sm) p t = begs b p t := by
  unfold begs
  rw [← List.map_drop, pfx_sm t _ h]
theorem begs_91 (b : List Int) (p : Nat) (h : (91 : Int) ∉ b) (t : List Int) (ht : (91 : Int) ∈ t) : begs b p t = false := by
  rw [Bool.eq_false_iff]
  intro e
  unfold begs at e
  obtain ⟨r, hr⟩ := List.isPrefixOf_iff_prefix.1 e
  have : (91 : Int) ∈ b.drop p := by rw [← hr]; exact List.mem_append_left _ ht
  exact h (List.mem_of_mem_drop this)
theorem past_sm (b : List Int) (p : Nat) (T : Tg) (L : List Int) : past (b.map sm) p T L = past b p T L := by
  unfold past
  simp only [shutP_sm]
theorem step_sm (b : List Int) (h : (91 : Int) ∉ b) (h2 : (91 : Int) ∉ b.map sm) (p : Nat) (L : List Int) : step (b.map sm) p L = step b p L := by
  have hC : begs b p [60, 33, 91, 67, 68, 65, 84, 65, 91] = false := begs_91 b p h _ (by simp)
  have hC' : begs (b.map sm) p [60, 33, 91, 67, 68, 65, 84, 65, 91] = false := begs_91 _ p h2 _ (by simp)
  have e1 := begs_sm b p [60, 33, 45, 45] (by intro x hx; simp at hx; omega)
  have e2 := begs_sm b p [60, 33] (by intro x hx; simp at hx; omega)
  have e3 := begs_sm b p [60, 63] (by intro x hx; simp at hx; omega)
  have u1 := untl_sm [45, 45, 62] (by intro x hx; simp at hx; omega) b (p + 4)
  have u2 := untl_sm [62] (by intro x hx; simp at hx; omega) b (p + 2)
  have er := read_sm b p
  have eo := opens_sm b p
  have el := isLetter_sm b (opens b p)
  have en : (b.map sm).length = b.length := List.length_map _
  unfold step
  rw [hC, hC', e1, e2, e3, u1, u2, er, eo, el, en]
  by_cases h0 : b[p]? = some 60
  · have h0' := (get_is b p 60 (by omega)).2 h0
    rw [if_neg (show ¬ ((b.map sm)[p]? ≠ some 60) from fun e => e h0'), if_neg (show ¬ (b[p]? ≠ some 60) from fun e => e h0)]
    simp only [Bool.false_eq_true, if_false]
    cases read b p with
    | none => rfl
    | some T => simp only [past_sm]
  · have h0' : (b.map sm)[p]? ≠ some 60 := fun e => h0 ((get_is b p 60 (by omega)).1 e)
    rw [if_pos h0, if_pos h0']
theorem lexN_sm (b : List Int) (h : (91 : Int) ∉ b) (h2 : (91 : Int) ∉ b.map sm) : ∀ (n p : Nat) (L : List Int), lexN (b.map sm) n p L = lexN b n p L := by
  intro n
  induction n with
  | zero => intro p L; rfl
  | succ n ih =>
    intro p L
    unfold lexN
    rw [List.length_map, step_sm b h h2, ih]
theorem lexL_sm (b : List Int) (h : (91 : Int) ∉ b) : lexL (b.map sm) = lexL b := by
  have h2 : (91 : Int) ∉ b.map sm := by
    intro e
    obtain ⟨c, hc, hs⟩ := List.mem_map.1 e
    rw [(sm_is c 91 (by omega)).1 hs] at hc
    exact h hc
  unfold lexL
  rw [List.length_map, lexN_sm b h h2]
theorem great_small (a b : List Int) (h : a.map sm = b.map sm) (ha : (91 : Int) ∉ a) (hb : (91 : Int) ∉ b) : lexL a = lexL b := by
  rw [← lexL_sm a ha, h, lexL_sm b hb]
end Go.Proofs.Ytcbibbdkjhkmoaa.Htm
