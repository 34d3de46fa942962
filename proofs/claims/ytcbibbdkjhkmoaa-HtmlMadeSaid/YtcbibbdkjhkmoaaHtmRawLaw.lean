/- A name's tag, bytes, and its closing tag, in plain lists. Conditions: none. -/
import Derived.Test.YtcbibbdkjhkmoaaHtmPlainLaw
set_option linter.unusedVariables false
set_option linter.unusedSimpArgs false
namespace Go.Proofs.Ytcbibbdkjhkmoaa.Htm
open Go.Proofs.Ytcbibbdkjhkmoaa.L

theorem tw_app (P : Int → Bool) (c : Int) (r : List Int) (hc : P c = false) : ∀ l : List Int, (∀ y ∈ l, P y = true) → (l ++ c :: r).takeWhile P = l := by
  intro l
  induction l with
  | nil => intro _; rw [List.nil_append, List.takeWhile_cons, if_neg (by rw [hc]; simp)]
  | cons y l ih =>
    intro hl
    rw [List.cons_append, List.takeWhile_cons, if_pos (hl y (by simp)), ih (fun z hz => hl z (by simp [hz]))]
theorem whl_app {P : Int → Bool} {b : List Int} {p : Nat} {l r : List Int} {c : Int} (h : b.drop p = l ++ c :: r) (hl : ∀ y ∈ l, P y = true) (hc : P c = false) : whl P b p = p + l.length := by
  unfold whl
  rw [h, tw_app P c r hc l hl]
theorem at_drop {b : List Int} {p : Nat} {c : Int} {r : List Int} (h : b.drop p = c :: r) : b[p]? = some c := by
  have : (b.drop p)[0]? = some c := by rw [h]; rfl
  rwa [List.getElem?_drop, Nat.add_zero] at this
theorem drop_next {b : List Int} {p : Nat} {l r : List Int} (h : b.drop p = l ++ r) : b.drop (p + l.length) = r := by
  rw [← List.drop_drop, h, List.drop_append, List.drop_eq_nil_of_le (Nat.le_refl _), Nat.sub_self]
  rfl
/-- A name of small letters. -/
structure Nam (nm : List Int) : Prop where
  ne : nm ≠ []
  lo : ∀ c ∈ nm, 97 ≤ c ∧ c ≤ 122
theorem Nam.sm {nm : List Int} (h : Nam nm) : nm.map sm = nm := by
  have : ∀ c ∈ nm, Htm.sm c = c := by
    intro c hc
    have := h.lo c hc
    unfold Htm.sm
    rw [if_neg (by omega)]
  exact (List.map_congr_left this).trans (List.map_id'' (fun _ => rfl) nm)
theorem let_of {c : Int} (h : 97 ≤ c ∧ c ≤ 122) : letterB c = true := by unfold letterB; rw [decide_eq_true h]; rfl
theorem Nam.cons {nm : List Int} (h : Nam nm) : ∃ c l, nm = c :: l ∧ 97 ≤ c ∧ c ≤ 122 := by
  cases nm with
  | nil => exact absurd rfl h.ne
  | cons c l => exact ⟨c, l, rfl, h.lo c (by simp)⟩
/-- The tag that such a name makes. -/
theorem read_nam (b : List Int) (p : Nat) (sl nm r : List Int) (hsl : sl = [] ∨ sl = [47]) (hn : Nam nm) (h : b.drop p = 60 :: (sl ++ (nm ++ 62 :: r))) :
    read b p = some ⟨p + 1 + sl.length + nm.length + 1, nm, decide (sl = [47]), []⟩ := by
  have h0 := at_drop h
  have h1 : b.drop (p + 1) = sl ++ (nm ++ 62 :: r) := drop_next (l := [60]) h
  have h2 : b.drop (p + 1 + sl.length) = nm ++ 62 :: r := drop_next h1
  have h3 : b.drop (p + 1 + sl.length + nm.length) = 62 :: r := drop_next h2
  obtain ⟨c, l, hcl, hc⟩ := hn.cons
  have h47 : b[p + 1]? = some 47 ↔ sl = [47] := by
    rcases hsl with rfl | rfl
    · have := at_drop (h1.trans (by rw [hcl]; rfl) : b.drop (p + 1) = c :: (l ++ 62 :: r))
      rw [this]
      constructor
      · intro e; injection e with e; omega
      · intro e; cases e
    · exact ⟨fun _ => rfl, fun _ => at_drop h1⟩
  have ho : opens b p = p + 1 + sl.length := by
    unfold opens
    rcases hsl with rfl | rfl
    · rw [if_neg (fun e => by have := h47.1 e; cases this)]; rfl
    · rw [if_pos (h47.2 rfl)]; rfl
  have hl : isLetter b (opens b p) = true := by
    unfold isLetter
    rw [ho, at_drop (h2.trans (by rw [hcl]; rfl) : b.drop (p + 1 + sl.length) = c :: (l ++ 62 :: r))]
    exact let_of hc
  have hw : whl nameB b (opens b p) = p + 1 + sl.length + nm.length := by
    rw [ho]
    refine whl_app h2 (fun y hy => ?_) (by decide)
    unfold nameB
    rw [let_of (hn.lo y hy)]
    rfl
  have hlt := lt_of_some (at_drop h3)
  have hg : whl gapB b (p + 1 + sl.length + nm.length) = p + 1 + sl.length + nm.length := whl_app (l := []) h3 (by simp) (by decide)
  have ha : attrs b (b.length + 1) (p + 1 + sl.length + nm.length) [] = some (p + 1 + sl.length + nm.length + 1, []) := by
    unfold attrs
    rw [hg, if_neg (by rw [at_drop h3]; simp), if_pos (at_drop h3)]
  have ht : (b.drop (opens b p)).take (p + 1 + sl.length + nm.length - opens b p) = nm := by
    rw [ho, h2, Nat.add_sub_cancel_left, List.take_left]
  unfold read
  rw [if_pos ⟨h0, hl⟩, hw, ha, Option.map_some, ht, hn.sm]
  congr 2
  exact decide_eq_decide.2 h47
theorem begs_no (b : List Int) (p : Nat) (c : Int) (r : List Int) (h : b.drop p = 60 :: c :: r) (h1 : c ≠ 33) (h2 : c ≠ 63) : begs b p [60, 33, 45, 45] = false ∧ begs b p [60, 33, 91, 67, 68, 65, 84, 65, 91] = false ∧ (begs b p [60, 33] || begs b p [60, 63]) = false := by
  unfold begs
  rw [h]
  have e1 : ((33 : Int) == c) = false := beq_eq_false_iff_ne.2 (fun e => h1 e.symm)
  have e2 : ((63 : Int) == c) = false := beq_eq_false_iff_ne.2 (fun e => h2 e.symm)
  simp only [List.isPrefixOf_cons_cons, e1, e2]
  simp
theorem step_read (b : List Int) (p : Nat) (L : List Int) (c : Int) (r : List Int) (T : Tg) (h : b.drop p = 60 :: c :: r) (h1 : c ≠ 33) (h2 : c ≠ 63) (hr : read b p = some T) : step b p L = past b p T L := by
  obtain ⟨e1, e2, e3⟩ := begs_no b p c r h h1 h2
  unfold step
  rw [if_neg (by simp [at_drop h]), if_neg (by simp [e1]), if_neg (by simp [e2]), if_neg (by simp [e3]), hr]
/-! ### what is ahead of a place stays -/
theorem setL_keep (L : List Int) (l a c : Int) (i : Nat) (h : (i : Int) < a) : (setL L l a c)[i]? = L[i]? := by
  rw [setL_get]
  cases L[i]? with
  | none => rfl
  | some x => rw [Option.map_some, if_neg (by omega)]
theorem spans_keep (S : List (Nat × Nat)) (i : Nat) : ∀ L : List Int, (∀ u z, (u, z) ∈ S → i < u) → (spans S L)[i]? = L[i]? := by
  induction S with
  | nil => intro L _; rfl
  | cons s S ih =>
    intro L h
    show (spans S (setL L 1 (s.1 : Int) ((s.1 : Int) + (s.2 : Int))))[i]? = _
    rw [ih _ (fun u z hu => h u z (by simp [hu])), setL_keep _ _ _ _ _ (by have := h s.1 s.2 (by simp); omega)]
theorem attrs_from (b : List Int) (m : Nat) : ∀ (n p : Nat) (S : List (Nat × Nat)) (f : Nat) (S' : List (Nat × Nat)), m ≤ p → p ≤ b.length → attrs b n p S = some (f, S') → (∀ u z, (u, z) ∈ S → m ≤ u) → ∀ u z, (u, z) ∈ S' → m ≤ u := by
  intro n
  induction n with
  | zero => intro p S f S' _ _ h; cases h
  | succ n ih =>
    intro p S f S' hm hp h hS
    have hg := whl_ge gapB b p
    unfold attrs at h
    generalize whl gapB b p = q at *
    dsimp only at h
    split at h
    · cases h
    · rename_i hq
      have hql : q < b.length := by
        rcases Nat.lt_or_ge q b.length with k | k
        · exact k
        · exact absurd (List.getElem?_eq_none k) hq
      split at h
      · injection h with h
        injection h with e1 e2
        subst e2
        exact hS
      · obtain ⟨a1, a2, a3⟩ := attr_ok b q hql
        refine ih _ _ f S' (by omega) a2 h (fun u z hu => ?_)
        rcases List.mem_append.1 hu with hu | hu
        · exact hS u z hu
        · rw [Option.mem_toList] at hu
          have := (a3 u z hu).2.1
          omega
theorem read_from (b : List Int) (p : Nat) (T : Tg) (h : read b p = some T) : ∀ u z, (u, z) ∈ T.prose → p < u := by
  unfold read at h
  split at h
  · rename_i hh
    have hq := isLetter_lt hh.2
    have h1 := whl_ge nameB b (opens b p)
    have h2 := whl_le nameB b (opens b p) (Nat.le_of_lt hq)
    have h3 := opens_ge b p
    cases ha : attrs b (b.length + 1) (whl nameB b (opens b p)) [] with
    | none => rw [ha] at h; cases h
    | some r =>
      obtain ⟨f, S'⟩ := r
      rw [ha] at h
      injection h with h
      subst h
      exact attrs_from b (p + 1) _ _ [] f S' (by omega) h2 ha (by intro u z h; cases h)
  · cases h
theorem tagL_keep (b : List Int) (p : Nat) (T : Tg) (h : read b p = some T) (L : List Int) (i : Nat) (hi : i < p) : (tagL p T L)[i]? = L[i]? := by
  unfold tagL
  rw [spans_keep _ i _ (fun u z hu => by have := read_from b p T h u z hu; omega), setL_keep _ _ _ _ _ (by omega)]
theorem step_keep (b : List Int) (p : Nat) (L : List Int) (i : Nat) (hi : i < p) (hp : p < b.length) : (step b p L).2[i]? = L[i]? := by
  unfold step
  split
  · rfl
  split
  · exact setL_keep _ _ _ _ _ (by omega)
  split
  · exact setL_keep _ _ _ _ _ (by omega)
  split
  · exact setL_keep _ _ _ _ _ (by omega)
  split
  · rename_i T hT
    have hk := tagL_keep b p T hT L i hi
    have hf := (read_ok b p T hT).1
    unfold past
    split
    · exact hk
    split
    · show (setL _ _ _ _)[i]? = _
      rw [setL_keep _ _ _ _ _ (by omega)]
      exact hk
    split
    · exact hk
    · exact hk
  · split
    · exact setL_keep _ _ _ _ _ (by omega)
    · rfl
theorem lexN_keep (b : List Int) (i : Nat) : ∀ (n p : Nat) (L : List Int), L.length = b.length → i < p → (lexN b n p L)[i]? = L[i]? := by
  intro n
  induction n with
  | zero => intro p L _ _; rfl
  | succ n ih =>
    intro p L hL hi
    unfold lexN
    split
    · rename_i hp
      obtain ⟨h1, h2, h3⟩ := step_ok b p L hp hL
      rw [ih _ _ h3 (by omega), step_keep b p L i hi hp]
    · rfl
theorem lexN_succ (b : List Int) (n p : Nat) (L : List Int) (q : Nat) (L' : List Int) (hp : p < b.length) (hs : step b p L = (q, L')) : lexN b (n + 1) p L = lexN b n q L' := by
  conv => lhs; unfold lexN
  rw [if_pos hp, hs]
theorem shutP_skip (b nm : List Int) : ∀ (d i : Nat), i + d ≤ b.length → (∀ j, i ≤ j → j < i + d → isShut b nm j = false) → shutP b nm i = shutP b nm (i + d) := by
  intro d
  induction d with
  | zero => intro i _ _; rfl
  | succ d ih =>
    intro i hd h
    rw [shutP_no b nm i (h i (Nat.le_refl _) (by omega)) (by omega), ih (i + 1) (by omega) (fun j h1 h2 => h j (by omega) (by omega)), show i + 1 + d = i + (d + 1) by omega]
/-- A text with a name's tag, bytes without /, its closing tag, and more behind. -/
theorem raw_get (nm cl bh : List Int) (hn : Nam nm) (hcl : (47 : Int) ∉ cl) (code : Bool) (hc : (nm == nScript || nm == nStyle) = code) (ht : (nm == nArea || nm == nTitle) = !code) (x : List Int) (hx : x = (60 :: (nm ++ [62])) ++ (cl ++ (60 :: 47 :: (nm ++ [62]) ++ bh))) (i : Nat) (hi : i < nm.length + 2 + cl.length + (nm.length + 3)) :
    (lexL x)[i]? = some (if nm.length + 2 ≤ i ∧ i < nm.length + 2 + cl.length then (if code then 4 else 1) else 2) := by
  have hl : x.length = nm.length + 2 + cl.length + (nm.length + 3) + bh.length := by rw [hx]; simp only [List.length_append, List.length_cons, List.length_nil]; omega
  have d0 : x.drop 0 = 60 :: ([] ++ (nm ++ 62 :: (cl ++ (60 :: 47 :: (nm ++ [62]) ++ bh)))) := by rw [List.drop_zero, hx]; simp
  have d1 : x.drop (nm.length + 2) = cl ++ (60 :: ([47] ++ (nm ++ 62 :: bh))) := by
    have := drop_next (b := x) (p := 0) (l := 60 :: (nm ++ [62])) (r := cl ++ (60 :: 47 :: (nm ++ [62]) ++ bh)) (by rw [List.drop_zero]; exact hx)
    have e : 0 + (60 :: (nm ++ [(62 : Int)])).length = nm.length + 2 := by simp
    rw [e] at this
    rw [this]
    simp
  have d2 : x.drop (nm.length + 2 + cl.length) = 60 :: ([47] ++ (nm ++ 62 :: bh)) := drop_next d1
  have r0 := read_nam x 0 [] nm _ (.inl rfl) hn d0
  have r2 := read_nam x (nm.length + 2 + cl.length) [47] nm _ (.inr rfl) hn d2
  have e0 : 0 + 1 + ([] : List Int).length + nm.length + 1 = nm.length + 2 := by simp; omega
  rw [e0] at r0
  have e2 : nm.length + 2 + cl.length + 1 + ([47] : List Int).length + nm.length + 1 = nm.length + 2 + cl.length + (nm.length + 3) := by simp; omega
  rw [e2] at r2
  obtain ⟨c, l, hcl2, hc1⟩ := hn.cons
  -- where the closing tag begins
  have hsh : shutP x nm (nm.length + 2) = nm.length + 2 + cl.length := by
    rw [shutP_skip x nm cl.length (nm.length + 2) (by omega) (fun j h1 h2 => ?_)]
    · refine shutP_yes x nm _ ?_ (by omega)
      have a0 := at_drop d2
      have a1 : x[nm.length + 2 + cl.length + 1]? = some 47 := at_drop (drop_next (l := [60]) d2)
      have a2 : x.drop (nm.length + 2 + cl.length + 2) = nm ++ 62 :: bh := drop_next (l := [60, 47]) d2
      have a3 : x[nm.length + 2 + cl.length + 2 + nm.length]? = some 62 := at_drop (drop_next a2)
      unfold isShut endB
      rw [a0, a1, a2, a3, decide_eq_true (by omega), List.take_left, hn.sm]
      simp
    · -- the byte behind is no /
      have e : x[j + 1]? = (x.drop (nm.length + 2))[j + 1 - (nm.length + 2)]? := by rw [List.getElem?_drop]; congr 1; omega
      have h47 : x[j + 1]? ≠ some 47 := by
        rw [e, d1]
        intro h
        rcases Nat.lt_or_ge (j + 1 - (nm.length + 2)) cl.length with k | k
        · rw [List.getElem?_append_left k] at h
          exact hcl (List.mem_of_getElem? h)
        · rw [List.getElem?_append_right k, show j + 1 - (nm.length + 2) - cl.length = 0 by omega] at h
          simp at h
      unfold isShut
      have : (x[j + 1]? == some 47) = false := beq_eq_false_iff_ne.2 h47
      rw [this]
      simp
  -- the first tag
  have hT0 : (⟨nm.length + 2, nm, decide (([] : List Int) = [47]), []⟩ : Tg) = ⟨nm.length + 2, nm, false, []⟩ := rfl
  have s0 : ∃ L1 : List Int, step x 0 (List.replicate x.length 1) = (nm.length + 2 + cl.length, L1) ∧ L1.length = x.length ∧ ∀ i, i < x.length → L1[i]? = some (if i < nm.length + 2 then 2 else if i < nm.length + 2 + cl.length then (if code then 4 else 1) else 1) := by
    have hs := step_read x 0 (List.replicate x.length 1) c _ _ (d0.trans (by rw [hcl2]; rfl)) (by omega) (by omega) r0
    cases code with
    | true =>
      refine ⟨setL (setL (List.replicate x.length 1) 2 ((0 : Nat) : Int) ((nm.length + 2 : Nat) : Int)) 4 ((nm.length + 2 : Nat) : Int) ((nm.length + 2 + cl.length : Nat) : Int), ?_, by rw [setL_length, setL_length, List.length_replicate], fun i hi => ?_⟩
      · rw [hs]
        unfold past
        rw [if_neg (by simp)]
        have hor : nm = nScript ∨ nm = nStyle := by
          rw [Bool.or_eq_true_iff, beq_iff_eq, beq_iff_eq] at hc
          exact hc
        refine (if_pos hor).trans ?_
        show (shutP x nm (nm.length + 2), setL (tagL 0 _ _) 4 _ (shutP x nm (nm.length + 2) : Int)) = _
        rw [hsh]
        rfl
      · rw [setL_get, setL_get, List.getElem?_replicate, if_pos hi, Option.map_some, Option.map_some]
        congr 1
        by_cases k1 : i < nm.length + 2
        · rw [if_pos k1, if_neg (by omega), if_pos (by omega)]
        · rw [if_neg k1]
          by_cases k2 : i < nm.length + 2 + cl.length
          · rw [if_pos k2, if_pos (by omega)]; rfl
          · rw [if_neg k2, if_neg (by omega), if_neg (by omega)]
    | false =>
      refine ⟨setL (List.replicate x.length 1) 2 ((0 : Nat) : Int) ((nm.length + 2 : Nat) : Int), ?_, by rw [setL_length, List.length_replicate], fun i hi => ?_⟩
      · rw [hs]
        unfold past
        rw [if_neg (by simp)]
        have hno : ¬ (nm = nScript ∨ nm = nStyle) := by
          rw [Bool.or_eq_false_iff, beq_eq_false_iff_ne, beq_eq_false_iff_ne] at hc
          rintro (e | e)
          · exact hc.1 e
          · exact hc.2 e
        have hor : nm = nArea ∨ nm = nTitle := by
          rw [Bool.not_false, Bool.or_eq_true_iff, beq_iff_eq, beq_iff_eq] at ht
          exact ht
        refine ((if_neg hno).trans (if_pos hor)).trans ?_
        show (shutP x nm (nm.length + 2), tagL 0 _ _) = _
        rw [hsh]
        rfl
      · rw [setL_get, List.getElem?_replicate, if_pos hi, Option.map_some]
        congr 1
        by_cases k1 : i < nm.length + 2
        · rw [if_pos k1, if_pos (by omega)]
        · rw [if_neg k1, if_neg (by omega)]
          by_cases k2 : i < nm.length + 2 + cl.length
          · rw [if_pos k2]; rfl
          · rw [if_neg k2]
  obtain ⟨L1, s1, hL1, g1⟩ := s0
  have s2 : step x (nm.length + 2 + cl.length) L1 = (nm.length + 2 + cl.length + (nm.length + 3), setL L1 2 ((nm.length + 2 + cl.length : Nat) : Int) ((nm.length + 2 + cl.length + (nm.length + 3) : Nat) : Int)) := by
    rw [step_read x _ L1 47 _ _ d2 (by decide) (by decide) r2]
    rfl
  unfold lexL
  obtain ⟨n, hn2⟩ : ∃ n, x.length = n + 1 + 1 := ⟨x.length - 2, by omega⟩
  have hrep : lexN x x.length 0 (List.replicate x.length 1) = lexN x n (nm.length + 2 + cl.length + (nm.length + 3)) (setL L1 2 ((nm.length + 2 + cl.length : Nat) : Int) ((nm.length + 2 + cl.length + (nm.length + 3) : Nat) : Int)) := by
    rw [show lexN x x.length 0 (List.replicate x.length 1) = lexN x (n + 1 + 1) 0 (List.replicate x.length 1) from by rw [← hn2]]
    rw [lexN_succ x (n + 1) 0 _ _ _ (by omega) s1, lexN_succ x n _ _ _ _ (by omega) s2]
  rw [hrep, lexN_keep x i n _ _ (by rw [setL_length]; exact hL1) hi, setL_get, g1 i (by omega), Option.map_some]
  congr 1
  by_cases k1 : i < nm.length + 2
  · rw [if_pos k1, if_neg (by omega), if_neg (by omega)]
  · by_cases k2 : i < nm.length + 2 + cl.length
    · rw [if_neg k1, if_pos k2, if_neg (show ¬ (((nm.length + 2 + cl.length : Nat) : Int) ≤ (i : Int) ∧ (i : Int) < ((nm.length + 2 + cl.length + (nm.length + 3) : Nat) : Int)) by omega), if_pos (show nm.length + 2 ≤ i ∧ i < nm.length + 2 + cl.length from ⟨by omega, k2⟩)]
    · rw [if_neg k1, if_neg k2, if_pos (show ((nm.length + 2 + cl.length : Nat) : Int) ≤ (i : Int) ∧ (i : Int) < ((nm.length + 2 + cl.length + (nm.length + 3) : Nat) : Int) by omega), if_neg (show ¬ (nm.length + 2 ≤ i ∧ i < nm.length + 2 + cl.length) from fun h => k2 h.2)]
end Go.Proofs.Ytcbibbdkjhkmoaa.Htm
