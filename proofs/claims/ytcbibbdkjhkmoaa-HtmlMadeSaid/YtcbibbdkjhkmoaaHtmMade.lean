/- A tag put together of names and values is read so, in plain lists; its labels. Conditions: al each lemma says. -/
import Derived.Test.YtcbibbdkjhkmoaaHtmRawLaw
import Derived.Test.YtcbibbdkjhkmoaaLSeg
set_option linter.unusedVariables false
set_option linter.unusedSimpArgs false
namespace Go.Proofs.Ytcbibbdkjhkmoaa.Htm
open Go.Proofs.Ytcbibbdkjhkmoaa.L

def mkT : List Int := [32, 97, 98, 99, 62, 61, 39, 47, 38]
def mkC (x : Int) : Int := mkT.getD (x % 9).toNat 0
def mkText (l : List Int) : List Int := (l.take 9).map mkC
def mkNames : List (List Int) := [[97, 108, 116], [84, 73, 84, 76, 69], [99, 108, 97, 115, 115], [120, 45, 97, 108, 116], [65, 108, 116], [116, 105, 116, 108, 101, 115]]
def mkName (k : Nat) : List Int := mkNames.getD k []
def mkAttr (a : Nat × List Int) : List Int := 32 :: (mkName a.1 ++ 61 :: 34 :: (a.2 ++ [34]))
def mkIs (a : Nat × List Int) : Bool := (decide (a.1 < 2) || a.1 == 4) && !a.2.isEmpty
def mkWant (a : Nat × List Int) (p : Nat) : List (Nat × Nat) := if mkIs a then [(p + (mkName a.1).length + 3, a.2.length)] else []
def mkAttrs (al : List (Nat × List Int)) : List Int := al.flatMap mkAttr
def mkWants : List (Nat × List Int) → Nat → List (Nat × Nat)
  | [], _ => []
  | a :: l, p => mkWant a p ++ mkWants l (p + (mkAttr a).length)
def Okm (a : Nat × List Int) : Prop := a.1 < 6 ∧ (34 : Int) ∉ a.2
theorem mkAttrs_snoc (l : List (Nat × List Int)) (a : Nat × List Int) : mkAttrs (l ++ [a]) = mkAttrs l ++ mkAttr a := by simp [mkAttrs]
theorem mkWants_snoc (a : Nat × List Int) : ∀ (l : List (Nat × List Int)) (p : Nat), mkWants (l ++ [a]) p = mkWants l p ++ mkWant a (p + (mkAttrs l).length) := by
  intro l
  induction l with
  | nil => intro p; simp [mkWants, mkAttrs]
  | cons x l ih =>
    intro p
    show mkWant x p ++ mkWants (l ++ [a]) _ = _
    rw [ih, show mkWants (x :: l) p = mkWant x p ++ mkWants l (p + (mkAttr x).length) from rfl, List.append_assoc, show mkAttrs (x :: l) = mkAttr x ++ mkAttrs l from rfl, List.length_append, Nat.add_assoc]
theorem mkC_no (x : Int) : mkC x ≠ 34 := by
  unfold mkC
  have h : ∀ n : Nat, mkT.getD n 0 ≠ 34 := by
    intro n
    rcases Nat.lt_or_ge n 9 with h | h
    · have : ∀ n : Nat, n < 9 → mkT.getD n 0 ≠ 34 := by decide
      exact this n h
    · rw [List.getD_eq_getElem?_getD, List.getElem?_eq_none (show mkT.length ≤ n from h)]
      decide
  exact h _
theorem mkText_no (l : List Int) : (34 : Int) ∉ mkText l := by
  unfold mkText
  intro h
  obtain ⟨x, _, hx⟩ := List.mem_map.1 h
  exact mkC_no x hx
theorem mkText_len (l : List Int) : (mkText l).length ≤ 9 := by unfold mkText; rw [List.length_map, List.length_take]; omega
theorem mkC_bys (x : Int) : 0 ≤ mkC x ∧ mkC x < 256 := by
  unfold mkC
  have h : ∀ n : Nat, 0 ≤ mkT.getD n 0 ∧ mkT.getD n 0 < 256 := by
    intro n
    rcases Nat.lt_or_ge n 9 with h | h
    · have : ∀ n : Nat, n < 9 → 0 ≤ mkT.getD n 0 ∧ mkT.getD n 0 < 256 := by decide
      exact this n h
    · rw [List.getD_eq_getElem?_getD, List.getElem?_eq_none (show mkT.length ≤ n from h)]
      decide
  exact h _
theorem attr_q (b : List Int) (q : Nat) (c : Int) (nm v r : List Int) (h : b.drop q = c :: (nm ++ 61 :: 34 :: (v ++ 34 :: r))) (hn : ∀ y ∈ nm, keyB y = true) (hv : (34 : Int) ∉ v) :
    attr b q = (q + nm.length + v.length + 4, if ((c :: nm).map sm = [97, 108, 116] ∨ (c :: nm).map sm = [116, 105, 116, 108, 101]) ∧ v ≠ [] then some (q + nm.length + 3, v.length) else none) := by
  have h1 : b.drop (q + 1) = nm ++ 61 :: 34 :: (v ++ 34 :: r) := drop_next (l := [c]) h
  have e1 := whl_app h1 hn (show keyB 61 = false by decide)
  have h2 : b.drop (q + 1 + nm.length) = 61 :: 34 :: (v ++ 34 :: r) := drop_next h1
  have e2 : whl blankB b (q + 1 + nm.length) = q + 1 + nm.length := whl_app (P := blankB) (l := []) h2 (by intro y hy; cases hy) (by decide)
  have h3 : b.drop (q + 1 + nm.length + 1) = 34 :: (v ++ 34 :: r) := drop_next (l := [61]) h2
  have e3 : whl blankB b (q + 1 + nm.length + 1) = q + 1 + nm.length + 1 := whl_app (P := blankB) (l := []) h3 (by intro y hy; cases hy) (by decide)
  have h4 : b.drop (q + 1 + nm.length + 1 + 1) = v ++ 34 :: r := drop_next (l := [34]) h3
  have h5 : b.drop (q + 1 + nm.length + 1 + 1 + v.length) = 34 :: r := drop_next h4
  have g3 := at_drop h3
  have gd : b.getD (q + 1 + nm.length + 1) 0 = 34 := by rw [List.getD_eq_getElem?_getD, g3]; rfl
  have e4 := whl_app (P := fun c => c != 34) h4 (by intro y hy; simp; intro e; exact hv (e ▸ hy)) (by decide)
  have hlt := (List.getElem?_eq_some_iff.1 (at_drop h5)).1
  unfold attr
  dsimp only
  rw [e1, e2, if_pos (at_drop h2), e3, if_pos (.inl g3), gd, e4, if_pos hlt]
  have ek : (b.drop q).take (q + 1 + nm.length - q) = c :: nm := by
    rw [h, show q + 1 + nm.length - q = (c :: nm).length by simp; omega, show c :: (nm ++ 61 :: 34 :: (v ++ 34 :: r)) = (c :: nm) ++ (61 :: 34 :: (v ++ 34 :: r)) from rfl, List.take_left']
    rfl
  rw [ek]
  have hvl : (q + 1 + nm.length + 1 + 1 < q + 1 + nm.length + 1 + 1 + v.length) ↔ v ≠ [] := by
    cases v with
    | nil => simp
    | cons x v => simp
  have s1 : q + 1 + nm.length + 1 + 1 + v.length - (q + 1 + nm.length + 1 + 1) = v.length := by omega
  have s2 : q + 1 + nm.length + 1 + 1 + v.length + 1 = q + nm.length + v.length + 4 := by omega
  have s3 : q + 1 + nm.length + 1 + 1 = q + nm.length + 3 := by omega
  rw [s1, s2]
  congr 1
  by_cases hk : ((c :: nm).map sm = [97, 108, 116] ∨ (c :: nm).map sm = [116, 105, 116, 108, 101]) ∧ v ≠ []
  · rw [if_pos hk, if_pos ⟨hk.1, hvl.2 hk.2⟩, s3]
  · rw [if_neg hk, if_neg (fun h => hk ⟨h.1, hvl.1 h.2⟩)]
theorem name_cons (k : Nat) (hk : k < 6) : ∃ c nm, mkName k = c :: nm ∧ gapB c = false ∧ c ≠ 62 ∧ (∀ y ∈ nm, keyB y = true) ∧ (((c :: nm).map sm = [97, 108, 116] ∨ (c :: nm).map sm = [116, 105, 116, 108, 101]) ↔ (k < 2 ∨ k = 4)) := by
  match k, hk with
  | 0, _ => exact ⟨97, [108, 116], rfl, by decide, by decide, by decide, by decide⟩
  | 1, _ => exact ⟨84, [73, 84, 76, 69], rfl, by decide, by decide, by decide, by decide⟩
  | 2, _ => exact ⟨99, [108, 97, 115, 115], rfl, by decide, by decide, by decide, by decide⟩
  | 3, _ => exact ⟨120, [45, 97, 108, 116], rfl, by decide, by decide, by decide, by decide⟩
  | 4, _ => exact ⟨65, [108, 116], rfl, by decide, by decide, by decide, by decide⟩
  | 5, _ => exact ⟨116, [105, 116, 108, 101, 115], rfl, by decide, by decide, by decide, by decide⟩
theorem attr_made (b : List Int) (p : Nat) (a : Nat × List Int) (r : List Int) (ha : Okm a) (h : b.drop p = mkAttr a ++ r) :
    whl gapB b p = p + 1 ∧ (∃ c, b[p + 1]? = some c ∧ c ≠ 62) ∧ attr b (p + 1) = (p + (mkAttr a).length, (mkWant a p).head?) := by
  obtain ⟨c, nm, e, hg, h62, hn, hk⟩ := name_cons a.1 ha.1
  have h' : b.drop p = [32] ++ c :: (nm ++ 61 :: 34 :: (a.2 ++ 34 :: r)) := by
    rw [h]
    unfold mkAttr
    rw [e]
    simp
  have h1 : b.drop (p + 1) = c :: (nm ++ 61 :: 34 :: (a.2 ++ 34 :: r)) := drop_next (l := [32]) h'
  refine ⟨whl_app (l := [32]) h' (by decide) hg, ⟨c, at_drop h1, h62⟩, ?_⟩
  rw [attr_q b (p + 1) c nm a.2 r h1 hn ha.2]
  have hl : (mkAttr a).length = 1 + nm.length + 1 + a.2.length + 3 := by
    unfold mkAttr
    rw [e]
    simp
    omega
  have hl2 : (mkName a.1).length = nm.length + 1 := by rw [e]; rfl
  have hw : (mkIs a = true) ↔ ((((c :: nm).map sm = [97, 108, 116] ∨ (c :: nm).map sm = [116, 105, 116, 108, 101])) ∧ a.2 ≠ []) := by
    rw [hk]
    unfold mkIs
    cases h2 : a.2 with
    | nil => simp
    | cons x v => simp
  unfold mkWant
  rw [hl2]
  congr 1
  · omega
  · by_cases hm : mkIs a = true
    · rw [if_pos hm, if_pos (hw.1 hm), List.head?_cons, show p + (nm.length + 1) + 3 = p + 1 + nm.length + 3 by omega]
    · rw [if_neg hm, if_neg (fun h => hm (hw.2 h))]
      rfl
theorem want_toList (a : Nat × List Int) (p : Nat) : (mkWant a p).head?.toList = mkWant a p := by
  unfold mkWant
  split <;> rfl
theorem attrs_made (b r : List Int) : ∀ (al : List (Nat × List Int)) (p m : Nat) (S : List (Nat × Nat)), (∀ a ∈ al, Okm a) → b.drop p = mkAttrs al ++ 62 :: r → al.length < m → attrs b m p S = some (p + (mkAttrs al).length + 1, S ++ mkWants al p) := by
  intro al
  induction al with
  | nil =>
    intro p m S _ h hm
    obtain ⟨m, rfl⟩ : ∃ m', m = m' + 1 := ⟨m - 1, by omega⟩
    have h' : b.drop p = [] ++ 62 :: r := h
    have e : whl gapB b p = p := whl_app (P := gapB) h' (by intro y hy; cases hy) (by decide)
    unfold attrs
    dsimp only
    rw [e, if_neg (by rw [at_drop h]; simp), if_pos (at_drop h)]
    simp [mkAttrs, mkWants]
  | cons a al ih =>
    intro p m S ha h hm
    obtain ⟨m, rfl⟩ : ∃ m', m = m' + 1 := ⟨m - 1, by omega⟩
    have h' : b.drop p = mkAttr a ++ (mkAttrs al ++ 62 :: r) := by rw [h]; simp [mkAttrs]
    obtain ⟨e, ⟨c, hc, h62⟩, e2⟩ := attr_made b p a _ (ha a (by simp)) h'
    unfold attrs
    dsimp only
    rw [e, if_neg (by rw [hc]; simp), if_neg (by rw [hc]; simp; exact h62), e2]
    dsimp only
    rw [ih (p + (mkAttr a).length) m _ (fun x hx => ha x (by simp [hx])) (drop_next h') (by simpa using hm), want_toList, List.append_assoc]
    congr 2
    rw [show mkAttrs (a :: al) = mkAttr a ++ mkAttrs al from rfl, List.length_append]
    omega
theorem attrs_len (al : List (Nat × List Int)) : al.length ≤ (mkAttrs al).length := by
  induction al with
  | nil => exact Nat.zero_le _
  | cons a al ih =>
    rw [show mkAttrs (a :: al) = mkAttr a ++ mkAttrs al from rfl, List.length_append, List.length_cons]
    have : 1 ≤ (mkAttr a).length := by unfold mkAttr; simp
    omega
def mkB (cl : Bool) : List Int := [60] ++ (if cl then [47] else []) ++ [69, 109, 45, 50]
theorem read_made (cl : Bool) (al : List (Nat × List Int)) (r x : List Int) (ha : ∀ a ∈ al, Okm a) (hx : x = mkB cl ++ (mkAttrs al ++ 62 :: r)) :
    read x 0 = some ⟨(mkB cl ++ mkAttrs al).length + 1, [101, 109, 45, 50], cl, mkWants al (mkB cl).length⟩ := by
  have hnx : ∃ y z, mkAttrs al ++ 62 :: r = y :: z ∧ nameB y = false := by
    cases al with
    | nil => exact ⟨62, r, rfl, by decide⟩
    | cons a al => exact ⟨32, _, rfl, by decide⟩
  obtain ⟨y, z, hyz, hy⟩ := hnx
  have h0 : x.drop 0 = mkB cl ++ (mkAttrs al ++ 62 :: r) := by rw [List.drop_zero]; exact hx
  have hlen : (mkAttrs al).length < x.length := by rw [hx]; simp; omega
  have hal := attrs_len al
  cases cl with
  | false =>
    have h1 : x.drop 1 = [69, 109, 45, 50] ++ (mkAttrs al ++ 62 :: r) := drop_next (l := [60]) h0
    have h4 : x.drop 5 = mkAttrs al ++ 62 :: r := drop_next (p := 1) (l := [69, 109, 45, 50]) h1
    have g0 : x[0]? = some 60 := at_drop h0
    have g1 : x[1]? = some 69 := at_drop h1
    have eo : opens x 0 = 1 := by unfold opens; rw [if_neg (by rw [g1]; decide)]
    have en : whl nameB x 1 = 5 := by
      rw [hyz] at h1
      exact whl_app (l := [69, 109, 45, 50]) h1 (by decide) hy
    unfold read
    rw [eo, if_pos ⟨g0, by unfold isLetter; rw [g1]; decide⟩, en, attrs_made x r al 5 _ [] ha h4 (by omega), Option.map_some, h1]
    simp [mkB, sm, g1]
    omega
  | true =>
    have h1 : x.drop 1 = [47] ++ ([69, 109, 45, 50] ++ (mkAttrs al ++ 62 :: r)) := drop_next (l := [60]) h0
    have h2 : x.drop 2 = [69, 109, 45, 50] ++ (mkAttrs al ++ 62 :: r) := drop_next (p := 1) (l := [47]) h1
    have h4 : x.drop 6 = mkAttrs al ++ 62 :: r := drop_next (p := 2) (l := [69, 109, 45, 50]) h2
    have g0 : x[0]? = some 60 := at_drop h0
    have g1 : x[1]? = some 47 := at_drop h1
    have g2 : x[2]? = some 69 := at_drop h2
    have eo : opens x 0 = 2 := by unfold opens; rw [if_pos (by rw [g1])]
    have en : whl nameB x 2 = 6 := by
      rw [hyz] at h2
      exact whl_app (l := [69, 109, 45, 50]) h2 (by decide) hy
    unfold read
    rw [eo, if_pos ⟨g0, by unfold isLetter; rw [g2]; decide⟩, en, attrs_made x r al 6 _ [] ha h4 (by omega), Option.map_some, h2]
    simp [mkB, sm, g1]
    omega
/-! ### the labels -/
/-- Spans in order, apart. -/
def apart : List (Nat × Nat) → Nat → Nat → Prop
  | [], lo, hi => lo ≤ hi
  | s :: S, lo, hi => lo ≤ s.1 ∧ 0 < s.2 ∧ apart S (s.1 + s.2) hi
theorem apart_lo {S : List (Nat × Nat)} {lo lo' hi : Nat} (h : apart S lo hi) (hl : lo' ≤ lo) : apart S lo' hi := by
  cases S with
  | nil => exact Nat.le_trans hl h
  | cons s S => exact ⟨Nat.le_trans hl h.1, h.2⟩
theorem apart_ok : ∀ (S : List (Nat × Nat)) (lo hi : Nat), apart S lo hi → lo ≤ hi ∧ ∀ u z, (u, z) ∈ S → lo ≤ u ∧ u + z ≤ hi := by
  intro S
  induction S with
  | nil => intro lo hi h; exact ⟨h, fun u z h => by cases h⟩
  | cons s S ih =>
    intro lo hi h
    obtain ⟨h1, h2, h3⟩ := h
    obtain ⟨g1, g2⟩ := ih _ _ h3
    refine ⟨by omega, fun u z hu => ?_⟩
    rcases List.mem_cons.1 hu with e | e
    · subst e
      exact ⟨h1, g1⟩
    · have := g2 u z e
      omega
theorem wants_apart : ∀ (al : List (Nat × List Int)) (p : Nat), apart (mkWants al p) p (p + (mkAttrs al).length) := by
  intro al
  induction al with
  | nil => intro p; exact Nat.le_add_right _ _
  | cons a al ih =>
    intro p
    have h := ih (p + (mkAttr a).length)
    have hl : (mkAttr a).length = (mkName a.1).length + a.2.length + 4 := by unfold mkAttr; simp; omega
    rw [show mkAttrs (a :: al) = mkAttr a ++ mkAttrs al from rfl, List.length_append, ← Nat.add_assoc]
    show apart (mkWant a p ++ mkWants al _) _ _
    unfold mkWant
    by_cases hm : mkIs a = true
    · rw [if_pos hm]
      refine ⟨by show p ≤ p + (mkName a.1).length + 3; omega, ?_, apart_lo h (by show p + (mkName a.1).length + 3 + a.2.length ≤ _; omega)⟩
      show 0 < a.2.length
      unfold mkIs at hm
      cases h2 : a.2 with
      | nil => rw [h2] at hm; simp at hm
      | cons x v => simp
    · rw [if_neg hm]
      exact apart_lo h (by omega)
theorem spans_at (i : Nat) : ∀ (S : List (Nat × Nat)) (L L' : List Int), L[i]? = L'[i]? → (spans S L)[i]? = (spans S L')[i]? := by
  intro S
  induction S with
  | nil => intro L L' h; exact h
  | cons s S ih =>
    intro L L' h
    show (spans S _)[i]? = (spans S _)[i]?
    refine ih _ _ ?_
    rw [setL_get, setL_get, h]
theorem spans_head (s : Nat × Nat) (S : List (Nat × Nat)) (lo hi n : Nat) (L : List Int) (hn : L.length = n) (h : apart (s :: S) lo hi) (hh : hi ≤ n) : (spans (s :: S) L)[s.1]? = some 1 := by
  obtain ⟨h1, h2, h3⟩ := h
  obtain ⟨g1, g2⟩ := apart_ok _ _ _ h3
  show (spans S _)[s.1]? = _
  rw [spans_keep S s.1 _ (fun u z hu => by have := (g2 u z hu).1; omega), setL_get, List.getElem?_eq_getElem (by omega), Option.map_some, if_pos (by omega)]
theorem spans_undo (s : Nat × Nat) (S : List (Nat × Nat)) (lo hi n : Nat) (h : apart (s :: S) lo hi) (hh : hi ≤ n) : setL (spans (s :: S) (List.replicate n 2)) 2 (s.1 : Int) ((s.1 : Int) + (s.2 : Int)) = spans S (List.replicate n 2) := by
  obtain ⟨h1, h2, h3⟩ := h
  obtain ⟨g1, g2⟩ := apart_ok _ _ _ h3
  apply List.ext_getElem?
  intro i
  rw [setL_get]
  show Option.map _ (spans S (setL (List.replicate n 2) 1 (s.1 : Int) ((s.1 : Int) + (s.2 : Int))))[i]? = _
  by_cases hi' : (s.1 : Int) ≤ (i : Int) ∧ (i : Int) < (s.1 : Int) + (s.2 : Int)
  · have hk : ∀ u z, (u, z) ∈ S → i < u := fun u z hu => by have := (g2 u z hu).1; omega
    rw [spans_keep S i _ hk, spans_keep S i _ hk, setL_get, List.getElem?_replicate]
    have : i < n := by omega
    rw [if_pos this, Option.map_some, Option.map_some, if_pos hi']
  · have e : (setL (List.replicate n (2 : Int)) 1 (s.1 : Int) ((s.1 : Int) + (s.2 : Int)))[i]? = (List.replicate n (2 : Int))[i]? := by
      rw [setL_get, List.getElem?_replicate]
      by_cases hin : i < n
      · rw [if_pos hin, Option.map_some, if_neg hi']
      · rw [if_neg hin]; rfl
    rw [spans_at i S _ _ e]
    cases (spans S (List.replicate n (2 : Int)))[i]? with
    | none => rfl
    | some x => rw [Option.map_some, if_neg hi']
theorem setL_all (n : Nat) (x l : Int) : setL (List.replicate n x) l 0 (n : Int) = List.replicate n l := by
  apply List.ext_getElem?
  intro i
  rw [setL_get, List.getElem?_replicate, List.getElem?_replicate]
  by_cases hin : i < n
  · rw [if_pos hin, if_pos hin, Option.map_some, if_pos (by omega)]
  · rw [if_neg hin, if_neg hin]; rfl
theorem tagL_made (T : Tg) (n : Nat) (h : T.fin = n) : tagL 0 T (List.replicate n 1) = spans T.prose (List.replicate n 2) := by
  unfold tagL
  rw [h]
  have := setL_all n 1 2
  rw [show ((0 : Nat) : Int) = 0 from rfl, this]
theorem segsTo_two (n : Nat) : ∀ i, 0 < i → i ≤ n → segsTo (List.replicate n 2) i = [(2, 0, (i : Int))] := by
  intro i
  induction i with
  | zero => intro h; omega
  | succ i ih =>
    intro _ hi
    have hg : (List.replicate n (2 : Int)).getD i 0 = 2 := by
      rw [List.getD_eq_getElem?_getD, List.getElem?_replicate, if_pos (by omega)]; rfl
    have hstep : segsTo (List.replicate n 2) (i + 1) = segsStep (segsTo (List.replicate n 2) i) i ((List.replicate n (2 : Int)).getD i 0) := rfl
    rw [hstep, hg]
    rcases Nat.eq_zero_or_pos i with h0 | h0
    · subst h0
      rfl
    · rw [ih h0 (by omega), show ([(2, 0, (i : Int))] : List Sg) = [] ++ [(2, 0, (i : Int))] from rfl, segsStep_snoc, if_pos rfl]
      simp
theorem segs_two (n : Nat) (h : 0 < n) : segsOf (List.replicate n 2) = [(2, 0, (n : Int))] := by
  unfold segsOf
  rw [List.length_replicate]
  exact segsTo_two n n h (Nat.le_refl _)
end Go.Proofs.Ytcbibbdkjhkmoaa.Htm
