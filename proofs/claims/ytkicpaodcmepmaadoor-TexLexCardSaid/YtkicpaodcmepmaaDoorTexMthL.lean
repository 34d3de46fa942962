/- Math is code up to its end, in plain lists. Conditions: none. -/
import Derived.Test.YtkicpaodcmepmaaDoorTexRun
set_option linter.unusedVariables false
set_option linter.unusedSimpArgs false
namespace Go.Proofs.YtkicpaodcmepmaaDoor.Tex
open Go.Proofs.YtkicpaodcmepmaaDoor.L

/-- What stands within. -/
def MOk (T : List Int) : Prop := (∀ c ∈ T, c ≠ 36 ∧ c ≠ 41 ∧ c ≠ 93) ∧ ∀ i, T[i]? = some 92 → i + 1 < T.length
theorem MOk.nil : MOk [] := ⟨fun c h => absurd h (List.not_mem_nil), fun i h => by rw [List.getElem?_nil] at h; cases h⟩
theorem MOk.app {T P : List Int} (h : MOk T) (hp : MOk P) : MOk (T ++ P) := by
  refine ⟨fun c hc => ?_, fun i hi => ?_⟩
  · rcases List.mem_append.1 hc with h1 | h1
    · exact h.1 c h1
    · exact hp.1 c h1
  · rw [List.length_append]
    by_cases h1 : i < T.length
    · rw [List.getElem?_append_left h1] at hi
      have := h.2 i hi
      omega
    · rw [List.getElem?_append_right (by omega)] at hi
      have := hp.2 _ hi
      omega
theorem mathN_go (b m : List Int) (hm : m.head? = some 36) (tt : Nat) (hto : tt ≤ b.length) : ∀ (n k : Nat), k ≤ tt → b.length ≤ k + n → (∀ i, k ≤ i → i < tt → b.getD i 0 ≠ 36 ∧ (b.getD i 0 = 92 → i + 1 < tt)) → ∃ n', mathN b m n k = mathN b m n' tt ∧ b.length ≤ tt + n' := by
  intro n
  induction n with
  | zero =>
    intro k h1 h2 _
    obtain rfl : k = tt := by omega
    exact ⟨0, rfl, by omega⟩
  | succ n ih =>
    intro k h1 h2 h
    by_cases hk : k = tt
    · subst hk; exact ⟨n + 1, rfl, h2⟩
    · have hk2 := h k (by omega) (by omega)
      have e : mathN b m (n + 1) k = if b.getD k 0 = 92 then mathN b m n (k + 2) else if begs b k m then k + m.length else mathN b m n (k + 1) := by
        conv => lhs; unfold mathN
        rw [if_pos (by omega)]
      rw [e]
      by_cases h92 : b.getD k 0 = 92
      · rw [if_pos h92]
        exact ih (k + 2) (by have := hk2.2 h92; omega) (by omega) (fun i h3 h4 => h i (by omega) h4)
      · have hb : begs b k m = false := by
          unfold begs
          cases m with
          | nil => cases hm
          | cons a m =>
            obtain rfl : a = 36 := by simpa using hm
            rw [List.drop_eq_getElem_cons (by omega)]
            have hne : b[k]'(by omega) ≠ 36 := by
              have := hk2.1
              rw [List.getD_eq_getElem?_getD, List.getElem?_eq_getElem (by omega)] at this
              exact this
            have : (36 : Int) ≠ b[k]'(by omega) := fun e => hne e.symm
            simp [List.isPrefixOf, this]
        rw [if_neg h92, if_neg (by rw [hb]; simp)]
        exact ih (k + 1) (by omega) (by omega) (fun i h3 h4 => h i (by omega) h4)
theorem mathN_at (b m : List Int) (tt n : Nat) (hto : tt < b.length) (h92 : b.getD tt 0 ≠ 92) (hb : begs b tt m = true) (hn : b.length ≤ tt + n) : mathN b m n tt = tt + m.length := by
  obtain ⟨k, rfl⟩ : ∃ k, n = k + 1 := ⟨n - 1, by omega⟩
  unfold mathN
  rw [if_pos hto, if_neg h92, if_pos hb]
theorem mathN_no (b m : List Int) (n : Nat) : mathN b m n b.length = b.length := by
  cases n with
  | zero => rfl
  | succ n => unfold mathN; rw [if_neg (by omega)]
/-- Behind the second place one step takes all, up to the end or the byte ahead of it. -/
theorem math_all (b : List Int) (tt : Nat) (h2 : 2 < b.length) (hto : 2 ≤ tt) (g0 : plainB (b.getD 0 0) = true) (g1 : plainB (b.getD 1 0) = true) (hs : ∀ L, L.length = b.length → step b 2 L = (tt, setL L 4 ((2 : Nat) : Int) (tt : Int))) (he : tt = b.length ∨ (tt + 1 = b.length ∧ plainB (b.getD tt 0) = true)) (i : Nat) (hi : i < b.length) :
    (lexL b)[i]? = some (if 2 ≤ i ∧ i < tt then 4 else 1) := by
  have hR : (List.replicate b.length (1 : Int)).length = b.length := by simp
  have hl : lexL b = setL (List.replicate b.length 1) 4 ((2 : Nat) : Int) (tt : Int) := by
    rw [lexL_at, lexAt_txt b _ hR 2 0 (by omega) (fun i _ h => by
      have : i = 0 ∨ i = 1 := by omega
      rcases this with rfl | rfl
      · exact g0
      · exact g1), Nat.zero_add, lexAt_step b _ _ h2 hR, hs _ hR]
    simp only []
    rcases he with rfl | ⟨he, hp⟩
    · rw [lexAt_end b _ _ (Nat.le_refl _)]
    · rw [lexAt_step b _ _ (by omega) (by rw [setL_length]; exact hR), step_plain b _ _ hp]
      simp only []
      rw [lexAt_end b _ _ (by omega)]
  rw [hl, setL_get, List.getElem?_replicate, if_pos hi]
  simp only [Option.map_some]
  congr 1
  by_cases h : 2 ≤ i ∧ i < tt
  · rw [if_pos (by omega), if_pos h]
  · rw [if_neg (by omega), if_neg h]
/-! ### The four kinds -/
def openL (q : Nat) : List Int := [[36], [36, 36], [92, 40], [92, 91]].getD q []
def shutL (q : Nat) : List Int := [[36], [36, 36], [92, 41], [92, 93]].getD q []
def mathT (q : Nat) (T E : List Int) : List Int := [97, 32] ++ openL q ++ T ++ E
theorem getD_appM (a b : List Int) (i : Nat) : (a ++ b).getD i 0 = if i < a.length then a.getD i 0 else b.getD (i - a.length) 0 := by
  simp only [List.getD_eq_getElem?_getD]
  by_cases h : i < a.length
  · rw [if_pos h, List.getElem?_append_left h]
  · rw [if_neg h, List.getElem?_append_right (by omega)]
theorem getD_inM (a : List Int) (i : Nat) (h : i < a.length) : a.getD i 0 ∈ a := by
  rw [List.getD_eq_getElem?_getD, List.getElem?_eq_getElem h]
  exact List.getElem_mem _
/-- A text's bytes within. -/
theorem mid_get (P T E : List Int) (h : MOk T) (i : Nat) (h1 : P.length ≤ i) (h2 : i < P.length + T.length) : (P ++ T ++ E).getD i 0 ≠ 36 ∧ (P ++ T ++ E).getD i 0 ≠ 41 ∧ (P ++ T ++ E).getD i 0 ≠ 93 ∧ ((P ++ T ++ E).getD i 0 = 92 → i + 1 < P.length + T.length) := by
  have e : (P ++ T ++ E).getD i 0 = T.getD (i - P.length) 0 := by
    rw [getD_appM, if_pos (by rw [List.length_append]; omega), getD_appM, if_neg (by omega)]
  rw [e]
  have := h.1 _ (getD_inM T (i - P.length) (by omega))
  refine ⟨this.1, this.2.1, this.2.2, fun h92 => ?_⟩
  have := h.2 (i - P.length) (by rw [List.getElem?_eq_getElem (by omega), ← h92, List.getD_eq_getElem?_getD, List.getElem?_eq_getElem (by omega)]; rfl)
  omega
/-- Math between dollars. -/
theorem dollar_lex (m T : List Int) (ends : Bool) (hm : m = [36] ∨ m = [36, 36]) (hT : MOk T) (h1 : m = [36] → T ≠ []) :
    let E := if ends = true then m ++ [122] else []
    let b := [97, 32] ++ m ++ T ++ E
    ∀ i, i < b.length → (lexL b)[i]? = some (if 2 ≤ i ∧ i < 2 + m.length + T.length + (if ends = true then m.length else 0) then 4 else 1) := by
  intro E b
  have hml : 1 ≤ m.length ∧ m.length ≤ 2 := by rcases hm with rfl | rfl <;> simp
  have hh : m.head? = some 36 := by rcases hm with rfl | rfl <;> rfl
  have hlen : b.length = 2 + m.length + T.length + E.length := by show ([97, 32] ++ m ++ T ++ E).length = _; simp; omega
  have g2 : b.getD 2 0 = 36 := by rcases hm with rfl | rfl <;> rfl
  have hmid : ∀ i, 2 + m.length ≤ i → i < 2 + m.length + T.length → b.getD i 0 ≠ 36 ∧ (b.getD i 0 = 92 → i + 1 < 2 + m.length + T.length) := by
    intro i h3 h4
    have h := mid_get ([97, 32] ++ m) T E hT i (by simp; omega) (by simp; omega)
    have e : ([97, 32] ++ m).length = 2 + m.length := by simp; omega
    rw [e] at h
    exact ⟨h.1, h.2.2.2⟩
  have hM : mathM b 2 = m := by
    unfold mathM
    rcases hm with rfl | rfl
    · rw [if_neg]
      intro h
      cases hTc : T with
      | nil => exact h1 rfl hTc
      | cons c r =>
        have := hmid 3 (by simp) (by simp [hTc])
        apply this.1
        rw [List.getD_eq_getElem?_getD, h]; rfl
    · rw [if_pos]; rfl
  have hgo := mathN_go b m hh (2 + m.length + T.length) (by omega) b.length (2 + m.length) (by omega) (by omega) hmid
  obtain ⟨n', hn1, hn2⟩ := hgo
  have hE : mathE b 2 = 2 + m.length + T.length + (if ends = true then m.length else 0) := by
    unfold mathE
    rw [hM, hn1]
    cases hends : ends with
    | true =>
      have hEe : E = m ++ [122] := by show (if ends = true then m ++ [122] else []) = _; rw [hends, if_pos rfl]
      have hdr : b.drop (2 + m.length + T.length) = m ++ [122] := by
        show ([97, 32] ++ m ++ T ++ E).drop _ = _
        rw [show 2 + m.length + T.length = ([97, 32] ++ m ++ T).length by simp; omega, List.drop_left, hEe]
      rw [if_pos rfl]
      refine mathN_at b m _ n' (by rw [hlen, hEe]; simp) ?_ ?_ hn2
      · have : b.getD (2 + m.length + T.length) 0 = 36 := by
          have e := congrArg (fun l => l.getD 0 0) hdr
          simp only [List.getD_eq_getElem?_getD, List.getElem?_drop, Nat.add_zero] at e
          rw [List.getD_eq_getElem?_getD, e]
          rcases hm with rfl | rfl <;> rfl
        rw [this]; decide
      · unfold begs
        rw [hdr]
        exact List.isPrefixOf_iff_prefix.2 (List.prefix_append _ _)
    | false =>
      have hEe : E = [] := by show (if ends = true then m ++ [122] else []) = _; rw [hends]; rfl
      have : 2 + m.length + T.length = b.length := by rw [hlen, hEe]; simp
      rw [this, mathN_no]
      simp
  refine math_all b _ (by omega) (by omega) rfl rfl (fun L hL => ?_) ?_
  · unfold step
    rw [if_neg (by rw [g2]; decide), if_neg (by rw [g2]; decide), if_pos g2, hE]
  · cases hends : ends with
    | true =>
      have hEe : E = m ++ [122] := by show (if ends = true then m ++ [122] else []) = _; rw [hends, if_pos rfl]
      right
      rw [if_pos rfl]
      refine ⟨by rw [hlen, hEe]; simp; omega, ?_⟩
      have : b.getD (2 + m.length + T.length + m.length) 0 = 122 := by
        show ([97, 32] ++ m ++ T ++ E).getD _ 0 = _
        rw [getD_appM, if_neg (by simp; omega), hEe, getD_appM, if_neg (by simp; omega)]
        have : 2 + m.length + T.length + m.length - ([97, 32] ++ m ++ T).length - m.length = 0 := by simp; omega
        rw [this]; rfl
      rw [this]; rfl
    | false =>
      have hEe : E = [] := by show (if ends = true then m ++ [122] else []) = _; rw [hends]; rfl
      left
      rw [hlen, hEe]
      simp
/-- Math between signs. -/
theorem sign_lex (o s : Int) (T : List Int) (ends : Bool) (ho : (o = 40 ∧ s = 41) ∨ (o = 91 ∧ s = 93)) (hT : MOk T) :
    let E := if ends = true then [92, s] ++ [122] else []
    let b := [97, 32] ++ [92, o] ++ T ++ E
    ∀ i, i < b.length → (lexL b)[i]? = some (if 2 ≤ i ∧ i < 4 + T.length + (if ends = true then 2 else 0) then 4 else 1) := by
  intro E b
  have hlen : b.length = 4 + T.length + E.length := by show ([97, 32] ++ [92, o] ++ T ++ E).length = _; simp; omega
  have g2 : b.getD 2 0 = 92 := rfl
  have g3 : b.getD 3 0 = o := rfl
  have hmid : ∀ i, 4 ≤ i → i < 4 + T.length → b.getD i 0 ≠ s ∧ (b.getD i 0 = 92 → i + 1 < 4 + T.length) := by
    intro i h3 h4
    have h := mid_get ([97, 32] ++ [92, o]) T E hT i (by simp; omega) (by simp; omega)
    refine ⟨?_, h.2.2.2⟩
    rcases ho with ⟨_, rfl⟩ | ⟨_, rfl⟩
    · exact h.2.1
    · exact h.2.2.1
  have hdr4 : b.drop 4 = T ++ E := rfl
  have hno : ∀ j, j < T.length → [92, s].isPrefixOf ((T ++ E).drop j) = false := by
    intro j hj
    rw [Bool.eq_false_iff]
    intro h
    obtain ⟨r, hr⟩ := List.isPrefixOf_iff_prefix.1 h
    have e0 : (T ++ E)[j]? = some 92 := by
      have := congrArg (fun l => l[0]?) hr
      simpa using this.symm
    have e1 : (T ++ E)[j + 1]? = some s := by
      have := congrArg (fun l => l[1]?) hr
      simpa using this.symm
    have f0 : b.getD (4 + j) 0 = 92 := by
      rw [List.getD_eq_getElem?_getD, ← List.getElem?_drop, hdr4, e0]; rfl
    have f1 : b.getD (4 + (j + 1)) 0 = s := by
      rw [List.getD_eq_getElem?_getD, ← List.getElem?_drop, hdr4, e1]; rfl
    have := (hmid (4 + j) (by omega) (by omega)).2 f0
    exact (hmid (4 + (j + 1)) (by omega) (by omega)).1 f1
  have hu : untl [92, s] b 4 = 4 + T.length + (if ends = true then 2 else 0) := by
    unfold untl
    rw [hdr4]
    cases hends : ends with
    | true =>
      have hEe : E = [92, s] ++ [122] := by show (if ends = true then [92, s] ++ [122] else []) = _; rw [hends, if_pos rfl]
      rw [fnd_first [92, s] (T ++ E) T.length (by rw [List.drop_left, hEe]; exact List.isPrefixOf_iff_prefix.2 (List.prefix_append _ _)) (by simp) hno]
      simp
    | false =>
      have hEe : E = [] := by show (if ends = true then [92, s] ++ [122] else []) = _; rw [hends]; rfl
      rw [fnd_no [92, s] (T ++ E) (fun j hj => by
        by_cases h : j < T.length
        · exact hno j h
        · rw [hEe, List.append_nil, List.drop_eq_nil_of_le (by omega)]; rfl)]
      simp only []
      rw [hlen, hEe]
      simp
  refine math_all b _ (by omega) (by omega) rfl rfl (fun L hL => ?_) ?_
  · rw [step_slash b 2 L g2]
    have hw : wrd b (2 + 1) = 2 + 1 := wrd_run b 3 3 (by omega) (by omega) (fun i h1 h2 => by omega) (fun _ => by rw [g3]; rcases ho with ⟨rfl, _⟩ | ⟨rfl, _⟩ <;> rfl)
    unfold cmd
    rw [if_pos hw]
    unfold sgn
    rw [if_neg (by omega)]
    rcases ho with ⟨rfl, rfl⟩ | ⟨rfl, rfl⟩
    · rw [if_pos g3, hu]
    · rw [if_neg (by rw [show b.getD (2 + 1) 0 = 91 from g3]; decide), if_pos g3, hu]
  · cases hends : ends with
    | true =>
      have hEe : E = [92, s] ++ [122] := by show (if ends = true then [92, s] ++ [122] else []) = _; rw [hends, if_pos rfl]
      right
      rw [if_pos rfl]
      refine ⟨by rw [hlen, hEe]; simp, ?_⟩
      have : b.getD (4 + T.length + 2) 0 = 122 := by
        show ([97, 32] ++ [92, o] ++ T ++ E).getD _ 0 = _
        rw [getD_appM, if_neg (by simp; omega), hEe]
        have : 4 + T.length + 2 - ([97, 32] ++ [92, o] ++ T).length = 2 := by simp; omega
        rw [this]; rfl
      rw [this]; rfl
    | false =>
      have hEe : E = [] := by show (if ends = true then [92, s] ++ [122] else []) = _; rw [hends]; rfl
      left
      rw [hlen, hEe]
      simp
end Go.Proofs.YtkicpaodcmepmaaDoor.Tex
