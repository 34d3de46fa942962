/- What lies in an environment that is no prose is code, in plain lists. Conditions: none. -/
import Derived.Test.YtkicpaodcmepmaaDoorTexRun
import Derived.Test.YtkicpaodcmepmaaDoorTexFnd
import Derived.Test.YtkicpaodcmepmaaDoorTexMthL
set_option linter.unusedVariables false
set_option linter.unusedSimpArgs false
namespace Go.Proofs.YtkicpaodcmepmaaDoor.Tex
open Go.Proofs.YtkicpaodcmepmaaDoor.L

theorem grpN_skip (b : List Int) (o s : Int) (q : Nat) (hq : q ≤ b.length) (d : Int) : ∀ (n i : Nat), i ≤ q → b.length ≤ i + n → (∀ j, i ≤ j → j < q → b.getD j 0 ≠ 92 ∧ b.getD j 0 ≠ o ∧ b.getD j 0 ≠ s) → ∃ n', grpN b o s n d i = grpN b o s n' d q ∧ b.length ≤ q + n' := by
  intro n
  induction n with
  | zero =>
    intro i h1 h2 _
    obtain rfl : i = q := by omega
    exact ⟨0, rfl, by omega⟩
  | succ n ih =>
    intro i h1 h2 h
    by_cases hi : i = q
    · subst hi; exact ⟨n + 1, rfl, h2⟩
    · have hk := h i (Nat.le_refl _) (by omega)
      obtain ⟨n', e1, e2⟩ := ih (i + 1) (by omega) (by omega) (fun j h3 h4 => h j (by omega) h4)
      refine ⟨n', ?_, e2⟩
      rw [← e1]
      conv => lhs; unfold grpN
      rw [if_pos (by omega), if_neg hk.1, if_neg hk.2.1, if_neg hk.2.2]
theorem grpN_down (b : List Int) (o s : Int) (ho : s ≠ o) (hs : s ≠ 92) (q n : Nat) (hq : q < b.length) (hn : b.length ≤ q + n) (h : b.getD q 0 = s) : grpN b o s n 1 q = some (q + 1) := by
  obtain ⟨k, rfl⟩ : ∃ k, n = k + 1 := ⟨n - 1, by omega⟩
  unfold grpN
  rw [if_pos hq, h, if_neg hs, if_neg ho, if_pos rfl, if_pos (by omega)]
theorem grpN_up (b : List Int) (o s : Int) (ho : o ≠ 92) (q n : Nat) (d : Int) (hd : d < 32) (hq : q < b.length) (hn : b.length ≤ q + n) (h : b.getD q 0 = o) : ∃ n', grpN b o s n d q = grpN b o s n' (d + 1) (q + 1) ∧ b.length ≤ q + 1 + n' := by
  obtain ⟨k, rfl⟩ : ∃ k, n = k + 1 := ⟨n - 1, by omega⟩
  refine ⟨k, ?_, by omega⟩
  conv => lhs; unfold grpN
  rw [if_pos hq, h, if_neg ho, if_pos rfl, if_neg (by omega)]
theorem get_D (b : List Int) (i : Nat) (h : i < b.length) : b[i]? = some (b.getD i 0) := by
  rw [List.getD_eq_getElem?_getD, List.getElem?_eq_getElem h]; rfl
theorem whole_ok (nm : List Int) (h : nm ∈ wholeN) : 5 ≤ nm.length ∧ nm.length ≤ 10 ∧ ∀ c ∈ nm, c ≠ 92 ∧ c ≠ 123 ∧ c ≠ 125 ∧ c ≠ 91 := by
  have hh : ∀ nm ∈ wholeN, 5 ≤ nm.length ∧ nm.length ≤ 10 ∧ ∀ c ∈ nm, c ≠ 92 ∧ c ≠ 123 ∧ c ≠ 125 ∧ c ≠ 91 := by decide
  exact hh nm h
def begT (nm : List Int) : List Int := [92, 98, 101, 103, 105, 110, 123] ++ nm ++ [125]
theorem begT_len (nm : List Int) : (begT nm).length = nm.length + 8 := by unfold begT; simp
def verbT (nm C E : List Int) : List Int := begT nm ++ C ++ E
def Cln (C : List Int) : Prop := ∀ c ∈ C, c ≠ 92 ∧ c ≠ 91 ∧ c ≠ 123
theorem verb_lex (nm C : List Int) (hnm : nm ∈ wholeN) (hC : Cln C) (ends : Bool) :
    let E := if ends = true then shutT nm ++ [120] else []
    ∀ i, i < (verbT nm C E).length → (lexL (verbT nm C E))[i]? = some (if i + 1 = (verbT nm C E).length ∧ ends = true then 1 else if (begT nm).length ≤ i ∧ i < (begT nm).length + C.length then 4 else 2) := by
  intro E
  obtain ⟨hn5, hn10, hnc⟩ := whole_ok nm hnm
  have hP := begT_len nm
  have hlen : (verbT nm C E).length = nm.length + 8 + C.length + E.length := by unfold verbT; rw [List.length_append, List.length_append, hP]
  have gP : ∀ j, j < nm.length + 8 → (verbT nm C E).getD j 0 = (begT nm).getD j 0 := by
    intro j hj
    unfold verbT
    rw [List.append_assoc, getD_appM, if_pos (by rw [hP]; exact hj)]
  have gN : ∀ j, 7 ≤ j → j < 7 + nm.length → (verbT nm C E).getD j 0 = nm.getD (j - 7) 0 := by
    intro j h1 h2
    rw [gP j (by omega)]
    unfold begT
    rw [List.append_assoc, getD_appM, if_neg (by simp; omega), getD_appM, if_pos (by simp; omega)]
    rfl
  have gE : (verbT nm C E).getD (7 + nm.length) 0 = 125 := by
    rw [gP _ (by omega)]
    unfold begT
    rw [getD_appM, if_neg (by simp; omega)]
    have : 7 + nm.length - ([92, 98, 101, 103, 105, 110, 123] ++ nm).length = 0 := by simp; omega
    rw [this]; rfl
  have gb : ∀ j, j < 7 → (verbT nm C E).getD j 0 = [92, 98, 101, 103, 105, 110, 123].getD j 0 := by
    intro j hj
    rw [gP j (by omega)]
    unfold begT
    rw [List.append_assoc, getD_appM, if_pos (by simpa using hj)]
  have hdr : (verbT nm C E).drop (nm.length + 8) = C ++ E := by
    unfold verbT
    rw [← hP, List.append_assoc, List.drop_left]
  have hnam : ((verbT nm C E).take (nm.length + 8 - 1)).drop (6 + 1) = nm := by
    unfold verbT begT
    have e : ([92, 98, 101, 103, 105, 110, 123] ++ nm ++ [125] ++ C ++ E : List Int) = ([92, 98, 101, 103, 105, 110, 123] ++ nm) ++ ([125] ++ C ++ E) := by simp
    rw [e, List.take_append_of_le_length (by simp), show nm.length + 8 - 1 = ([92, 98, 101, 103, 105, 110, 123] ++ nm : List Int).length by simp, List.take_length]
    rfl
  have hhead : ∀ x, (verbT nm C E)[nm.length + 8]? = some x → x ≠ 91 ∧ x ≠ 123 := by
    intro x hx
    have e := congrArg (fun l => l[0]?) hdr
    simp only [List.getElem?_drop, Nat.add_zero] at e
    rw [e] at hx
    cases C with
    | cons c C =>
      simp at hx
      subst hx
      exact (hC c (by simp)).2
    | nil =>
      cases hends : ends with
      | true =>
        have hEe : E = shutT nm ++ [120] := by show (if ends = true then shutT nm ++ [120] else []) = _; rw [hends, if_pos rfl]
        rw [hEe] at hx
        unfold shutT at hx
        simp at hx
        subst hx
        exact ⟨by decide, by decide⟩
      | false =>
        have hEe : E = [] := by show (if ends = true then shutT nm ++ [120] else []) = _; rw [hends]; rfl
        rw [hEe] at hx
        simp at hx
  have hnam1 : ((verbT nm C E).take 6).drop 1 = nBegin := by
    unfold verbT begT
    simp [nBegin]
  have hfnd : fnd (shutT nm) (C ++ E) = if ends = true then some C.length else none := by
    have hno : ∀ j, j < C.length → (shutT nm).isPrefixOf ((C ++ E).drop j) = false := by
      intro j hj
      rw [Bool.eq_false_iff]
      intro h
      obtain ⟨r, hr⟩ := List.isPrefixOf_iff_prefix.1 h
      have e0 : (C ++ E)[j]? = some 92 := by
        have := congrArg (fun l => l[0]?) hr
        unfold shutT at this
        simpa using this.symm
      rw [List.getElem?_append_left hj] at e0
      exact (hC 92 (List.mem_of_getElem? e0)).1 rfl
    cases hends : ends with
    | true =>
      have hEe : E = shutT nm ++ [120] := by show (if ends = true then shutT nm ++ [120] else []) = _; rw [hends, if_pos rfl]
      rw [if_pos rfl]
      exact fnd_first _ _ _ (by rw [List.drop_left, hEe]; exact List.isPrefixOf_iff_prefix.2 (List.prefix_append _ _)) (by simp) hno
    | false =>
      have hEe : E = [] := by show (if ends = true then shutT nm ++ [120] else []) = _; rw [hends]; rfl
      rw [if_neg (by decide)]
      refine fnd_no _ _ (fun j hj => ?_)
      by_cases h : j < C.length
      · exact hno j h
      · rw [hEe, List.append_nil, List.drop_eq_nil_of_le (by omega)]
        rfl
  have hSl : (shutT nm).length = nm.length + 6 := by unfold shutT; simp
  generalize hb : verbT nm C E = b at *
  have hw : wrd b (0 + 1) = 6 := wrd_run b 1 6 (by omega) (by omega) (fun i h1 h2 => by
    rw [gb i (by omega)]
    have : i = 1 ∨ i = 2 ∨ i = 3 ∨ i = 4 ∨ i = 5 := by omega
    rcases this with rfl | rfl | rfl | rfl | rfl <;> rfl) (fun _ => by rw [gb 6 (by omega)]; rfl)
  have hg : grp b 6 = some (nm.length + 8) := by
    have h6 : b[6]? = some 123 := by rw [get_D b 6 (by omega), gb 6 (by omega)]; rfl
    unfold grp
    rw [h6, if_neg (by decide), if_pos rfl]
    obtain ⟨n1, e1, f1⟩ := grpN_up b 123 125 (by decide) 6 b.length 0 (by decide) (by omega) (by omega) (by rw [gb 6 (by omega)]; rfl)
    obtain ⟨n2, e2, f2⟩ := grpN_skip b 123 125 (7 + nm.length) (by omega) (0 + 1) n1 7 (by omega) (by omega) (fun j h1 h2 => by
      rw [gN j h1 h2]
      have := hnc _ (getD_inM nm (j - 7) (by omega))
      exact ⟨this.1, this.2.1, this.2.2.1⟩)
    rw [e1, e2]
    rw [show (0 + 1 : Int) = 1 from rfl, grpN_down b 123 125 (by decide) (by decide) (7 + nm.length) n2 (by omega) f2 gE]
    congr 1
    omega
  have hg2 : grp b (nm.length + 8) = none := by
    unfold grp
    rw [if_neg (fun h => (hhead _ h).1 rfl), if_neg (fun h => (hhead _ h).2 rfl)]
  have hgs : grps b 6 = nm.length + 8 := by
    unfold grps
    obtain ⟨k, hk⟩ : ∃ k, b.length = k + 1 + 1 := ⟨b.length - 2, by omega⟩
    rw [hk]
    unfold grpsN
    rw [hg]
    simp only []
    unfold grpsN
    rw [hg2]
  have hR : (List.replicate b.length (1 : Int)).length = b.length := by simp
  have e1 : step b 0 (List.replicate b.length 1) = envS b nm (nm.length + 8) (setL (setL (List.replicate b.length 1) 2 ((0 : Nat) : Int) ((6 : Nat) : Int)) 2 ((6 : Nat) : Int) ((nm.length + 8 : Nat) : Int)) := by
    rw [step_slash b 0 _ (by rw [gb 0 (by omega)]; rfl)]
    unfold cmd
    rw [hw, if_neg (by decide), show (0 + 1) = 1 from rfl, hnam1]
    unfold namS
    rw [if_neg (by decide), if_pos (by decide), hgs, hg]
    unfold argS
    rw [show (some (nm.length + 8)).getD 0 = nm.length + 8 from rfl, hnam, if_pos ⟨rfl, by omega, by rw [gb 6 (by omega)]; rfl, hnm⟩]
  rw [hP]
  intro i hi
  rw [lexL_at, lexAt_step b 0 _ (by omega) hR, e1]
  unfold envS
  rw [hdr, hfnd]
  cases hends : ends with
  | true =>
    have hEe : E = shutT nm ++ [120] := by show (if ends = true then shutT nm ++ [120] else []) = _; rw [hends, if_pos rfl]
    have hlen2 : b.length = nm.length + 8 + C.length + (shutT nm).length + 1 := by rw [hlen, hEe, List.length_append, List.length_singleton]; omega
    have g120 : b.getD (nm.length + 8 + C.length + (shutT nm).length) 0 = 120 := by
      rw [← hb]
      unfold verbT
      rw [hEe, getD_appM, if_neg (by rw [List.length_append, hP]; omega), getD_appM, if_neg (by rw [List.length_append, hP]; omega)]
      have : nm.length + 8 + C.length + (shutT nm).length - (begT nm ++ C).length - (shutT nm).length = 0 := by rw [List.length_append, hP]; omega
      rw [this]; rfl
    rw [if_pos rfl]
    simp only []
    rw [lexAt_step b _ _ (by omega) (by simp [setL_length]), step_plain b _ _ (by rw [g120]; rfl)]
    simp only []
    rw [lexAt_end b _ _ (by omega), setL_get, setL_get, setL_get, setL_get, List.getElem?_replicate, if_pos hi]
    simp only [Option.map_some, and_true]
    congr 1
    by_cases h1 : i + 1 = b.length
    · rw [if_pos h1, if_neg (by omega), if_neg (by omega), if_neg (by omega), if_neg (by omega)]
    · rw [if_neg h1]
      by_cases h2 : nm.length + 8 ≤ i ∧ i < nm.length + 8 + C.length
      · rw [if_pos (by omega), if_pos h2]
      · rw [if_neg h2, if_neg (by omega)]
        by_cases h3 : i < nm.length + 8
        · rw [if_neg (by omega)]
          by_cases h4 : i < 6
          · rw [if_neg (by omega), if_pos (by omega)]
          · rw [if_pos (by omega)]
        · rw [if_pos (by omega)]
  | false =>
    have hEe : E = [] := by show (if ends = true then shutT nm ++ [120] else []) = _; rw [hends]; rfl
    have hlen2 : b.length = nm.length + 8 + C.length := by rw [hlen, hEe]; rfl
    rw [if_neg (by decide)]
    simp only []
    rw [lexAt_end b _ _ (by omega), setL_get, setL_get, setL_get, List.getElem?_replicate, if_pos hi, if_neg (fun h => by cases h.2)]
    simp only [Option.map_some]
    congr 1
    by_cases h2 : nm.length + 8 ≤ i ∧ i < nm.length + 8 + C.length
    · rw [if_pos (by omega), if_pos h2]
    · rw [if_neg h2, if_neg (by omega)]
      by_cases h4 : i < 6
      · rw [if_neg (by omega), if_pos (by omega)]
      · rw [if_pos (by omega)]
end Go.Proofs.YtkicpaodcmepmaaDoor.Tex
