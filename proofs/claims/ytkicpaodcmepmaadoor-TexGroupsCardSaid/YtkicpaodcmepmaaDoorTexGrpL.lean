/- Arguments that are no prose, as deep in one another as may be, in plain lists. Conditions: none. -/
import Derived.Test.YtkicpaodcmepmaaDoorTexVrbL
set_option linter.unusedVariables false
set_option linter.unusedSimpArgs false
namespace Go.Proofs.YtkicpaodcmepmaaDoor.Tex
open Go.Proofs.YtkicpaodcmepmaaDoor.L

/-- Text and marks, byte for byte. -/
theorem lexAt_mix (b : List Int) : ∀ (n p : Nat) (L : List Int), b.length ≤ p + n → L.length = b.length → (∀ i, p ≤ i → i < b.length → plainB (b.getD i 0) = true ∨ isMk (b.getD i 0) = true) →
    ∀ i, i < b.length → (lexAt b p L)[i]? = if p ≤ i ∧ isMk (b.getD i 0) = true then some 2 else L[i]? := by
  intro n
  induction n with
  | zero =>
    intro p L h1 hL _ i hi
    rw [lexAt_end b p L (by omega), if_neg (by omega)]
  | succ n ih =>
    intro p L h1 hL h i hi
    by_cases hp : p < b.length
    · rw [lexAt_step b p L hp hL]
      by_cases hm : isMk (b.getD p 0) = true
      · rw [step_mark b p L hm]
        simp only []
        rw [ih (p + 1) _ (by omega) (by rw [setL_length]; exact hL) (fun j h3 h4 => h j (by omega) h4) i hi]
        by_cases hpi : i = p
        · subst hpi
          rw [if_neg (by omega), if_pos ⟨Nat.le_refl _, hm⟩, setL_get, List.getElem?_eq_getElem (by omega)]
          simp only [Option.map_some]
          rw [if_pos (by omega)]
        · rw [setL_get, List.getElem?_eq_getElem (by omega)]
          simp only [Option.map_some]
          rw [if_neg (by omega : ¬ (((p : Int) ≤ (i : Int)) ∧ ((i : Int) < ((p + 1 : Nat) : Int))))]
          by_cases h5 : p ≤ i ∧ isMk (b.getD i 0) = true
          · rw [if_pos h5, if_pos ⟨by omega, h5.2⟩]
          · rw [if_neg h5, if_neg (fun e => h5 ⟨by omega, e.2⟩)]
      · have hpl : plainB (b.getD p 0) = true := (h p (Nat.le_refl _) hp).resolve_right hm
        rw [step_plain b p L hpl]
        simp only []
        rw [ih (p + 1) _ (by omega) hL (fun j h3 h4 => h j (by omega) h4) i hi]
        by_cases hpi : i = p
        · subst hpi
          rw [if_neg (by omega), if_neg (fun e => hm e.2)]
        · by_cases h5 : p ≤ i ∧ isMk (b.getD i 0) = true
          · rw [if_pos h5, if_pos ⟨by omega, h5.2⟩]
          · rw [if_neg h5, if_neg (fun e => h5 ⟨by omega, e.2⟩)]
    · rw [lexAt_end b p L (by omega), if_neg (by omega)]
def oneT (o s : Int) (n : Nat) : List Int := List.replicate n o ++ [119] ++ List.replicate n s
theorem oneT_len (o s : Int) (n : Nat) : (oneT o s n).length = n + 1 + n := by unfold oneT; simp; omega
def Pair (o s : Int) : Prop := (o = 123 ∧ s = 125) ∨ (o = 91 ∧ s = 93)
theorem grpN_ups (b : List Int) (o s : Int) (ho : o ≠ 92) : ∀ (k q n : Nat) (d : Int), d + k ≤ 32 → q + k ≤ b.length → b.length ≤ q + n → (∀ j, j < k → b.getD (q + j) 0 = o) → ∃ n', grpN b o s n d q = grpN b o s n' (d + k) (q + k) ∧ b.length ≤ q + k + n' := by
  intro k
  induction k with
  | zero => intro q n d _ _ h _; exact ⟨n, by simp, by omega⟩
  | succ k ih =>
    intro q n d h1 h2 h3 h
    obtain ⟨n1, e1, f1⟩ := grpN_up b o s ho q n d (by omega) (by omega) h3 (h 0 (by omega))
    obtain ⟨n2, e2, f2⟩ := ih (q + 1) n1 (d + 1) (by omega) (by omega) f1 (fun j hj => by have := h (j + 1) (by omega); rw [show q + 1 + j = q + (j + 1) by omega]; exact this)
    refine ⟨n2, ?_, by omega⟩
    rw [e1, e2, show d + 1 + (k : Int) = d + ((k + 1 : Nat) : Int) by omega, show q + 1 + k = q + (k + 1) by omega]
theorem grpN_downs (b : List Int) (o s : Int) (ho : s ≠ o) (hs : s ≠ 92) : ∀ (k q n : Nat), q + (k + 1) ≤ b.length → b.length ≤ q + n → (∀ j, j < k + 1 → b.getD (q + j) 0 = s) → grpN b o s n ((k + 1 : Nat) : Int) q = some (q + (k + 1)) := by
  intro k
  induction k with
  | zero => intro q n h1 h2 h; exact grpN_down b o s ho hs q n (by omega) h2 (h 0 (by omega))
  | succ k ih =>
    intro q n h1 h2 h
    obtain ⟨m, rfl⟩ : ∃ m, n = m + 1 := ⟨n - 1, by omega⟩
    have e0 : b.getD q 0 = s := h 0 (by omega)
    unfold grpN
    rw [if_pos (by omega), e0, if_neg hs, if_neg ho, if_pos rfl, if_neg (by omega), show ((k + 1 + 1 : Nat) : Int) - 1 = ((k + 1 : Nat) : Int) by omega, ih (q + 1) m (by omega) (by omega) (fun j hj => by have := h (j + 1) (by omega); rw [show q + 1 + j = q + (j + 1) by omega]; exact this)]
    congr 1
    omega
theorem drop_get (b r : List Int) (e : Nat) (h : b.drop e = r) (j : Nat) : b.getD (e + j) 0 = r.getD j 0 := by
  rw [← h]
  simp only [List.getD_eq_getElem?_getD, List.getElem?_drop]
theorem drop_len (b r : List Int) (e : Nat) (h : b.drop e = r) (hr : r ≠ []) : e + r.length = b.length := by
  have := congrArg List.length h
  rw [List.length_drop] at this
  have h1 : 0 < r.length := List.length_pos_iff.2 hr
  omega
theorem one_get (o s : Int) (n : Nat) (r : List Int) : (∀ j, j < n → (oneT o s n ++ r).getD j 0 = o) ∧ (oneT o s n ++ r).getD n 0 = 119 ∧ ∀ j, j < n → (oneT o s n ++ r).getD (n + 1 + j) 0 = s := by
  refine ⟨fun j hj => ?_, ?_, fun j hj => ?_⟩
  · unfold oneT
    rw [List.append_assoc, List.append_assoc, getD_appM, if_pos (by simpa using hj)]
    simp [List.getD_eq_getElem?_getD, hj]
  · unfold oneT
    rw [List.append_assoc, List.append_assoc, getD_appM, if_neg (by simp)]
    simp
  · unfold oneT
    rw [List.append_assoc, getD_appM, if_neg (by first | (simp; done) | (simp; omega)), getD_appM, if_pos (by first | (simp; done) | (simp; omega))]
    simp [List.getD_eq_getElem?_getD]
    rw [List.getElem?_replicate, if_pos (by omega)]
    rfl
theorem grp_head (b : List Int) (o s : Int) (hp : Pair o s) (e : Nat) (he : e < b.length) (h : b.getD e 0 = o) : grp b e = grpN b o s b.length 0 e := by
  have h1 := get_D b e he
  unfold grp
  rw [h1, h]
  rcases hp with ⟨rfl, rfl⟩ | ⟨rfl, rfl⟩
  · rw [if_neg (by decide), if_pos rfl]
  · rw [if_pos rfl]
theorem Pair.ne {o s : Int} (h : Pair o s) : o ≠ 92 ∧ s ≠ 92 ∧ s ≠ o ∧ o ≠ 119 ∧ s ≠ 119 := by
  rcases h with ⟨rfl, rfl⟩ | ⟨rfl, rfl⟩ <;> decide
theorem grp_one (b : List Int) (o s : Int) (hp : Pair o s) (n : Nat) (h1 : 1 ≤ n) (h32 : n ≤ 32) (e : Nat) (r : List Int) (hd : b.drop e = oneT o s n ++ r) : grp b e = some (e + (oneT o s n).length) := by
  have hl := drop_len b _ e hd (by unfold oneT; simp)
  rw [List.length_append, oneT_len] at hl
  obtain ⟨g1, g2, g3⟩ := one_get o s n r
  obtain ⟨p1, p2, p3, p4, p5⟩ := hp.ne
  have h0 := drop_get b _ e hd 0
  rw [grp_head b o s hp e (by omega) (by rw [← Nat.add_zero e, h0]; exact g1 0 (by omega))]
  obtain ⟨n1, e1, f1⟩ := grpN_ups b o s p1 n e b.length 0 (by omega) (by omega) (by omega) (fun j hj => by rw [drop_get b _ e hd]; exact g1 j hj)
  obtain ⟨n2, e2, f2⟩ := grpN_skip b o s (e + n + 1) (by omega) (0 + (n : Int)) n1 (e + n) (by omega) f1 (fun j h3 h4 => by
    obtain rfl : j = e + n := by omega
    rw [drop_get b _ e hd, g2]
    exact ⟨by decide, fun h => p4 h.symm, fun h => p5 h.symm⟩)
  rw [e1, e2]
  obtain ⟨k, rfl⟩ : ∃ k, n = k + 1 := ⟨n - 1, by omega⟩
  rw [Int.zero_add, grpN_downs b o s p3 p2 k (e + (k + 1) + 1) n2 (by omega) f2 (fun j hj => by rw [show e + (k + 1) + 1 + j = e + (k + 1 + 1 + j) by omega, drop_get b _ e hd]; exact g3 j hj), oneT_len]
  congr 1
  omega
theorem grp_deep (b : List Int) (o s : Int) (hp : Pair o s) (n : Nat) (h32 : 32 < n) (e : Nat) (r : List Int) (hd : b.drop e = oneT o s n ++ r) : grp b e = none := by
  have hl := drop_len b _ e hd (by unfold oneT; simp)
  rw [List.length_append, oneT_len] at hl
  obtain ⟨g1, g2, g3⟩ := one_get o s n r
  obtain ⟨p1, p2, p3, p4, p5⟩ := hp.ne
  have h0 := drop_get b _ e hd 0
  rw [grp_head b o s hp e (by omega) (by rw [← Nat.add_zero e, h0]; exact g1 0 (by omega))]
  obtain ⟨n1, e1, f1⟩ := grpN_ups b o s p1 32 e b.length 0 (by omega) (by omega) (by omega) (fun j hj => by rw [drop_get b _ e hd]; exact g1 j (by omega))
  rw [e1]
  obtain ⟨m, rfl⟩ : ∃ m, n1 = m + 1 := ⟨n1 - 1, by omega⟩
  unfold grpN
  rw [if_pos (by omega), drop_get b _ e hd, g1 32 h32, if_neg p1, if_pos rfl, if_pos (by omega)]
theorem grp_end (b : List Int) (e : Nat) (hd : b.drop e = [32, 118]) : grp b e = none := by
  have hl := drop_len b _ e hd (by simp)
  have h0 : b.getD e 0 = 32 := drop_get b _ e hd 0
  have h1 := get_D b e (by simp at hl; omega)
  unfold grp
  rw [h1, h0]
  rfl
def manyT (o s : Int) (n m : Nat) : List Int := (List.replicate m (oneT o s n)).flatten
theorem manyT_succ (o s : Int) (n m : Nat) : manyT o s n (m + 1) = oneT o s n ++ manyT o s n m := by unfold manyT; rw [List.replicate_succ, List.flatten_cons]
theorem manyT_snoc (o s : Int) (n : Nat) : ∀ m : Nat, manyT o s n (m + 1) = manyT o s n m ++ oneT o s n := by
  intro m
  induction m with
  | zero => unfold manyT; simp
  | succ m ih =>
    conv => lhs; rw [manyT_succ, ih, ← List.append_assoc, ← manyT_succ]
theorem grps_many (b : List Int) (o s : Int) (hp : Pair o s) (n : Nat) (h1 : 1 ≤ n) (h32 : n ≤ 32) : ∀ (m f e : Nat), m ≤ f → b.drop e = manyT o s n m ++ [32, 118] → grpsN b f e + 2 = b.length := by
  intro m
  induction m with
  | zero =>
    intro f e _ hd
    have hd' : b.drop e = [32, 118] := hd
    have hl := drop_len b _ e hd' (by simp)
    cases f with
    | zero => exact hl
    | succ f => unfold grpsN; rw [grp_end b e hd']; exact hl
  | succ m ih =>
    intro f e hf hd
    obtain ⟨f, rfl⟩ : ∃ g, f = g + 1 := ⟨f - 1, by omega⟩
    rw [manyT_succ, List.append_assoc] at hd
    unfold grpsN
    rw [grp_one b o s hp n h1 h32 e _ hd]
    simp only []
    refine ih f _ (by omega) ?_
    rw [← List.drop_drop, hd, List.drop_left]
theorem many_mem (o s : Int) (n m : Nat) : ∀ c ∈ manyT o s n m, c = o ∨ c = s ∨ c = 119 := by
  intro c hc
  unfold manyT at hc
  rw [List.mem_flatten] at hc
  obtain ⟨x, hx, hc⟩ := hc
  have := List.eq_of_mem_replicate hx
  subst this
  unfold oneT at hc
  rw [List.mem_append, List.mem_append] at hc
  rcases hc with (hc | hc) | hc
  · exact .inl (List.eq_of_mem_replicate hc)
  · exact .inr (.inr (by simpa using hc))
  · exact .inr (.inl (List.eq_of_mem_replicate hc))
theorem many_len (o s : Int) (n m : Nat) : m ≤ (manyT o s n m).length := by
  induction m with
  | zero => omega
  | succ m ih => rw [manyT_succ, List.length_append, oneT_len]; omega
/-- The names. -/
def gNm (q : Nat) : List Int := [[99, 105, 116, 101], [114, 101, 102], [108, 97, 98, 101, 108], [105, 110, 112, 117, 116], [117, 115, 101, 112, 97, 99, 107, 97, 103, 101], [101, 109, 112, 104], [99, 105, 116, 101, 115]].getD q []
theorem gNm_ok (q : Nat) (h : q < 7) : (∀ c ∈ gNm q, ltr c = true) ∧ 3 ≤ (gNm q).length ∧ (gNm q).length ≤ 10 ∧ gNm q ≠ nVerb ∧ gNm q ≠ nBegin ∧ (gNm q ∈ bareN ↔ q < 5) := by
  have hc : q = 0 ∨ q = 1 ∨ q = 2 ∨ q = 3 ∨ q = 4 ∨ q = 5 ∨ q = 6 := by omega
  rcases hc with rfl | rfl | rfl | rfl | rfl | rfl | rfl
  all_goals decide
def grpT (nm : List Int) (o s : Int) (n m : Nat) : List Int := [92] ++ nm ++ manyT o s n m ++ [32, 118]
theorem groups_lex (q : Nat) (hq : q < 7) (o s : Int) (hp : Pair o s) (n m : Nat) (h1 : 1 ≤ n) :
    let b := grpT (gNm q) o s n m
    (∀ i, (gNm q).length + 1 ≤ i → i + 2 < b.length → (b.getD i 0 = o ∨ b.getD i 0 = s ∨ b.getD i 0 = 119) ∧ (lexL b)[i]? = some (if (q < 5 ∧ n ≤ 32) ∨ isMk (b.getD i 0) = true then 2 else 1)) ∧ (lexL b)[b.length - 1]? = some 1 ∧ (lexL b)[0]? = some 2 ∧ 3 ≤ b.length := by
  intro b
  obtain ⟨k1, k2, k3, k4, k5, k6⟩ := gNm_ok q hq
  have hlen : b.length = 1 + (gNm q).length + (manyT o s n m).length + 2 := by show (grpT (gNm q) o s n m).length = _; unfold grpT; simp; omega
  have g0 : b.getD 0 0 = 92 := rfl
  have hdr : b.drop ((gNm q).length + 1) = manyT o s n m ++ [32, 118] := by
    show (grpT (gNm q) o s n m).drop _ = _
    unfold grpT
    rw [List.append_assoc, show (gNm q).length + 1 = ([92] ++ gNm q : List Int).length by simp, List.drop_left]
  have gn : ∀ i, 1 ≤ i → i < (gNm q).length + 1 → ltr (b.getD i 0) = true := by
    intro i h1 h2
    show ltr ((grpT (gNm q) o s n m).getD i 0) = true
    unfold grpT
    rw [List.append_assoc, getD_appM, if_pos (by first | (simp; done) | (simp; omega)), getD_appM, if_neg (by first | (simp; done) | (simp; omega))]
    exact k1 _ (getD_inM _ _ (by first | (simp; done) | (simp; omega)))
  have hnam : (b.take ((gNm q).length + 1)).drop 1 = gNm q := by
    show ((grpT (gNm q) o s n m).take _).drop 1 = _
    unfold grpT
    rw [List.append_assoc, show (gNm q).length + 1 = ([92] ++ gNm q : List Int).length by simp, List.take_left]
    rfl
  have gt : ∀ i, (gNm q).length + 1 ≤ i → i + 2 < b.length → b.getD i 0 = o ∨ b.getD i 0 = s ∨ b.getD i 0 = 119 := by
    intro i h1 h2
    obtain ⟨j, rfl⟩ : ∃ j, i = (gNm q).length + 1 + j := ⟨i - ((gNm q).length + 1), by omega⟩
    rw [drop_get b _ _ hdr, getD_appM, if_pos (by omega)]
    exact many_mem o s n m _ (getD_inM _ _ (by omega))
  have ge : b.getD (b.length - 2) 0 = 32 ∧ b.getD (b.length - 1) 0 = 118 := by
    constructor
    · rw [show b.length - 2 = (gNm q).length + 1 + (manyT o s n m).length by omega, drop_get b _ _ hdr, getD_appM, if_neg (by omega), Nat.sub_self]; rfl
    · rw [show b.length - 1 = (gNm q).length + 1 + ((manyT o s n m).length + 1) by omega, drop_get b _ _ hdr, getD_appM, if_neg (by omega), Nat.add_sub_cancel_left]; rfl
  have hmix : ∀ i, (gNm q).length + 1 ≤ i → i < b.length → plainB (b.getD i 0) = true ∨ isMk (b.getD i 0) = true := by
    intro i h1 h2
    by_cases h3 : i + 2 < b.length
    · rcases hp with ⟨rfl, rfl⟩ | ⟨rfl, rfl⟩ <;> rcases gt i h1 h3 with e | e | e <;> rw [e] <;> decide
    · have : i = b.length - 2 ∨ i = b.length - 1 := by omega
      rcases this with e | e
      · rw [e, ge.1]; decide
      · rw [e, ge.2]; decide
  have hltr : (gNm q).length + 1 < b.length → ltr (b.getD ((gNm q).length + 1) 0) = false := by
    intro _
    by_cases h3 : (gNm q).length + 1 + 2 < b.length
    · have hm0 : m ≠ 0 := by
        rintro rfl
        have : (manyT o s n 0).length = 0 := rfl
        omega
      obtain ⟨m', rfl⟩ : ∃ k, m = k + 1 := ⟨m - 1, by omega⟩
      have e : b.getD ((gNm q).length + 1) 0 = o := by
        have := drop_get b _ _ hdr 0
        rw [Nat.add_zero] at this
        rw [this, manyT_succ, List.append_assoc]
        exact (one_get o s n _).1 0 (by omega)
      rw [e]
      rcases hp with ⟨rfl, rfl⟩ | ⟨rfl, rfl⟩ <;> decide
    · rw [show (gNm q).length + 1 = b.length - 2 by omega, ge.1]; decide
  have hR : (List.replicate b.length (1 : Int)).length = b.length := by simp
  have hw : wrd b 1 = (gNm q).length + 1 := wrd_run b 1 _ (by omega) (by omega) gn hltr
  have e1 : step b 0 (List.replicate b.length 1) = namS b (gNm q) ((gNm q).length + 1) (setL (List.replicate b.length 1) 2 ((0 : Nat) : Int) (((gNm q).length + 1 : Nat) : Int)) := by
    rw [step_slash b 0 _ g0]
    unfold cmd
    rw [show 0 + 1 = 1 from rfl, hw, if_neg (by omega), hnam]
  have h0 : lexL b = lexAt b (namS b (gNm q) ((gNm q).length + 1) (setL (List.replicate b.length 1) 2 ((0 : Nat) : Int) (((gNm q).length + 1 : Nat) : Int))).1 (namS b (gNm q) ((gNm q).length + 1) (setL (List.replicate b.length 1) 2 ((0 : Nat) : Int) (((gNm q).length + 1 : Nat) : Int))).2 := by
    rw [lexL_at, lexAt_step b 0 _ (by omega) hR, e1]
  have hget : ∀ i, i < b.length → (setL (List.replicate b.length (1 : Int)) 2 ((0 : Nat) : Int) (((gNm q).length + 1 : Nat) : Int))[i]? = some (if i < (gNm q).length + 1 then 2 else 1) := by
    intro i hi
    rw [setL_get, List.getElem?_replicate, if_pos hi]
    simp only [Option.map_some]
    congr 1
    by_cases h : i < (gNm q).length + 1
    · rw [if_pos (by omega), if_pos h]
    · rw [if_neg (by omega), if_neg h]
  have hmk118 : isMk 118 = false := rfl
  -- read byte for byte behind the name
  have plainWay : lexL b = lexAt b ((gNm q).length + 1) (setL (List.replicate b.length 1) 2 ((0 : Nat) : Int) (((gNm q).length + 1 : Nat) : Int)) → ¬ (q < 5 ∧ n ≤ 32) → (∀ i, (gNm q).length + 1 ≤ i → i + 2 < b.length → (b.getD i 0 = o ∨ b.getD i 0 = s ∨ b.getD i 0 = 119) ∧ (lexL b)[i]? = some (if (q < 5 ∧ n ≤ 32) ∨ isMk (b.getD i 0) = true then 2 else 1)) ∧ (lexL b)[b.length - 1]? = some 1 ∧ (lexL b)[0]? = some 2 ∧ 3 ≤ b.length := by
    intro hl hnb
    have hx := lexAt_mix b b.length ((gNm q).length + 1) (setL (List.replicate b.length 1) 2 ((0 : Nat) : Int) (((gNm q).length + 1 : Nat) : Int)) (by omega) (by rw [setL_length]; exact hR) hmix
    rw [← hl] at hx
    refine ⟨fun i h3 h4 => ⟨gt i h3 h4, ?_⟩, ?_, ?_, by omega⟩
    · rw [hx i (by omega), hget i (by omega)]
      by_cases h5 : isMk (b.getD i 0) = true
      · rw [if_pos ⟨h3, h5⟩, if_pos (.inr h5)]
      · rw [if_neg (fun e => h5 e.2), if_neg (by omega), if_neg (fun e => e.elim hnb h5)]
    · rw [hx _ (by omega), hget _ (by omega), ge.2, hmk118, if_neg (fun e => by cases e.2), if_neg (by omega)]
    · rw [hx _ (by omega), hget _ (by omega), if_neg (by omega), if_pos (by omega)]
  by_cases hb5 : q < 5
  · by_cases h32 : n ≤ 32
    · have hgs : grps b ((gNm q).length + 1) + 2 = b.length := grps_many b o s hp n h1 h32 m b.length _ (by have := many_len o s n m; omega) hdr
      have e2 : namS b (gNm q) ((gNm q).length + 1) (setL (List.replicate b.length 1) 2 ((0 : Nat) : Int) (((gNm q).length + 1 : Nat) : Int)) = (grps b ((gNm q).length + 1), setL (setL (List.replicate b.length 1) 2 ((0 : Nat) : Int) (((gNm q).length + 1 : Nat) : Int)) 2 (((gNm q).length + 1 : Nat) : Int) (grps b ((gNm q).length + 1) : Int)) := by
        unfold namS
        rw [if_neg k4, if_pos (k6.2 hb5)]
        unfold argS
        rw [if_neg (fun e => k5 e.1)]
      have e3 : grps b ((gNm q).length + 1) = b.length - 2 := by omega
      rw [e2, e3] at h0
      simp only [] at h0
      have hx := lexAt_mix b b.length (b.length - 2) (setL (setL (List.replicate b.length 1) 2 ((0 : Nat) : Int) (((gNm q).length + 1 : Nat) : Int)) 2 (((gNm q).length + 1 : Nat) : Int) ((b.length - 2 : Nat) : Int)) (by omega) (by rw [setL_length, setL_length]; exact hR) (fun i h3 h4 => hmix i (by omega) h4)
      rw [← h0] at hx
      have hg2 : ∀ i, i < b.length → (setL (setL (List.replicate b.length (1 : Int)) 2 ((0 : Nat) : Int) (((gNm q).length + 1 : Nat) : Int)) 2 (((gNm q).length + 1 : Nat) : Int) ((b.length - 2 : Nat) : Int))[i]? = some (if i < b.length - 2 then 2 else 1) := by
        intro i hi
        rw [setL_get, hget i hi]
        simp only [Option.map_some]
        congr 1
        by_cases h : i < b.length - 2
        · rw [if_pos h]
          by_cases h' : i < (gNm q).length + 1
          · rw [if_neg (by omega), if_pos h']
          · rw [if_pos (by omega)]
        · rw [if_neg h, if_neg (by omega), if_neg (by omega)]
      refine ⟨fun i h3 h4 => ⟨gt i h3 h4, ?_⟩, ?_, ?_, by omega⟩
      · rw [hx i (by omega), hg2 i (by omega), if_neg (by omega), if_pos (by omega), if_pos (.inl ⟨hb5, h32⟩)]
      · rw [hx _ (by omega), hg2 _ (by omega), ge.2, hmk118, if_neg (fun e => by cases e.2), if_neg (by omega)]
      · rw [hx _ (by omega), hg2 _ (by omega), if_neg (by omega), if_pos (by omega)]
    · refine plainWay ?_ (fun e => h32 e.2)
      have hgn : grp b ((gNm q).length + 1) = none := by
        cases m with
        | zero => exact grp_end b _ hdr
        | succ m =>
          rw [manyT_succ, List.append_assoc] at hdr
          exact grp_deep b o s hp n (by omega) _ _ hdr
      have e2 : namS b (gNm q) ((gNm q).length + 1) (setL (List.replicate b.length 1) 2 ((0 : Nat) : Int) (((gNm q).length + 1 : Nat) : Int)) = ((gNm q).length + 1, setL (setL (List.replicate b.length 1) 2 ((0 : Nat) : Int) (((gNm q).length + 1 : Nat) : Int)) 2 (((gNm q).length + 1 : Nat) : Int) (((gNm q).length + 1 : Nat) : Int)) := by
        unfold namS
        rw [if_neg k4, if_pos (k6.2 hb5), grps_none b _ hgn]
        unfold argS
        rw [if_neg (fun e => k5 e.1)]
      rw [h0, e2]
      simp only []
      congr 1
      refine List.ext_getElem? (fun i => ?_)
      rw [setL_get]
      cases h : (setL (List.replicate b.length (1 : Int)) 2 ((0 : Nat) : Int) (((gNm q).length + 1 : Nat) : Int))[i]? with
      | none => rfl
      | some x =>
        simp only [Option.map_some]
        rw [if_neg (by omega)]
  · refine plainWay ?_ (fun e => hb5 e.1)
    rw [h0]
    unfold namS
    rw [if_neg k4, if_neg (fun h => hb5 (k6.1 h))]
end Go.Proofs.YtkicpaodcmepmaaDoor.Tex
