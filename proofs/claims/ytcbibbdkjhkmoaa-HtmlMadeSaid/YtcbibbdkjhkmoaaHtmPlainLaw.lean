/- Texts without tags, in plain lists. Conditions: none. -/
import Derived.Test.YtcbibbdkjhkmoaaHtmTag
set_option linter.unusedVariables false
set_option linter.unusedSimpArgs false
namespace Go.Proofs.Ytcbibbdkjhkmoaa.Htm
open Go.Proofs.Ytcbibbdkjhkmoaa.L

theorem lexN_txt (b : List Int) : ∀ (d n p : Nat) (L : List Int), d ≤ n → p + d ≤ b.length → (∀ i, p ≤ i → i < p + d → b[i]? ≠ some 60) → lexN b n p L = lexN b (n - d) (p + d) L := by
  intro d
  induction d with
  | zero => intro n p L _ _ _; rfl
  | succ d ih =>
    intro n p L hn hp h
    obtain ⟨m, rfl⟩ : ∃ m, n = m + 1 := ⟨n - 1, by omega⟩
    have e : lexN b (m + 1) p L = lexN b m (p + 1) L := by
      conv => lhs; unfold lexN
      rw [if_pos (by omega)]
      have : step b p L = (p + 1, L) := by unfold step; rw [if_pos (h p (Nat.le_refl _) (by omega))]
      rw [this]
    rw [e, ih m (p + 1) L (by omega) (by omega) (fun i h1 h2 => h i (by omega) (by omega)), show m + 1 - (d + 1) = m - d by omega, show p + 1 + d = p + (d + 1) by omega]
theorem lexN_done (b : List Int) (n p : Nat) (L : List Int) (hp : b.length ≤ p) : lexN b n p L = L := by
  cases n with
  | zero => rfl
  | succ n => unfold lexN; rw [if_neg (by omega)]
theorem lexN_rest (b : List Int) (n p : Nat) (L : List Int) (hn : b.length ≤ p + n) (hp : p ≤ b.length) (h : ∀ i, p ≤ i → b[i]? ≠ some 60) : lexN b n p L = L := by
  rw [lexN_txt b (b.length - p) n p L (by omega) (by omega) (fun i h1 _ => h i h1)]
  exact lexN_done _ _ _ _ (by omega)
theorem fnd_skip (x : Int) (t l : List Int) (r : List Int) (h : ∀ c ∈ l, c ≠ x) : fnd (x :: t) (l ++ r) = (fnd (x :: t) r).map (· + l.length) := by
  induction l with
  | nil => rw [List.nil_append]; generalize fnd (x :: t) r = o; cases o <;> rfl
  | cons c l ih =>
    have hc : c ≠ x := h c (by simp)
    have : (x :: t).isPrefixOf (c :: l ++ r) = false := by
      rw [List.cons_append, List.isPrefixOf_cons_cons]
      have : (x == c) = false := beq_eq_false_iff_ne.2 (fun e => hc e.symm)
      rw [this]; rfl
    rw [List.cons_append] at this ⊢
    conv => lhs; unfold fnd
    rw [if_neg (by rw [this]; simp), ih (fun y hy => h y (by simp [hy]))]
    generalize fnd (x :: t) r = o
    cases o with
    | none => rfl
    | some i => simp only [Option.map_some, List.length_cons]; congr 1
theorem fnd_here (t r : List Int) (h : t ≠ []) : fnd t (t ++ r) = some 0 := by
  cases t with
  | nil => exact absurd rfl h
  | cons x t =>
    rw [List.cons_append]
    unfold fnd
    rw [if_pos]
    rw [List.isPrefixOf_iff_prefix]
    exact ⟨r, rfl⟩
theorem not_mem_get {b : List Int} {x : Int} (h : x ∉ b) (i : Nat) : b[i]? ≠ some x := fun e => h (List.mem_of_getElem? e)
theorem lex_plain (b : List Int) (h : (60 : Int) ∉ b) : lexL b = List.replicate b.length 1 := by
  unfold lexL
  exact lexN_rest b _ 0 _ (by omega) (Nat.zero_le _) (fun i _ => not_mem_get h i)
theorem note_get (a n b : List Int) (ha : (60 : Int) ∉ a) (hn : (45 : Int) ∉ n) (hb : (60 : Int) ∉ b) (x : List Int) (hx : x = a ++ ([60, 33, 45, 45] ++ n ++ [45, 45, 62]) ++ b) (i : Nat) (hi : i < x.length) :
    (lexL x)[i]? = some (if a.length ≤ i ∧ i < x.length - b.length then 3 else 1) := by
  have hl : x.length = a.length + (n.length + 7) + b.length := by rw [hx]; simp; omega
  have e1 : x.drop a.length = [60, 33, 45, 45] ++ (n ++ ([45, 45, 62] ++ b)) := by
    rw [hx, List.append_assoc, List.drop_append, List.drop_eq_nil_of_le (Nat.le_refl _), Nat.sub_self, List.nil_append, List.drop_zero]
    try simp
  have e2 : x.drop (a.length + 4) = n ++ ([45, 45, 62] ++ b) := by
    rw [← List.drop_drop, e1]
    rfl
  have e3 : x.drop (a.length + (n.length + 7)) = b := by
    rw [hx, List.drop_append, List.drop_eq_nil_of_le (by simp only [List.length_append, List.length_cons, List.length_nil]; omega), List.nil_append]
    have : a.length + (n.length + 7) - (a ++ ([60, 33, 45, 45] ++ n ++ [45, 45, 62])).length = 0 := by simp only [List.length_append, List.length_cons, List.length_nil]; omega
    rw [this, List.drop_zero]
  have h60 : x[a.length]? = some 60 := by
    have : (x.drop a.length)[0]? = some 60 := by rw [e1]; rfl
    rwa [List.getElem?_drop] at this
  have hb1 : begs x a.length [60, 33, 45, 45] = true := by
    unfold begs
    rw [e1, List.isPrefixOf_iff_prefix]
    exact ⟨_, rfl⟩
  have hu : untl [45, 45, 62] x (a.length + 4) = a.length + (n.length + 7) := by
    unfold untl
    rw [e2, fnd_skip 45 [45, 62] n _ (fun c hc e => hn (e ▸ hc)), fnd_here [45, 45, 62] b (by simp)]
    simp only [Option.map_some, List.length_cons, List.length_nil]
    omega
  have hs : step x a.length (List.replicate x.length 1) = (a.length + (n.length + 7), setL (List.replicate x.length 1) 3 (a.length : Int) ((a.length + (n.length + 7) : Nat) : Int)) := by
    unfold step
    rw [if_neg (by simp [h60]), if_pos hb1, hu]
  have hlex : lexL x = setL (List.replicate x.length 1) 3 (a.length : Int) ((a.length + (n.length + 7) : Nat) : Int) := by
    unfold lexL
    rw [lexN_txt x a.length x.length 0 _ (by omega) (by omega) (fun i _ h2 => by
      have : x[i]? = a[i]? := by rw [hx, List.append_assoc, List.getElem?_append_left (by omega)]
      rw [this]
      exact not_mem_get ha i)]
    rw [Nat.zero_add]
    obtain ⟨m, hm⟩ : ∃ m, x.length - a.length = m + 1 := ⟨x.length - a.length - 1, by omega⟩
    rw [hm]
    conv => lhs; unfold lexN
    rw [if_pos (by omega), hs]
    refine lexN_rest x m _ _ (by omega) (by omega) (fun i h1 => ?_)
    have : x[i]? = (x.drop (a.length + (n.length + 7)))[i - (a.length + (n.length + 7))]? := by rw [List.getElem?_drop]; congr 1; omega
    rw [this, e3]
    exact not_mem_get hb _
  rw [hlex, setL_get, List.getElem?_replicate, if_pos hi, Option.map_some]
  by_cases hc : a.length ≤ i ∧ i < x.length - b.length
  · rw [if_pos hc, if_pos (by omega)]
  · rw [if_neg hc, if_neg (by omega)]
end Go.Proofs.Ytcbibbdkjhkmoaa.Htm
