/- What the bytes of TeX are, in plain lists: where things end, the labels of a whole text. Conditions: none. -/
import Derived.Test.YtkicpaodcmepmaaDoorLCore
set_option linter.unusedVariables false
set_option linter.unusedSimpArgs false
namespace Go.Proofs.YtkicpaodcmepmaaDoor.Tex
open Go.Proofs.YtkicpaodcmepmaaDoor.L

/-- Where a text is found first. -/
def fnd (t : List Int) : List Int → Option Nat
  | [] => if t.isPrefixOf [] then some 0 else none
  | x :: l => if t.isPrefixOf (x :: l) then some 0 else (fnd t l).map (· + 1)
/-- Behind the next such text; the end of all, if there is none. -/
def untl (t b : List Int) (p : Nat) : Nat := match fnd t (b.drop p) with | some i => p + i + t.length | none => b.length
def begs (b : List Int) (p : Nat) (t : List Int) : Bool := t.isPrefixOf (b.drop p)
/-- Behind the newline that ends a place's line. -/
def lineE (b : List Int) (p : Nat) : Nat := let f := (b.drop p).findIdx (· == 10); if f < b.length - p then p + f + 1 else b.length
/-- Where math ends, of a mark. -/
def mathN (b m : List Int) : Nat → Nat → Nat
  | 0, _ => b.length
  | n + 1, k => if k < b.length then (if b.getD k 0 = 92 then mathN b m n (k + 2) else if begs b k m then k + m.length else mathN b m n (k + 1)) else b.length
def mathM (b : List Int) (p : Nat) : List Int := if b[p + 1]? = some 36 then [36, 36] else [36]
def mathE (b : List Int) (p : Nat) : Nat := mathN b (mathM b p) b.length (p + (mathM b p).length)
def ltr (c : Int) : Bool := (decide (97 ≤ c) && decide (c ≤ 122)) || (decide (65 ≤ c) && decide (c ≤ 90))
/-- Behind the letters from a place on. -/
def wrdN (b : List Int) : Nat → Nat → Nat
  | 0, k => k
  | n + 1, k => if k < b.length ∧ ltr (b.getD k 0) = true then wrdN b n (k + 1) else k
def wrd (b : List Int) (k : Nat) : Nat := wrdN b b.length k
/-- Where a group ends. -/
def grpN (b : List Int) (o s : Int) : Nat → Int → Nat → Option Nat
  | 0, _, _ => none
  | n + 1, d, i =>
    if i < b.length then
      if b.getD i 0 = 92 then grpN b o s n d (i + 2)
      else if b.getD i 0 = o then (if 32 < d + 1 then none else grpN b o s n (d + 1) (i + 1))
      else if b.getD i 0 = s then (if d - 1 = 0 then some (i + 1) else grpN b o s n (d - 1) (i + 1))
      else grpN b o s n d (i + 1)
    else none
def grp (b : List Int) (p : Nat) : Option Nat :=
  if b[p]? = some 91 then grpN b 91 93 b.length 0 p else if b[p]? = some 123 then grpN b 123 125 b.length 0 p else none
/-- Behind all groups from a place on. -/
def grpsN (b : List Int) : Nat → Nat → Nat
  | 0, e => e
  | n + 1, e => match grp b e with | some g => grpsN b n g | none => e
def grps (b : List Int) (e : Nat) : Nat := grpsN b b.length e
/-- How many bytes the sign has with which bytes begin. -/
def tailB (x : Int) : Bool := decide (128 ≤ x) && decide (x < 192)
def w2 : List Int → Nat
  | x :: _ => if tailB x = true then 2 else 1
  | [] => 1
def r3 (c x y : Int) : Int := (c - 224) * 4096 + (x - 128) * 64 + (y - 128)
def w3 (c : Int) : List Int → Nat
  | x :: y :: _ => if tailB x = true ∧ tailB y = true ∧ 2048 ≤ r3 c x y ∧ (r3 c x y < 55296 ∨ 57344 ≤ r3 c x y) then 3 else 1
  | _ => 1
def r4 (c x y z : Int) : Int := (c - 240) * 262144 + (x - 128) * 4096 + (y - 128) * 64 + (z - 128)
def w4 (c : Int) : List Int → Nat
  | x :: y :: z :: _ => if tailB x = true ∧ tailB y = true ∧ tailB z = true ∧ 65536 ≤ r4 c x y z ∧ r4 c x y z ≤ 1114111 then 4 else 1
  | _ => 1
def wid : List Int → Nat
  | [] => 0
  | c :: r => if c < 128 then 1 else if 194 ≤ c ∧ c < 224 then w2 r else if 224 ≤ c ∧ c < 240 then w3 c r else if 240 ≤ c ∧ c < 245 then w4 c r else 1
/-- A control sign. -/
def sgn (b : List Int) (p : Nat) (L : List Int) : Nat × List Int :=
  if p + 1 = b.length then (p + 1, setL L 2 (p : Int) ((p + 1 : Nat) : Int))
  else if b.getD (p + 1) 0 = 40 then (untl [92, 41] b (p + 2), setL L 4 (p : Int) (untl [92, 41] b (p + 2) : Int))
  else if b.getD (p + 1) 0 = 91 then (untl [92, 93] b (p + 2), setL L 4 (p : Int) (untl [92, 93] b (p + 2) : Int))
  else (p + 1 + wid (b.drop (p + 1)), setL L 2 (p : Int) ((p + 1 + wid (b.drop (p + 1)) : Nat) : Int))
/-- What stands between two of a sign. -/
def verbE (b : List Int) (p : Nat) : Nat :=
  let f := ((b.take (lineE b p)).drop (p + 1)).findIdx (· == b.getD p 0)
  if f < lineE b p - (p + 1) then p + f + 2 else lineE b p
def verbB (b : List Int) (p : Nat) (L : List Int) : Nat × List Int :=
  if b.length ≤ p ∨ b.getD p 0 = 10 then (p, L) else (verbE b p, setL L 4 (p : Int) (verbE b p : Int))
def verbS (b : List Int) (p : Nat) (L : List Int) : Nat × List Int :=
  if b[p]? = some 42 then verbB b (p + 1) (setL L 2 (p : Int) ((p + 1 : Nat) : Int)) else verbB b p L
def nVerb : List Int := [118, 101, 114, 98]
def nBegin : List Int := [98, 101, 103, 105, 110]
def bareN : List (List Int) := [nBegin, [98, 105, 98, 108, 105, 111, 103, 114, 97, 112, 104, 121], [98, 105, 98, 108, 105, 111, 103, 114, 97, 112, 104, 121, 115, 116, 121, 108, 101], [99, 105, 116, 101], [100, 111, 99, 117, 109, 101, 110, 116, 99, 108, 97, 115, 115], [101, 110, 100], [105, 110, 99, 108, 117, 100, 101], [105, 110, 99, 108, 117, 100, 101, 103, 114, 97, 112, 104, 105, 99, 115], [105, 110, 112, 117, 116], [108, 97, 98, 101, 108], [112, 97, 103, 101, 114, 101, 102], [114, 101, 102], [117, 115, 101, 112, 97, 99, 107, 97, 103, 101]]
def wholeN : List (List Int) := [[97, 108, 105, 103, 110], [97, 108, 105, 103, 110, 42], [101, 113, 117, 97, 116, 105, 111, 110], [101, 113, 117, 97, 116, 105, 111, 110, 42], [108, 115, 116, 108, 105, 115, 116, 105, 110, 103], [118, 101, 114, 98, 97, 116, 105, 109]]
def shutT (env : List Int) : List Int := [92, 101, 110, 100, 123] ++ env ++ [125]
/-- An environment that is no prose: where it ends, its labels. -/
def envS (b env : List Int) (e : Nat) (L : List Int) : Nat × List Int :=
  match fnd (shutT env) (b.drop e) with
  | some i => (e + i + (shutT env).length, setL (setL L 2 ((e + i : Nat) : Int) ((e + i + (shutT env).length : Nat) : Int)) 4 (e : Int) ((e + i : Nat) : Int))
  | none => (b.length, setL L 4 (e : Int) (b.length : Int))
/-- A command whose arguments are no prose, its name read up to a place. -/
def argS (b nm : List Int) (k e g : Nat) (L : List Int) : Nat × List Int :=
  if nm = nBegin ∧ k + 2 < e ∧ b.getD k 0 = 123 ∧ (b.take (g - 1)).drop (k + 1) ∈ wholeN then envS b ((b.take (g - 1)).drop (k + 1)) e L else (e, L)
def namS (b nm : List Int) (k : Nat) (L : List Int) : Nat × List Int :=
  if nm = nVerb then verbS b k L
  else if nm ∈ bareN then argS b nm k (grps b k) ((grp b k).getD 0) (setL L 2 (k : Int) (grps b k : Int))
  else (k, L)
def cmd (b : List Int) (p : Nat) (L : List Int) : Nat × List Int :=
  if wrd b (p + 1) = p + 1 then sgn b p L
  else namS b ((b.take (wrd b (p + 1))).drop (p + 1)) (wrd b (p + 1)) (setL L 2 (p : Int) (wrd b (p + 1) : Int))
def isMk (c : Int) : Bool := c == 123 || (c == 125 || (c == 126 || (c == 38 || (c == 35 || (c == 94 || c == 95)))))
/-- One step of the reading of a text. -/
def step (b : List Int) (p : Nat) (L : List Int) : Nat × List Int :=
  if b.getD p 0 = 37 then (lineE b p, setL L 3 (p : Int) (lineE b p : Int))
  else if b.getD p 0 = 92 then cmd b p L
  else if b.getD p 0 = 36 then (mathE b p, setL L 4 (p : Int) (mathE b p : Int))
  else if isMk (b.getD p 0) then (p + 1, setL L 2 (p : Int) ((p + 1 : Nat) : Int))
  else (p + 1, L)
def lexN (b : List Int) : Nat → Nat → List Int → List Int
  | 0, _, L => L
  | n + 1, p, L => if p < b.length then lexN b n (step b p L).1 (step b p L).2 else L
def lexL (b : List Int) : List Int := lexN b b.length 0 (List.replicate b.length 1)

/-! ### Bounds -/
theorem fnd_nil (t : List Int) (h : t ≠ []) : fnd t [] = none := by
  cases t with
  | nil => exact absurd rfl h
  | cons x t => rfl
theorem fnd_le (t : List Int) (h : t ≠ []) : ∀ (l : List Int) (i : Nat), fnd t l = some i → i + t.length ≤ l.length := by
  intro l
  induction l with
  | nil => intro i hi; rw [fnd_nil t h] at hi; cases hi
  | cons x l ih =>
    intro i hi
    unfold fnd at hi
    split at hi
    · rename_i hp
      cases hi
      have := (List.isPrefixOf_iff_prefix.1 hp).length_le
      omega
    · cases hf : fnd t l with
      | none => rw [hf] at hi; cases hi
      | some j =>
        rw [hf] at hi
        cases hi
        have := ih j hf
        simp only [List.length_cons]
        omega
theorem untl_le (t b : List Int) (p : Nat) (h : t ≠ []) (hp : p ≤ b.length) : untl t b p ≤ b.length := by
  unfold untl
  split
  · rename_i i hi
    have := fnd_le t h _ i hi
    rw [List.length_drop] at this
    omega
  · exact Nat.le_refl _
theorem untl_ge (t b : List Int) (p : Nat) (hp : p ≤ b.length) : p ≤ untl t b p := by
  unfold untl
  split
  · omega
  · exact hp
theorem lineE_le (b : List Int) (p : Nat) (hp : p ≤ b.length) : p ≤ lineE b p ∧ lineE b p ≤ b.length := by
  unfold lineE
  simp only []
  split <;> omega
theorem lineE_lt (b : List Int) (p : Nat) (hp : p < b.length) : p < lineE b p := by
  unfold lineE
  simp only []
  split <;> omega
theorem mathN_le (b m : List Int) (hm : m ≠ []) : ∀ (n k : Nat), mathN b m n k ≤ b.length ∧ (k ≤ b.length → k ≤ mathN b m n k) := by
  intro n
  induction n with
  | zero => intro k; exact ⟨Nat.le_refl _, id⟩
  | succ n ih =>
    intro k
    unfold mathN
    split
    · rename_i hk
      split
      · have h2 := ih (k + 2)
        refine ⟨h2.1, fun _ => ?_⟩
        rcases Nat.lt_or_ge b.length (k + 2) with h | h
        · cases n with
          | zero => exact Nat.le_of_lt hk
          | succ n => unfold mathN; rw [if_neg (by omega)]; omega
        · have := h2.2 h; omega
      · split
        · rename_i hb
          unfold begs at hb
          have := (List.isPrefixOf_iff_prefix.1 hb).length_le
          rw [List.length_drop] at this
          omega
        · have h2 := ih (k + 1)
          exact ⟨h2.1, fun _ => by have := h2.2 (by omega); omega⟩
    · exact ⟨Nat.le_refl _, by omega⟩
theorem mathM_len (b : List Int) (p : Nat) : 1 ≤ (mathM b p).length ∧ (mathM b p).length ≤ 2 ∧ mathM b p ≠ [] ∧ (p < b.length → p + (mathM b p).length ≤ b.length) := by
  unfold mathM
  split
  · rename_i h
    have := (List.getElem?_eq_some_iff.1 h).1
    exact ⟨by simp, by simp, by simp, fun _ => by simp; omega⟩
  · exact ⟨by simp, by simp, by simp, fun h => by simp; omega⟩
theorem mathE_le (b : List Int) (p : Nat) (hp : p < b.length) : p < mathE b p ∧ mathE b p ≤ b.length := by
  obtain ⟨h1, h2, h3, h4⟩ := mathM_len b p
  unfold mathE
  have := mathN_le b (mathM b p) h3 b.length (p + (mathM b p).length)
  have := this.2 (h4 hp)
  omega
theorem wrdN_le (b : List Int) : ∀ (n k : Nat), k ≤ b.length → k ≤ wrdN b n k ∧ wrdN b n k ≤ b.length := by
  intro n
  induction n with
  | zero => intro k h; exact ⟨Nat.le_refl _, h⟩
  | succ n ih =>
    intro k h
    unfold wrdN
    split
    · rename_i hk
      have := ih (k + 1) hk.1
      omega
    · exact ⟨Nat.le_refl _, h⟩
theorem wrd_le (b : List Int) (k : Nat) (h : k ≤ b.length) : k ≤ wrd b k ∧ wrd b k ≤ b.length := wrdN_le b _ k h
theorem grpN_le (b : List Int) (o s : Int) : ∀ (n : Nat) (d : Int) (i g : Nat), grpN b o s n d i = some g → i < g ∧ g ≤ b.length := by
  intro n
  induction n with
  | zero => intro d i g h; simp [grpN] at h
  | succ n ih =>
    intro d i g h
    unfold grpN at h
    split at h
    · split at h
      · have := ih _ _ _ h; omega
      · split at h
        · split at h
          · cases h
          · have := ih _ _ _ h; omega
        · split at h
          · split at h
            · cases h; omega
            · have := ih _ _ _ h; omega
          · have := ih _ _ _ h; omega
    · cases h
theorem grpN_open (b : List Int) (o s : Int) (hos : o ≠ s) (ho : o ≠ 92) (n : Nat) (i g : Nat) (hi : b[i]? = some o) (h : grpN b o s n 0 i = some g) : i + 2 ≤ g := by
  cases n with
  | zero => simp [grpN] at h
  | succ n =>
    unfold grpN at h
    have h1 := (List.getElem?_eq_some_iff.1 hi).1
    have h2 : b.getD i 0 = o := by rw [List.getD_eq_getElem?_getD, hi]; rfl
    rw [if_pos h1, h2, if_neg ho, if_pos rfl, if_neg (by omega)] at h
    have := (grpN_le b o s _ _ _ _ h).1
    omega
theorem grp_le (b : List Int) (p g : Nat) (h : grp b p = some g) : p + 2 ≤ g ∧ g ≤ b.length ∧ p < b.length := by
  unfold grp at h
  split at h
  · rename_i h1
    exact ⟨grpN_open b _ _ (by omega) (by omega) _ _ _ h1 h, (grpN_le b _ _ _ _ _ _ h).2, (List.getElem?_eq_some_iff.1 h1).1⟩
  · split at h
    · rename_i h1
      exact ⟨grpN_open b _ _ (by omega) (by omega) _ _ _ h1 h, (grpN_le b _ _ _ _ _ _ h).2, (List.getElem?_eq_some_iff.1 h1).1⟩
    · cases h
theorem grpsN_le (b : List Int) : ∀ (n e : Nat), e ≤ b.length → e ≤ grpsN b n e ∧ grpsN b n e ≤ b.length := by
  intro n
  induction n with
  | zero => intro e h; exact ⟨Nat.le_refl _, h⟩
  | succ n ih =>
    intro e h
    unfold grpsN
    split
    · rename_i g hg
      have h1 := grp_le b e g hg
      have := ih g h1.2.1
      omega
    · exact ⟨Nat.le_refl _, h⟩
theorem grps_le (b : List Int) (e : Nat) (h : e ≤ b.length) : e ≤ grps b e ∧ grps b e ≤ b.length := grpsN_le b _ e h
theorem grps_none (b : List Int) (e : Nat) (h : grp b e = none) : grps b e = e := by
  unfold grps
  cases b.length with
  | zero => rfl
  | succ n => unfold grpsN; rw [h]
/-- Where a group ends that is not empty of groups. -/
theorem grps_some (b : List Int) (e : Nat) (h : e < grps b e) : ∃ g, grp b e = some g := by
  cases hg : grp b e with
  | some g => exact ⟨g, rfl⟩
  | none => rw [grps_none b e hg] at h; omega
theorem w2_le (r : List Int) : w2 r ≤ r.length + 1 ∧ 1 ≤ w2 r ∧ w2 r ≤ 4 := by
  rcases r with _ | ⟨x, r⟩
  · exact ⟨by simp [w2], by simp [w2], by simp [w2]⟩
  · have e : w2 (x :: r) = if tailB x = true then 2 else 1 := rfl
    rw [e]
    simp only [List.length_cons]
    split <;> exact ⟨by omega, by omega, by omega⟩
theorem w3_le (c : Int) (r : List Int) : w3 c r ≤ r.length + 1 ∧ 1 ≤ w3 c r ∧ w3 c r ≤ 4 := by
  rcases r with _ | ⟨x, _ | ⟨y, r⟩⟩
  · exact ⟨by simp [w3], by simp [w3], by simp [w3]⟩
  · exact ⟨by simp [w3], by simp [w3], by simp [w3]⟩
  · have e : w3 c (x :: y :: r) = if tailB x = true ∧ tailB y = true ∧ 2048 ≤ r3 c x y ∧ (r3 c x y < 55296 ∨ 57344 ≤ r3 c x y) then 3 else 1 := rfl
    rw [e]
    simp only [List.length_cons]
    split <;> exact ⟨by omega, by omega, by omega⟩
theorem w4_le (c : Int) (r : List Int) : w4 c r ≤ r.length + 1 ∧ 1 ≤ w4 c r ∧ w4 c r ≤ 4 := by
  rcases r with _ | ⟨x, _ | ⟨y, _ | ⟨z, r⟩⟩⟩
  · exact ⟨by simp [w4], by simp [w4], by simp [w4]⟩
  · exact ⟨by simp [w4], by simp [w4], by simp [w4]⟩
  · exact ⟨by simp [w4], by simp [w4], by simp [w4]⟩
  · have e : w4 c (x :: y :: z :: r) = if tailB x = true ∧ tailB y = true ∧ tailB z = true ∧ 65536 ≤ r4 c x y z ∧ r4 c x y z ≤ 1114111 then 4 else 1 := rfl
    rw [e]
    simp only [List.length_cons]
    split <;> exact ⟨by omega, by omega, by omega⟩
theorem wid_cons (c : Int) (r : List Int) : wid (c :: r) = if c < 128 then 1 else if 194 ≤ c ∧ c < 224 then w2 r else if 224 ≤ c ∧ c < 240 then w3 c r else if 240 ≤ c ∧ c < 245 then w4 c r else 1 := rfl
theorem wid_le (l : List Int) : wid l ≤ l.length ∧ (l ≠ [] → 1 ≤ wid l) ∧ wid l ≤ 4 := by
  rcases l with _ | ⟨c, r⟩
  · exact ⟨Nat.le_refl _, fun h => absurd rfl h, by decide⟩
  have h2 := w2_le r
  have h3 := w3_le c r
  have h4 := w4_le c r
  rw [List.length_cons, wid_cons]
  by_cases a1 : c < 128
  · rw [if_pos a1]; exact ⟨by omega, fun _ => Nat.le_refl _, by omega⟩
  rw [if_neg a1]
  by_cases a2 : 194 ≤ c ∧ c < 224
  · rw [if_pos a2]; exact ⟨h2.1, fun _ => h2.2.1, h2.2.2⟩
  rw [if_neg a2]
  by_cases a3 : 224 ≤ c ∧ c < 240
  · rw [if_pos a3]; exact ⟨h3.1, fun _ => h3.2.1, h3.2.2⟩
  rw [if_neg a3]
  by_cases a4 : 240 ≤ c ∧ c < 245
  · rw [if_pos a4]; exact ⟨h4.1, fun _ => h4.2.1, h4.2.2⟩
  rw [if_neg a4]
  exact ⟨by omega, fun _ => Nat.le_refl _, by omega⟩
theorem sgn_ok (b : List Int) (p : Nat) (L : List Int) (hp : p < b.length) (hL : L.length = b.length) : p < (sgn b p L).1 ∧ (sgn b p L).1 ≤ b.length ∧ (sgn b p L).2.length = b.length := by
  unfold sgn
  split
  · exact ⟨by simp, by simp; omega, by simp only []; rw [setL_length]; exact hL⟩
  · split
    · have h1 := untl_le [92, 41] b (p + 2) (by simp) (by omega)
      have h2 := untl_ge [92, 41] b (p + 2) (by omega)
      exact ⟨by simp only []; omega, h1, by simp only []; rw [setL_length]; exact hL⟩
    · split
      · have h1 := untl_le [92, 93] b (p + 2) (by simp) (by omega)
        have h2 := untl_ge [92, 93] b (p + 2) (by omega)
        exact ⟨by simp only []; omega, h1, by simp only []; rw [setL_length]; exact hL⟩
      · have h := (wid_le (b.drop (p + 1))).1
        rw [List.length_drop] at h
        exact ⟨by simp only []; omega, by simp only []; omega, by simp only []; rw [setL_length]; exact hL⟩
theorem verbE_le (b : List Int) (p : Nat) (hp : p < b.length) : p < verbE b p ∧ verbE b p ≤ b.length := by
  have h1 := lineE_lt b p hp
  have h2 := lineE_le b p (by omega)
  unfold verbE
  simp only []
  split <;> omega
theorem verbB_ok (b : List Int) (p : Nat) (L : List Int) (hp : p ≤ b.length) (hL : L.length = b.length) : p ≤ (verbB b p L).1 ∧ (verbB b p L).1 ≤ b.length ∧ (verbB b p L).2.length = b.length := by
  unfold verbB
  split
  · exact ⟨Nat.le_refl _, hp, hL⟩
  · rename_i h
    have := verbE_le b p (by omega)
    exact ⟨by simp only []; omega, this.2, by simp only []; rw [setL_length]; exact hL⟩
theorem verbS_ok (b : List Int) (p : Nat) (L : List Int) (hp : p ≤ b.length) (hL : L.length = b.length) : p ≤ (verbS b p L).1 ∧ (verbS b p L).1 ≤ b.length ∧ (verbS b p L).2.length = b.length := by
  unfold verbS
  split
  · rename_i h
    have h1 := (List.getElem?_eq_some_iff.1 h).1
    have := verbB_ok b (p + 1) (setL L 2 (p : Int) ((p + 1 : Nat) : Int)) h1 (by rw [setL_length]; exact hL)
    exact ⟨by omega, this.2⟩
  · exact verbB_ok b p L hp hL
theorem shutT_ne (env : List Int) : shutT env ≠ [] := by unfold shutT; simp
theorem envS_ok (b env : List Int) (e : Nat) (L : List Int) (he : e ≤ b.length) (hL : L.length = b.length) : e ≤ (envS b env e L).1 ∧ (envS b env e L).1 ≤ b.length ∧ (envS b env e L).2.length = b.length := by
  unfold envS
  split
  · rename_i i hi
    have := fnd_le _ (shutT_ne env) _ i hi
    rw [List.length_drop] at this
    exact ⟨by simp only []; omega, by simp only []; omega, by simp only []; rw [setL_length, setL_length]; exact hL⟩
  · exact ⟨he, Nat.le_refl _, by simp only []; rw [setL_length]; exact hL⟩
theorem argS_ok (b nm : List Int) (k e g : Nat) (L : List Int) (he : e ≤ b.length) (hL : L.length = b.length) : e ≤ (argS b nm k e g L).1 ∧ (argS b nm k e g L).1 ≤ b.length ∧ (argS b nm k e g L).2.length = b.length := by
  unfold argS
  split
  · exact envS_ok b _ e L he hL
  · exact ⟨Nat.le_refl _, he, hL⟩
theorem namS_ok (b nm : List Int) (k : Nat) (L : List Int) (hk : k ≤ b.length) (hL : L.length = b.length) : k ≤ (namS b nm k L).1 ∧ (namS b nm k L).1 ≤ b.length ∧ (namS b nm k L).2.length = b.length := by
  unfold namS
  split
  · exact verbS_ok b k L hk hL
  · split
    · have h := grps_le b k hk
      have := argS_ok b nm k (grps b k) ((grp b k).getD 0) (setL L 2 (k : Int) (grps b k : Int)) h.2 (by rw [setL_length]; exact hL)
      exact ⟨by omega, this.2⟩
    · exact ⟨Nat.le_refl _, hk, hL⟩
theorem cmd_ok (b : List Int) (p : Nat) (L : List Int) (hp : p < b.length) (hL : L.length = b.length) : p < (cmd b p L).1 ∧ (cmd b p L).1 ≤ b.length ∧ (cmd b p L).2.length = b.length := by
  unfold cmd
  split
  · exact sgn_ok b p L hp hL
  · have h := wrd_le b (p + 1) hp
    have := namS_ok b ((b.take (wrd b (p + 1))).drop (p + 1)) (wrd b (p + 1)) (setL L 2 (p : Int) (wrd b (p + 1) : Int)) h.2 (by rw [setL_length]; exact hL)
    exact ⟨by omega, this.2⟩
theorem step_ok (b : List Int) (p : Nat) (L : List Int) (hp : p < b.length) (hL : L.length = b.length) : p < (step b p L).1 ∧ (step b p L).1 ≤ b.length ∧ (step b p L).2.length = b.length := by
  unfold step
  split
  · exact ⟨lineE_lt b p hp, (lineE_le b p (by omega)).2, by simp only []; rw [setL_length]; exact hL⟩
  · split
    · exact cmd_ok b p L hp hL
    · split
      · have := mathE_le b p hp
        exact ⟨this.1, this.2, by simp only []; rw [setL_length]; exact hL⟩
      · split
        · exact ⟨by simp, by simp; omega, by simp only []; rw [setL_length]; exact hL⟩
        · exact ⟨by simp, by simp; omega, hL⟩
theorem lexN_step (b : List Int) (m p : Nat) (L : List Int) (h : lexN b (m + 1) p L = lexL b) (hp : p < b.length) : lexN b m (step b p L).1 (step b p L).2 = lexL b := by
  rw [← h]
  conv => rhs; unfold lexN
  rw [if_pos hp]
theorem lexN_end (b : List Int) (m : Nat) (L : List Int) (h : lexN b m b.length L = lexL b) : L = lexL b := by
  rw [← h]
  cases m with
  | zero => rfl
  | succ m => unfold lexN; rw [if_neg (by omega)]
end Go.Proofs.YtkicpaodcmepmaaDoor.Tex
