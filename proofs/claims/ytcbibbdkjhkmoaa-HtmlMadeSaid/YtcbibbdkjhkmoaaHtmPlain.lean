/- What the bytes of HTML are, in plain lists: tags, their attributes, the labels of a whole text. Conditions: none. -/
set_option linter.unusedVariables false
set_option linter.unusedSimpArgs false
namespace Go.Proofs.Ytcbibbdkjhkmoaa.Htm

def letterB (c : Int) : Bool := decide (97 ≤ c ∧ c ≤ 122) || decide (65 ≤ c ∧ c ≤ 90)
def blankB (c : Int) : Bool := c == 32 || c == 9 || c == 10 || c == 13 || c == 12
def nameB (c : Int) : Bool := letterB c || decide (48 ≤ c ∧ c ≤ 57) || c == 45
def gapB (c : Int) : Bool := blankB c || c == 47
def keyB (c : Int) : Bool := !blankB c && c != 47 && c != 62 && c != 61
def bareB (c : Int) : Bool := !blankB c && c != 62
/-- A to Z as a to z. -/
def sm (c : Int) : Int := if 65 ≤ c ∧ c ≤ 90 then c + 32 else c
/-- The first place, from one on, at which a byte isn't so. -/
def whl (P : Int → Bool) (b : List Int) (p : Nat) : Nat := p + ((b.drop p).takeWhile P).length
structure Tg where
  fin : Nat
  name : List Int
  closes : Bool
  prose : List (Nat × Nat)
/-- An attribute: where it ends; its value's span, if that is prose. -/
def attr (b : List Int) (p : Nat) : Nat × Option (Nat × Nat) :=
  let p1 := whl keyB b (p + 1)
  let key := ((b.drop p).take (p1 - p)).map sm
  let p2 := whl blankB b p1
  if b[p2]? = some 61 then
    let p3 := whl blankB b (p2 + 1)
    if b[p3]? = some 34 ∨ b[p3]? = some 39 then
      let p5 := whl (fun c => c != b.getD p3 0) b (p3 + 1)
      (if p5 < b.length then p5 + 1 else p5, if (key = [97, 108, 116] ∨ key = [116, 105, 116, 108, 101]) ∧ p3 + 1 < p5 then some (p3 + 1, p5 - (p3 + 1)) else none)
    else (whl bareB b p3, none)
  else (p2, none)
/-- The attributes of a tag: where it ends, and the spans that are prose. -/
def attrs (b : List Int) : Nat → Nat → List (Nat × Nat) → Option (Nat × List (Nat × Nat))
  | 0, _, _ => none
  | n + 1, p, acc =>
    let q := whl gapB b p
    if b[q]? = none then none
    else if b[q]? = some 62 then some (q + 1, acc)
    else attrs b n (attr b q).1 (acc ++ (attr b q).2.toList)
def opens (b : List Int) (p : Nat) : Nat := if b[p + 1]? = some 47 then p + 2 else p + 1
def isLetter (b : List Int) (p : Nat) : Bool := (b[p]?.map letterB).getD false
/-- The tag at a place. -/
def read (b : List Int) (p : Nat) : Option Tg :=
  if b[p]? = some 60 ∧ isLetter b (opens b p) = true then
    (attrs b (b.length + 1) (whl nameB b (opens b p)) []).map fun r =>
      ⟨r.1, ((b.drop (opens b p)).take (whl nameB b (opens b p) - opens b p)).map sm, decide (b[p + 1]? = some 47), r.2⟩
  else none

theorem whl_ge (P : Int → Bool) (b : List Int) (p : Nat) : p ≤ whl P b p := Nat.le_add_right _ _
theorem whl_le (P : Int → Bool) (b : List Int) (p : Nat) (h : p ≤ b.length) : whl P b p ≤ b.length := by
  unfold whl
  have := (List.takeWhile_sublist P (l := b.drop p)).length_le
  rw [List.length_drop] at this
  omega
theorem drop_at (b : List Int) (p : Nat) (h : p < b.length) : b.drop p = b.getD p 0 :: b.drop (p + 1) := by
  rw [List.drop_eq_getElem_cons h, List.getD_eq_getElem?_getD, List.getElem?_eq_getElem h]
  rfl
theorem whl_end (P : Int → Bool) (b : List Int) : whl P b b.length = b.length := by
  unfold whl
  rw [List.drop_length]
  rfl
theorem whl_yes (P : Int → Bool) (b : List Int) (p : Nat) (h : p < b.length) (hP : P (b.getD p 0) = true) : whl P b p = whl P b (p + 1) := by
  unfold whl
  rw [drop_at b p h, List.takeWhile_cons, if_pos hP, List.length_cons]
  omega
theorem whl_no (P : Int → Bool) (b : List Int) (p : Nat) (h : p < b.length) (hP : P (b.getD p 0) = false) : whl P b p = p := by
  unfold whl
  rw [drop_at b p h, List.takeWhile_cons, if_neg (by rw [hP]; simp)]
  rfl
theorem whl_stop (P : Int → Bool) (b : List Int) : ∀ (d p : Nat), b.length - p = d → p ≤ b.length → whl P b p < b.length → P (b.getD (whl P b p) 0) = false := by
  intro d
  induction d with
  | zero =>
    intro p hd hp h
    have : p = b.length := by omega
    subst this
    rw [whl_end] at h
    omega
  | succ d ih =>
    intro p hd hp h
    have hlt : p < b.length := by omega
    cases hP : P (b.getD p 0) with
    | true =>
      rw [whl_yes P b p hlt hP] at h ⊢
      exact ih (p + 1) (by omega) hlt h
    | false =>
      rw [whl_no P b p hlt hP]
      exact hP
end Go.Proofs.Ytcbibbdkjhkmoaa.Htm
