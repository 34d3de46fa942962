/- What the bytes of HTML are, in plain lists: where a text is found, closing tags, the labels of a whole text. Conditions: none. -/
import Derived.Test.YtcbibbdkjhkmoaaHtmPlain
import Derived.Test.YtcbibbdkjhkmoaaLCore
set_option linter.unusedVariables false
set_option linter.unusedSimpArgs false
namespace Go.Proofs.Ytcbibbdkjhkmoaa.Htm
open Go.Proofs.Ytcbibbdkjhkmoaa.L

/-- Where a text is found first. -/
def fnd (t : List Int) : List Int → Option Nat
  | [] => if t.isPrefixOf [] then some 0 else none
  | x :: l => if t.isPrefixOf (x :: l) then some 0 else (fnd t l).map (· + 1)
/-- Behind the next such text; the end of all, if there is none. -/
def untl (t b : List Int) (p : Nat) : Nat := match fnd t (b.drop p) with | some i => p + i + t.length | none => b.length
/-- May a tag's name end at a place? -/
def endB (b : List Int) (k : Nat) : Bool := match b[k]? with | none => true | some c => gapB c || c == 62
/-- Does a name's closing tag begin at a place? -/
def isShut (b nm : List Int) (i : Nat) : Bool :=
  b[i]? == some 60 && decide (i + 2 + nm.length ≤ b.length) && b[i + 1]? == some 47 && ((b.drop (i + 2)).take nm.length).map sm == nm && endB b (i + 2 + nm.length)
/-- Where a name's closing tag begins. -/
def shutN (b nm : List Int) : Nat → Nat → Nat
  | 0, _ => b.length
  | n + 1, i => if i < b.length then (if isShut b nm i then i else shutN b nm n (i + 1)) else b.length
def shutP (b nm : List Int) (i : Nat) : Nat := shutN b nm (b.length - i) i
def begs (b : List Int) (p : Nat) (t : List Int) : Bool := t.isPrefixOf (b.drop p)
/-- A tag's labels. -/
def spans (S : List (Nat × Nat)) (L : List Int) : List Int := S.foldl (fun L s => setL L 1 (s.1 : Int) ((s.1 : Int) + (s.2 : Int))) L
def tagL (p : Nat) (t : Tg) (L : List Int) : List Int := spans t.prose (setL L 2 (p : Int) (t.fin : Int))
def nScript : List Int := [115, 99, 114, 105, 112, 116]
def nStyle : List Int := [115, 116, 121, 108, 101]
def nArea : List Int := [116, 101, 120, 116, 97, 114, 101, 97]
def nTitle : List Int := [116, 105, 116, 108, 101]
/-- Behind a tag: where it goes on, and the labels. -/
def past (b : List Int) (p : Nat) (t : Tg) (L : List Int) : Nat × List Int :=
  if t.closes then (t.fin, tagL p t L)
  else if t.name = nScript ∨ t.name = nStyle then (shutP b t.name t.fin, setL (tagL p t L) 4 (t.fin : Int) (shutP b t.name t.fin : Int))
  else if t.name = nArea ∨ t.name = nTitle then (shutP b t.name t.fin, tagL p t L)
  else (t.fin, tagL p t L)
/-- One step of the reading of a text. -/
def step (b : List Int) (p : Nat) (L : List Int) : Nat × List Int :=
  if b[p]? ≠ some 60 then (p + 1, L)
  else if begs b p [60, 33, 45, 45] then (untl [45, 45, 62] b (p + 4), setL L 3 (p : Int) (untl [45, 45, 62] b (p + 4) : Int))
  else if begs b p [60, 33, 91, 67, 68, 65, 84, 65, 91] then (untl [93, 93, 62] b (p + 9), setL L 6 (p : Int) (untl [93, 93, 62] b (p + 9) : Int))
  else if begs b p [60, 33] || begs b p [60, 63] then (untl [62] b (p + 2), setL L 2 (p : Int) (untl [62] b (p + 2) : Int))
  else match read b p with
    | some t => past b p t L
    | none => if isLetter b (opens b p) then (b.length, setL L 2 (p : Int) (b.length : Int)) else (p + 1, L)
def lexN (b : List Int) : Nat → Nat → List Int → List Int
  | 0, _, L => L
  | n + 1, p, L => if p < b.length then lexN b n (step b p L).1 (step b p L).2 else L
def lexL (b : List Int) : List Int := lexN b b.length 0 (List.replicate b.length 1)

theorem fnd_nil (t : List Int) (h : t ≠ []) : fnd t [] = none := by
  cases t with
  | nil => exact absurd rfl h
  | cons x t => rfl
theorem fnd_le (t : List Int) (h : t ≠ []) : ∀ (l : List Int) (i : Nat), fnd t l = some i → i + t.length ≤ l.length := by
  intro l
  induction l with
  | nil => intro i hi; rw [fnd_nil t h] at hi; cases hi
  | cons x l ih =>
    intro i hi
    unfold fnd at hi
    split at hi
    · rename_i hp
      cases hi
      have := (List.isPrefixOf_iff_prefix.1 hp).length_le
      omega
    · cases hf : fnd t l with
      | none => rw [hf] at hi; cases hi
      | some j =>
        rw [hf] at hi
        cases hi
        have := ih j hf
        simp only [List.length_cons]
        omega
theorem untl_le (t b : List Int) (p : Nat) (h : t ≠ []) (hp : p ≤ b.length) : untl t b p ≤ b.length := by
  unfold untl
  split
  · rename_i i hi
    have := fnd_le t h _ i hi
    rw [List.length_drop] at this
    omega
  · exact Nat.le_refl _
theorem untl_ge (t b : List Int) (p : Nat) (hp : p ≤ b.length) : p ≤ untl t b p := by
  unfold untl
  split
  · omega
  · exact hp
theorem shutN_le (b nm : List Int) : ∀ (n i : Nat), i ≤ b.length → i ≤ shutN b nm n i ∧ shutN b nm n i ≤ b.length := by
  intro n
  induction n with
  | zero => intro i h; exact ⟨h, Nat.le_refl _⟩
  | succ n ih =>
    intro i h
    unfold shutN
    split
    · split
      · omega
      · have := ih (i + 1) (by omega)
        omega
    · omega
theorem shutP_le (b nm : List Int) (i : Nat) (h : i ≤ b.length) : i ≤ shutP b nm i ∧ shutP b nm i ≤ b.length := shutN_le b nm _ i h
theorem shutP_yes (b nm : List Int) (i : Nat) (h : isShut b nm i = true) (hi : i < b.length) : shutP b nm i = i := by
  unfold shutP
  obtain ⟨n, hn⟩ : ∃ n, b.length - i = n + 1 := ⟨b.length - i - 1, by omega⟩
  rw [hn]
  unfold shutN
  rw [if_pos hi, if_pos h]
theorem shutP_no (b nm : List Int) (i : Nat) (h : isShut b nm i = false) (hi : i < b.length) : shutP b nm i = shutP b nm (i + 1) := by
  unfold shutP
  obtain ⟨n, hn⟩ : ∃ n, b.length - i = n + 1 := ⟨b.length - i - 1, by omega⟩
  rw [hn, show b.length - (i + 1) = n by omega]
  conv => lhs; unfold shutN
  rw [if_pos hi, if_neg (by rw [h]; simp)]
theorem shutP_end (b nm : List Int) : shutP b nm b.length = b.length := by
  unfold shutP
  rw [Nat.sub_self]
  rfl
theorem spans_length (S : List (Nat × Nat)) : ∀ L : List Int, (spans S L).length = L.length := by
  induction S with
  | nil => intro L; rfl
  | cons s S ih => intro L; show (spans S _).length = _; rw [ih, setL_length]
theorem tagL_length (p : Nat) (t : Tg) (L : List Int) : (tagL p t L).length = L.length := by
  unfold tagL
  rw [spans_length, setL_length]
end Go.Proofs.Ytcbibbdkjhkmoaa.Htm
