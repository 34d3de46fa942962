/- What the bytes of a program are, in plain lists: a family's marks, the labels of what stands at a place, and of a whole text. Conditions: none. -/
set_option linter.unusedVariables false
set_option linter.unusedSimpArgs false
set_option linter.unusedSectionVars false
namespace Go.Proofs.Ytjbbogcoabgcnaa.Src

/-- A kind of strings. -/
structure Tx where
  mark : List Int
  escape : Bool
  twice : Bool
  long : Bool
  what : Int
/-- A kind of programs. -/
structure Fam where
  line : List (List Int)
  opn : List Int
  shut : List Int
  nest : Bool
  apart : Bool
  texts : List Tx

/-- Does a mark stand at the beginning? -/
def beg (m s : List Int) : Bool := !m.isEmpty && m.isPrefixOf s

/-- A string's labels, behind its mark. -/
def txt (t : Tx) : Nat → List Int → List Int
  | 0, _ => []
  | _ + 1, [] => []
  | n + 1, c :: r =>
    if c = 10 ∧ t.long = false then []
    else if t.escape = true ∧ c = 92 ∧ r ≠ [] ∧ (t.long = true ∨ r.head? ≠ some 10) then t.what :: t.what :: txt t n (r.drop 1)
    else if t.twice = true ∧ beg (t.mark ++ t.mark) (c :: r) = true then List.replicate (2 * t.mark.length) t.what ++ txt t n (r.drop (2 * t.mark.length - 1))
    else if beg t.mark (c :: r) = true then List.replicate t.mark.length 4
    else t.what :: txt t n r

/-- A remark's labels, between marks. -/
def blk (F : Fam) : Nat → Nat → List Int → List Int
  | 0, _, _ => []
  | _ + 1, _, [] => []
  | n + 1, deep, c :: r =>
    if beg F.opn (c :: r) = true ∧ (deep = 0 ∨ F.nest = true) then
      (if 32 < deep + 1 then List.replicate (r.length + 1) 6 else List.replicate F.opn.length 3 ++ blk F n (deep + 1) (r.drop (F.opn.length - 1)))
    else if beg F.shut (c :: r) = true then
      List.replicate F.shut.length 3 ++ (if deep - 1 = 0 then [] else blk F n (deep - 1) (r.drop (F.shut.length - 1)))
    else 1 :: blk F n deep r

/-- A blank, or a semicolon, ahead of a remark. -/
def gap (p : Int) : Bool := p == -1 || p == 32 || p == 9 || p == 13 || p == 10 || p == 59

/-- What stands at a place: its labels (p: the byte ahead; -1: there is none). -/
def stp (F : Fam) (p : Int) (s : List Int) : List Int :=
  match F.line.find? (fun m => beg m s && (!F.apart || gap p)) with
  | some m => List.replicate m.length 3 ++ List.replicate ((s.drop m.length).findIdx (· == 10)) 1
  | none =>
    if beg F.opn s = true then blk F s.length 0 s
    else match F.texts.find? (fun t => beg t.mark s) with
      | some t => List.replicate t.mark.length 4 ++ txt t s.length (s.drop t.mark.length)
      | none => [4]

/-- A text's labels. -/
def lexF (F : Fam) (p : Int) : List Int → List Int
  | [] => []
  | c :: r => stp F p (c :: r) ++ lexF F ((c :: r).getD ((stp F p (c :: r)).length - 1) 0) (r.drop ((stp F p (c :: r)).length - 1))
termination_by s => s.length

/-! ### the families -/
def dq : Tx := ⟨[34], true, false, false, 5⟩
def sq : Tx := ⟨[39], true, false, false, 5⟩
def famC : Fam := ⟨[[47, 47]], [47, 42], [42, 47], false, false, [dq, sq]⟩
def famG : Fam := ⟨[[47, 47]], [47, 42], [42, 47], false, false, [dq, sq, ⟨[96], false, false, true, 7⟩]⟩
def famP : Fam := ⟨[[35]], [], [], false, false, [⟨[34, 34, 34], true, false, true, 5⟩, ⟨[39, 39, 39], true, false, true, 5⟩, dq, sq]⟩
def famS : Fam := ⟨[[35]], [], [], false, true, [⟨[34], true, false, true, 5⟩, ⟨[39], false, false, true, 7⟩]⟩
def famQ : Fam := ⟨[[45, 45]], [47, 42], [42, 47], true, false, [⟨[39], false, true, true, 5⟩, ⟨[34], false, true, true, 7⟩]⟩
def famOf (f : Int) : Option Fam :=
  if f = 4 then some famC else if f = 5 then some famG else if f = 6 then some famP else if f = 7 then some famS else if f = 8 then some famQ else none

theorem beg_nil (m : List Int) : beg m [] = false := by cases m <;> rfl
theorem beg_nil' (s : List Int) : beg [] s = false := rfl
theorem beg_cons (x : Int) (m : List Int) (c : Int) (r : List Int) : beg (x :: m) (c :: r) = (x == c && m.isPrefixOf r) := rfl
theorem beg_iff (m s : List Int) : beg m s = true ↔ m ≠ [] ∧ m <+: s := by
  unfold beg
  rw [Bool.and_eq_true, List.isPrefixOf_iff_prefix]
  cases m <;> simp
theorem beg_append (m s : List Int) (h : m ≠ []) : beg m (m ++ s) = true := (beg_iff _ _).2 ⟨h, List.prefix_append _ _⟩
theorem beg_length {m s : List Int} (h : beg m s = true) : m.length ≤ s.length ∧ 0 < m.length := by
  rw [beg_iff] at h
  exact ⟨h.2.length_le, List.length_pos_iff.2 h.1⟩
theorem beg_split {m s : List Int} (h : beg m s = true) : s = m ++ s.drop m.length := by
  rw [beg_iff] at h
  obtain ⟨r, rfl⟩ := h.2
  simp

theorem txt_le (t : Tx) : ∀ (n : Nat) (s : List Int), (txt t n s).length ≤ s.length := by
  intro n
  induction n with
  | zero => intro s; simp [txt]
  | succ n ih =>
    intro s
    cases s with
    | nil => simp [txt]
    | cons c r =>
      rw [txt]
      split
      · simp
      · split
        · rename_i h
          have h1 := ih (r.drop 1)
          have h2 : 0 < r.length := List.length_pos_iff.2 h.2.2.1
          simp only [List.length_cons, List.length_drop] at *
          omega
        · split
          · rename_i h
            have h1 := ih (r.drop (2 * t.mark.length - 1))
            have h2 := beg_length h.2
            simp only [List.length_cons, List.length_append, List.length_drop, List.length_replicate] at *
            omega
          · split
            · rename_i h
              have h2 := beg_length h
              simpa using h2.1
            · have := ih r
              simp only [List.length_cons]
              omega
theorem blk_le (F : Fam) : ∀ (n d : Nat) (s : List Int), (blk F n d s).length ≤ s.length := by
  intro n
  induction n with
  | zero => intro d s; simp [blk]
  | succ n ih =>
    intro d s
    cases s with
    | nil => simp [blk]
    | cons c r =>
      rw [blk]
      split
      · rename_i h
        have h2 := beg_length h.1
        split
        · simp
        · have h1 := ih (d + 1) (r.drop (F.opn.length - 1))
          simp only [List.length_cons, List.length_append, List.length_drop, List.length_replicate] at *
          omega
      · split
        · rename_i h
          have h2 := beg_length h
          split
          · simpa using h2.1
          · have h1 := ih (d - 1) (r.drop (F.shut.length - 1))
            simp only [List.length_cons, List.length_append, List.length_drop, List.length_replicate] at *
            omega
        · have := ih d r
          simp only [List.length_cons]
          omega
theorem stp_le (F : Fam) (p : Int) (c : Int) (r : List Int) : (stp F p (c :: r)).length ≤ r.length + 1 := by
  unfold stp
  split
  · rename_i m h
    have h1 := List.find?_some h
    simp only [Bool.and_eq_true] at h1
    have h2 := beg_length h1.1
    have h3 := List.findIdx_le_length (p := fun x : Int => x == 10) (xs := (c :: r).drop m.length)
    simp only [List.length_cons, List.length_append, List.length_drop, List.length_replicate] at *
    omega
  · split
    · have := blk_le F (c :: r).length 0 (c :: r)
      simpa using this
    · split
      · rename_i t h
        have h1 := List.find?_some h
        have h2 := beg_length h1
        have h3 := txt_le t (c :: r).length ((c :: r).drop t.mark.length)
        simp only [List.length_cons, List.length_append, List.length_drop, List.length_replicate] at *
        omega
      · simp
theorem stp_pos (F : Fam) (p : Int) (c : Int) (r : List Int) : 1 ≤ (stp F p (c :: r)).length := by
  unfold stp
  split
  · rename_i m h
    have h1 := List.find?_some h
    simp only [Bool.and_eq_true] at h1
    have h2 := beg_length h1.1
    simp only [List.length_append, List.length_replicate]
    omega
  · split
    · rename_i h
      rw [List.length_cons, blk, if_pos ⟨h, .inl rfl⟩, if_neg (by omega)]
      have h2 := beg_length h
      simp only [List.length_append, List.length_replicate]
      omega
    · split
      · rename_i t h
        have h1 := List.find?_some h
        have h2 := beg_length h1
        simp only [List.length_append, List.length_replicate]
        omega
      · simp
theorem lexF_cons (F : Fam) (p c : Int) (r : List Int) : lexF F p (c :: r) = stp F p (c :: r) ++ lexF F ((c :: r).getD ((stp F p (c :: r)).length - 1) 0) ((c :: r).drop (stp F p (c :: r)).length) := by
  rw [lexF]
  have h := stp_pos F p c r
  obtain ⟨n, hn⟩ : ∃ n, (stp F p (c :: r)).length = n + 1 := ⟨_, (Nat.sub_add_cancel h).symm⟩
  rw [hn]
  rfl
theorem lexF_length (F : Fam) : ∀ (n : Nat) (p : Int) (s : List Int), s.length ≤ n → (lexF F p s).length = s.length := by
  intro n
  induction n with
  | zero =>
    intro p s h
    cases s with
    | nil => simp [lexF]
    | cons c r => simp at h
  | succ n ih =>
    intro p s h
    cases s with
    | nil => simp [lexF]
    | cons c r =>
      have h1 := stp_le F p c r
      have h2 := stp_pos F p c r
      rw [lexF_cons, List.length_append, ih _ _ (by simp only [List.length_drop, List.length_cons] at *; omega)]
      simp only [List.length_drop, List.length_cons]
      omega
theorem lexF_len (F : Fam) (p : Int) (s : List Int) : (lexF F p s).length = s.length := lexF_length F _ p s (Nat.le_refl _)

end Go.Proofs.Ytjbbogcoabgcnaa.Src
