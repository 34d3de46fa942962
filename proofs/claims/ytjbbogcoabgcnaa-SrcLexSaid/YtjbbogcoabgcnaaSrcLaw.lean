/- What the laws' texts of programs come to, in plain lists. Conditions: as each lemma says. -/
import Derived.Test.YtjbbogcoabgcnaaSrcPlain
set_option linter.unusedVariables false
set_option linter.unusedSimpArgs false
set_option linter.unusedSectionVars false
namespace Go.Proofs.Ytjbbogcoabgcnaa.Src
/-! ### plain bytes -/
def firsts (F : Fam) : List (Option Int) := F.line.map List.head? ++ [F.opn.head?] ++ F.texts.map fun t => t.mark.head?
theorem beg_head {m : List Int} {c : Int} {r : List Int} (h : m.head? ≠ some c) : beg m (c :: r) = false := by
  cases m with
  | nil => rfl
  | cons x m =>
    rw [beg_cons]
    have : x ≠ c := fun e => h (by rw [e]; rfl)
    simp [this]
theorem stp_plain {F : Fam} {p c : Int} {r : List Int} (h : some c ∉ firsts F) : stp F p (c :: r) = [4] := by
  unfold firsts at h
  simp only [List.mem_append, List.mem_map, List.mem_singleton, not_or, not_exists, not_and] at h
  obtain ⟨⟨h1, h2⟩, h3⟩ := h
  unfold stp
  have e1 : F.line.find? (fun m => beg m (c :: r) && (!F.apart || gap p)) = none := by
    rw [List.find?_eq_none]
    intro m hm
    rw [beg_head (h1 m hm)]
    simp
  have e2 : F.texts.find? (fun t => beg t.mark (c :: r)) = none := by
    rw [List.find?_eq_none]
    intro t ht
    rw [beg_head (h3 t ht)]
    simp
  rw [e1, beg_head (fun e => h2 e.symm)]
  simp only [Bool.false_eq_true, if_false]
  rw [e2]
theorem lexF_one {F : Fam} {p c : Int} {r : List Int} (h : stp F p (c :: r) = [4]) : lexF F p (c :: r) = 4 :: lexF F c r := by
  rw [lexF_cons, h]
  rfl
/-- Bytes that begin nothing are code. -/
theorem lexF_plain (F : Fam) (a : List Int) (h : ∀ c ∈ a, some c ∉ firsts F) : ∀ (p : Int) (r : List Int), lexF F p (a ++ r) = List.replicate a.length 4 ++ lexF F (a.getLastD p) r := by
  induction a with
  | nil => intro p r; rfl
  | cons c a ih =>
    intro p r
    rw [List.cons_append, lexF_one (stp_plain (h c (by simp))), ih (fun x hx => h x (by simp [hx]))]
    simp only [List.length_cons, List.replicate_succ, List.cons_append]
    congr 2
    cases a <;> simp [List.getLastD]
theorem lexF_step (F : Fam) (p : Int) (s : List Int) (hs : s ≠ []) : ∃ q, lexF F p s = stp F p s ++ lexF F q (s.drop (stp F p s).length) := by
  obtain ⟨c, r, rfl⟩ := List.exists_cons_of_ne_nil hs
  exact ⟨_, lexF_cons F p c r⟩
theorem lexF_nil (F : Fam) (p : Int) : lexF F p [] = [] := by rw [lexF]
theorem lexF_plain' (F : Fam) (a : List Int) (h : ∀ c ∈ a, some c ∉ firsts F) (p : Int) : lexF F p a = List.replicate a.length 4 := by
  have := lexF_plain F a h p []
  rwa [List.append_nil, lexF_nil, List.append_nil] at this

/-! ### remarks to the line's end -/
theorem stp_line {F : Fam} {p : Int} {m s : List Int} (hl : F.line = [m]) (hm : m ≠ []) (hp : F.apart = false ∨ gap p = true) :
    stp F p (m ++ s) = List.replicate m.length 3 ++ List.replicate (s.findIdx (· == 10)) 1 := by
  unfold stp
  have e : F.line.find? (fun x => beg x (m ++ s) && (!F.apart || gap p)) = some m := by
    rw [hl, List.find?_cons_of_pos]
    simp only [beg_append m s hm, Bool.true_and]
    rcases hp with h | h <;> simp [h]
  rw [e]
  simp
/-- A remark, and what is behind its line. -/
theorem lexF_line {F : Fam} {p : Int} {m a r : List Int} (hl : F.line = [m]) (hm : m ≠ []) (hp : F.apart = false ∨ gap p = true) (ha : (10 : Int) ∉ a) :
    ∃ q, lexF F p (m ++ a ++ 10 :: r) = List.replicate m.length 3 ++ List.replicate a.length 1 ++ lexF F q (10 :: r) := by
  have hf : (a ++ 10 :: r).findIdx (· == 10) = a.length := by
    rw [List.findIdx_append]
    have h0 : List.findIdx (· == 10) a = a.length := by
      rw [List.findIdx_eq_length]
      intro x hx
      simp
      rintro rfl
      exact ha hx
    rw [h0, if_neg (by omega), List.findIdx_cons]
    simp
  have hs := stp_line (F := F) (p := p) (m := m) (s := a ++ 10 :: r) hl hm hp
  rw [hf] at hs
  obtain ⟨q, hq⟩ := lexF_step F p (m ++ (a ++ 10 :: r)) (by simp)
  refine ⟨q, ?_⟩
  rw [List.append_assoc, hq, hs]
  congr 1
  have : (m ++ (a ++ 10 :: r)).drop ((List.replicate m.length (3 : Int) ++ List.replicate a.length 1).length) = 10 :: r := by
    rw [← List.append_assoc]
    exact List.drop_left' (by simp)
  rw [this]
theorem lexF_line_end {F : Fam} {p : Int} {m a : List Int} (hl : F.line = [m]) (hm : m ≠ []) (hp : F.apart = false ∨ gap p = true) (ha : (10 : Int) ∉ a) :
    lexF F p (m ++ a) = List.replicate m.length 3 ++ List.replicate a.length 1 := by
  have hf : a.findIdx (· == 10) = a.length := by
    rw [List.findIdx_eq_length]
    intro x hx
    simp
    rintro rfl
    exact ha hx
  have hs := stp_line (F := F) (p := p) (m := m) (s := a) hl hm hp
  rw [hf] at hs
  obtain ⟨q, hq⟩ := lexF_step F p (m ++ a) (by simp [hm])
  have : (m ++ a).drop ((List.replicate m.length (3 : Int) ++ List.replicate a.length 1).length) = [] := by
    apply List.drop_eq_nil_of_le
    simp
  rw [hq, hs, this, lexF_nil, List.append_nil]
/-- Behind a newline it doesn't matter what was ahead of it. -/
theorem lexF_nl {F : Fam} (h : some (10 : Int) ∉ firsts F) (p q : Int) (r : List Int) : lexF F p (10 :: r) = lexF F q (10 :: r) := by
  rw [lexF_one (stp_plain h), lexF_one (stp_plain h)]

/-! ### strings -/
theorem txt_fuel (t : Tx) : ∀ (n m : Nat) (s : List Int), s.length ≤ n → s.length ≤ m → txt t n s = txt t m s := by
  intro n
  induction n with
  | zero =>
    intro m s hn _
    have : s = [] := List.eq_nil_of_length_eq_zero (by omega)
    subst this
    cases m <;> simp [txt]
  | succ n ih =>
    intro m s hn hm
    cases s with
    | nil => cases m <;> simp [txt]
    | cons c r =>
      obtain ⟨m, rfl⟩ : ∃ k, m = k + 1 := ⟨m - 1, by simp at hm; omega⟩
      simp only [List.length_cons] at hn hm
      rw [txt, txt, ih m (r.drop 1) (by simp; omega) (by simp; omega), ih m (r.drop (2 * t.mark.length - 1)) (by simp; omega) (by simp; omega), ih m r (by omega) (by omega)]
/-- A piece of a string: its labels, whatever follows. -/
def Piece (t : Tx) (a : List Int) : Prop := ∀ (n : Nat) (r : List Int), a.length + r.length ≤ n → txt t n (a ++ r) = List.replicate a.length t.what ++ txt t r.length r
theorem Piece.nil (t : Tx) : Piece t [] := fun n r h => by
  rw [List.nil_append]
  exact txt_fuel t _ _ _ (by simpa using h) (Nat.le_refl _)
theorem Piece.append {t : Tx} {a b : List Int} (ha : Piece t a) (hb : Piece t b) : Piece t (a ++ b) := fun n r h => by
  rw [List.append_assoc, ha n (b ++ r) (by simp at h ⊢; omega), hb _ r (by simp), ← List.append_assoc, List.length_append, List.replicate_append_replicate]
theorem Piece.one {t : Tx} {c : Int} (h10 : c ≠ 10 ∨ t.long = true) (h92 : c ≠ 92 ∨ t.escape = false) (hm : t.mark.head? ≠ some c) : Piece t [c] := fun n r h => by
  obtain ⟨n, rfl⟩ : ∃ k, n = k + 1 := ⟨n - 1, by simp at h; omega⟩
  have hm2 : (t.mark ++ t.mark).head? ≠ some c := by
    cases hmk : t.mark with
    | nil => simp
    | cons x m => rw [hmk] at hm; simpa using hm
  rw [List.singleton_append, txt, beg_head hm, beg_head hm2, if_neg, if_neg, if_neg, if_neg]
  · rw [txt_fuel t n r.length r (by simp at h; omega) (Nat.le_refl _)]
    rfl
  · simp
  · simp
  · rintro ⟨h1, h2, _⟩
    rcases h92 with h | h
    · exact h h2
    · rw [h] at h1
      simp at h1
  · rintro ⟨h1, h2⟩
    rcases h10 with h | h
    · exact h h1
    · rw [h] at h2
      simp at h2
theorem Piece.escaped {t : Tx} {c : Int} (he : t.escape = true) (h10 : c ≠ 10 ∨ t.long = true) : Piece t [92, c] := fun n r h => by
  obtain ⟨n, rfl⟩ : ∃ k, n = k + 1 := ⟨n - 1, by simp at h; omega⟩
  rw [List.cons_append, List.singleton_append, txt, if_neg, if_pos]
  · rw [List.drop_one, List.tail_cons, txt_fuel t n r.length r (by simp at h; omega) (Nat.le_refl _)]
    rfl
  · refine ⟨he, rfl, by simp, ?_⟩
    rcases h10 with h | h
    · exact .inr (by simpa using h)
    · exact .inl h
  · simp
theorem txt_ends {t : Tx} (n : Nat) (c : Int) (m r : List Int) (hm : t.mark = c :: m) (h10 : c ≠ 10) (h92 : c ≠ 92) (htw : t.twice = false ∨ beg (t.mark ++ t.mark) (t.mark ++ r) = false) :
    txt t (n + 1) (t.mark ++ r) = List.replicate t.mark.length 4 := by
  have hb := beg_append t.mark r (by rw [hm]; simp)
  rw [hm] at hb ⊢
  rw [hm] at htw
  rw [List.cons_append] at hb
  rw [List.cons_append, txt, hm, if_neg (by simp [h10]), if_neg (by simp [h92]), if_neg, if_pos hb]
  rintro ⟨h1, h2⟩
  rcases htw with h | h
  · rw [h] at h1
    simp at h1
  · rw [List.cons_append, List.cons_append] at h
    rw [List.cons_append] at h2
    rw [h] at h2
    simp at h2
/-- A string that ends, and what is behind it. -/
theorem lexF_string {F : Fam} {p : Int} {t : Tx} {a r : List Int} (hs : stp F p (t.mark ++ (a ++ (t.mark ++ r))) = List.replicate t.mark.length 4 ++ txt t (t.mark ++ (a ++ (t.mark ++ r))).length (a ++ (t.mark ++ r)))
    (ha : Piece t a) (c : Int) (m : List Int) (hm : t.mark = c :: m) (h10 : c ≠ 10) (h92 : c ≠ 92) (htw : t.twice = false ∨ beg (t.mark ++ t.mark) (t.mark ++ r) = false) :
    ∃ q, lexF F p (t.mark ++ (a ++ (t.mark ++ r))) = List.replicate t.mark.length 4 ++ List.replicate a.length t.what ++ List.replicate t.mark.length 4 ++ lexF F q r := by
  rw [ha _ _ (by simp)] at hs
  obtain ⟨k, hk⟩ : ∃ k, (t.mark ++ r).length = k + 1 := ⟨(m ++ r).length, by rw [hm]; simp⟩
  rw [hk, txt_ends k c m r hm h10 h92 htw] at hs
  have hd : (t.mark ++ (a ++ (t.mark ++ r))).drop (List.replicate t.mark.length (4 : Int) ++ (List.replicate a.length t.what ++ List.replicate t.mark.length 4)).length = r := by
    have e : t.mark ++ (a ++ (t.mark ++ r)) = (t.mark ++ a ++ t.mark) ++ r := by simp
    rw [e]
    exact List.drop_left' (by simp)
  obtain ⟨q, hq⟩ := lexF_step F p (t.mark ++ (a ++ (t.mark ++ r))) (by rw [hm]; simp)
  refine ⟨q, ?_⟩
  rw [hq, hs, hd]
  simp
/-- A string without an end. -/
theorem lexF_string_open {F : Fam} {p : Int} {t : Tx} {a : List Int} (hs : stp F p (t.mark ++ a) = List.replicate t.mark.length 4 ++ txt t (t.mark ++ a).length a) (ha : Piece t a) (hm : t.mark ≠ []) :
    lexF F p (t.mark ++ a) = List.replicate t.mark.length 4 ++ List.replicate a.length t.what := by
  have h1 := ha (t.mark ++ a).length [] (by simp)
  rw [List.append_nil] at h1
  rw [h1] at hs
  have h2 : txt t 0 [] = [] := rfl
  rw [List.length_nil, h2, List.append_nil] at hs
  obtain ⟨q, hq⟩ := lexF_step F p (t.mark ++ a) (by simp [hm])
  rw [hq, hs, List.drop_eq_nil_of_le (by simp), lexF_nil, List.append_nil]

/-! ### the laws' texts: strings -/
theorem plain_of (F : Fam) (a : List Int) (h : a.all (fun c => !(firsts F).contains (some c)) = true) : ∀ c ∈ a, some c ∉ firsts F := by
  intro c hc
  have := List.all_eq_true.1 h c hc
  simpa using this
/-- What stands at a string's mark, ahead of a q. -/
theorem stp_dq (F : Fam) (p : Int) (a : List Int) (hF : F = famC ∨ F = famG ∨ F = famP) : stp F p ([34] ++ (113 :: a)) = [4] ++ txt dq ([34] ++ (113 :: a)).length (113 :: a) := by
  rcases hF with rfl | rfl | rfl <;> simp [stp, famC, famG, famP, beg_cons, List.isPrefixOf, dq, beg_nil', List.find?]
theorem stp_sq (F : Fam) (p : Int) (a : List Int) (hF : F = famC ∨ F = famG ∨ F = famP) : stp F p ([39] ++ (113 :: a)) = [4] ++ txt sq ([39] ++ (113 :: a)).length (113 :: a) := by
  rcases hF with rfl | rfl | rfl <;> simp [stp, famC, famG, famP, beg_cons, List.isPrefixOf, dq, sq, beg_nil', List.find?]
def dqS : Tx := ⟨[34], true, false, true, 5⟩
theorem stp_dqS (p : Int) (a : List Int) : stp famS p ([34] ++ (113 :: a)) = [4] ++ txt dqS ([34] ++ (113 :: a)).length (113 :: a) := by
  simp [stp, famS, beg_cons, List.isPrefixOf, dqS, beg_nil', List.find?]
/-- A string's pieces of the law. -/
inductive Bits (m : Int) : List Int → Prop where
  | nil : Bits m []
  | plain {c : Int} {r : List Int} : c ≠ 10 → c ≠ 92 → c ≠ m → Bits m r → Bits m (c :: r)
  | esc {c : Int} {r : List Int} : c ≠ 10 → Bits m r → Bits m (92 :: c :: r)
theorem Bits.append {m : Int} {a b : List Int} (ha : Bits m a) (hb : Bits m b) : Bits m (a ++ b) := by
  induction ha with
  | nil => exact hb
  | plain h1 h2 h3 _ ih => exact .plain h1 h2 h3 ih
  | esc h1 _ ih => exact .esc h1 ih
theorem Bits.piece {t : Tx} {m : Int} {a : List Int} (h : Bits m a) (he : t.escape = true) (hm : t.mark = [m]) : Piece t a := by
  induction h with
  | nil => exact Piece.nil t
  | plain h1 h2 h3 _ ih => exact Piece.append (Piece.one (.inl h1) (.inl h2) (by rw [hm]; simpa using fun e => h3 e.symm)) ih
  | esc h1 _ ih => exact Piece.append (Piece.escaped he (.inl h1)) ih
theorem strings_any (F : Fam) (t : Tx) (m : Int) (a : List Int) (hm : t.mark = [m]) (h10 : m ≠ 10) (h92 : m ≠ 92) (h113 : m ≠ 113) (he : t.escape = true) (htw : t.twice = false)
    (hF : ∀ p a, stp F p ([m] ++ (113 :: a)) = [4] ++ txt t ([m] ++ (113 :: a)).length (113 :: a)) (h1 : some 120 ∉ firsts F) (h2 : some 32 ∉ firsts F) (h3 : some 121 ∉ firsts F) (ha : Bits m a) :
    lexF F (-1) ([120, 32, m, 113] ++ a ++ [m, 32, 121]) = List.replicate 3 4 ++ List.replicate (a.length + 1) t.what ++ List.replicate 3 4 := by
  have e : [120, 32, m, 113] ++ a ++ [m, 32, 121] = [120, 32] ++ (t.mark ++ ((113 :: a) ++ (t.mark ++ [32, 121]))) := by rw [hm]; simp
  have hp : Piece t (113 :: a) := Bits.piece (m := m) (.plain (by omega) (by omega) (fun e => h113 e.symm) ha) he hm
  have hs := hF 32 (a ++ ([m] ++ [32, 121]))
  rw [← List.cons_append, ← hm] at hs
  obtain ⟨q, hq⟩ := lexF_string (F := F) (p := 32) (t := t) (a := 113 :: a) (r := [32, 121]) (by rw [hs, hm]; rfl) hp m [] hm h10 h92 (.inl htw)
  rw [e, lexF_plain F [120, 32] (by intro c hc; simp at hc; rcases hc with rfl | rfl <;> assumption)]
  have hl : ([120, 32] : List Int).getLastD (-1) = 32 := rfl
  rw [hl, hq, lexF_plain' F [32, 121] (by intro c hc; simp at hc; rcases hc with rfl | rfl <;> assumption), hm]
  simp [List.replicate]
/-! ### raw strings -/
theorem raw_piece (t : Tx) (m : Int) (hm : t.mark = [m]) (he : t.escape = false) (hl : t.long = true) (a : List Int) (ha : m ∉ a) : Piece t a := by
  induction a with
  | nil => exact Piece.nil t
  | cons c a ih =>
    exact Piece.append (Piece.one (.inr hl) (.inr he) (by rw [hm]; simp; intro e; exact ha (by simp [e]))) (ih (fun h => ha (by simp [h])))
theorem raw_any (F : Fam) (t : Tx) (m : Int) (a : List Int) (hm : t.mark = [m]) (h10 : m ≠ 10) (h92 : m ≠ 92) (h32 : m ≠ 32) (he : t.escape = false) (hl : t.long = true)
    (hF : ∀ p a, stp F p ([m] ++ a) = [4] ++ txt t ([m] ++ a).length a) (h1 : some 120 ∉ firsts F) (h2 : some 32 ∉ firsts F) (ha : m ∉ a) :
    lexF F (-1) ([120, 32, m] ++ a) = List.replicate 3 4 ++ List.replicate a.length t.what ∧ lexF F (-1) ([120, 32, m] ++ a ++ [m, 32]) = List.replicate 3 4 ++ List.replicate a.length t.what ++ List.replicate 2 4 := by
  have hp := raw_piece t m hm he hl a ha
  have hl : ([120, 32] : List Int).getLastD (-1) = 32 := rfl
  have hb : ∀ c ∈ ([120, 32] : List Int), some c ∉ firsts F := by intro c hc; simp at hc; rcases hc with rfl | rfl <;> assumption
  constructor
  · have e : [120, 32, m] ++ a = [120, 32] ++ (t.mark ++ a) := by rw [hm]; simp
    have hs := hF 32 a
    rw [← hm] at hs
    rw [e, lexF_plain F [120, 32] hb, hl, lexF_string_open (by rw [hs, hm]; rfl) hp (by rw [hm]; simp), hm]
    simp [List.replicate]
  · have e : [120, 32, m] ++ a ++ [m, 32] = [120, 32] ++ (t.mark ++ (a ++ (t.mark ++ [32]))) := by rw [hm]; simp
    have hs := hF 32 (a ++ (t.mark ++ [32]))
    rw [← hm] at hs
    obtain ⟨q, hq⟩ := lexF_string (F := F) (p := 32) (t := t) (a := a) (r := [32]) (by rw [hs, hm]; rfl) hp m [] hm h10 h92 (.inr (by rw [hm]; simp [beg_cons, List.isPrefixOf]; exact h32))
    rw [e, lexF_plain F [120, 32] hb, hl, hq, lexF_plain' F [32] (by intro c hc; simp at hc; rw [hc]; assumption), hm]
    simp [List.replicate]
theorem stp_rawG (p : Int) (a : List Int) : stp famG p ([96] ++ a) = [4] ++ txt ⟨[96], false, false, true, 7⟩ ([96] ++ a).length a := by
  simp [stp, famG, beg_cons, List.isPrefixOf, dq, sq, beg_nil', List.find?]
theorem stp_rawS (p : Int) (a : List Int) : stp famS p ([39] ++ a) = [4] ++ txt ⟨[39], false, false, true, 7⟩ ([39] ++ a).length a := by
  simp [stp, famS, beg_cons, List.isPrefixOf, beg_nil', List.find?]
theorem stp_rawQ (p : Int) (a : List Int) : stp famQ p ([34] ++ a) = [4] ++ txt ⟨[34], false, true, true, 7⟩ ([34] ++ a).length a := by
  simp [stp, famQ, beg_cons, List.isPrefixOf, beg_nil', List.find?]

/-! ### remarks in one another -/
theorem blk_fuel (F : Fam) : ∀ (n m d : Nat) (s : List Int), s.length ≤ n → s.length ≤ m → blk F n d s = blk F m d s := by
  intro n
  induction n with
  | zero =>
    intro m d s hn _
    have : s = [] := List.eq_nil_of_length_eq_zero (by omega)
    subst this
    cases m <;> simp [blk]
  | succ n ih =>
    intro m d s hn hm
    cases s with
    | nil => cases m <;> simp [blk]
    | cons c r =>
      obtain ⟨m, rfl⟩ : ∃ k, m = k + 1 := ⟨m - 1, by simp at hm; omega⟩
      simp only [List.length_cons] at hn hm
      rw [blk, blk, ih m (d + 1) (r.drop (F.opn.length - 1)) (by simp; omega) (by simp; omega), ih m (d - 1) (r.drop (F.shut.length - 1)) (by simp; omega) (by simp; omega), ih m d r (by omega) (by omega)]
def blkW (F : Fam) (d : Nat) (s : List Int) : List Int := blk F s.length d s
/-- A family with remarks between marks. -/
structure Slash (F : Fam) : Prop where
  o : F.opn = [47, 42]
  s : F.shut = [42, 47]
section
variable {F : Fam} (h : Slash F)
include h
theorem blkW_open (d : Nat) (r : List Int) (hd : d = 0 ∨ F.nest = true) (h32 : d < 32) : blkW F d (47 :: 42 :: r) = 3 :: 3 :: blkW F (d + 1) r := by
  unfold blkW
  rw [List.length_cons, blk, h.o, if_pos ⟨by simp [beg_cons, List.isPrefixOf], hd⟩, if_neg (by omega), blk_fuel F _ r.length _ _ (by simp) (by simp)]
  rfl
theorem blkW_deep (d : Nat) (r : List Int) (hd : F.nest = true) (h32 : 32 ≤ d) : blkW F d (47 :: 42 :: r) = List.replicate (r.length + 2) 6 := by
  unfold blkW
  rw [List.length_cons, blk, h.o, if_pos ⟨by simp [beg_cons, List.isPrefixOf], .inr hd⟩, if_pos (by omega)]
  rfl
theorem blkW_shut1 (r : List Int) : blkW F 1 (42 :: 47 :: r) = [3, 3] := by
  unfold blkW
  rw [List.length_cons, blk, h.o, h.s, if_neg (by simp [beg_cons]), if_pos (by simp [beg_cons, List.isPrefixOf]), if_pos rfl]
  rfl
theorem blkW_shut (d : Nat) (r : List Int) : blkW F (d + 2) (42 :: 47 :: r) = 3 :: 3 :: blkW F (d + 1) r := by
  unfold blkW
  rw [List.length_cons, blk, h.o, h.s, if_neg (by simp [beg_cons]), if_pos (by simp [beg_cons, List.isPrefixOf]), if_neg (by omega), blk_fuel F _ r.length _ _ (by simp) (by simp)]
  rfl
theorem blkW_one (d : Nat) (c : Int) (r : List Int) (h1 : c ≠ 47 ∨ r.head? ≠ some 42) (h2 : c ≠ 42) : blkW F d (c :: r) = 1 :: blkW F d r := by
  unfold blkW
  rw [List.length_cons, blk, h.o, h.s, if_neg, if_neg]
  · simp only [beg_cons]
    simp
    intro e
    exact absurd e.symm h2
  · rintro ⟨e, _⟩
    rw [beg_cons] at e
    simp at e
    obtain ⟨rfl, e⟩ := e
    rcases h1 with h1 | h1
    · exact h1 rfl
    · obtain ⟨q, rfl⟩ := e
      exact h1 rfl
theorem blkW_open1 (d : Nat) (r : List Int) (hd : d ≠ 0) (hn : F.nest = false) (hr : r.head? ≠ some 47) : blkW F d (47 :: 42 :: r) = 1 :: 1 :: blkW F d r := by
  unfold blkW
  rw [List.length_cons, List.length_cons, blk, h.o, h.s, if_neg (by simp [hd, hn]), if_neg (by simp [beg_cons]), blk, h.o, h.s, if_neg (by simp [hd, hn]), if_neg]
  rw [beg_cons]
  cases r with
  | nil => simp [List.isPrefixOf]
  | cons x r =>
    have : (47 : Int) ≠ x := fun e => hr (by rw [← e]; rfl)
    simp [List.isPrefixOf, this]
theorem blkW_nil (d : Nat) : blkW F d [] = [] := rfl
end
/-- Openings and closings, one behind the other. -/
def opens : Nat → List Int → List Int
  | 0, r => r
  | n + 1, r => 47 :: 42 :: 32 :: 97 :: 32 :: opens n r
def shuts : Nat → List Int → List Int
  | 0, r => r
  | n + 1, r => 42 :: 47 :: 32 :: shuts n r
theorem opens_length (n : Nat) (r : List Int) : (opens n r).length = 5 * n + r.length := by
  induction n with
  | zero => simp [opens]
  | succ n ih => simp only [opens, List.length_cons, ih]; omega
theorem shuts_length (n : Nat) (r : List Int) : (shuts n r).length = 3 * n + r.length := by
  induction n with
  | zero => simp [shuts]
  | succ n ih => simp only [shuts, List.length_cons, ih]; omega
section
variable {F : Fam} (h : Slash F)
include h
theorem opens_nest (hn : F.nest = true) (n : Nat) : ∀ (d : Nat) (r : List Int), d + n ≤ 32 → ∃ l : List Int, l.length = 5 * n ∧ blkW F d (opens n r) = l ++ blkW F (d + n) r := by
  induction n with
  | zero => intro d r _; exact ⟨[], rfl, rfl⟩
  | succ n ih =>
    intro d r hd
    obtain ⟨l, hl, hb⟩ := ih (d + 1) r (by omega)
    refine ⟨3 :: 3 :: 1 :: 1 :: 1 :: l, by simp only [List.length_cons]; omega, ?_⟩
    rw [opens, blkW_open h d _ (.inr hn) (by omega), blkW_one h _ _ _ (.inl (by omega)) (by omega), blkW_one h _ _ _ (.inl (by omega)) (by omega), blkW_one h _ _ _ (.inl (by omega)) (by omega), hb, show d + (n + 1) = d + 1 + n from by omega]
    rfl
theorem opens_deep (hn : F.nest = true) (n : Nat) : ∀ (d : Nat) (r : List Int), d ≤ 32 → 32 < d + n → ∃ l : List Int, ∃ k, 1 ≤ k ∧ r.length + 1 ≤ k ∧ l.length + k = 5 * n + r.length ∧ blkW F d (opens n r) = l ++ List.replicate k 6 := by
  induction n with
  | zero => intro d r h1 h2; omega
  | succ n ih =>
    intro d r hd h32
    by_cases he : d = 32
    · subst he
      refine ⟨[], (32 :: 97 :: 32 :: opens n r).length + 2, by omega, ?_, ?_, ?_⟩
      · simp only [List.length_cons, opens_length]; omega
      · simp only [List.length_cons, List.length_nil, opens_length]; omega
      · exact blkW_deep h 32 _ hn (by omega)
    · obtain ⟨l, k, h1, h2, h3, hb⟩ := ih (d + 1) r (by omega) (by omega)
      refine ⟨3 :: 3 :: 1 :: 1 :: 1 :: l, k, h1, h2, by simp only [List.length_cons]; omega, ?_⟩
      rw [opens, blkW_open h d _ (.inr hn) (by omega), blkW_one h _ _ _ (.inl (by omega)) (by omega), blkW_one h _ _ _ (.inl (by omega)) (by omega), blkW_one h _ _ _ (.inl (by omega)) (by omega), hb]
      rfl
theorem opens_flat (hn : F.nest = false) (n : Nat) : ∀ (r : List Int), blkW F 1 (opens n r) = List.replicate (5 * n) 1 ++ blkW F 1 r := by
  induction n with
  | zero => intro r; rfl
  | succ n ih =>
    intro r
    rw [opens, blkW_open1 h 1 _ (by omega) hn (by simp), blkW_one h _ _ _ (.inl (by omega)) (by omega), blkW_one h _ _ _ (.inl (by omega)) (by omega), blkW_one h _ _ _ (.inl (by omega)) (by omega), ih]
    rfl
theorem shuts_nest (n : Nat) : ∀ (r : List Int), ∃ l : List Int, l.length = 3 * n + 2 ∧ blkW F (n + 1) (shuts (n + 1) r) = l := by
  induction n with
  | zero => intro r; exact ⟨_, rfl, blkW_shut1 h _⟩
  | succ n ih =>
    intro r
    obtain ⟨l, hl, hb⟩ := ih r
    refine ⟨3 :: 3 :: 1 :: l, by simp only [List.length_cons]; omega, ?_⟩
    rw [shuts, blkW_shut h, blkW_one h _ _ _ (.inl (by omega)) (by omega), hb]
end
theorem shuts_plain (F : Fam) (hF : F = famC ∨ F = famG) (n : Nat) : ∀ p, lexF F p (32 :: shuts n [32, 120]) = List.replicate (3 * n + 3) 4 := by
  induction n with
  | zero => intro p; exact lexF_plain' F [32, 32, 120] (plain_of _ _ (by rcases hF with rfl | rfl <;> decide)) p
  | succ n ih =>
    intro p
    have h1 : stp F p (32 :: 42 :: 47 :: 32 :: shuts n [32, 120]) = [4] := stp_plain (by rcases hF with rfl | rfl <;> decide)
    have h2 : stp F 32 (42 :: 47 :: 32 :: shuts n [32, 120]) = [4] := stp_plain (by rcases hF with rfl | rfl <;> decide)
    have h3 : stp F 42 (47 :: 32 :: shuts n [32, 120]) = [4] := by
      rcases hF with rfl | rfl <;> simp [stp, famC, famG, beg_cons, List.isPrefixOf, dq, sq]
    rw [shuts, lexF_one h1, lexF_one h2, lexF_one h3, ih, show 3 * (n + 1) + 3 = 3 * n + 3 + 1 + 1 + 1 from by omega]
    rfl
/-- The last label, the first one, and the fourth. -/
def Ends (l : List Int) (n : Nat) (x : Int) : Prop := l.length = n + 1 ∧ l[n]? = some x ∧ l[0]? = some 3 ∧ l[3]? = some 1
theorem Ends.of {l m : List Int} {x : Int} (n : Nat) (hl : l.length + m.length = n + 1) (hm : m ≠ []) (hx : m.getLast? = some x) (a : List Int) (e : l = 3 :: 3 :: 1 :: 1 :: a) : Ends (l ++ m) n x := by
  have h0 : 0 < m.length := List.length_pos_iff.2 hm
  refine ⟨by simp; omega, ?_, by rw [e]; rfl, by rw [e]; rfl⟩
  rw [List.getElem?_append_right (by omega), ← hx, List.getLast?_eq_getElem?]
  congr 1
  omega
theorem slashC : Slash famC := ⟨rfl, rfl⟩
theorem slashG : Slash famG := ⟨rfl, rfl⟩
theorem slashQ : Slash famQ := ⟨rfl, rfl⟩
theorem stp_blk {F : Fam} (hF : F = famC ∨ F = famG ∨ F = famQ) (p : Int) (r : List Int) : stp F p (47 :: 42 :: r) = blkW F 0 (47 :: 42 :: r) := by
  rcases hF with rfl | rfl | rfl <;> simp [stp, famC, famG, famQ, beg_cons, List.isPrefixOf, blkW]
theorem blk_all {F : Fam} (hF : F = famC ∨ F = famG ∨ F = famQ) (p : Int) (r : List Int) (h : (blkW F 0 (47 :: 42 :: r)).length = r.length + 2) : lexF F p (47 :: 42 :: r) = blkW F 0 (47 :: 42 :: r) := by
  obtain ⟨q, hq⟩ := lexF_step F p (47 :: 42 :: r) (by simp)
  rw [hq, stp_blk hF, List.drop_eq_nil_of_le (by simp [h]), lexF_nil, List.append_nil]
theorem nests_open (F : Fam) (hF : F = famC ∨ F = famG) (n : Nat) : Ends (lexF F (-1) (opens (n + 1) [32, 120])) (5 * n + 6) 1 := by
  have hS : Slash F := hF.elim (fun e => e ▸ slashC) (fun e => e ▸ slashG)
  have hn : F.nest = false := by rcases hF with rfl | rfl <;> rfl
  have hF3 : F = famC ∨ F = famG ∨ F = famQ := hF.elim .inl (fun h => .inr (.inl h))
  have e : blkW F 0 (opens (n + 1) [32, 120]) = (3 :: 3 :: 1 :: 1 :: 1 :: List.replicate (5 * n) 1) ++ [1, 1] := by
    rw [opens, blkW_open hS 0 _ (.inl rfl) (by omega), blkW_one hS _ _ _ (.inl (by omega)) (by omega), blkW_one hS _ _ _ (.inl (by omega)) (by omega), blkW_one hS _ _ _ (.inl (by omega)) (by omega), Nat.zero_add, opens_flat hS hn, blkW_one hS _ _ _ (.inl (by omega)) (by omega), blkW_one hS _ _ _ (.inl (by omega)) (by omega)]
    simp [blkW_nil hS]
  rw [opens] at e ⊢
  rw [blk_all hF3 _ _ (by rw [e]; simp [opens_length]), e]
  exact Ends.of _ (by simp) (by simp) rfl _ rfl
theorem nests_shut (F : Fam) (hF : F = famC ∨ F = famG) (n : Nat) : Ends (lexF F (-1) (opens (n + 1) (shuts (n + 1) [32, 120]))) (8 * n + 9) 4 := by
  have hS : Slash F := hF.elim (fun e => e ▸ slashC) (fun e => e ▸ slashG)
  have hn : F.nest = false := by rcases hF with rfl | rfl <;> rfl
  have hF3 : F = famC ∨ F = famG ∨ F = famQ := hF.elim .inl (fun h => .inr (.inl h))
  have e : blkW F 0 (opens (n + 1) (shuts (n + 1) [32, 120])) = (3 :: 3 :: 1 :: 1 :: 1 :: List.replicate (5 * n) 1) ++ [3, 3] := by
    rw [opens, blkW_open hS 0 _ (.inl rfl) (by omega), blkW_one hS _ _ _ (.inl (by omega)) (by omega), blkW_one hS _ _ _ (.inl (by omega)) (by omega), blkW_one hS _ _ _ (.inl (by omega)) (by omega), Nat.zero_add, opens_flat hS hn, shuts, blkW_shut1 hS]
    rfl
  have hd : (opens (n + 1) (shuts (n + 1) [32, 120])).drop (5 * n + 7) = 32 :: shuts n [32, 120] := by
    have : ∀ (m : Nat) (r : List Int), (opens m r).drop (5 * m) = r := by
      intro m
      induction m with
      | zero => intro r; rfl
      | succ m ih => intro r; rw [opens, show 5 * (m + 1) = 5 * m + 1 + 1 + 1 + 1 + 1 from by omega]; simp [ih]
    rw [show 5 * n + 7 = 5 * (n + 1) + 2 from by omega, ← List.drop_drop, this]
    rfl
  obtain ⟨q, hq⟩ := lexF_step F (-1) (opens (n + 1) (shuts (n + 1) [32, 120])) (by simp [opens])
  have hs : stp F (-1) (opens (n + 1) (shuts (n + 1) [32, 120])) = blkW F 0 (opens (n + 1) (shuts (n + 1) [32, 120])) := stp_blk hF3 _ _
  rw [hs, e] at hq
  have hlen : ((3 :: 3 :: 1 :: 1 :: 1 :: List.replicate (5 * n) (1 : Int)) ++ [3, 3]).length = 5 * n + 7 := by simp
  rw [hlen, hd, shuts_plain F hF] at hq
  rw [hq]
  exact Ends.of _ (by simp; omega) (by simp) (by simp [List.getLast?_replicate]) (1 :: (List.replicate (5 * n) 1 ++ [3, 3])) rfl
theorem nests_sql_open (n : Nat) (hn : n < 32) : Ends (lexF famQ (-1) (opens (n + 1) [32, 120])) (5 * n + 6) 1 := by
  obtain ⟨l, hl, hb⟩ := opens_nest slashQ rfl n 1 [32, 120] (by omega)
  have e : blkW famQ 0 (opens (n + 1) [32, 120]) = (3 :: 3 :: 1 :: 1 :: 1 :: l) ++ [1, 1] := by
    rw [opens, blkW_open slashQ 0 _ (.inl rfl) (by omega), blkW_one slashQ _ _ _ (.inl (by omega)) (by omega), blkW_one slashQ _ _ _ (.inl (by omega)) (by omega), blkW_one slashQ _ _ _ (.inl (by omega)) (by omega), Nat.zero_add, hb, blkW_one slashQ _ _ _ (.inl (by omega)) (by omega), blkW_one slashQ _ _ _ (.inl (by omega)) (by omega)]
    simp [blkW_nil slashQ]
  rw [opens] at e ⊢
  rw [blk_all (.inr (.inr rfl)) _ _ (by rw [e]; simp [opens_length]; omega), e]
  exact Ends.of _ (by simp; omega) (by simp) rfl _ rfl
theorem nests_sql_deep (n : Nat) (hn : 32 ≤ n) (r : List Int) : Ends (lexF famQ (-1) (opens (n + 1) (r ++ [32, 120]))) (5 * n + r.length + 6) 6 := by
  obtain ⟨l, k, h1, h2, h3, hb⟩ := opens_deep slashQ rfl n 1 (r ++ [32, 120]) (by omega) (by omega)
  simp only [List.length_append, List.length_cons, List.length_nil] at h3
  have e : blkW famQ 0 (opens (n + 1) (r ++ [32, 120])) = (3 :: 3 :: 1 :: 1 :: 1 :: l) ++ List.replicate k 6 := by
    rw [opens, blkW_open slashQ 0 _ (.inl rfl) (by omega), blkW_one slashQ _ _ _ (.inl (by omega)) (by omega), blkW_one slashQ _ _ _ (.inl (by omega)) (by omega), blkW_one slashQ _ _ _ (.inl (by omega)) (by omega), Nat.zero_add, hb]
    rfl
  rw [opens] at e ⊢
  rw [blk_all (.inr (.inr rfl)) _ _ (by rw [e]; simp [opens_length]; omega), e]
  refine Ends.of _ (by simp; omega) (by simp; omega) ?_ _ rfl
  rw [List.getLast?_replicate, if_neg (by omega)]
theorem nests_sql_shut (n : Nat) (hn : n < 32) : Ends (lexF famQ (-1) (opens (n + 1) (shuts (n + 1) [32, 120]))) (8 * n + 9) 4 := by
  obtain ⟨l, hl, hb⟩ := opens_nest slashQ rfl n 1 (shuts (n + 1) [32, 120]) (by omega)
  obtain ⟨l2, hl2, hb2⟩ := shuts_nest slashQ n [32, 120]
  have e : blkW famQ 0 (opens (n + 1) (shuts (n + 1) [32, 120])) = (3 :: 3 :: 1 :: 1 :: 1 :: l) ++ l2 := by
    rw [opens, blkW_open slashQ 0 _ (.inl rfl) (by omega), blkW_one slashQ _ _ _ (.inl (by omega)) (by omega), blkW_one slashQ _ _ _ (.inl (by omega)) (by omega), blkW_one slashQ _ _ _ (.inl (by omega)) (by omega), Nat.zero_add, hb, show 1 + n = n + 1 from by omega, hb2]
    rfl
  have hd : (opens (n + 1) (shuts (n + 1) [32, 120])).drop (8 * n + 7) = [32, 32, 120] := by
    have h1 : ∀ (m : Nat) (r : List Int), (opens m r).drop (5 * m) = r := by
      intro m
      induction m with
      | zero => intro r; rfl
      | succ m ih => intro r; rw [opens, show 5 * (m + 1) = 5 * m + 1 + 1 + 1 + 1 + 1 from by omega]; simp [ih]
    have h2 : ∀ (m : Nat) (r : List Int), (shuts (m + 1) r).drop (3 * m + 2) = 32 :: r := by
      intro m
      induction m with
      | zero => intro r; rfl
      | succ m ih => intro r; rw [shuts, show 3 * (m + 1) + 2 = 3 * m + 2 + 1 + 1 + 1 from by omega]; simp [ih]
    rw [show 8 * n + 7 = 5 * (n + 1) + (3 * n + 2) from by omega, ← List.drop_drop, h1, h2]
  obtain ⟨q, hq⟩ := lexF_step famQ (-1) (opens (n + 1) (shuts (n + 1) [32, 120])) (by simp [opens])
  have hs : stp famQ (-1) (opens (n + 1) (shuts (n + 1) [32, 120])) = blkW famQ 0 (opens (n + 1) (shuts (n + 1) [32, 120])) := stp_blk (.inr (.inr rfl)) _ _
  rw [hs, e] at hq
  have hlen : ((3 :: 3 :: 1 :: 1 :: 1 :: l) ++ l2).length = 8 * n + 7 := by simp; omega
  rw [hlen, hd, lexF_plain' famQ [32, 32, 120] (plain_of _ _ (by decide))] at hq
  rw [hq]
  exact Ends.of _ (by simp; omega) (by simp) rfl (1 :: (l ++ l2)) rfl

end Go.Proofs.Ytjbbogcoabgcnaa.Src
