/- SpanRows, in plain lists: what the loops of Apart and Cover answer is what the law reckons. Conditions: none. -/
import Derived.Test.YtehabojhdogghaaSpanRowsOwn
import Derived.Test.YtehabojhdogghaaOpn
namespace Go.Proofs.Ytehabojhdogghaa.PSpanRows
open Go.RowKit Go.Proofs.YtehabojhdogghaaW.PrintWords Go.Proofs.YtehabojhdogghaaW.PrintLast Go.Proofs.YtehabojhdogghaaW.PrintMore

def sndB (s : S23) : Bool := decide (0 ≤ s.f0 ∧ s.f0 ≤ 65536 ∧ 0 ≤ s.f1 ∧ s.f1 ≤ 65536)
theorem sndB_iff (s : S23) : sndB s = true ↔ 0 ≤ s.f0 ∧ s.f0 ≤ 65536 ∧ 0 ≤ s.f1 ∧ s.f1 ≤ 65536 := by simp [sndB]
def apartL : Int → List S23 → Bool
  | _, [] => true
  | last, s :: r => if sndB s = true then (if s.f0 < last then false else apartL (wrap64 (s.f0 + s.f1)) r) else false
def coverL (n : Int) : Int → List S23 → Bool
  | last, [] => last == n
  | last, s :: r => if sndB s = true then (if s.f0 = last then (if s.f1 = 0 then false else coverL n (wrap64 (s.f0 + s.f1)) r) else false) else false

theorem sound_f (s : S23) : span_sound.f s.f0 s.f1 = some (sndB s) := by
  unfold span_sound.f
  repeat' split
  all_goals (congr 1; rw [Bool.eq_iff_iff, sndB_iff]; simp only [decide_eq_true_eq, Bool.false_eq_true, false_iff]; omega)
theorem ref_sound_f (s : S23) : redpenref01_Sound.f s.f0 s.f1 = some (sndB s) := by
  unfold redpenref01_Sound.f
  repeat' split
  all_goals (congr 1; rw [Bool.eq_iff_iff, sndB_iff]; simp only [decide_eq_true_eq, Bool.false_eq_true, false_iff]; omega)
theorem awake_f (k : Nat) : redpenlaw01_Awake.f (k + 1) = some true := at_rounds (redpenlaw01_Awake.mono) (show 1 ≤ k + 1 by omega) (by decide +kernel)
theorem wp (i : Nat) (h : i < 1000000) : wrap64 ((i : Int) + 1) = ((i + 1 : Nat) : Int) := by unfold wrap64; omega
theorem rd_at (xs : List S23) (i : Nat) (h : i < xs.length) : xs.drop i = rd_T23 xs (i : Int) :: xs.drop (i + 1) := by
  rw [List.drop_eq_getElem_cons h]
  congr 1
  unfold rd_T23
  rw [Int.toNat_natCast, List.getD_eq_getElem?_getD, List.getElem?_eq_getElem h]
  rfl

theorem apart_l0 (xs : List S23) (hx : xs.length ≤ 1000) : ∀ (d k i : Nat) (last : Int), xs.length - i = d → i ≤ xs.length → d < k → span_Apart.l0 k last xs (xs.length : Int) i = some (apartL last (xs.drop i)) := by
  intro d
  induction d with
  | zero =>
    intro k i last hd hi hk
    obtain ⟨k, rfl⟩ : ∃ m, k = m + 1 := ⟨k - 1, by omega⟩
    simp only [span_Apart.l0]
    rw [if_neg (by omega), List.drop_eq_nil_of_le (by omega)]
    rfl
  | succ d ih =>
    intro k i last hd hi hk
    obtain ⟨k, rfl⟩ : ∃ m, k = m + 1 := ⟨k - 1, by omega⟩
    simp only [span_Apart.l0, span_end.f]
    rw [if_pos (by omega), if_pos (by omega), if_pos (by omega), sound_f, rd_at xs i (by omega), apartL, wp i (by omega)]
    simp only [Option.bind_some]
    rw [ih k (i + 1) _ (by omega) (by omega) (by omega)]
    split
    · split <;> rfl
    · rfl
theorem cover_l0 (xs : List S23) (n : Int) (hx : xs.length ≤ 1000) : ∀ (d k i : Nat) (last : Int), xs.length - i = d → i ≤ xs.length → d < k → span_Cover.l0 k n last xs (xs.length : Int) i = some (coverL n last (xs.drop i)) := by
  intro d
  induction d with
  | zero =>
    intro k i last hd hi hk
    obtain ⟨k, rfl⟩ : ∃ m, k = m + 1 := ⟨k - 1, by omega⟩
    simp only [span_Cover.l0]
    rw [if_neg (by omega), List.drop_eq_nil_of_le (by omega)]
    rfl
  | succ d ih =>
    intro k i last hd hi hk
    obtain ⟨k, rfl⟩ : ∃ m, k = m + 1 := ⟨k - 1, by omega⟩
    simp only [span_Cover.l0, span_end.f]
    rw [if_pos (by omega), if_pos (by omega), if_pos (by omega), sound_f, rd_at xs i (by omega), coverL, wp i (by omega)]
    simp only [Option.bind_some]
    rw [ih k (i + 1) _ (by omega) (by omega) (by omega)]
    repeat' split
    all_goals rfl
theorem apart_f (xs : List S23) (k : Nat) (hx : xs.length ≤ 1000) (hk : xs.length < k) : span_Apart.f k xs = some (apartL 0 xs) := by
  unfold span_Apart.f
  exact apart_l0 xs hx xs.length k 0 0 rfl (by omega) hk
theorem cover_f (xs : List S23) (n : Int) (k : Nat) (hx : xs.length ≤ 1000) (hk : xs.length < k) : span_Cover.f k xs n = some (coverL n 0 xs) := by
  unfold span_Cover.f
  exact cover_l0 xs n hx xs.length k 0 0 rfl (by omega) hk

theorem law_l1 (xs : List S23) (n : Int) (hx : xs.length ≤ 1000) : ∀ (d k i : Nat) (a c : Bool) (last : Int), xs.length - i = d → i ≤ xs.length → d + xs.length + 1 < k →
    apartL 0 xs = (a && apartL last (xs.drop i)) → (∀ m, coverL m 0 xs = (c && coverL m last (xs.drop i))) → redpenlaw01_SpanRows.l1 k xs n a c last xs (xs.length : Int) i = some true := by
  intro d
  induction d with
  | zero =>
    intro k i a c last hd hi hk ha hc
    obtain ⟨k, rfl⟩ : ∃ m, k = m + 1 := ⟨k - 1, by omega⟩
    rw [List.drop_eq_nil_of_le (by omega)] at ha hc
    simp only [apartL, coverL, Bool.and_true] at ha hc
    simp only [redpenlaw01_SpanRows.l1]
    rw [if_neg (by omega), apart_f xs k hx (by omega), cover_f xs n k hx (by omega), cover_f xs last k hx (by omega), ha, hc n, hc last]
    cases c <;> simp
  | succ d ih =>
    intro k i a c last hd hi hk ha hc
    obtain ⟨k, rfl⟩ : ∃ m, k = m + 1 := ⟨k - 1, by omega⟩
    rw [rd_at xs i (by omega)] at ha hc
    simp only [redpenlaw01_SpanRows.l1]
    rw [if_pos (by omega), if_pos (by omega), if_pos (by omega), ref_sound_f, wp i (by omega)]
    simp only [Option.bind_some]
    generalize hs : rd_T23 xs (i : Int) = s at *
    simp only [apartL, coverL] at ha hc
    by_cases hsnd : sndB s = true
    · rw [if_pos hsnd] at ha
      simp only [if_pos hsnd] at hc
      rw [if_pos hsnd]
      have hb := (sndB_iff s).1 hsnd
      have key : ∀ a' c', a' = (a && decide (s.f0 ≥ last)) → c' = (c && decide (s.f0 = last) && decide (s.f1 > 0)) →
          redpenlaw01_SpanRows.l1 k xs n a' c' (wrap64 (s.f0 + s.f1)) xs (xs.length : Int) ((i + 1 : Nat) : Int) = some true := by
        intro a' c' ea ec
        refine ih k (i + 1) a' c' _ (by omega) (by omega) (by omega) ?_ ?_
        · rw [ha, ea]
          by_cases h1 : s.f0 < last
          · rw [if_pos h1, show decide (s.f0 ≥ last) = false from by simp; omega]
            simp
          · rw [if_neg h1, show decide (s.f0 ≥ last) = true from by simp; omega]
            simp
        · intro m
          rw [hc m, ec]
          by_cases h1 : s.f0 = last
          · by_cases h2 : s.f1 = 0
            · simp [h1, h2]
            · have : s.f1 > 0 := by omega
              simp [h1, h2, this]
          · simp [h1]
      cases a <;> cases c
      · simp only [Bool.false_eq_true, if_false]
        exact key _ _ (by simp) (by simp)
      · simp only [Bool.false_eq_true, if_false, if_true]
        by_cases h1 : s.f0 = last
        · rw [if_pos h1]
          exact key _ _ (by simp) (by simp [h1])
        · rw [if_neg h1]
          exact key _ _ (by simp) (by simp [h1])
      · simp only [Bool.false_eq_true, if_false, if_true]
        exact key _ _ (by simp) (by simp)
      · simp only [if_true]
        by_cases h1 : s.f0 = last
        · rw [if_pos h1]
          exact key _ _ (by simp) (by simp [h1])
        · rw [if_neg h1]
          exact key _ _ (by simp) (by simp [h1])
    · rw [if_neg hsnd] at ha
      simp only [if_neg hsnd] at hc
      rw [if_neg hsnd, apart_f xs k hx (by omega), cover_f xs n k hx (by omega), ha, hc n]
      simp
theorem law_l0 (n : Int) (g : Bool) (L : Nat) (hL : L ≤ 100) : ∀ (d k i : Nat) (xs : List S23), L - i = d → i ≤ L → 2 * d + 2 * L + 4 < k → xs.length = L → redpenlaw01_SpanRows.l0 k xs n g (L : Int) i = some true := by
  intro d
  induction d with
  | zero =>
    intro k i xs hd hi hk hx
    obtain ⟨k, rfl⟩ : ∃ m, k = m + 1 := ⟨k - 1, by omega⟩
    simp only [redpenlaw01_SpanRows.l0]
    rw [if_neg (by omega)]
    exact law_l1 xs n (by omega) xs.length k 0 true true 0 rfl (by omega) (by omega) (by simp) (by simp)
  | succ d ih =>
    intro k i xs hd hi hk hx
    obtain ⟨k, rfl⟩ : ∃ m, k = m + 2 := ⟨k - 2, by omega⟩
    have go : ∀ ys : List S23, ys.length = L → redpenlaw01_SpanRows.l0 k ys n g (L : Int) (wrap64 ((i : Int) + 1)) = some true := fun ys hy => by
      rw [wp i (by omega)]
      exact ih k (i + 1) ys (by omega) (by omega) (by omega) hy
    have hj : ∀ b, redpenlaw01_SpanRows.j1 (k + 1) xs n g i (L : Int) i b = some true := by
      intro b
      simp only [redpenlaw01_SpanRows.j1]
      cases b with
      | false =>
        simp only [Bool.false_eq_true, if_false]
        exact go xs hx
      | true =>
        simp only [if_true]
        rw [if_pos (by omega), if_pos (by omega)]
        simp only [Option.bind_some]
        by_cases h0 : 0 < i
        · have hw : wrap64 ((i : Int) - 1) = ((i - 1 : Nat) : Int) := by unfold wrap64; omega
          rw [if_pos (by omega), hw, if_pos (by omega), if_pos (by omega)]
          exact go _ (by simpa using hx)
        · rw [if_neg (by omega)]
          exact go _ (by simpa using hx)
    rw [redpenlaw01_SpanRows.l0, if_pos (by omega)]
    cases g with
    | false =>
      simp only [Bool.false_eq_true, if_false]
      exact hj _
    | true =>
      simp only [if_true]
      rw [if_pos (by omega), if_pos (by omega), ref_sound_f]
      simp only [Option.bind_some]
      exact hj _
theorem holds (l : List S23) (n : Int) (g : Bool) : redpenlaw01_SpanRows.f 1000 l n g = some true := by
  unfold redpenlaw01_SpanRows.f
  rw [awake_f]
  simp only [Option.bind_some, if_true]
  by_cases h : l.length > 100
  · rw [if_pos (by omega)]
  · rw [if_neg (by omega), if_pos (by simp; omega)]
    simp only [List.nil_append]
    exact law_l0 n g l.length (by omega) l.length 1000 0 l rfl (by omega) (by omega) rfl
end Go.Proofs.Ytehabojhdogghaa.PSpanRows
namespace Go.Proofs.Ytehabojhdogghaa.Wk.SpanRows
open Go.RowKit Go.Proofs.YtehabojhdogghaaW.PrintWords Go.Proofs.YtehabojhdogghaaW.Opn Go.Proofs.Ytehabojhdogghaa.PSpanRows
/-- A list of spans. -/
theorem op38 : Opens Try.prog 38 (Kd.slice 23 k23) (fun _ => True) :=
  Opens.imp (Opens.slice (B := 16) (Opens.iso (fun p : Int × Int => (⟨p.1, p.2⟩ : S23)) (fun _ => rfl) (kII_opens Try.underlying23 rfl rfl Try.underlying3 rfl rfl (by kernel_rfl) (by kernel_rfl))) Try.underlying38 (by kernel_rfl) (by kernel_rfl)) (fun _ _ => trivial)
theorem walk (A0 : Option Addr) (c0 : Nat) (l0 : List S23) (a1 : Int) (a2 : Bool) (w : World) (hr0 : Kd.C k23 w A0 l0.length l0) (hc0 : l0.length ≤ c0) (_ : True) (_ : (Lit.int .i64 a1).wf = true) :
    Calls Try.prog 7 #[.slice A0 l0.length c0, .int .i64 a1, .bool a2] w fun e w' => e = .returned (.bool true) ∧ Below w.heap.size w w' :=
  redpenlaw01_SpanRows.calls 1000 A0 c0 l0 a1 a2 true w hr0 hc0 (holds l0 a1 a2)
end Go.Proofs.Ytehabojhdogghaa.Wk.SpanRows
