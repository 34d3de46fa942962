/- span.Cover on parts that lie side by side: it answers true. Conditions: none. -/
import Derived.Test.YtecpmgbahknneaaLCov
import Derived.Test.YtecpmgbahknneaaLCC
import Derived.Test.YtecpmgbahknneaaLRef
namespace Go.Proofs.Ytecpmgbahknneaa.L
open Go.RowKit Go.Proofs.YtecpmgbahknneaaW.PrintWords Go.Proofs.YtecpmgbahknneaaW.PrintMore

def toP (s : Sg) : LC.S33 := ⟨s.2.1, s.2.2⟩
def spC (S : List Sg) : List Value := S.flatMap fun s => [.int .i64 s.2.1, .int .i64 s.2.2]
theorem spC_length (S : List Sg) : (spC S).length = S.length * 2 := by
  induction S with
  | nil => rfl
  | cons x S ih => simp [spC] at ih ⊢; omega
theorem spC_snoc (S : List Sg) (s : Sg) : spC (S ++ [s]) = spC S ++ [.int .i64 s.2.1, .int .i64 s.2.2] := by simp [spC]
theorem cover_l0 (S : List Sg) (n : Int) (hS : chain 0 S = some n) (hb : ∀ s ∈ S, 0 ≤ s.2.1 ∧ 1 ≤ s.2.2 ∧ s.2.1 + s.2.2 ≤ 65536) (hl : S.length ≤ 1000000) : ∀ (d k q : Nat) (e : Int), S.length - q = d → q ≤ S.length → d < k → chain 0 (S.take q) = some e →
    LC.span_Cover.l0 k n e (S.map toP) (S.length : Int) q = some true := by
  intro d
  induction d with
  | zero =>
    intro k q e hd hq hk he
    obtain ⟨k, rfl⟩ : ∃ m, k = m + 1 := ⟨k - 1, by omega⟩
    rw [List.take_of_length_le (by omega), hS] at he
    obtain rfl := Option.some.inj he
    simp only [LC.span_Cover.l0]
    rw [if_neg (by omega)]
    simp
  | succ d ih =>
    intro k q e hd hq hk he
    obtain ⟨k, rfl⟩ : ∃ m, k = m + 1 := ⟨k - 1, by omega⟩
    obtain ⟨s, hs⟩ : ∃ s, S[q]? = some s := ⟨_, List.getElem?_eq_getElem (by omega)⟩
    obtain ⟨c1, c2, c3⟩ := chain_take S n hS q s hs
    rw [c1] at he
    obtain rfl := Option.some.inj he
    have hbs := hb s (List.mem_of_getElem? hs)
    have hr : LC.rd_T33 (S.map toP) (q : Int) = toP s := by
      unfold LC.rd_T33
      rw [Int.toNat_natCast, List.getD_eq_getElem?_getD, List.getElem?_map, hs]
      rfl
    have hsd : LC.span_sound.f (toP s).f0 (toP s).f1 = some true := by
      show LC.span_sound.f s.2.1 s.2.2 = some true
      unfold LC.span_sound.f
      rw [if_pos (by omega), if_pos (by omega), if_pos (by omega), show decide (s.2.1 ≤ 65536) = true from by simp; omega]
    have hed : LC.span_end.f (toP s).f0 (toP s).f1 = some (s.2.1 + s.2.2) := by
      show LC.span_end.f s.2.1 s.2.2 = _
      unfold LC.span_end.f
      rw [show wrap64 (s.2.1 + s.2.2) = s.2.1 + s.2.2 from by unfold wrap64; omega]
    have hne : ¬ (toP s).f1 = 0 := by show ¬ s.2.2 = 0; omega
    have hat : (toP s).f0 = s.2.1 := rfl
    simp only [LC.span_Cover.l0]
    rw [hr, if_pos (by omega), if_pos (by omega), if_pos (by rw [List.length_map]; omega), hsd, Option.bind_some, if_pos rfl, if_pos hat, if_neg hne, hed, Option.bind_some, show wrap64 ((q : Int) + 1) = ((q + 1 : Nat) : Int) from by unfold wrap64; omega]
    exact ih k (q + 1) _ (by omega) (by omega) (by omega) c2
theorem reps_spC (w : World) (S : List Sg) : Reps (LC.k33.K w) 2 (S.map toP) (spC S) := by
  induction S with
  | nil => exact Reps.none _ _
  | cons s S ih => exact Reps.c2 (LC.k33_mk w (toP s)) ih
theorem own_P {w : World} {base n : Nat} {v : Value} {S : List Sg} (h : w.ownsRow base 33 2 v n (spC S)) : ∃ A c, v = .slice A (S.map toP).length c ∧ (S.map toP).length ≤ c ∧ Kd.C LC.k33 w A (S.map toP).length (S.map toP) := by
  have hn : n = S.length := by
    have := h.1
    rw [spC_length] at this
    omega
  subst hn
  have hnc : ∃ A c, v = .slice A S.length c ∧ S.length ≤ c := by
    rcases h.2 with ⟨rfl, h0⟩ | ⟨g, cap, cur, rfl, _, _, hc, _⟩
    · exact ⟨none, 0, by rw [h0], by omega⟩
    · exact ⟨_, cap, rfl, hc⟩
  obtain ⟨A, c, rfl, hc⟩ := hnc
  obtain ⟨A', c', e, hr⟩ := own_reads_row h (reps_spC w S) (by simp)
  injection e with e1 e2 e3
  subst e1
  refine ⟨A, c, by simp, by simpa using hc, ?_⟩
  rw [List.length_map]
  exact hr
theorem cover_any (A : Option Addr) (c : Nat) (S : List Sg) (n : Int) (w : World) (h : Kd.C LC.k33 w A (S.map toP).length (S.map toP)) (hc : (S.map toP).length ≤ c) (hS : chain 0 S = some n) (hb : ∀ s ∈ S, 0 ≤ s.2.1 ∧ 1 ≤ s.2.2 ∧ s.2.1 + s.2.2 ≤ 65536) (hl : S.length ≤ 1000000) :
    Calls Try.prog 19 #[.slice A (S.map toP).length c, .int .i64 n] w fun e w' => e = .returned (.bool true) ∧ Below w.heap.size w w' :=
  LC.span_Cover.calls (S.length + 1) A c (S.map toP) n true w h hc (by
    unfold LC.span_Cover.f
    rw [List.length_map]
    exact cover_l0 S n hS hb hl S.length (S.length + 1) 0 0 rfl (Nat.zero_le _) (by omega) rfl)
end Go.Proofs.Ytecpmgbahknneaa.L
