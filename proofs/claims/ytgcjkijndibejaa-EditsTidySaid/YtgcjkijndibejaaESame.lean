/- Edits as the printed reference reads them; two equal lists are the same to it. Conditions: as each lemma says. -/
import Derived.Test.YtgcjkijndibejaaPSameEditsx2
import Derived.Test.YtgcjkijndibejaaECv
set_option linter.unusedVariables false
set_option linter.unusedSimpArgs false
namespace Go.Proofs.Ytgcjkijndibejaa.Srt
open Go.Lib hiding bytesOf bytesOf_length
open Go.Shelf Go.RowKit Go.Proofs.YtgcjkijndibejaaW.PrintWords Go.Proofs.YtgcjkijndibejaaW.PrintLast

theorem add_off (g o n : Nat) : (⟨g, o, none⟩ : Addr).add n = ⟨g, o + n, none⟩ := by
  unfold Addr.add
  by_cases h : n = 0 <;> simp [h]
def frE (e : Ed) : PSameEdits.S46 := ⟨⟨e.1, e.2.1⟩, e.2.2⟩
theorem EdR.toC {W : World} {v : Value} {es : List Ed} (h : EdR W v es) (hl : es.length ≤ 1000000) : ∃ A c, v = .slice A es.length c ∧ es.length ≤ c ∧ Kd.C PSameEdits.k46 W A (es.map frE).length (es.map frE) := by
  obtain ⟨A, c, rfl, hc, hr⟩ := h.form
  refine ⟨A, c, rfl, hc, rfl, by rw [List.length_map]; omega, fun hp => ?_⟩
  rw [List.length_map] at hp
  obtain ⟨g, o, rfl, hg, hcell⟩ := hr hp
  refine ⟨_, rfl, fun j p hj => ?_⟩
  rw [List.getElem?_map] at hj
  have hjl : j < es.length := by
    rcases Nat.lt_or_ge j es.length with h | h
    · exact h
    · rw [List.getElem?_eq_none h] at hj
      cases hj
  rw [List.getElem?_eq_getElem hjl] at hj
  have hp2 : p = frE (es.getD j dE) := by
    rw [List.getD_eq_getElem?_getD, List.getElem?_eq_getElem hjl]
    exact (Option.some.inj hj).symm
  subst hp2
  have hz : PSameEdits.k46.sz = 3 := rfl
  refine ⟨encE (es.getD j dE), rfl, PSameEdits.k46_mk W (frE (es.getD j dE)), fun i u hu => ?_⟩
  have hi : i < 3 := by
    have := (List.getElem?_eq_some_iff.1 hu).1
    simpa [encE] using this
  have := hcell j i hjl hi
  rw [hu] at this
  rw [hz, ← this, add_off]
theorem same_loop (l : List PSameEdits.S46) (hl : l.length ≤ 1000000) : ∀ (m i : Nat), m + i = l.length → PSameEdits.redpenref18_SameEdits.l0 (m + 1) l l (i : Int) = some true := by
  intro m
  induction m with
  | zero =>
    intro i hi
    unfold PSameEdits.redpenref18_SameEdits.l0
    rw [if_neg (by omega)]
  | succ m ih =>
    intro i hi
    unfold PSameEdits.redpenref18_SameEdits.l0
    rw [if_pos (by omega), if_pos (by omega), if_pos (by omega)]
    have w5 : wrap64 ((i : Int) + 1) = ((i + 1 : Nat) : Int) := by unfold wrap64; omega
    rw [w5, ih (i + 1) (by omega)]
    simp
theorem same_any (v1 v2 : Value) (es : List Ed) (w : World) (h1 : EdR w v1 es) (h2 : EdR w v2 es) (hl : es.length ≤ 1000000) :
    Calls Try.prog 14 #[v1, v2] w fun e w' => e = .returned (.bool true) ∧ Below w.heap.size w w' := by
  obtain ⟨A1, c1, rfl, hc1, hC1⟩ := h1.toC hl
  obtain ⟨A2, c2, rfl, hc2, hC2⟩ := h2.toC hl
  have hf : PSameEdits.redpenref18_SameEdits.f ((es.map frE).length + 1) (es.map frE) (es.map frE) = some true := by
    unfold PSameEdits.redpenref18_SameEdits.f
    rw [if_pos rfl]
    exact same_loop _ (by rw [List.length_map]; exact hl) _ 0 (by omega)
  have hm : (es.map frE).length = es.length := List.length_map _
  have := PSameEdits.redpenref18_SameEdits.calls _ A1 c1 (es.map frE) A2 c2 (es.map frE) true w hC1 (by rw [hm]; exact hc1) hC2 (by rw [hm]; exact hc2) hf
  rw [hm] at this
  refine this.mono ?_
  rintro e w' ⟨rfl, hd⟩
  exact ⟨rfl, hd.below⟩
end Go.Proofs.Ytgcjkijndibejaa.Srt
