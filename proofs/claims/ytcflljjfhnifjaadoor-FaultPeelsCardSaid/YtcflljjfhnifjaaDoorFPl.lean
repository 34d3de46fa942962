/- Errors in places, in plain words; a place in memory. Conditions: as each lemma says. -/
import Derived.Test.YtcflljjfhnifjaaDoorWFaultCodes
set_option linter.unusedVariables false
set_option linter.unusedSimpArgs false
namespace Go.Proofs.YtcflljjfhnifjaaDoor.F
open Go.RowKit Go.Extern.Stop Go.Stop Go.Extern Go.Proofs.YtcflljjfhnifjaaDoorW.PrintWords Go.Proofs.YtcflljjfhnifjaaDoorW.Opn

abbrev plC (p : Pl) : Obj := .cells #[.string p.l, .int .i64 p.k, .bool p.o] 30 (0, 0)
theorem pl_cells {W : World} {g : Nat} {p : Pl} (h : W.heap[g]? = some (plC p)) : W.cell? ⟨g, 0, none⟩ = some (.string p.l) ∧ W.cell? ⟨g, 1, none⟩ = some (.int .i64 p.k) ∧ W.cell? ⟨g, 2, none⟩ = some (.bool p.o) ∧ ∀ j, W.frozen? ⟨g, j, none⟩ = false :=
  ⟨(blk_cell h 0).trans rfl, (blk_cell h 1).trans rfl, (blk_cell h 2).trans rfl, fun j => blk_frozen h j⟩
theorem pl_put {W : World} {g : Nat} {p : Pl} (h : W.heap[g]? = some (plC p)) (q : Pl) : (((W.setCell ⟨g, 0, none⟩ (.string q.l)).setCell ⟨g, 1, none⟩ (.int .i64 q.k)).setCell ⟨g, 2, none⟩ (.bool q.o)).heap[g]? = some (plC q) :=
  blk_set (blk_set (blk_set h 0 (.string q.l)) 1 (.int .i64 q.k)) 2 (.bool q.o)
theorem EV.put {W : World} {p : Addr} {u : Value} {cs : Array Value} {ty : TypeId} {fz : Nat × Nat} {o : Option Er} {v : Value} (h : EV W o v) (hp : W.heap[p.block]? = some (.cells cs ty fz)) (hty : ty ≠ 41) : EV (W.setCell p u) o v := by
  cases o with
  | none => exact h
  | some e => exact ErV.put hp hty e v h
theorem Hx.put {W : World} {g j : Nat} {u : Value} (h : Hx W) (hg : 0 < g) : Hx (W.setCell ⟨g, j, none⟩ u) := by
  unfold Hx at h ⊢
  rw [World.cell?_setCell_other _ _ _ _ (show (⟨g, j, none⟩ : Addr) ≠ ⟨0, 0, none⟩ from fun e => by injection e with e; omega)]
  exact h
theorem pl_keep {W0 W : World} {g : Nat} {p : Pl} {o : Option Er} {v : Value} (h : W.heap[g]? = some (plC p)) (hg0 : 0 < g) (hgW : W0.heap.size ≤ g) (q : Pl) (hx : Hx W) (he : EV W o v) (hb : Below W0.heap.size W0 W) :
    (((W.setCell ⟨g, 0, none⟩ (.string q.l)).setCell ⟨g, 1, none⟩ (.int .i64 q.k)).setCell ⟨g, 2, none⟩ (.bool q.o)).heap[g]? = some (plC q) ∧ Hx (((W.setCell ⟨g, 0, none⟩ (.string q.l)).setCell ⟨g, 1, none⟩ (.int .i64 q.k)).setCell ⟨g, 2, none⟩ (.bool q.o)) ∧ EV (((W.setCell ⟨g, 0, none⟩ (.string q.l)).setCell ⟨g, 1, none⟩ (.int .i64 q.k)).setCell ⟨g, 2, none⟩ (.bool q.o)) o v ∧ Below W0.heap.size W0 (((W.setCell ⟨g, 0, none⟩ (.string q.l)).setCell ⟨g, 1, none⟩ (.int .i64 q.k)).setCell ⟨g, 2, none⟩ (.bool q.o)) := by
  have b1 := blk_set h 0 (.string q.l)
  have b2 := blk_set b1 1 (.int .i64 q.k)
  exact ⟨pl_put h q, ((hx.put hg0).put hg0).put hg0, ((he.put (p := ⟨g, 0, none⟩) h (by decide)).put (p := ⟨g, 1, none⟩) b1 (by decide)).put (p := ⟨g, 2, none⟩) b2 (by decide), ((hb.setCell (p := ⟨g, 0, none⟩) hgW _).setCell (p := ⟨g, 1, none⟩) hgW _).setCell (p := ⟨g, 2, none⟩) hgW _⟩
def zPl : Pl := ⟨⟨#[]⟩, 0, false⟩
/-- The outermost place that says something. -/
def fst (code : Int) (ps : List Pl) : Option Pl := if code = 0 then none else ps.find? (fun p => !p.o)
theorem fst_step (code : Int) (ps : List Pl) (j : Nat) (p : Pl) (h : ps[j]? = some p) : fst code (ps.take (j + 1)) = if (fst code (ps.take j)).isSome then fst code (ps.take j) else if code ≠ 0 ∧ p.o = false then some p else none := by
  unfold fst
  by_cases hc : code = 0
  · rw [if_pos hc, if_pos hc]
    simp [hc]
  · rw [if_neg hc, if_neg hc, List.take_add_one, h, Option.toList_some, List.find?_append]
    cases hf : (ps.take j).find? (fun p => !p.o) with
    | some q => simp
    | none =>
      cases ho : p.o with
      | true => simp [ho]
      | false => simp [ho, hc]
theorem outer_made (code : Int) (hc : code ≠ 0) (ps : List Pl) : (fst code ps = none → outE (madeE code ps) = none) ∧ ∀ p, fst code ps = some p → ∃ e1, outE (madeE code ps) = some (p.l, p.k, e1) ∧ codeOf e1 = some code := by
  unfold fst
  rw [if_neg hc]
  induction ps with
  | nil =>
    refine ⟨fun _ => ?_, fun p h => by cases h⟩
    show outE (ofE code) = none
    unfold ofE
    rw [if_neg hc]
    rfl
  | cons p ps ih =>
    obtain ⟨e, h1, h2⟩ := made_some code hc ps
    have hm : madeE code (p :: ps) = stepE p (some e) := by show stepE p (madeE code ps) = _; rw [h1]
    rw [h1] at ih
    cases ho : p.o with
    | true =>
      have hs : stepE p (some e) = some (.other e) := by unfold stepE; rw [if_pos ⟨ho, rfl⟩]; rfl
      rw [hm, hs, List.find?_cons, ho]
      exact ih
    | false =>
      have hs : stepE p (some e) = some (.at_ p.l p.k e) := by unfold stepE; rw [if_neg (by rw [ho]; simp)]; rfl
      rw [hm, hs, List.find?_cons, ho]
      refine ⟨fun h => by simp at h, fun q h => ?_⟩
      have hq : p = q := by simpa using h
      subst hq
      exact ⟨e, rfl, h2⟩
end Go.Proofs.YtcflljjfhnifjaaDoor.F
