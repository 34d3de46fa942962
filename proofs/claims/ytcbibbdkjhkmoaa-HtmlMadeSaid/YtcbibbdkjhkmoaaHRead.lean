/- A tag's reading, walked. Conditions: as each lemma says. -/
import Derived.Test.YtcbibbdkjhkmoaaHAttr
import Derived.Test.YtcbibbdkjhkmoaaLSeg
set_option linter.unusedVariables false
set_option linter.unusedSimpArgs false
namespace Go.Proofs.Ytcbibbdkjhkmoaa.H
open Go.RowKit Go.Proofs.YtcbibbdkjhkmoaaW.PrintWords Go.Proofs.Ytcbibbdkjhkmoaa.L Go.Proofs.Ytcbibbdkjhkmoaa.S Go.Proofs.Ytcbibbdkjhkmoaa.Htm

def spC (S : List (Nat × Nat)) : List Value := S.flatMap fun s => [.int .i64 s.1, .int .i64 s.2]
theorem spC_length (S : List (Nat × Nat)) : (spC S).length = S.length * 2 := by
  induction S with
  | nil => rfl
  | cons x S ih => simp [spC] at ih ⊢; omega
theorem spC_snoc (S : List (Nat × Nat)) (x : Nat × Nat) : spC (S ++ [x]) = spC S ++ [.int .i64 x.1, .int .i64 x.2] := by simp [spC]
def noTag : Value := .agg #[.int .i64 0, .string ⟨#[]⟩, .bool false, .slice none 0 0]
abbrev tgC (x : Int) (y : ByteArray) (z : Bool) (u : Value) : Obj := .cells #[.int .i64 x, .string y, .bool z, u] 43 (0, 0)
theorem tg_cells {W : World} {g : Nat} {x : Int} {y : ByteArray} {z : Bool} {u : Value} (h : W.heap[g]? = some (tgC x y z u)) :
    W.cell? ⟨g, 0, none⟩ = some (.int .i64 x) ∧ W.cell? ⟨g, 1, none⟩ = some (.string y) ∧ W.cell? ⟨g, 2, none⟩ = some (.bool z) ∧ W.cell? ⟨g, 3, none⟩ = some u :=
  ⟨(blk_cell h 0).trans rfl, (blk_cell h 1).trans rfl, (blk_cell h 2).trans rfl, (blk_cell h 3).trans rfl⟩
set_option maxRecDepth 100000 in
theorem read_out (A : Option Addr) (n c : Nat) (a : Int) (W : World) (ha : a < 0 ∨ (n : Int) ≤ a) :
    Calls Try.prog 17 #[.slice A n c, .int .i64 a] W fun e w' => e = .returned (.tuple #[noTag, .bool false]) ∧ Below W.heap.size W w' := by
  by_cases h0 : a < 0
  · have h1 : decide (a < 0) = true := by simp [h0]
    go_enter Try.func17, Try.ntmps17
    go_wp2_with fail
    obtain ⟨k0, k1, k2, k3⟩ := tg_cells (blk_new W (tgC 0 ⟨#[]⟩ false (.slice none 0 0)))
    have HF := Lib.hid (below_alloc (Below.refl W.heap.size W) (tgC 0 ⟨#[]⟩ false (.slice none 0 0)))
    generalize hw2 : W.alloc (tgC 0 ⟨#[]⟩ false (.slice none 0 0)) = w2 at *
    (try simp only [Exit.inBlock, Exit.then])
    refine bodyPost_ret (v := .tuple #[noTag, .bool false]) ?_ rfl ?_
    · simp [results, Try.results17, go_sem, k0, k1, k2, k3]
      try rfl
    exact ⟨rfl, HF.out⟩
  · have h1 : decide (a < 0) = false := by simp [h0]
    have h2 : decide ((n : Int) ≤ a) = true := by simp; omega
    go_enter Try.func17, Try.ntmps17
    go_wp2_with fail
    obtain ⟨k0, k1, k2, k3⟩ := tg_cells (blk_new W (tgC 0 ⟨#[]⟩ false (.slice none 0 0)))
    have HF := Lib.hid (below_alloc (Below.refl W.heap.size W) (tgC 0 ⟨#[]⟩ false (.slice none 0 0)))
    generalize hw2 : W.alloc (tgC 0 ⟨#[]⟩ false (.slice none 0 0)) = w2 at *
    (try simp only [Exit.inBlock, Exit.then])
    refine bodyPost_ret (v := .tuple #[noTag, .bool false]) ?_ rfl ?_
    · simp [results, Try.results17, go_sem, k0, k1, k2, k3]
      try rfl
    exact ⟨rfl, HF.out⟩

theorem own_ne {W : World} {base : Nat} {e : TypeId} {size : Nat} {v : Value} {k : Nat} {xs : List Value} (h : W.ownsRow base e size v k xs) {j : Nat} {cs : Array Value} {t : TypeId} {fz : Nat × Nat} (hj : W.heap[j]? = some (.cells cs t fz)) (ht : t ≠ e) : v.ownBlock ≠ some j := by
  intro hv
  rcases h.2 with ⟨rfl, _⟩ | ⟨g, cap, cur, rfl, _, hg, _⟩
  · cases hv
  · simp only [Value.ownBlock, Option.some.injEq] at hv
    subst hv
    rw [hg] at hj
    injection hj with hj
    injection hj with _ e _
    exact ht e.symm
/-- A reading under way. -/
structure Rd (w0 W : World) (s t r : Nat) (A : Option Addr) (c : Nat) (b : List Int) (p : Nat) (nm : List Int) (cl : Bool) (v : Value) (S : List (Nat × Nat)) : Prop where
  sc : Sc w0 W s A c b p
  tb : W.heap[t]? = some (tgC 0 (strOfNums nm) cl v)
  rb : W.heap[r]? = some (tgC 0 ⟨#[]⟩ false (.slice none 0 0))
  own : W.ownsRow w0.heap.size 54 2 v S.length (spC S)
  lt : w0.heap.size ≤ t
  lr : w0.heap.size ≤ r
  ne : t ≠ r
section
variable {w0 W W' : World} {s t r : Nat} {A : Option Addr} {c : Nat} {b : List Int} {p : Nat} {nm : List Int} {cl : Bool} {v : Value} {S : List (Nat × Nat)}
theorem Rd.st (h : Rd w0 W s t r A c b p nm cl v S) : s ≠ t := blk_ne h.sc.blk h.tb (by decide)
theorem Rd.sr (h : Rd w0 W s t r A c b p nm cl v S) : s ≠ r := blk_ne h.sc.blk h.rb (by decide)
theorem Rd.below (h : Rd w0 W s t r A c b p nm cl v S) (hb : Below W.heap.size W W') : Rd w0 W' s t r A c b p nm cl v S :=
  ⟨h.sc.below hb, blk_below h.tb hb, blk_below h.rb hb, pw_own_below h.own hb, h.lt, h.lr, h.ne⟩
theorem Rd.drewN (h : Rd w0 W s t r A c b p nm cl v S) (n : Nat) : Rd w0 (W.drewN n) s t r A c b p nm cl v S := ⟨h.sc.drewN n, h.tb, h.rb, h.own, h.lt, h.lr, h.ne⟩
theorem Rd.go (h : Rd w0 W s t r A c b p nm cl v S) {q : Nat} (hs : Sc w0 W' s A c b q) (hg : W.grownBy W' (some s)) : Rd w0 W' s t r A c b q nm cl v S :=
  ⟨hs, blk_grown h.tb hg (by intro e; injection e with e; exact h.st e.symm), blk_grown h.rb hg (by intro e; injection e with e; exact h.sr e.symm),
    h.own.kept hg (Or.inr (own_ne h.own h.sc.blk (by decide))), h.lt, h.lr, h.ne⟩
theorem Rd.tput (h : Rd w0 W s t r A c b p nm cl v S) (j : Nat) (u : Value) (nm' : List Int) (cl' : Bool) (hb : (W.setCell ⟨t, j, none⟩ u).heap[t]? = some (tgC 0 (strOfNums nm') cl' v)) : Rd w0 (W.setCell ⟨t, j, none⟩ u) s t r A c b p nm' cl' v S :=
  ⟨h.sc.far t h.st.symm h.lt j u, hb, blk_far h.rb (p := ⟨t, j, none⟩) h.ne.symm u, h.own.kept (grown_set W t j u) (Or.inr (own_ne h.own h.tb (by decide))), h.lt, h.lr, h.ne⟩
theorem Rd.tcl (h : Rd w0 W s t r A c b p nm cl v S) (z : Bool) : Rd w0 (W.setCell ⟨t, 2, none⟩ (.bool z)) s t r A c b p nm z v S := h.tput 2 _ nm z (blk_set h.tb 2 (.bool z))
theorem Rd.tnm (h : Rd w0 W s t r A c b p nm cl v S) (l : List Int) : Rd w0 (W.setCell ⟨t, 1, none⟩ (.string (strOfNums l))) s t r A c b p l cl v S := h.tput 1 _ l cl (blk_set h.tb 1 (.string (strOfNums l)))
theorem Rd.c0 (h : Rd w0 W s t r A c b p nm cl v S) : W.cell? ⟨t, 0, none⟩ = some (.int .i64 0) := (blk_cell h.tb 0).trans rfl
theorem Rd.c1 (h : Rd w0 W s t r A c b p nm cl v S) : W.cell? ⟨t, 1, none⟩ = some (.string (strOfNums nm)) := (blk_cell h.tb 1).trans rfl
theorem Rd.c2 (h : Rd w0 W s t r A c b p nm cl v S) : W.cell? ⟨t, 2, none⟩ = some (.bool cl) := (blk_cell h.tb 2).trans rfl
theorem Rd.c3 (h : Rd w0 W s t r A c b p nm cl v S) : W.cell? ⟨t, 3, none⟩ = some v := (blk_cell h.tb 3).trans rfl
theorem Rd.fz (h : Rd w0 W s t r A c b p nm cl v S) (j : Nat) : W.frozen? ⟨t, j, none⟩ = false := blk_frozen h.tb j
theorem Rd.fr (h : Rd w0 W s t r A c b p nm cl v S) (j : Nat) : W.frozen? ⟨r, j, none⟩ = false := blk_frozen h.rb j
end
section
variable {w0 W W' : World} {s t r : Nat} {A : Option Addr} {c : Nat} {b : List Int} {p : Nat} {nm : List Int} {cl : Bool} {v : Value} {S : List (Nat × Nat)}
theorem rput_ {x0 : Int} {y0 : ByteArray} {z0 : Bool} {u0 : Value} (hr : W.heap[r]? = some (tgC x0 y0 z0 u0)) (hb : Below w0.heap.size w0 W) (lr : w0.heap.size ≤ r) (own : W.ownsRow w0.heap.size 54 2 v S.length (spC S)) (x : Int) (y : ByteArray) (z : Bool) (u : Value) :
    ((((W.setCell ⟨r, 0, none⟩ (.int .i64 x)).setCell ⟨r, 1, none⟩ (.string y)).setCell ⟨r, 2, none⟩ (.bool z)).setCell ⟨r, 3, none⟩ u).heap[r]? = some (tgC x y z u) ∧
    Below w0.heap.size w0 ((((W.setCell ⟨r, 0, none⟩ (.int .i64 x)).setCell ⟨r, 1, none⟩ (.string y)).setCell ⟨r, 2, none⟩ (.bool z)).setCell ⟨r, 3, none⟩ u) ∧
    ((((W.setCell ⟨r, 0, none⟩ (.int .i64 x)).setCell ⟨r, 1, none⟩ (.string y)).setCell ⟨r, 2, none⟩ (.bool z)).setCell ⟨r, 3, none⟩ u).ownsRow w0.heap.size 54 2 v S.length (spC S) := by
  have hg := grown_trans (grown_trans (grown_trans (grown_set W r 0 (.int .i64 x)) (grown_set _ r 1 (.string y))) (grown_set _ r 2 (.bool z))) (grown_set _ r 3 u)
  exact ⟨blk_set (blk_set (blk_set (blk_set hr 0 (.int .i64 x)) 1 (.string y)) 2 (.bool z)) 3 u, below_grown hb lr hg, own.kept hg (Or.inr (own_ne own hr (by decide)))⟩
theorem Rd.fin (h : Rd w0 W s t r A c b p nm cl v S) (x : Int) :
    (W.setCell ⟨t, 0, none⟩ (.int .i64 x)).heap[t]? = some (tgC x (strOfNums nm) cl v) ∧ (W.setCell ⟨t, 0, none⟩ (.int .i64 x)).heap[r]? = some (tgC 0 ⟨#[]⟩ false (.slice none 0 0)) ∧ Below w0.heap.size w0 (W.setCell ⟨t, 0, none⟩ (.int .i64 x)) ∧ (W.setCell ⟨t, 0, none⟩ (.int .i64 x)).ownsRow w0.heap.size 54 2 v S.length (spC S) :=
  ⟨blk_set h.tb 0 (.int .i64 x), blk_far h.rb (p := ⟨t, 0, none⟩) h.ne.symm _, below_grown h.sc.bel h.lt (grown_set W t 0 (.int .i64 x)), h.own.kept (grown_set W t 0 (.int .i64 x)) (Or.inr (own_ne h.own h.tb (by decide)))⟩
theorem Rd.app (h : Rd w0 W s t r A c b p nm cl v S) {v1 : Value} {W1 : World} {u y : Nat} (ho : W1.ownsRow w0.heap.size 54 2 v1 (S.length + 1) (spC S ++ [.int .i64 u, .int .i64 y])) (hb : Below w0.heap.size w0 W1) (hg : W.grownBy W1 v.ownBlock) :
    W1.frozen? ⟨t, 3, none⟩ = false ∧ W1.cell? ⟨t, 3, none⟩ = some v ∧ Rd w0 (W1.setCell ⟨t, 3, none⟩ v1) s t r A c b p nm cl v1 (S ++ [(u, y)]) := by
  have ht : W1.heap[t]? = some (tgC 0 (strOfNums nm) cl v) := blk_grown h.tb hg (fun e => own_ne h.own h.tb (by decide) e.symm)
  have hr : W1.heap[r]? = some (tgC 0 ⟨#[]⟩ false (.slice none 0 0)) := blk_grown h.rb hg (fun e => own_ne h.own h.rb (by decide) e.symm)
  have hs : W1.heap[s]? = _ := blk_grown h.sc.blk hg (fun e => own_ne h.own h.sc.blk (by decide) e.symm)
  have h1 : Sc w0 W1 s A c b p := ⟨hs, h.sc.C, hb, h.sc.ls, h.sc.lc, h.sc.lp, h.sc.max, h.sc.bys⟩
  refine ⟨blk_frozen ht 3, (blk_cell ht 3).trans rfl, h1.far t h.st.symm h.lt 3 v1, blk_set ht 3 v1, blk_far hr (p := ⟨t, 3, none⟩) h.ne.symm _, ?_, h.lt, h.lr, h.ne⟩
  rw [spC_snoc, List.length_append, List.length_singleton]
  exact ho.kept (grown_set W1 t 3 v1) (Or.inr (own_ne ho ht (by decide)))
end
theorem opens_in (b : List Int) (p : Nat) : opens b p = if isAt b (p + 1) 47 then p + 2 else p + 1 := by
  unfold opens isAt
  by_cases h : b[p + 1]? = some 47
  · rw [if_pos h, decide_eq_true h]; rfl
  · rw [if_neg h, decide_eq_false h]; rfl
theorem read_no (b : List Int) (p : Nat) (h : isLetter b (opens b p) = false) : Htm.read b p = none := by
  unfold Htm.read
  rw [if_neg (by rintro ⟨_, x⟩; rw [h] at x; cases x)]
theorem isLetter_out (b : List Int) (p : Nat) (h : b.length ≤ p) : isLetter b p = false := by
  unfold isLetter
  rw [List.getElem?_eq_none h]
  rfl
theorem isLetter_in (b : List Int) (p : Nat) (h : p < b.length) : isLetter b p = letterB (b.getD p 0) := by
  unfold isLetter
  rw [List.getD_eq_getElem?_getD, List.getElem?_eq_getElem h]
  rfl
theorem attrs_succ (b : List Int) (n p : Nat) (S : List (Nat × Nat)) (q : Nat) (hq : whl gapB b p = q) : attrs b (n + 1) p S = if b[q]? = none then none else if b[q]? = some 62 then some (q + 1, S) else attrs b n (attr b q).1 (S ++ (attr b q).2.toList) := by
  subst hq
  rfl
theorem read_yes (b : List Int) (p q p1 : Nat) (nm nn : List Int) (cl : Bool) (hx : b[p]? = some 60) (hq : q = opens b p) (hl : isLetter b q = true) (hc : cl = isAt b (p + 1) 47) (h1 : whl nameB b q = p1) (h2 : (b.drop q).take (p1 - q) = nm) (h3 : nm.map sm = nn) :
    Htm.read b p = (attrs b (b.length + 1) p1 []).map fun r => ⟨r.1, nn, cl, r.2⟩ := by
  unfold Htm.read
  rw [← hq, if_pos ⟨hx, hl⟩, h1, h2, h3, hc]
  rfl
theorem infoSpan : (Try.prog.info? 54).map (fun i => (i.zero, i.size, i.bytes)) = some (some (.agg #[.int .i64 0, .int .i64 0]), 2, 16) := by kernel_rfl
theorem attr_gt (b : List Int) (p : Nat) : p < (attr b p).1 := by
  unfold attr
  have h1 := whl_ge keyB b (p + 1)
  have h2 := whl_ge blankB b (whl keyB b (p + 1))
  dsimp only
  split
  · have h3 := whl_ge blankB b (whl blankB b (whl keyB b (p + 1)) + 1)
    split
    · have h4 := whl_ge (fun c => c != b.getD (whl blankB b (whl blankB b (whl keyB b (p + 1)) + 1)) 0) b (whl blankB b (whl blankB b (whl keyB b (p + 1)) + 1) + 1)
      dsimp only
      split <;> omega
    · have h4 := whl_ge bareB b (whl blankB b (whl blankB b (whl keyB b (p + 1)) + 1))
      dsimp only
      omega
  · dsimp only
    omega

set_option maxRecDepth 100000 in
set_option maxHeartbeats 2000000 in
theorem read_in (A : Option Addr) (c : Nat) (b : List Int) (p : Nat) (W : World) (hC : Kd.C (Kd.int .u8) W A b.length b) (hc : b.length ≤ c) (hb : Bys b) (hm : b.length ≤ 65536) (hp : p < b.length) :
    Calls Try.prog 17 #[.slice A b.length c, .int .i64 p] W fun e w' => Below W.heap.size W w' ∧
      ((Htm.read b p = none ∧ e = .returned (.tuple #[noTag, .bool false])) ∨
       ∃ T v, Htm.read b p = some T ∧ e = .returned (.tuple #[.agg #[.int .i64 T.fin, .string (strOfNums T.name), .bool T.closes, v], .bool true]) ∧ w'.ownsRow W.heap.size 54 2 v T.prose.length (spC T.prose)) := by
  obtain ⟨ad, hA, hcell0⟩ := Kd.at_int (Kd.C_below hC (below_alloc (Below.refl W.heap.size W) (tgC 0 ⟨#[]⟩ false (.slice none 0 0)))) (p : Int) (by omega) (by omega)
  subst hA
  have hcell : (W.alloc (tgC 0 ⟨#[]⟩ false (.slice none 0 0))).cell? (ad.add p) = some (.int .u8 (b.getD p 0)) := hcell0
  clear hcell0
  have HB := Lib.hid (And.intro hC hb)
  clear hC hb
  have HX := Lib.hid (show b[p]? = some (b.getD p 0) from by rw [List.getD_eq_getElem?_getD, List.getElem?_eq_getElem hp]; rfl)
  generalize b.getD p 0 = x at *
  have hd : decide ((p : Int) < 0) = false := by simp
  have hd2 : decide ((b.length : Int) ≤ (p : Int)) = false := by simp; omega
  by_cases hx : x = 60
  · subst hx
    go_enter Try.func17, Try.ntmps17
    go_upto_region 5 with fail
    have HR := Lib.hid (show Rd W (((W.alloc (tgC 0 ⟨#[]⟩ false (.slice none 0 0))).alloc (.cells #[.slice (some ad) b.length c, .int .i64 ((p : Int) + 1)] 79 (0, 0))).alloc (tgC 0 ⟨#[]⟩ false (.slice none 0 0))) (W.heap.size + 1) (W.heap.size + 1 + 1) W.heap.size (some ad) c b (p + 1) [] false (.slice none 0 0) [] from by
      have e1 : (W.alloc (tgC 0 ⟨#[]⟩ false (.slice none 0 0))).heap.size = W.heap.size + 1 := by simp
      have e2 : ((W.alloc (tgC 0 ⟨#[]⟩ false (.slice none 0 0))).alloc (.cells #[.slice (some ad) b.length c, .int .i64 ((p : Int) + 1)] 79 (0, 0))).heap.size = W.heap.size + 1 + 1 := by simp
      refine ⟨⟨?_, HB.out.1, below_alloc (below_alloc (below_alloc (Below.refl _ _) _) _) _, by omega, hc, hp, hm, HB.out.2⟩, ?_, ?_, World.ownsRow_nil _ _ _ _, by omega, Nat.le_refl _, by omega⟩
      · have := blk_alloc (blk_new (W.alloc (tgC 0 ⟨#[]⟩ false (.slice none 0 0))) (.cells #[.slice (some ad) b.length c, .int .i64 ((p : Int) + 1)] 79 (0, 0))) (tgC 0 ⟨#[]⟩ false (.slice none 0 0))
        rw [e1] at this
        exact this
      · have := blk_new ((W.alloc (tgC 0 ⟨#[]⟩ false (.slice none 0 0))).alloc (.cells #[.slice (some ad) b.length c, .int .i64 ((p : Int) + 1)] 79 (0, 0))) (tgC 0 ⟨#[]⟩ false (.slice none 0 0))
        rw [e2] at this
        exact this
      · exact blk_alloc (blk_alloc (blk_new W _) _) _)
    generalize hr : W.heap.size = r at *
    generalize hs : r + 1 = s at *
    generalize ht : s + 1 = t at *
    generalize hw3 : ((W.alloc (tgC 0 ⟨#[]⟩ false (.slice none 0 0))).alloc (.cells #[.slice (some ad) b.length c, .int .i64 ((p : Int) + 1)] 79 (0, 0))).alloc (tgC 0 ⟨#[]⟩ false (.slice none 0 0)) = w3 at *
    clear hcell HB hw3
    go_upto_if 32 with (go_at_call 38; refine (is_any W s (some ad) c b (p + 1) 47 _ HR.out.sc).mono ?_; rintro e w4 ⟨rfl, n4, rfl⟩)
    have HR4 := Lib.hid (HR.out.drewN n4)
    clear HR
    generalize hw4 : w3.drewN n4 = w4 at *
    clear hw4
    obtain ⟨q, hq⟩ : ∃ q, q = opens b p := ⟨_, rfl⟩
    obtain ⟨cl, hcl⟩ : ∃ cl, cl = isAt b (p + 1) 47 := ⟨_, rfl⟩
    have HQ := Lib.hid (And.intro hq hcl)
    go_cut [] (fun wx => Hid (Rd W wx s t r (some ad) c b q [] cl (.slice none 0 0) []))
    case first =>
      cases h47 : isAt b (p + 1) 47 with
      | false =>
        obtain rfl : q = p + 1 := by rw [hq, opens_in, h47]; rfl
        obtain rfl : cl = false := by rw [hcl, h47]
        clear hq hcl HQ
        go_wp2_with fail
        go_meet
        exact HR4
      | true =>
        obtain rfl : q = p + 2 := by rw [hq, opens_in, h47]; rfl
        obtain rfl : cl = true := by rw [hcl, h47]
        clear hq hcl HQ
        have c0 := HR4.out.sc.c0
        have c1 := HR4.out.sc.c1
        have f1 := HR4.out.sc.f1
        have t2 := HR4.out.c2
        have u2 := HR4.out.fz 2
        have hst := HR4.out.st
        have hlt := isAt_lt h47
        go_wp2_with fail
        go_meet
        exact (HR4.out.go (HR4.out.sc.move (p + 1 + 1) hlt) (grown_set w4 s 1 (.int .i64 ((p + 1 + 1 : Nat) : Int)))).tcl true
    case rest =>
      have HR4 := hcut
      clear hcut hq hcl
      have hqn := HR4.out.sc.lp
      by_cases hqe : q = b.length
      · have c0 := HR4.out.sc.c0
        have c1 := HR4.out.sc.c1
        have hrn := read_no b p (by rw [← HQ.out.1]; exact isLetter_out b q (by omega))
        have HN := Lib.hid hrn
        clear hrn
        have hd3 : decide ((b.length : Int) ≤ (q : Int)) = true := by simp; omega
        obtain ⟨k0, k1, k2, k3⟩ := tg_cells HR4.out.rb
        have g0 := HR4.out.fr 0
        have g1 := HR4.out.fr 1
        have g2 := HR4.out.fr 2
        have g3 := HR4.out.fr 3
        go_wp2_with fail
        have HE := Lib.hid (rput_ HR4.out.rb HR4.out.sc.bel HR4.out.lr HR4.out.own 0 ⟨#[]⟩ false (.slice none 0 0))
        clear k0 k1 k2 k3 g0 g1 g2 g3 c0 c1
        generalize (((wc.setCell ⟨r, 0, none⟩ (.int .i64 0)).setCell ⟨r, 1, none⟩ (.string ⟨#[]⟩)).setCell ⟨r, 2, none⟩ (.bool false)).setCell ⟨r, 3, none⟩ (.slice none 0 0) = w6 at *
        obtain ⟨k0, k1, k2, k3⟩ := tg_cells HE.out.1
        (try simp only [Exit.inBlock, Exit.then])
        refine bodyPost_ret (v := .tuple #[noTag, .bool false]) ?_ rfl ?_
        · simp [results, Try.results17, go_sem, k0, k1, k2, k3]
          try rfl
        exact ⟨hr ▸ HE.out.2.1, Or.inl ⟨HN.out, rfl⟩⟩
      · have hlt : q < b.length := by omega
        have hle : ¬ b.length ≤ q := by omega
        have hd3 : decide ((b.length : Int) ≤ (q : Int)) = false := by simp; omega
        obtain ⟨ad', e', hcell⟩ := HR4.out.sc.at_ hlt
        injection e' with e'
        subst e'
        have hlet := isLetter_in b q hlt
        generalize b.getD q 0 = y at *
        have HL := Lib.hid hlet
        clear hlet
        have c0 := HR4.out.sc.c0
        have c1 := HR4.out.sc.c1
        go_upto_if 58 with (go_at_call 29; refine (letter_any y _).mono ?_; rintro e w4 ⟨rfl, n4, rfl⟩)
        have HR5 := Lib.hid (HR4.out.drewN n4)
        clear HR4 hcell c0 c1
        generalize wc.drewN n4 = wc at *
        cases hl : letterB y with
        | false =>
          have HN := Lib.hid (read_no b p (by rw [← HQ.out.1, HL.out, hl]))
          obtain ⟨k0, k1, k2, k3⟩ := tg_cells HR5.out.rb
          have g0 := HR5.out.fr 0
          have g1 := HR5.out.fr 1
          have g2 := HR5.out.fr 2
          have g3 := HR5.out.fr 3
          go_wp2_with fail
          have HE := Lib.hid (rput_ HR5.out.rb HR5.out.sc.bel HR5.out.lr HR5.out.own 0 ⟨#[]⟩ false (.slice none 0 0))
          clear k0 k1 k2 k3 g0 g1 g2 g3
          generalize (((wc.setCell ⟨r, 0, none⟩ (.int .i64 0)).setCell ⟨r, 1, none⟩ (.string ⟨#[]⟩)).setCell ⟨r, 2, none⟩ (.bool false)).setCell ⟨r, 3, none⟩ (.slice none 0 0) = w6 at *
          obtain ⟨k0, k1, k2, k3⟩ := tg_cells HE.out.1
          (try simp only [Exit.inBlock, Exit.then])
          refine bodyPost_ret (v := .tuple #[noTag, .bool false]) ?_ rfl ?_
          · simp [results, Try.results17, go_sem, k0, k1, k2, k3]
            try rfl
          exact ⟨hr ▸ HE.out.2.1, Or.inl ⟨HN.out, rfl⟩⟩
        | true =>
          have HLt := Lib.hid (show isLetter b q = true from by rw [HL.out, hl])
          clear hl hqe hle hd3
          go_wp2_with fail
          refine (wh_name HR5.out.sc).mono ?_
          rintro e w7 ⟨⟨A7, rfl, hC7⟩, hs7, hg7⟩
          have HR7 := Lib.hid (HR5.out.go hs7 hg7)
          have HC7 := Lib.hid hC7
          clear hs7 hg7 hC7 HR5
          generalize hp1 : whl nameB b q = p1 at *
          have hqp1 : q ≤ p1 := by rw [← hp1]; exact whl_ge _ _ _
          have hp1n : p1 ≤ b.length := HR7.out.sc.lp
          have hby := (HR7.out.sc.bys.drop q).take (p1 - q)
          generalize hnm : (b.drop q).take (p1 - q) = nm at *
          have HBy := Lib.hid hby
          clear hby
          go_wp2_with fail
          refine (small_any A7 (p1 - q) (c - q) nm _ (Kd.C_below HC7.out HR7.out.sc.bel) (by omega) HBy.out (by omega)).mono ?_
          rintro e w8 ⟨rfl, hb8⟩
          have HR8 := Lib.hid (HR7.out.below hb8)
          clear hb8 HR7 HC7 HBy
          generalize hnn : nm.map sm = nn at *
          have t1 := HR8.out.c1
          have u1 := HR8.out.fz 1
          go_wp2_with fail
          have HR9 := Lib.hid (HR8.out.tnm nn)
          clear HR8 t1 u1
          generalize w8.setCell ⟨t, 1, none⟩ (.string (strOfNums nn)) = w9 at *
          have HNN := Lib.hid (And.intro hp1 (And.intro hnm hnn))
          clear hp1 hnm hnn
          go_loopg [] (b.length + 1) (fun gn wr => ∃ (pp : Nat) (v : Value) (S : List (Nat × Nat)), Hid (Rd W wr s t r (some ad) c b pp nn cl v S ∧ attrs b gn pp S = attrs b (b.length + 1) p1 [] ∧ S.length ≤ pp ∧ b.length < pp + gn))
          case atStart => exact ⟨p1, _, [], HR9.out, rfl, Nat.zero_le _, by omega⟩
          case round =>
            obtain ⟨pp, v, S, HK⟩ := hrel
            have HRY := Lib.hid (read_yes b p q p1 nm nn cl HX.out HQ.out.1 HLt.out HQ.out.2 HNN.out.1 HNN.out.2.1 HNN.out.2.2)
            clear HR9 HX HL
            obtain ⟨m, rfl⟩ : ∃ m, gk = m + 1 := ⟨gk - 1, by have := HK.out.2.2.2; have := HK.out.1.sc.lp; omega⟩
            obtain ⟨A1, c1, rfl⟩ := own_form HK.out.1.own
            go_wp2_with fail
            refine (wh_gap HK.out.1.sc).mono ?_
            rintro e w10 ⟨⟨A10, rfl, _⟩, hs10, hg10⟩
            have HR10 := Lib.hid (HK.out.1.go hs10 hg10)
            clear hs10 hg10
            obtain ⟨qq, hqq⟩ : ∃ qq, whl gapB b pp = qq := ⟨_, rfl⟩
            have hpq : pp ≤ qq := by rw [← hqq]; exact whl_ge _ _ _
            have HA := Lib.hid ((attrs_succ b m pp S qq hqq).symm.trans HK.out.2.1)
            have HM := Lib.hid HK.out.2.2
            clear HK
            rw [hqq] at HR10
            clear hqq
            have hqqn := HR10.out.sc.lp
            have c0 := HR10.out.sc.c0
            have c1' := HR10.out.sc.c1
            by_cases hqe2 : qq = b.length
            · have HN := Lib.hid (show Htm.read b p = none from by
                have := HA.out
                rw [if_pos (List.getElem?_eq_none (by omega))] at this
                rw [HRY.out, ← this]; rfl)
              have hd4 : decide ((b.length : Int) ≤ (qq : Int)) = true := by simp; omega
              obtain ⟨k0, k1, k2, k3⟩ := tg_cells HR10.out.rb
              have g0 := HR10.out.fr 0
              have g1 := HR10.out.fr 1
              have g2 := HR10.out.fr 2
              have g3 := HR10.out.fr 3
              go_wp2_with fail
              have HE := Lib.hid (rput_ HR10.out.rb HR10.out.sc.bel HR10.out.lr HR10.out.own 0 ⟨#[]⟩ false (.slice none 0 0))
              clear k0 k1 k2 k3 g0 g1 g2 g3
              generalize (((w10.setCell ⟨r, 0, none⟩ (.int .i64 0)).setCell ⟨r, 1, none⟩ (.string ⟨#[]⟩)).setCell ⟨r, 2, none⟩ (.bool false)).setCell ⟨r, 3, none⟩ (.slice none 0 0) = w6 at *
              obtain ⟨k0, k1, k2, k3⟩ := tg_cells HE.out.1
              (try simp only [Exit.inBlock, Exit.then])
              refine bodyPost_ret (v := .tuple #[noTag, .bool false]) ?_ rfl ?_
              · simp [results, Try.results17, go_sem, k0, k1, k2, k3]
                try rfl
              exact ⟨hr ▸ HE.out.2.1, Or.inl ⟨HN.out, rfl⟩⟩
            · have hlt2 : qq < b.length := by omega
              have hle2 : ¬ b.length ≤ qq := by omega
              have hd4 : decide ((b.length : Int) ≤ (qq : Int)) = false := by simp; omega
              have hbq : ∃ z, b[qq]? = some z := ⟨_, List.getElem?_eq_getElem hlt2⟩
              have HA2 := HA.out
              rw [if_neg (by obtain ⟨z, hz⟩ := hbq; rw [hz]; simp)] at HA2
              have HA := Lib.hid HA2
              clear HA2 hbq
              go_wp2_with fail
              refine (is_any W s (some ad) c b qq 62 _ HR10.out.sc).mono ?_
              rintro e w11 ⟨rfl, n11, rfl⟩
              have HR11 := Lib.hid (HR10.out.drewN n11)
              clear HR10 c0 c1'
              generalize w10.drewN n11 = w11 at *
              cases h62 : isAt b qq 62 with
              | true =>
                have HN := Lib.hid (show Htm.read b p = some ⟨qq + 1, nn, cl, S⟩ from by
                  have := HA.out
                  rw [if_pos (of_decide_eq_true h62)] at this
                  rw [HRY.out, ← this]; rfl)
                have c0 := HR11.out.sc.c0
                have c1' := HR11.out.sc.c1
                have t0 := HR11.out.c0
                have u0 := HR11.out.fz 0
                go_upto_region 16 with fail
                have HF := Lib.hid (HR11.out.fin ((qq : Int) + 1))
                clear HR11 c0 c1' t0 u0
                generalize w11.setCell ⟨t, 0, none⟩ (.int .i64 ((qq : Int) + 1)) = w12 at *
                obtain ⟨t0, t1, t2, t3⟩ := tg_cells HF.out.1
                obtain ⟨k0, k1, k2, k3⟩ := tg_cells HF.out.2.1
                have g0 := blk_frozen HF.out.2.1 0
                have g1 := blk_frozen HF.out.2.1 1
                have g2 := blk_frozen HF.out.2.1 2
                have g3 := blk_frozen HF.out.2.1 3
                go_wp2_with fail
                have HE := Lib.hid (rput_ HF.out.2.1 HF.out.2.2.1 (show W.heap.size ≤ r from Nat.le_of_eq hr) HF.out.2.2.2 ((qq : Int) + 1) (strOfNums nn) cl (.slice A1 S.length c1))
                clear k0 k1 k2 k3 g0 g1 g2 g3 t0 t1 t2 t3
                generalize (((w12.setCell ⟨r, 0, none⟩ (.int .i64 ((qq : Int) + 1))).setCell ⟨r, 1, none⟩ (.string (strOfNums nn))).setCell ⟨r, 2, none⟩ (.bool cl)).setCell ⟨r, 3, none⟩ (.slice A1 S.length c1) = w13 at *
                obtain ⟨k0, k1, k2, k3⟩ := tg_cells HE.out.1
                (try simp only [Exit.inBlock, Exit.then])
                refine bodyPost_ret (v := .tuple #[.agg #[.int .i64 ((qq : Int) + 1), .string (strOfNums nn), .bool cl, .slice A1 S.length c1], .bool true]) ?_ rfl ?_
                · simp [results, Try.results17, go_sem, k0, k1, k2, k3]
                  try rfl
                exact ⟨hr ▸ HE.out.2.1, Or.inr ⟨_, _, HN.out, rfl, HE.out.2.2⟩⟩
              | false =>
                have HA3 := HA.out
                rw [if_neg (of_decide_eq_false h62)] at HA3
                have HA4 := Lib.hid HA3
                clear HA3 HA
                have hgt := attr_gt b qq
                go_wp2_with fail
                refine (attr_any W s (some ad) c b qq _ HR11.out.sc hlt2).mono ?_
                rintro e w12 ⟨⟨x, y, ok, rfl, hyes, hno⟩, hs12, hg12⟩
                have HR12 := Lib.hid (HR11.out.go hs12 hg12)
                clear hs12 hg12 HR11
                have HR13 := Lib.hid (HR12.out.below (below_alloc (Below.refl w12.heap.size w12) (.cells #[.int .i64 x, .int .i64 y] 54 (0, 0))))
                have HB13 := Lib.hid (blk_new w12 (.cells #[.int .i64 x, .int .i64 y] 54 (0, 0)))
                cases hat : (attr b qq).2 with
                | none =>
                  obtain rfl := hno hat
                  rw [hat] at HA4
                  clear hyes hno hat
                  go_wp2_with fail
                  go_roundg m
                  case measure => omega
                  case rel => exact ⟨(attr b qq).1, _, S, HR13.out, by have := HA4.out; simpa using this, by have := HM.out; omega, by have := HM.out; omega⟩
                | some uv =>
                  obtain ⟨u, z⟩ := uv
                  obtain ⟨rfl, rfl, rfl⟩ := hyes u z hat
                  rw [hat] at HA4
                  clear hyes hno hat HR12
                  go_upto_region 19 with fail
                  generalize hw13 : w12.alloc (.cells #[.int .i64 (u : Int), .int .i64 (z : Int)] 54 (0, 0)) = w13 at *
                  have t3 := HR13.out.c3
                  have v0 := (blk_cell HB13.out 0).trans (show _ = some (Value.int .i64 (u : Int)) from rfl)
                  have v1 := (blk_cell HB13.out 1).trans (show _ = some (Value.int .i64 (z : Int)) from rfl)
                  have hbase : W.heap.size ≤ w13.heap.size := HR13.out.sc.bel.size
                  go_wp2_with (at_builtin; refine print_append_cells (w0 := W) W.heap.size rfl _ _ 41 54 (.agg #[.int .i64 0, .int .i64 0]) 2 16 rfl Try.underlying41 infoSpan rfl (by decide) (by decide) (.slice A1 S.length c1) S.length (spC S) [.int .i64 u, .int .i64 z] rfl rfl rfl (by simp [Value.oneCell']) HR13.out.own HR13.out.sc.bel hbase (by have := HM.out; omega) ?_; intro vv w14 hown hb14 hg14 _; obtain ⟨A2, c2, rfl⟩ := own_form hown; obtain ⟨u3, t4, hr14⟩ := HR13.out.app hown hb14 hg14; have HR14 := Lib.hid hr14; clear hown hb14 hg14 hr14)
                  go_roundg m
                  case measure => omega
                  case rel => exact ⟨(attr b qq).1, _, S ++ [(u, z)], HR14.out, HA4.out, by have := HM.out; rw [List.length_append, List.length_singleton]; omega, by have := HM.out; omega⟩
  · have hx1 : (x != 60) = true := by simp [hx]
    go_enter Try.func17, Try.ntmps17
    go_wp2_with fail
    obtain ⟨k0, k1, k2, k3⟩ := tg_cells (blk_new W (tgC 0 ⟨#[]⟩ false (.slice none 0 0)))
    have HF := Lib.hid (below_alloc (Below.refl W.heap.size W) (tgC 0 ⟨#[]⟩ false (.slice none 0 0)))
    generalize hw2 : W.alloc (tgC 0 ⟨#[]⟩ false (.slice none 0 0)) = w2 at *
    (try simp only [Exit.inBlock, Exit.then])
    refine bodyPost_ret (v := .tuple #[noTag, .bool false]) ?_ rfl ?_
    · simp [results, Try.results17, go_sem, k0, k1, k2, k3]
      try rfl
    refine ⟨HF.out, Or.inl ⟨?_, rfl⟩⟩
    unfold Htm.read
    rw [if_neg (by rw [HX.out]; simp [hx])]
end Go.Proofs.Ytcbibbdkjhkmoaa.H
