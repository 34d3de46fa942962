/- What an act of the law LabelPlays lays, in plain lists. Conditions: none. -/
import Derived.Test.YtecpmgbahknneaaLPut
import Derived.Test.YtecpmgbahknneaaLLay
import Derived.Test.YtecpmgbahknneaaLAct
import Derived.Test.YtecpmgbahknneaaLRef
set_option linter.unusedVariables false
set_option linter.unusedSimpArgs false
namespace Go.Proofs.Ytecpmgbahknneaa.L
open Go.RowKit Go.Proofs.YtecpmgbahknneaaW.PrintWords
/-- What the rounds of LabelPlays keep: the sheet and the reference's row bear the same labels; the closure's box holds the row. -/
def Pl (w W : World) (g k km p sz : Nat) (L : List Int) : Prop :=
  Sheet W g k L ∧ W.heap[km]? = some (.cells (cellsL L) 27 (0, 0)) ∧ W.heap[p]? = some (.cells #[.slice (some ⟨km, 0, none⟩) sz sz] 43 (0, 0)) ∧ Below w.heap.size w W
theorem Pl.alloc {w W : World} {g k km p sz : Nat} {L : List Int} (h : Pl w W g k km p sz L) (o : Obj) : Pl w (W.alloc o) g k km p sz L := ⟨h.1.alloc _, blk_alloc h.2.1 _, blk_alloc h.2.2.1 _, below_alloc h.2.2.2 _⟩
theorem Pl.below {w W W' : World} {g k km p sz : Nat} {L : List Int} (h : Pl w W g k km p sz L) (hb : Below W.heap.size W W') : Pl w W' g k km p sz L := ⟨h.1.below hb, blk_below h.2.1 hb, blk_below h.2.2.1 hb, below_step h.2.2.2 hb⟩
/-- Behind a Set (the sheet's labels turn) the closure lays the same on the row. -/
theorem Pl.both {w W W1 W2 : World} {g k km p sz : Nat} {L L' : List Int} (h : Pl w W g k km p sz L) (hs : Sheet W1 g k L') (h1 : W.grownBy W1 (some k)) (hm : W2.heap[km]? = some (.cells (cellsL L') 27 (0, 0))) (h2 : W1.grownBy W2 (some km))
    (hk : w.heap.size ≤ k) (hkm : w.heap.size ≤ km) (hgm : g ≠ km) (hkk : k ≠ km) (hkp : k ≠ p) (hmp : km ≠ p) : Pl w W2 g k km p sz L' :=
  ⟨hs.grown h2 (by intro e; injection e with e; exact hgm e) (by intro e; injection e with e; exact hkk e), hm, blk_grown (blk_grown h.2.2.1 h1 (by intro e; injection e with e; exact hkp e.symm)) h2 (by intro e; injection e with e; exact hmp e.symm), below_grown (below_grown h.2.2.2 hk h1) hkm h2⟩
/-- Another sheet's labels turn. -/
theorem Pl.other {w W W' : World} {g k km p sz k2 : Nat} {L : List Int} (h : Pl w W g k km p sz L) (hg : W.grownBy W' (some k2)) (h1 : k2 ≠ g) (h2 : k2 ≠ k) (h3 : k2 ≠ km) (h4 : k2 ≠ p) (h0 : w.heap.size ≤ k2) : Pl w W' g k km p sz L :=
  ⟨h.1.grown hg (by intro e; injection e with e; exact h1 e.symm) (by intro e; injection e with e; exact h2 e.symm), blk_grown h.2.1 hg (by intro e; injection e with e; exact h3 e.symm), blk_grown h.2.2.1 hg (by intro e; injection e with e; exact h4 e.symm), below_grown h.2.2.2 h0 hg⟩
theorem tmod_in (a : Int) : -70000 < a.tmod 70000 ∧ a.tmod 70000 < 70000 := by
  rcases Int.le_total 0 a with h | h
  · rw [Int.tmod_eq_emod_of_nonneg h]; omega
  · obtain ⟨b, rfl⟩ : ∃ b, a = -b := ⟨-a, by omega⟩
    rw [Int.neg_tmod, Int.tmod_eq_emod_of_nonneg (by omega)]; omega
theorem lay_put (L : List Int) (l a : Int) (N p q : Nat) (hp : p ≤ N) (hq : q ≤ N) : layL L (setL (List.replicate N 1) l p q) a = setL (setL L 1 a (a + N)) l (a + p) (a + q) := by
  apply List.ext_getElem?
  intro i
  unfold layL
  rw [layTo_get, setL_get, setL_get, setL_length, List.length_replicate, Option.map_map]
  congr 1
  funext x
  simp only [Function.comp]
  by_cases h : a ≤ (i : Int) ∧ (i : Int) < a + N
  · rw [if_pos h, List.getD_eq_getElem?_getD, setL_get, List.getElem?_replicate, if_pos (by omega), Option.map_some, Option.getD_some, if_pos h]
    by_cases h2 : a + p ≤ (i : Int) ∧ (i : Int) < a + q
    · rw [if_pos h2, if_pos (by omega)]
    · rw [if_neg h2, if_neg (by omega)]
  · rw [if_neg h, if_neg h, if_neg (by omega)]
theorem lay_put2 (L : List Int) (l a : Int) (N : Nat) : layL L (setL (List.replicate N 1) l ((N : Int) / 3) ((N : Int) / 2)) a = setL (setL L 1 a (a + N)) l (a + (N : Int) / 3) (a + (N : Int) / 2) :=
  lay_put L l a N (N / 3) (N / 2) (by omega) (by omega)
theorem at_act2 {w : World} {A : Option Addr} {acts : List Ac} (h : Kd.C kAct w A acts.length acts) (j : Nat) (hj : j < acts.length) : ∃ ad : Addr, A = some ad ∧
    w.cell? (ad.add (j * 5)) = some (.int .u8 (acts.getD j (0, 0, 0, 0, 0)).1) ∧
    w.cell? ⟨(ad.add (j * 5)).block, (ad.add (j * 5)).off + 1, none⟩ = some (.int .u8 (acts.getD j (0, 0, 0, 0, 0)).2.1) ∧
    w.cell? ⟨(ad.add (j * 5)).block, (ad.add (j * 5)).off + 2, none⟩ = some (.int .i64 (acts.getD j (0, 0, 0, 0, 0)).2.2.1) ∧
    w.cell? ⟨(ad.add (j * 5)).block, (ad.add (j * 5)).off + 3, none⟩ = some (.int .i64 (acts.getD j (0, 0, 0, 0, 0)).2.2.2.1) ∧
    w.cell? ⟨(ad.add (j * 5)).block, (ad.add (j * 5)).off + 4, none⟩ = some (.int .u8 (acts.getD j (0, 0, 0, 0, 0)).2.2.2.2) := by
  obtain ⟨ad, c, e, _, hK, hc0⟩ := Kd.C_get h (0, 0, 0, 0, 0) (j : Int) (by omega) (by omega)
  rw [Int.toNat_natCast] at hK hc0
  have hc : ∀ q u, c[q]? = some u → w.cell? (ad.add (j * 5 + q)) = some u := hc0
  obtain rfl := kAct_open hK
  exact ⟨ad, e, hc 0 _ rfl, by rw [← add_field _ _ 1 (by omega)]; exact hc 1 _ rfl, by rw [← add_field _ _ 2 (by omega)]; exact hc 2 _ rfl, by rw [← add_field _ _ 3 (by omega)]; exact hc 3 _ rfl, by rw [← add_field _ _ 4 (by omega)]; exact hc 4 _ rfl⟩
theorem same_anyP (A1 A2 : Option Addr) (c1 c2 : Nat) (S : List Sg) (w : World) (hl : S.length ≤ 1000000) (h1 : Kd.C PSameSegs.k35 w A1 (S.map toQ).length (S.map toQ)) (h2 : Kd.C PSameSegs.k35 w A2 (S.map toQ).length (S.map toQ)) (hc1 : (S.map toQ).length ≤ c1) (hc2 : (S.map toQ).length ≤ c2) :
    Calls Try.prog 17 #[.slice A1 S.length c1, .slice A2 S.length c2] w fun e w' => e = .returned (.bool true) ∧ ∃ n, w' = w.drewN n := by
  have := same_any A1 A2 c1 c2 S w hl h1 h2 hc1 hc2
  simpa only [List.length_map] using this
theorem refSegs_anyP (k n c : Nat) (L : List Int) (w : World) (h : w.heap[k]? = some (.cells (cellsL L) 27 (0, 0))) (hc : n ≤ c) (hl : n ≤ 1000000) (hn : L.length = n) :
    Calls Try.prog 18 #[.slice (some ⟨k, 0, none⟩) n c] w fun e w' => ∃ A cp, e = .returned (.slice A (segsOf L).length cp) ∧ ((segsOf L).map toQ).length ≤ cp ∧ Kd.C PSameSegs.k35 w' A ((segsOf L).map toQ).length ((segsOf L).map toQ) ∧ Below w.heap.size w w' := by
  subst hn
  have := refSegs_any k c L w h hc hl
  simpa only [List.length_map] using this
end Go.Proofs.Ytecpmgbahknneaa.L
