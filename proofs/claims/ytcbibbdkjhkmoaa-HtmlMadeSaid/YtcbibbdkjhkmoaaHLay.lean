/- A tag's bytes on a sheet, walked. Conditions: as each lemma says. -/
import Derived.Test.YtcbibbdkjhkmoaaHRead
import Derived.Test.YtcbibbdkjhkmoaaHtmLex
set_option linter.unusedVariables false
set_option linter.unusedSimpArgs false
namespace Go.Proofs.Ytcbibbdkjhkmoaa.H
open Go.RowKit Go.Proofs.YtcbibbdkjhkmoaaW.PrintWords Go.Proofs.Ytcbibbdkjhkmoaa.L Go.Proofs.Ytcbibbdkjhkmoaa.S Go.Proofs.Ytcbibbdkjhkmoaa.Htm

theorem spans_step (S : List (Nat × Nat)) (L : List Int) (j : Nat) (u z : Nat) (h : S[j]? = some (u, z)) : spans (S.take (j + 1)) L = setL (spans (S.take j) L) 1 (u : Int) ((u : Int) + (z : Int)) := by
  rw [List.take_add_one, h]
  unfold spans
  rw [List.foldl_append]
  rfl
theorem spC_get (S : List (Nat × Nat)) : ∀ (j : Nat) (u z : Nat), S[j]? = some (u, z) → (spC S)[j * 2]? = some (.int .i64 u) ∧ (spC S)[j * 2 + 1]? = some (.int .i64 z) := by
  induction S with
  | nil => intro j u z h; simp at h
  | cons s S ih =>
    intro j u z h
    cases j with
    | zero =>
      simp only [List.getElem?_cons_zero, Option.some.injEq] at h
      subst h
      exact ⟨rfl, rfl⟩
    | succ j =>
      simp only [List.getElem?_cons_succ] at h
      have := ih j u z h
      have e : spC (s :: S) = .int .i64 s.1 :: .int .i64 s.2 :: spC S := rfl
      rw [e, show (j + 1) * 2 = j * 2 + 1 + 1 by omega]
      exact this
theorem Sheet.grown {W W' : World} {g k : Nat} {L : List Int} (h : Sheet W g k L) {r : Option Nat} (hg : W.grownBy W' r) (h1 : r ≠ some g) (h2 : r ≠ some k) : Sheet W' g k L :=
  ⟨blk_grown h.1 hg (fun e => h1 e.symm), blk_grown h.2.1 hg (fun e => h2 e.symm), h.2.2⟩
set_option maxRecDepth 100000 in
set_option maxHeartbeats 2000000 in
theorem lay_any (g k : Nat) (L : List Int) (W : World) (base : Nat) (v : Value) (S : List (Nat × Nat)) (fin : Nat) (nm : List Int) (cl : Bool) (p : Nat) (hs : Sheet W g k L) (ho : W.ownsRow base 54 2 v S.length (spC S)) (hl : S.length ≤ 65536) (hS : ∀ u z, (u, z) ∈ S → u + z ≤ 65536) (hf : fin ≤ 65536) :
    Calls Try.prog 22 #[.pointer (some ⟨g, 0, none⟩), .int .i64 p, .agg #[.int .i64 fin, .string (strOfNums nm), .bool cl, v]] W fun e w' => e = .returned (.tuple #[]) ∧ Sheet w' g k (tagL p ⟨fin, nm, cl, S⟩ L) ∧ W.grownBy w' (some k) := by
  obtain ⟨A, c, rfl⟩ := own_form ho
  have HS := Lib.hid (And.intro hs (And.intro ho hS))
  clear hs ho hS
  go_enter Try.func22, Try.ntmps22
  go_wp2_with fail
  have hs1 := HS.out.1.alloc (tgC fin (strOfNums nm) cl (.slice A S.length c))
  refine (set_any g k L 2 p fin _ hs1).mono ?_
  rintro e w1 ⟨rfl, hs2, hg2⟩
  have hbx := blk_new W (tgC fin (strOfNums nm) cl (.slice A S.length c))
  have hkb : W.heap.size ≠ k := by have := blk_lt HS.out.1.2.1; omega
  have HK := Lib.hid (show Sheet w1 g k (setL L 2 (p : Int) (fin : Int)) ∧ w1.heap[W.heap.size]? = some (tgC fin (strOfNums nm) cl (.slice A S.length c)) ∧ W.grownBy w1 (some k) ∧ w1.ownsRow base 54 2 (.slice A S.length c) S.length (spC S) from
    ⟨hs2, blk_grown hbx hg2 (by intro e; injection e with e; exact hkb e), grown_trans (grown_below (below_alloc (Below.refl _ _) _) _) hg2, (HS.out.2.1.alloc _).kept hg2 (Or.inr (own_ne (HS.out.2.1.alloc _) hs1.2.1 (by decide)))⟩)
  clear hs1 hs2 hg2 hbx
  obtain ⟨k0, k1, k2, k3⟩ := tg_cells HK.out.2.1
  go_wp2_with fail
  clear k0 k1 k2 k3
  go_loopg [16] S.length (fun gn pv wr => ∃ j : Nat, pv = .int .i64 j ∧ j ≤ S.length ∧ Hid (Sheet wr g k (spans (S.take j) (setL L 2 (p : Int) (fin : Int))) ∧ W.grownBy wr (some k) ∧ wr.ownsRow base 54 2 (.slice A S.length c) S.length (spC S) ∧ gn = S.length - j))
  case atStart => exact ⟨0, rfl, Nat.zero_le _, HK.out.1, HK.out.2.2.1, HK.out.2.2.2, rfl⟩
  case round =>
    obtain ⟨j, rfl, hj, HQ⟩ := hrel
    clear HK
    by_cases hlt : j < S.length
    · have hd : decide ((j : Int) < (S.length : Int)) = true := by simp; omega
      obtain ⟨u, z, huz⟩ : ∃ u z, S[j]? = some (u, z) := ⟨_, _, List.getElem?_eq_getElem hlt⟩
      have hb := HS.out.2.2 u z (List.mem_of_getElem? huz)
      have hst := spans_step S (setL L 2 (p : Int) (fin : Int)) j u z huz
      obtain ⟨e1, e2⟩ := spC_get S j u z huz
      have hsl := spC_length S
      obtain ⟨gg, cap, eA, hbg, hgl⟩ : ∃ gg cap, Value.slice A S.length c = .slice (some ⟨gg, 0, none⟩) S.length cap ∧ base ≤ gg ∧ gg < wr.heap.size := by
        rcases HQ.out.2.2.1.2 with ⟨_, h0⟩ | ⟨g', cap, cur, e, hb', hg', _⟩
        · omega
        · exact ⟨g', cap, e, hb', blk_lt hg'⟩
      injection eA with eA _ ec
      subst eA
      subst ec
      have d0 : wr.cell? ⟨gg, j * 2, none⟩ = some (.int .i64 u) := by rw [HQ.out.2.2.1.cellAt _ (by omega), e1]
      have d1 : wr.cell? ⟨gg, j * 2 + 1, none⟩ = some (.int .i64 z) := by rw [HQ.out.2.2.1.cellAt _ (by omega), e2]
      have HSt := Lib.hid hst
      clear hst e1 e2 huz hsl
      go_wp2_with fail
      have hs3 := HQ.out.1.alloc (.cells #[.int .i64 (u : Int), .int .i64 (z : Int)] 54 (0, 0))
      refine (set_any g k _ 1 u ((u : Int) + (z : Int)) _ hs3).mono ?_
      rintro e w2 ⟨rfl, hs4, hg4⟩
      rw [← HSt.out] at hs4
      have ho3 := HQ.out.2.2.1.alloc (.cells #[.int .i64 (u : Int), .int .i64 (z : Int)] 54 (0, 0))
      have HN := Lib.hid (And.intro hs4 (And.intro (grown_trans HQ.out.2.1 (grown_trans (grown_below (below_alloc (Below.refl _ _) _) _) hg4)) (ho3.kept hg4 (Or.inr (own_ne ho3 hs3.2.1 (by decide))))))
      clear hs3 hs4 hg4 ho3
      go_wp2_with fail
      go_roundg (S.length - (j + 1))
      case measure => have := HQ.out.2.2.2; omega
      case rel => exact ⟨j + 1, by go_num, by omega, HN.out.1, HN.out.2.1, HN.out.2.2, rfl⟩
    · obtain rfl : j = S.length := by omega
      have hd : decide ((S.length : Int) < (S.length : Int)) = false := by simp
      have HF := Lib.hid HQ.out.1
      go_wp2_with fail
      (try simp only [Exit.inBlock, Exit.then])
      refine bodyPost_end (v := .tuple #[]) (results_none rfl _ _ _) rfl ?_
      refine ⟨rfl, ?_, HQ.out.2.1⟩
      have := HF.out
      rw [List.take_length] at this
      exact this
end Go.Proofs.Ytcbibbdkjhkmoaa.H
