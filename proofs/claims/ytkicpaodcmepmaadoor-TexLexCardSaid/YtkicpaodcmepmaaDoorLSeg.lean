/- Parts of a sheet: what Segs tells, in plain lists, and its walk. Conditions: none. -/
import Derived.Test.YtkicpaodcmepmaaDoorLab
import Derived.Outline
import Derived.IntWalk
namespace Go.Proofs.YtkicpaodcmepmaaDoor.L
open Go.RowKit Go.Proofs.YtkicpaodcmepmaaDoorW.PrintWords

/-- A part: its label, where it begins, how long it is. -/
abbrev Sg := Int × Int × Int
def segC (s : Sg) : List Value := [.int .u8 s.1, .int .i64 s.2.1, .int .i64 s.2.2]
def rowC (S : List Sg) : List Value := S.flatMap segC
theorem rowC_length (S : List Sg) : (rowC S).length = S.length * 3 := by
  induction S with
  | nil => rfl
  | cons x S ih => simp [rowC, segC] at ih ⊢; omega
theorem rowC_snoc (S : List Sg) (s : Sg) : rowC (S ++ [s]) = rowC S ++ segC s := by simp [rowC]
def segsStep (S : List Sg) (i : Nat) (x : Int) : List Sg :=
  match S.getLast? with
  | some s => if s.1 = x then S.dropLast ++ [(s.1, s.2.1, s.2.2 + 1)] else S ++ [(x, (i : Int), 1)]
  | none => [(x, (i : Int), 1)]
def segsTo (L : List Int) : Nat → List Sg
  | 0 => []
  | i + 1 => segsStep (segsTo L i) i (L.getD i 0)
def segsOf (L : List Int) : List Sg := segsTo L L.length
theorem segsStep_nil (i : Nat) (x : Int) : segsStep [] i x = [(x, (i : Int), 1)] := rfl
theorem segsStep_snoc (T : List Sg) (s : Sg) (i : Nat) (x : Int) : segsStep (T ++ [s]) i x = if s.1 = x then T ++ [(s.1, s.2.1, s.2.2 + 1)] else T ++ [s] ++ [(x, (i : Int), 1)] := by
  simp [segsStep]
/-- No more parts than labels; each begins and ends among them. -/
theorem segsTo_ok (L : List Int) (i : Nat) : (segsTo L i).length ≤ i ∧ ∀ s ∈ segsTo L i, 0 ≤ s.2.1 ∧ 1 ≤ s.2.2 ∧ s.2.1 + s.2.2 ≤ i := by
  induction i with
  | zero => exact ⟨Nat.le_refl _, fun s h => by simp [segsTo] at h⟩
  | succ i ih =>
    obtain ⟨h1, h2⟩ := ih
    rw [segsTo]
    generalize segsTo L i = S at h1 h2
    rcases List.eq_nil_or_concat S with rfl | ⟨T, s, rfl⟩
    · rw [segsStep_nil]
      refine ⟨by simp, fun s h => ?_⟩
      simp at h
      subst h
      simp
    · rw [List.concat_eq_append] at *
      rw [segsStep_snoc]
      simp only [List.length_append, List.length_singleton] at h1
      split
      · refine ⟨by simp; omega, fun q h => ?_⟩
        rcases List.mem_append.1 h with h | h
        · have := h2 q (List.mem_append_left _ h)
          omega
        · have h3 := h2 s (by simp)
          simp at h
          subst h
          simp
          omega
      · refine ⟨by simp; omega, fun q h => ?_⟩
        rcases List.mem_append.1 h with h | h
        · have := h2 q h
          omega
        · simp at h
          subst h
          simp

/-- An own row's value is a slice of its length. -/
theorem own_form {w : World} {base : Nat} {e : TypeId} {size n : Nat} {v : Value} {xs : List Value} (h : w.ownsRow base e size v n xs) : ∃ A c, v = .slice A n c := by
  rcases h.2 with ⟨rfl, rfl⟩ | ⟨g, cap, cur, rfl, _⟩
  · exact ⟨_, _, rfl⟩
  · exact ⟨_, _, rfl⟩
theorem rowC_bump (T : List Sg) (a b c d : Int) : (rowC T ++ segC (a, b, c)).set (T.length * 3 + 2) (.int .i64 d) = rowC (T ++ [(a, b, d)]) := by
  rw [rowC_snoc, List.set_append, if_neg (by rw [rowC_length]; omega), rowC_length, Nat.add_sub_cancel_left]
  rfl
theorem info35 : (Tryd.prog.info? 55).map (fun i => (i.zero, i.size, i.bytes)) = some (some (.agg #[.int .u8 0, .int .i64 0, .int .i64 0]), 3, 24) := by kernel_rfl

set_option maxHeartbeats 1000000 in
theorem segs_any (g k : Nat) (L : List Int) (w : World) (hs : Sheet w g k L) :
    Calls Tryd.prog 15 #[.pointer (some ⟨g, 0, none⟩)] w fun e w' => ∃ v, e = .returned v ∧ w'.ownsRow w.heap.size 55 3 v (segsOf L).length (rowC (segsOf L)) ∧ Below w.heap.size w w' := by
  have HS := Lib.hid hs
  have hm := hs.2.2
  clear hs
  have hu33 := Tryd.underlying53
  have hu35 := Tryd.underlying55
  go_enter Tryd.func15, Tryd.ntmps15
  go_wp2_with (go_at_call 20; refine (len_any g k L _ HS.out).mono ?_; rintro e w' ⟨rfl, rfl⟩)
  go_loopw [3, 8] (fun v i wr => ∃ j : Nat, j ≤ L.length ∧ i = .int .i64 j ∧ Hid (wr.ownsRow w.heap.size 55 3 v (segsTo L j).length (rowC (segsTo L j)) ∧ Below w.heap.size w wr)) (fun _ i _ => L.length - (intOf i).toNat)
  case atStart => exact ⟨0, Nat.zero_le _, rfl, World.ownsRow_nil _ _ _ _, Below.refl _ _⟩
  case round =>
    obtain ⟨j, hj, rfl, HJ⟩ := hrel
    by_cases hlt : j < L.length
    · have hSj := segsTo_ok L j
      have hnext : segsTo L (j + 1) = segsStep (segsTo L j) j (L.getD j 0) := rfl
      have hx : L[j]? = some (L.getD j 0) := by rw [List.getD_eq_getElem?_getD, List.getElem?_eq_getElem hlt]; rfl
      have hS2 := HS.out.below HJ.out.2
      have c1 : wr.cell? ⟨g, 0, none⟩ = some (.slice (some ⟨k, 0, none⟩) L.length L.length) := (blk_cell hS2.1 0).trans rfl
      have c2 : wr.cell? ⟨k, j, none⟩ = some (.int .u8 (L.getD j 0)) := by rw [blk_cell hS2.2.1, cellsL_get, hx]; rfl
      clear hS2 hx
      have hB := HJ.out.2.size
      generalize L.getD j 0 = x at *
      have HN : ∃ S', S' = segsTo L (j + 1) := ⟨_, rfl⟩
      obtain ⟨S', hS'⟩ := HN
      rw [← hS'] at hnext
      have HS' := Lib.hid hS'
      clear hS'
      generalize segsTo L j = S at *
      rcases List.eq_nil_or_concat S with rfl | ⟨T, s, rfl⟩
      · obtain ⟨A, c, rfl⟩ := own_form HJ.out.1
        rw [segsStep_nil] at hnext
        have HN := Lib.hid hnext
        clear hnext hSj
        go_wp2_with fail
        go_quiet (fail)
        go_wp2_with (at_builtin; refine print_append_cells (w0 := w) w.heap.size rfl _ _ 36 55 (.agg #[.int .u8 0, .int .i64 0, .int .i64 0]) 3 24 rfl Tryd.underlying36 info35 rfl (by decide) (by decide) (.slice A 0 c) 0 [] [.int .u8 x, .int .i64 j, .int .i64 1] rfl rfl rfl (by simp [Value.oneCell']) HJ.out.1 (pw_below_drewN HJ.out.2 _) hB (by decide) ?_; intro v1 w1 hown1 hb1 _ _; have HO := Lib.hid hown1; have HB := Lib.hid hb1; clear hown1 hb1)
        go_roundw
        case rel => exact ⟨j + 1, by omega, by go_num, by rw [← HS'.out, HN.out]; exact HO.out, HB.out⟩
        case measure => simp [intOf]; omega
      · rw [List.concat_eq_append] at *
        obtain ⟨s0, s1, s2⟩ := s
        obtain ⟨gg, cap, rfl, _, _⟩ := HJ.out.1.form (by simp)
        rw [rowC_snoc] at HJ
        rw [show (T ++ [(s0, s1, s2)]).length = T.length + 1 from by simp] at HJ ⊢
        rw [segsStep_snoc] at hnext
        have hS2 : 0 ≤ s1 ∧ 1 ≤ s2 ∧ s1 + s2 ≤ (j : Int) := hSj.2 (s0, s1, s2) (by simp)
        have hTl := hSj.1
        simp only [List.length_append, List.length_singleton] at hTl
        have hr := rowC_length T
        have d0 : wr.cell? ⟨gg, T.length * 3, none⟩ = some (.int .u8 s0) := by rw [HJ.out.1.cellAt _ (by omega), List.getElem?_append_right (by omega), hr, Nat.sub_self]; rfl
        have d2 : wr.cell? ⟨gg, T.length * 3 + 2, none⟩ = some (.int .i64 s2) := by rw [HJ.out.1.cellAt _ (by omega), List.getElem?_append_right (by omega), hr, Nat.add_sub_cancel_left]; rfl
        have f2 := HJ.out.1.frozenAt (T.length * 3 + 2)
        have b1 : 1 ≤ s2 := hS2.2.1
        have b2 : s2 ≤ 65536 := by omega
        have hgd : decide (0 < T.length + 1) = true := by simp
        clear hS2 hSj
        have HR := Lib.hid hr
        clear hr
        by_cases he : s0 = x
        · have he1 : (s0 == x) = true := by simp [he]
          rw [if_pos he] at hnext
          have HN := Lib.hid hnext
          have HE := Lib.hid he
          clear hnext he
          have hw1 : IntKind.i64.wrap (T.length : Int) = (T.length : Int) := IntWalk.i64_in _ (by omega)
          go_wp2_with fail
          go_quiet (fail)
          clear hw1
          go_wp2_with fail
          go_roundw
          case rel =>
            refine ⟨j + 1, by omega, by go_num, ?_⟩
            have hst := World.ownsRow.stored (w := wr.drewN nq) (HJ.out.1) (T.length * 3 + 2) (.int .i64 (s2 + 1))
            rw [rowC_bump] at hst
            have hgg : w.heap.size ≤ gg := by assumption
            rw [← HS'.out, HN.out, List.length_append, List.length_singleton]
            exact ⟨hst.1, (pw_below_drewN HJ.out.2 nq).setCell hgg _⟩
          case measure => simp [intOf]; omega
        · have he1 : (s0 == x) = false := by simp [he]
          rw [if_neg he] at hnext
          have HN := Lib.hid hnext
          have HE := Lib.hid he
          clear hnext he
          have hw1 : IntKind.i64.wrap (T.length : Int) = (T.length : Int) := IntWalk.i64_in _ (by omega)
          go_wp2_with fail
          go_quiet (fail)
          clear hw1
          go_wp2_with (at_builtin; refine print_append_cells (w0 := w) w.heap.size rfl _ _ 36 55 (.agg #[.int .u8 0, .int .i64 0, .int .i64 0]) 3 24 rfl Tryd.underlying36 info35 rfl (by decide) (by decide) (.slice (some ⟨gg, 0, none⟩) (T.length + 1) cap) (T.length + 1) (rowC T ++ segC (s0, s1, s2)) [.int .u8 x, .int .i64 j, .int .i64 1] rfl rfl rfl (by simp [Value.oneCell']) HJ.out.1 (pw_below_drewN HJ.out.2 _) hB (by omega) ?_; intro v1 w1 hown1 hb1 _ _; have HO := Lib.hid hown1; have HB := Lib.hid hb1; clear hown1 hb1)
          go_roundw
          case rel => exact ⟨j + 1, by omega, by go_num, by rw [← HS'.out, HN.out, rowC_snoc, rowC_snoc]; simpa only [List.length_append, List.length_singleton, segC] using HO.out, HB.out⟩
          case measure => simp [intOf]; omega
    · have : j = L.length := by omega
      subst this
      go_wp2
      go_ret
      exact ⟨_, rfl, HJ.out.1, HJ.out.2⟩
end Go.Proofs.YtkicpaodcmepmaaDoor.L
