/- The laws' fixed fact of layer 13, walked; rows of bytes that a law makes; openers of its arguments; a text's reading from a place on. Conditions: none. -/
import Derived.Test.YtkicpaodcmepmaaDoorTLex
import Derived.Test.YtkicpaodcmepmaaDoorOpn
import Derived.Lib.SlBytesConst
set_option linter.unusedVariables false
set_option linter.unusedSimpArgs false
namespace Go.Proofs.YtkicpaodcmepmaaDoor.T
open Go.RowKit Go.Proofs.YtkicpaodcmepmaaDoorW.PrintWords Go.Proofs.YtkicpaodcmepmaaDoorW.PrintMore Go.Proofs.YtkicpaodcmepmaaDoorW.Opn Go.Proofs.YtkicpaodcmepmaaDoor.L Go.Proofs.YtkicpaodcmepmaaDoor.S Go.Proofs.YtkicpaodcmepmaaDoor.Tex

theorem opBytes : Opens Tryd.prog 22 (Kd.slice 5 (Kd.int .u8)) (fun xs => Bys xs ∧ xs.length ≤ 140737488351232) :=
  Opens.imp (Opens.slice (B := 1) (Opens.int Tryd.underlying5) Tryd.underlying22 (by kernel_rfl) (by kernel_rfl)) (fun xs h => ⟨fun x hx => by
    have := h.2.2 x hx
    simp only [Lit.wf, Bool.and_eq_true, decide_eq_true_eq] at this
    have e1 : IntKind.u8.min = 0 := rfl
    have e2 : IntKind.u8.max = 255 := rfl
    omega, by have := h.2.1; omega⟩)
theorem u8_of {x : Int} (h : (Lit.int .u8 x).wf = true) : ∃ n : Nat, x = n ∧ n < 256 := by
  simp only [Lit.wf, Bool.and_eq_true, decide_eq_true_eq] at h
  have e1 : IntKind.u8.min = 0 := rfl
  have e2 : IntKind.u8.max = 255 := rfl
  exact ⟨x.toNat, by omega, by omega⟩
/-- A row of bytes of one's own. -/
structure Ob (w0 W : World) (v : Value) (xs : List Int) : Prop where
  own : W.ownsRow w0.heap.size 5 1 v xs.length (nums .u8 xs)
  bel : Below w0.heap.size w0 W
section
variable {w0 W W' : World} {v : Value} {xs : List Int}
theorem Ob.below (h : Ob w0 W v xs) (hb : Below W.heap.size W W') : Ob w0 W' v xs := ⟨pw_own_below h.own hb, below_step h.bel hb⟩
theorem Ob.alloc (h : Ob w0 W v xs) (o : Obj) : Ob w0 (W.alloc o) v xs := h.below (below_alloc (Below.refl _ _) o)
theorem Ob.form (h : Ob w0 W v xs) : ∃ A c, v = .slice A xs.length c ∧ xs.length ≤ c ∧ Kd.C (Kd.int .u8) W A xs.length xs := by
  obtain ⟨A, c, rfl, hr⟩ := own_reads h.own
  exact ⟨A, c, rfl, own_le h.own, Kd.C_of_reads (d := 0) (h1 := fun _ => rfl) hr⟩
theorem Ob.lit (w0 W : World) (xs : List Int) (h : Below w0.heap.size w0 W) (hm : xs.length ≤ 9) : Ob w0 (W.alloc (.cells (nums .u8 xs).toArray 5)) (.slice (some ⟨W.heap.size, 0, none⟩) xs.length xs.length) xs :=
  ⟨own_lit W _ _ _ xs h.size (by omega), below_alloc h _⟩
end
/-- A string's bytes in a row of their own. -/
theorem conv_C (W : World) (s : ByteArray) (hs : s.size ≤ 1000000) : Kd.C (Kd.int .u8) (Lib.bytesWorld W 5 s) (some ⟨W.heap.size, 0, none⟩) s.size (bytesOf s) :=
  Kd.C_of_reads (d := 0) (h1 := fun _ => rfl) (bytes_reads W 5 s (by omega))
theorem conv_run (s : ByteArray) : ∀ W : World, (convert 9 22 (.string s)).run Tryd.prog W = .ok (.slice (some ⟨W.heap.size, 0, none⟩) s.size (grownCap W s.size 0 5)) (Lib.bytesWorld W 5 s) :=
  fun W => print_bytes (P := Tryd.prog) 9 22 5 Tryd.underlying9 Tryd.underlying22 Tryd.underlying5 s W
/-- The bytes of the law butM the mark. -/
def butM (m : Int) (l : List Int) : List Int := l.filter (· != m)
theorem butM_snoc (m : Int) (l : List Int) (j : Nat) (h : j < l.length) : butM m (l.take (j + 1)) = if l.getD j 0 = m then butM m (l.take j) else butM m (l.take j) ++ [l.getD j 0] := by
  have e : l.take (j + 1) = l.take j ++ [l.getD j 0] := by
    rw [List.take_add_one, List.getElem?_eq_getElem h, List.getD_eq_getElem?_getD, List.getElem?_eq_getElem h]; rfl
  unfold butM
  rw [e, List.filter_append]
  by_cases hx : l.getD j 0 = m
  · rw [if_pos hx]; simp only [List.filter_cons, hx]; simp
  · rw [if_neg hx]; simp only [List.filter_cons]; simp; exact hx
theorem butM_le (m : Int) (l : List Int) : (butM m l).length ≤ l.length := List.length_filter_le _ _
theorem butM_not (m : Int) (l : List Int) : m ∉ butM m l := by unfold butM; simp
theorem butM_bys (m : Int) (l : List Int) (h : Bys l) : Bys (butM m l) := fun x hx => h x (List.mem_filter.1 hx).1

theorem lit_C (w : World) (t : TypeId) (fr : Nat × Nat) (l : List Int) (hl : l.length ≤ 1000) : Kd.C (Kd.int .u8) (w.alloc (.cells (l.map (Value.int .u8)).toArray t fr)) (some ⟨w.heap.size, 0, none⟩) l.length l := by
  refine ⟨rfl, by omega, fun _ => ⟨_, rfl, fun j p hj => ⟨[.int .u8 p], rfl, rfl, fun i u hu => ?_⟩⟩⟩
  have hi : i = 0 := by
    have := (List.getElem?_eq_some_iff.1 hu).1
    simpa using this
  subst hi
  have hp : Value.int .u8 p = u := by simpa using hu
  subst hp
  have e : (⟨w.heap.size, 0, none⟩ : Addr).add (j * 1 + 0) = ⟨w.heap.size, j, none⟩ := by
    unfold Addr.add
    by_cases h0 : j = 0
    · subst h0; rfl
    · simp [h0]
  have hz : (Kd.int IntKind.u8).sz = 1 := rfl
  rw [hz, e, cell_of_row _ _ _ _ _ _ (blk_new w _)]
  simp [hj]
theorem lex_awake : lexL [97, 32, 36, 98, 36, 32, 92, 101, 109, 112, 104, 123, 99, 125, 32, 37, 32, 100] = [1, 1, 4, 4, 4, 1, 2, 2, 2, 2, 2, 2, 1, 2, 1, 3, 3, 3] := by decide +kernel
set_option maxHeartbeats 1000000 in
theorem awake_any (w : World) (a1 a2 : Option Addr) (c1 c2 : Nat) (hT : Tb w a1 a2 c1 c2) :
    Calls Tryd.prog 9 #[] w fun e w' => e = .returned (.bool true) ∧ Below w.heap.size w w' := by
  have kcv := Lib.run_convert_bytes_const (P := Tryd.prog) w 22 5 #[.int .u8 97, .int .u8 32, .int .u8 36, .int .u8 98, .int .u8 36, .int .u8 32, .int .u8 92, .int .u8 101, .int .u8 109, .int .u8 112, .int .u8 104, .int .u8 123, .int .u8 99, .int .u8 125, .int .u8 32, .int .u8 37, .int .u8 32, .int .u8 100] 18 18 Tryd.underlying22 Tryd.underlying5
  have HL := Lib.hid (lit_C w 5 (18, 19) [97, 32, 36, 98, 36, 32, 92, 101, 109, 112, 104, 123, 99, 125, 32, 37, 32, 100] (by simp))
  go_enter Tryd.func9, Tryd.ntmps9
  go_wp2_with fail
  refine (lex_any _ 18 _ [97, 32, 36, 98, 36, 32, 92, 101, 109, 112, 104, 123, 99, 125, 32, 37, 32, 100] _ a1 a2 c1 c2 (hT.below (below_alloc (Below.refl _ _) _)) HL.out (by simp) (by intro x hx; simp at hx; omega) (by omega)).mono ?_
  rintro e w1 ⟨g, k, rfl, hs, hb, _, _⟩
  rw [lex_awake] at hs
  have HS := Lib.hid hs
  have HB := Lib.hid (below_step (below_alloc (Below.refl _ _) _) hb)
  clear hs hb kcv
  go_wp2_with fail
  refine (at_in g k _ 0 1 _ HS.out rfl).mono ?_
  rintro e w2 ⟨rfl, rfl⟩
  go_wp2_with fail
  refine (at_in g k _ 2 4 _ HS.out rfl).mono ?_
  rintro e w2 ⟨rfl, rfl⟩
  go_wp2_with fail
  refine (at_in g k _ 6 2 _ HS.out rfl).mono ?_
  rintro e w2 ⟨rfl, rfl⟩
  go_wp2_with fail
  refine (at_in g k _ 12 1 _ HS.out rfl).mono ?_
  rintro e w2 ⟨rfl, rfl⟩
  go_wp2_with fail
  refine (at_in g k _ 13 2 _ HS.out rfl).mono ?_
  rintro e w2 ⟨rfl, rfl⟩
  go_wp2_with fail
  refine (at_in g k _ 15 3 _ HS.out rfl).mono ?_
  rintro e w2 ⟨rfl, rfl⟩
  go_wp2_with fail
  go_ret
  exact ⟨rfl, HB.out⟩
end Go.Proofs.YtkicpaodcmepmaaDoor.T
