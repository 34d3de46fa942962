/- edits.Back, walked. Conditions: as each lemma says. -/
import Derived.Test.YtgcjkijndibejaaEPlc
set_option linter.unusedVariables false
set_option linter.unusedSimpArgs false
namespace Go.Proofs.Ytgcjkijndibejaa.Srt
open Go.Lib hiding bytesOf bytesOf_length
open Go.Shelf Go.RowKit Go.Proofs.YtgcjkijndibejaaW.PrintWords Go.Proofs.YtgcjkijndibejaaW.PrintLast

/-- A row of edits of one's own. -/
structure Oe (w0 W : World) (v : Value) (es : List Ed) : Prop where
  own : W.ownsRow w0.heap.size 46 3 v es.length (edC es)
  bel : Below w0.heap.size w0 W
section
variable {w0 W W' : World} {v : Value} {es : List Ed}
theorem Oe.below (h : Oe w0 W v es) (hb : Below W.heap.size W W') : Oe w0 W' v es := ⟨pw_own_below h.own hb, below_step h.bel hb⟩
theorem Oe.weak {w1 : World} (h : Oe w1 W v es) (hb : Below w0.heap.size w0 w1) : Oe w0 W v es := ⟨own_less h.own hb.size, below_step hb h.bel⟩
theorem Oe.ne (h : Oe w0 W v es) {bx : Nat} {t : TypeId} {cs : Array Value} (ht : t ≠ 46) (hb : W.heap[bx]? = some (.cells cs t (0, 0))) : some bx ≠ v.ownBlock := by
  rcases h.own.2 with ⟨rfl, _⟩ | ⟨g, cap, cur, rfl, _, hh, _⟩
  · intro e; cases e
  · intro e
    injection e with e
    subst e
    exact blk_ne hb hh ht rfl
theorem Oe.form (h : Oe w0 W v es) : ∃ A c, v = .slice A es.length c ∧ es.length ≤ c ∧ (0 < es.length → ∃ g o, A = some ⟨g, o, none⟩ ∧ g < W.heap.size ∧ ∀ i j, i < es.length → j < 3 → W.cell? ⟨g, o + (i * 3 + j), none⟩ = (encE (es.getD i dE))[j]?) := (EdR.own h.own).form
/-- Its block, if a block of another place. -/
theorem Oe.lt (h : Oe w0 W v es) {k : Nat} (hk : v.ownBlock = some k) : k < W.heap.size := (h.own.lt k hk).2
theorem Oe.append (h : Oe w0 W v es) (e : Ed) (g : Nat) (hcell : W.heap[g]? = some (.cells (encE e).toArray 46 (0, 0))) (hl : es.length ≤ 1000000) (ty : TypeId) :
    ∃ v1 w1, (Builtin.append_ #[23, 23] ty #[v, .slice (some ⟨g, 0, none⟩) 1 1]).run Try.prog W = .ok v1 w1 ∧ Oe w0 w1 v1 (es ++ [e]) ∧ W.grownBy w1 v.ownBlock := by
  obtain ⟨i0, hi, hz0, hz1, hz2⟩ := info_parts info46
  obtain ⟨v1, w1, hr, h2, h3, _⟩ := run_append_own (P := Try.prog) (w := W) w0.heap.size 23 ty 46 i0 (.agg #[(.int .i64 0), (.int .i64 0), (.string ⟨#[]⟩)]) 3 32 Try.underlying23 hi hz0 hz1 hz2 rfl (by omega) v es.length (edC es) h.own ⟨g, 0, none⟩ 1 1 (encE e) rfl
    (fun j u hu => by
      have := (blk_cell hcell j).trans (show (encE e).toArray[j]? = some u by simpa using hu)
      rw [← this]
      by_cases h0 : j = 0
      · subst h0; rfl
      · simp [Addr.add, h0])
    (by simp [encE, Value.oneCell']) (by simp only [maxLen]; omega) (by omega) h.bel.size
  refine ⟨v1, w1, hr, ⟨?_, h.bel.grown h3 h.bel.size (fun k hk => (h.own.lt k hk).1)⟩, h3⟩
  rw [edC_snoc, List.length_append]
  exact h2
end
theorem size_alloc1 (w : World) (o : Obj) : (w.alloc o).heap.size = w.heap.size + 1 := Array.size_push _
/-- How much further a place stands behind the first i edits. -/
def mvE (S : List Ed) : Nat → Int
  | 0 => 0
  | i + 1 => mvE S i + (((S.getD i dE).2.2.size : Int) - (S.getD i dE).2.1)
/-- The edit that undoes the i-th one. -/
def unE (b : List Int) (S : List Ed) (i : Nat) : Ed := ((S.getD i dE).1 + mvE S i, ((S.getD i dE).2.2.size : Int), strOfNums (cut b (S.getD i dE)))
def bkE (b : List Int) (S : List Ed) (i : Nat) : List Ed := (List.range i).map (unE b S)
theorem bk_succ (b : List Int) (S : List Ed) (i : Nat) : bkE b S (i + 1) = bkE b S i ++ [unE b S i] := by
  unfold bkE
  rw [List.range_succ, List.map_append]
  rfl
theorem bk_len (b : List Int) (S : List Ed) (i : Nat) : (bkE b S i).length = i := by simp [bkE]
theorem mv_bound {n : Nat} {S : List Ed} (h : OkS n S) (hn : n ≤ 100000) (hm : ∀ e ∈ S, e.2.2.size ≤ 1000) (i : Nat) (hi : i ≤ S.length) : -(100000 * (i : Int)) ≤ mvE S i ∧ mvE S i ≤ 1000 * (i : Int) := by
  induction i with
  | zero => exact ⟨by show _ ≤ (0 : Int); omega, by show (0 : Int) ≤ _; omega⟩
  | succ i ih =>
    have := ih (by omega)
    have h2 := (chk_iff _ _).1 (h.rng i (by omega))
    have h3 := hm _ (getD_memE S i (by omega))
    show _ ≤ mvE S i + (((S.getD i dE).2.2.size : Int) - (S.getD i dE).2.1) ∧ mvE S i + (((S.getD i dE).2.2.size : Int) - (S.getD i dE).2.1) ≤ _
    omega
def backR (b : List Int) (es : List Ed) : List Ed := if (tidy b es).1 = 0 then bkE b (tidy b es).2 (tidy b es).2.length else []
set_option maxRecDepth 100000 in
set_option maxHeartbeats 8000000 in
theorem back_any (A : Option Addr) (c : Nat) (b : List Int) (v : Value) (es : List Ed) (W : World) (hC : Kd.C (Kd.int .u8) W A b.length b) (hc : b.length ≤ c) (hE : EdR W v es) (hb : b.length ≤ 100000) (hn : es.length ≤ 500) (ht : ∀ e ∈ es, e.2.2.size ≤ 1000) :
    Calls Try.prog 20 #[.slice A b.length c, v] W fun e w' => ∃ v', e = .returned (.tuple #[v', .int .i64 (tidy b es).1]) ∧ Oe W w' v' (backR b es) := by
  have HC := Lib.hid (And.intro hC hc)
  have HT := Lib.hid (fun h => tidy_ok (b := b) (es := es) h)
  have HA := Lib.hid (show backR b es = if (tidy b es).1 = 0 then bkE b (tidy b es).2 (tidy b es).2.length else [] from rfl)
  have HE := Lib.hid hE
  have Ht := Lib.hid ht
  clear hC hc hE ht
  go_enter Try.func20, Try.ntmps20
  go_wp2_with fail
  refine (tidy_any A c b v es W HC.out.1 HC.out.2 HE.out hb).mono ?_
  rintro e w1 ⟨v1, rfl, ho1, hb1⟩
  have HO1 := Lib.hid (And.intro ho1 hb1)
  clear ho1 hb1
  generalize (tidy b es).2 = S at *
  generalize hkk : (tidy b es).1 = k at *
  have HK := Lib.hid hkk
  clear hkk
  by_cases hk : k = 0
  · subst hk
    obtain ⟨hS, hS1, _, _⟩ := HT.out rfl
    have HS := Lib.hid hS
    have hkl := kept_len b es
    have hsl := srtE_length (kept b es)
    have hmem : ∀ e ∈ S, e.2.2.size ≤ 1000 := fun e he => Ht.out e (List.mem_filter.1 (srtE_mem _ _ (hS1 ▸ he))).1
    rw [← hS1] at hsl
    have hS5 : S.length ≤ 500 := by omega
    have HM := Lib.hid hmem
    have HA2 := Lib.hid (show backR b es = bkE b S S.length from by rw [HA.out, if_pos rfl])
    clear HT HA hS hS1 hmem HE Ht hkl hsl
    obtain ⟨A1, c1, rfl, hc1, hR⟩ := (EdR.own HO1.out.1).form
    have HR := Lib.hid hR
    clear hR
    go_upto_block 0 with fail
    go_wp2_with fail
    go_loopg [7, 8, 23] S.length (fun gn ov av iv wr => ∃ i : Nat, iv = .int .i64 i ∧ av = .int .i64 (mvE S i) ∧ i ≤ S.length ∧ Hid (Oe w1 wr ov (bkE b S i) ∧ gn = S.length - i))
    case atStart => exact ⟨0, rfl, rfl, Nat.zero_le _, ⟨World.ownsRow_nil _ _ _ _, Below.refl _ _⟩, rfl⟩
    case round =>
    obtain ⟨i, rfl, rfl, hi, HQ⟩ := hrel
    by_cases hlt : i < S.length
    · have hdl : decide ((i : Int) < (S.length : Int)) = true := by simp; omega
      obtain ⟨gs, os, rfl, hgs, hcell⟩ := HR.out (by omega)
      have kp : ∀ j, j < 3 → wr.cell? ⟨gs, os + (i * 3 + j), none⟩ = (encE (S.getD i dE))[j]? := fun j hj => (HQ.out.1.bel.cell (p := ⟨gs, os + (i * 3 + j), none⟩) hgs).trans (hcell i j hlt hj)
      have k0 := kp 0 (by omega)
      have k1 := kp 1 (by omega)
      have k2 := kp 2 (by omega)
      have q2 := (chk_iff _ _).1 (HS.out.rng i hlt)
      have q3 := HM.out _ (getD_memE S i hlt)
      obtain ⟨q8, q9⟩ := mv_bound HS.out hb HM.out i (by omega)
      have HSu : Hid (bkE b S (i + 1) = bkE b S i ++ [((S.getD i dE).1 + mvE S i, ((S.getD i dE).2.2.size : Int), strOfNums (cut b (S.getD i dE)))] ∧ mvE S (i + 1) = mvE S i + (((S.getD i dE).2.2.size : Int) - (S.getD i dE).2.1)) := ⟨bk_succ b S i, rfl⟩
      obtain ⟨x, hx⟩ : ∃ x, S.getD i dE = x := ⟨_, rfl⟩
      rw [hx] at k0 k1 k2 q2 q3 HSu
      obtain ⟨a0, l0, t0⟩ := x
      obtain ⟨q5, q6, q7⟩ := q2
      have q5 : 0 ≤ a0 := q5
      have q6 : 0 ≤ l0 := q6
      have q7 : a0 + l0 ≤ (b.length : Int) := q7
      have q3 : t0.size ≤ 1000 := q3
      obtain ⟨p, rfl⟩ : ∃ p : Nat, a0 = p := ⟨a0.toNat, by omega⟩
      obtain ⟨q, rfl⟩ : ∃ q : Nat, l0 = q := ⟨l0.toNat, by omega⟩
      obtain ⟨r, hr⟩ : ∃ r : Nat, (p : Int) + (q : Int) = (r : Int) := ⟨p + q, by omega⟩
      have rr : IntKind.i64.wrap (r : Int) = (r : Int) := by rw [IntKind.wrap_i64]; omega
      have hrb : r ≤ b.length := by omega
      have hpr : p ≤ r := by omega
      have hrq : r - p = q := by omega
      have k0 : wr.cell? ⟨gs, os + i * 3, none⟩ = some (.int .i64 p) := k0
      have k1 : wr.cell? ⟨gs, os + i * 3 + 1, none⟩ = some (.int .i64 q) := k1
      have k2 : wr.cell? ⟨gs, os + i * 3 + 2, none⟩ = some (.string t0) := k2
      have HSv : Hid (bkE b S (i + 1) = bkE b S i ++ [((p : Int) + mvE S i, (t0.size : Int), strOfNums (cut b ((p : Int), (q : Int), t0)))] ∧ mvE S (i + 1) = mvE S i + ((t0.size : Int) - (q : Int))) := HSu
      clear HSu kp hcell hx
      have hct := cut_b A b.length c p r hpr hrb HC.out.2
      have HCm := Lib.hid (fun (w' : World) (hb' : Below w1.heap.size w1 w') => C_mid (Kd.C_below HC.out.1 (below_step HO1.out.2 hb')) HC.out.2 p r hpr hrb)
      have hcutE : cut b ((p : Int), (q : Int), t0) = (b.drop p).take (r - p) := by unfold cut; rw [hrq]; rfl
      rw [← hcutE] at HCm
      rw [hrq] at hct HCm
      generalize (if c = p then A else A.map (·.add (p * 1))) = A2 at *
      have HCv := Lib.hid (show ∀ w' : World, Below w1.heap.size w1 w' → (convert 22 9 (.slice A2 q (c - p))).run Try.prog w' = .ok (.string (strOfNums (cut b ((p : Int), (q : Int), t0)))) w' from fun w' h => Kd.C_string (P := Try.prog) (c := c - p) Try.underlying22 Try.underlying5 Try.underlying9 (HCm.out w' h))
      clear HCm hcutE
      generalize strOfNums (cut b ((p : Int), (q : Int), t0)) = Y at *
      have HBl := Lib.hid (bk_len b S i)
      generalize bkE b S i = B at *
      generalize mvE S i = m at *
      obtain ⟨z, hz⟩ : ∃ z : Int, (p : Int) + m = z := ⟨_, rfl⟩
      have rz : IntKind.i64.wrap z = z := by rw [IntKind.wrap_i64]; omega
      rw [hz] at HSv
      go_upto_region 10 with fail
      have HZ := Lib.hid (And.intro hz rz)
      have hE1 : Oe w1 ((wr.alloc (.cells #[.int .i64 p, .int .i64 q, .string t0] 46)).alloc (.cells #[.int .i64 p, .int .i64 q] 44)) _ B := (HQ.out.1.below (below_alloc (Below.refl _ _) (.cells #[.int .i64 p, .int .i64 q, .string t0] 46))).below (below_alloc (Below.refl _ _) (.cells #[.int .i64 p, .int .i64 q] 44))
      have hx0 := blk_below (blk_new wr (.cells #[.int .i64 p, .int .i64 q, .string t0] 46)) (below_alloc (Below.refl _ _) (.cells #[.int .i64 p, .int .i64 q] 44))
      have hy0 := blk_new (wr.alloc (.cells #[.int .i64 p, .int .i64 q, .string t0] 46)) (.cells #[.int .i64 p, .int .i64 q] 44)
      have hs1 : (wr.alloc (.cells #[.int .i64 p, .int .i64 q, .string t0] 46)).heap.size = wr.heap.size + 1 := size_alloc1 _ _
      rw [hs1] at hy0
      have HE1 := Lib.hid hE1
      have HX0 := Lib.hid hx0
      have HY0 := Lib.hid hy0
      have HQn := Lib.hid HQ.out.2
      have HN := Lib.hid (show some wr.heap.size ≠ u7.ownBlock from fun e => absurd (HQ.out.1.lt e.symm) (Nat.lt_irrefl _))
      clear hE1 hx0 hy0 hs1 HQ k0 k1 k2
      generalize (wr.alloc (.cells #[.int .i64 p, .int .i64 q, .string t0] 46)).alloc (.cells #[.int .i64 p, .int .i64 q] 44) = w3 at *
      generalize wr.heap.size + 1 = bs at *
      generalize wr.heap.size = bx at *
      have ho3 : Oe w1 w3.drew u7 B := HE1.out.below (below_drew1 (Below.refl _ _))
      have hx3 : w3.drew.heap[bx]? = some (.cells #[.int .i64 p, .int .i64 q, .string t0] 46) := HX0.out
      have hy3 : w3.drew.heap[bs]? = some (.cells #[.int .i64 p, .int .i64 q] 44) := HY0.out
      have hbl4 := below_alloc (Below.refl w3.drew.heap.size w3.drew) (.cells #[.int .i64 z, .int .i64 t0.size, .string Y] 46)
      have ho4 := ho3.below hbl4
      have hx4 := blk_below hx3 hbl4
      have hy4 := blk_below hy3 hbl4
      obtain ⟨v5, w5, hr1, ho5, hg5⟩ := ho4.append (z, (t0.size : Int), Y) w3.drew.heap.size (blk_new w3.drew _) (by have := HBl.out; omega) 23
      have hy5 := blk_grown hy4 hg5 (ho4.ne (by decide) hy4)
      have hx5 := blk_grown hx4 hg5 HN.out
      have hcs : ∀ w' : World, Below w1.heap.size w1 w' → w'.heap[bx]? = some (.cells #[.int .i64 p, .int .i64 q, .string t0] 46) → w'.heap[bs]? = some (.cells #[.int .i64 p, .int .i64 q] 44) → w'.cell? ⟨bx, 2, none⟩ = some (.string t0) ∧ w'.cell? ⟨bs, 0, none⟩ = some (.int .i64 p) ∧ w'.cell? ⟨bs, 1, none⟩ = some (.int .i64 q) ∧ Hid (Below w1.heap.size w1 w') := fun w' hb h h2 => ⟨(blk_cell h 2).trans rfl, (blk_cell h2 0).trans rfl, (blk_cell h2 1).trans rfl, hb⟩
      have HS0 := Lib.hid (hcs _ ho3.bel hx3 hy3)
      have HS1 := Lib.hid (hcs _ ho4.bel hx4 hy4)
      have HS2 := Lib.hid (hcs _ ho5.bel hx5 hy5)
      have HF := Lib.hid (And.intro ho5 (And.intro hx5 hy5))
      clear ho3 hx3 hy3 hbl4 ho4 hx4 hy4 hx5 hy5 ho5 hg5 hcs HE1 HX0 HY0
      refine start_ (n := 23) (S := (fun W' => W'.cell? ⟨bx, 2, none⟩ = some (.string t0) ∧ W'.cell? ⟨bs, 0, none⟩ = some (.int .i64 p) ∧ W'.cell? ⟨bs, 1, none⟩ = some (.int .i64 q) ∧ Hid (Below w1.heap.size w1 W'))) (ds := []) #[false, false, false, false, false, false, false, false, false, false, false, false, false, false, false, false, false, false, false, false, false, false, false] (by kernel_rfl) rfl rfl (HS0.out) (fun hHeld => ?_)
      refine pure_ (i := 0) (N := (some 29)) (v := ?_) (a' := ?_) #[true, false, false, false, false, false, false, false, false, false, false, false, false, false, false, false, false, false, false, false, false, false, false] rfl rfl (by kernel_rfl) (fun _ _ _ h => h) (Or.inl ⟨by rfl, ?_⟩) ?_ ?_
      rotate_left
      · intro w'
        go_simp
        try with_reducible rfl
      rotate_left
      · simp only [Act.put, List.setIfInBounds_toArray, List.set_cons_zero, List.set_cons_succ]
        rfl
      refine pure_ (i := 1) (N := (some 30)) (v := ?_) (a' := ?_) #[true, true, false, false, false, false, false, false, false, false, false, false, false, false, false, false, false, false, false, false, false, false, false] rfl rfl (by kernel_rfl) (fun _ _ _ h => h) (Or.inl ⟨by rfl, ?_⟩) ?_ ?_
      rotate_left
      · intro w'
        go_simp
        try with_reducible rfl
      rotate_left
      · simp only [Act.put, List.setIfInBounds_toArray, List.set_cons_zero, List.set_cons_succ]
        rfl
      refine take_ (i := 2) (N := (some 31)) (v := ?_) (a' := ?_) #[true, true, true, false, false, false, false, false, false, false, false, false, false, false, false, false, false, false, false, false, false, false, false] rfl rfl (by kernel_rfl) (fun _ _ _ h => h) (Or.inl ⟨by rfl, ?_⟩) hHeld ?_ ?_
      rotate_left
      · intro w' ⟨s0, s1, s2, s3⟩
        go_simp
        try with_reducible rfl
      rotate_left
      · simp only [Act.put, List.setIfInBounds_toArray, List.set_cons_zero, List.set_cons_succ]
        rfl
      refine pure_ (i := 3) (N := (some 32)) (v := ?_) (a' := ?_) #[true, true, true, true, false, false, false, false, false, false, false, false, false, false, false, false, false, false, false, false, false, false, false] rfl rfl (by kernel_rfl) (fun _ _ _ h => h) (Or.inl ⟨by rfl, ?_⟩) ?_ ?_
      rotate_left
      · intro w'
        go_simp
        try with_reducible rfl
      rotate_left
      · simp only [Act.put, List.setIfInBounds_toArray, List.set_cons_zero, List.set_cons_succ]
        rfl
      refine pure_ (i := 4) (N := (some 33)) (v := ?_) (a' := ?_) #[true, true, true, true, true, false, false, false, false, false, false, false, false, false, false, false, false, false, false, false, false, false, false] rfl rfl (by kernel_rfl) (fun _ _ _ h => h) (Or.inl ⟨by rfl, ?_⟩) ?_ ?_
      rotate_left
      · intro w'
        go_simp
        try with_reducible rfl
      rotate_left
      · simp only [Act.put, List.setIfInBounds_toArray, List.set_cons_zero, List.set_cons_succ]
        rfl
      refine pure_ (i := 5) (N := (some 34)) (v := ?_) (a' := ?_) #[true, true, true, true, true, true, false, false, false, false, false, false, false, false, false, false, false, false, false, false, false, false, false] rfl rfl (by kernel_rfl) (fun _ _ _ h => h) (Or.inl ⟨by rfl, ?_⟩) ?_ ?_
      rotate_left
      · intro w'
        go_simp
        try with_reducible rfl
      rotate_left
      · simp only [Act.put, List.setIfInBounds_toArray, List.set_cons_zero, List.set_cons_succ]
        rfl
      refine take_ (i := 6) (N := (some 35)) (v := ?_) (a' := ?_) #[true, true, true, true, true, true, true, false, false, false, false, false, false, false, false, false, false, false, false, false, false, false, false] rfl rfl (by kernel_rfl) (fun _ _ _ h => h) (Or.inl ⟨by rfl, ?_⟩) hHeld ?_ ?_
      rotate_left
      · intro w' ⟨s0, s1, s2, s3⟩
        go_simp
        try with_reducible rfl
      rotate_left
      · simp only [Act.put, List.setIfInBounds_toArray, List.set_cons_zero, List.set_cons_succ]
        rfl
      refine pure_ (i := 7) (N := (some 36)) (v := ?_) (a' := ?_) #[true, true, true, true, true, true, true, true, false, false, false, false, false, false, false, false, false, false, false, false, false, false, false] rfl rfl (by kernel_rfl) (fun _ _ _ h => h) (Or.inl ⟨by rfl, ?_⟩) ?_ ?_
      rotate_left
      · intro w'
        go_simp
        try with_reducible rfl
      rotate_left
      · simp only [Act.put, List.setIfInBounds_toArray, List.set_cons_zero, List.set_cons_succ]
        rfl
      refine pure_ (i := 8) (N := (some 37)) (v := ?_) (a' := ?_) #[true, true, true, true, true, true, true, true, true, false, false, false, false, false, false, false, false, false, false, false, false, false, false] rfl rfl (by kernel_rfl) (fun _ _ _ h => h) (Or.inl ⟨by rfl, ?_⟩) ?_ ?_
      rotate_left
      · intro w'
        go_simp
        try with_reducible rfl
      rotate_left
      · simp only [Act.put, List.setIfInBounds_toArray, List.set_cons_zero, List.set_cons_succ]
        rfl
      refine pure_ (i := 9) (N := (some 38)) (v := ?_) (a' := ?_) #[true, true, true, true, true, true, true, true, true, true, false, false, false, false, false, false, false, false, false, false, false, false, false] rfl rfl (by kernel_rfl) (fun _ _ _ h => h) (Or.inl ⟨by rfl, ?_⟩) ?_ ?_
      rotate_left
      · intro w'
        go_simp
        try with_reducible rfl
      rotate_left
      · simp only [Act.put, List.setIfInBounds_toArray, List.set_cons_zero, List.set_cons_succ]
        rfl
      refine pure_ (i := 10) (N := (some 39)) (v := ?_) (a' := ?_) #[true, true, true, true, true, true, true, true, true, true, true, false, false, false, false, false, false, false, false, false, false, false, false] rfl rfl (by kernel_rfl) (fun _ _ _ h => h) (Or.inl ⟨by rfl, ?_⟩) ?_ ?_
      rotate_left
      · intro w'
        go_simp
        try with_reducible rfl
      rotate_left
      · simp only [Act.put, List.setIfInBounds_toArray, List.set_cons_zero, List.set_cons_succ]
        rfl
      refine take_ (i := 11) (N := (some 40)) (v := ?_) (a' := ?_) #[true, true, true, true, true, true, true, true, true, true, true, true, false, false, false, false, false, false, false, false, false, false, false] rfl rfl (by kernel_rfl) (fun _ _ _ h => h) (Or.inl ⟨by rfl, ?_⟩) hHeld ?_ ?_
      rotate_left
      · intro w' ⟨s0, s1, s2, s3⟩
        go_simp
        try with_reducible rfl
      rotate_left
      · simp only [Act.put, List.setIfInBounds_toArray, List.set_cons_zero, List.set_cons_succ]
        rfl
      refine pure_ (i := 12) (N := (some 41)) (v := ?_) (a' := ?_) #[true, true, true, true, true, true, true, true, true, true, true, true, true, false, false, false, false, false, false, false, false, false, false] rfl rfl (by kernel_rfl) (fun _ _ _ h => h) (Or.inl ⟨by rfl, ?_⟩) ?_ ?_
      rotate_left
      · intro w'
        go_simp
        try with_reducible rfl
      rotate_left
      · simp only [Act.put, List.setIfInBounds_toArray, List.set_cons_zero, List.set_cons_succ]
        rfl
      refine take_ (i := 13) (N := (some 42)) (v := ?_) (a' := ?_) #[true, true, true, true, true, true, true, true, true, true, true, true, true, true, false, false, false, false, false, false, false, false, false] rfl rfl (by kernel_rfl) (fun _ _ _ h => h) (Or.inl ⟨by rfl, ?_⟩) hHeld ?_ ?_
      rotate_left
      · intro w' ⟨s0, s1, s2, s3⟩
        go_simp
        try with_reducible rfl
      rotate_left
      · simp only [Act.put, List.setIfInBounds_toArray, List.set_cons_zero, List.set_cons_succ]
        rfl
      refine pure_ (i := 14) (N := (some 43)) (v := ?_) (a' := ?_) #[true, true, true, true, true, true, true, true, true, true, true, true, true, true, true, false, false, false, false, false, false, false, false] rfl rfl (by kernel_rfl) (fun _ _ _ h => h) (Or.inl ⟨by rfl, ?_⟩) ?_ ?_
      rotate_left
      · intro w'
        go_simp
        try with_reducible rfl
      rotate_left
      · simp only [Act.put, List.setIfInBounds_toArray, List.set_cons_zero, List.set_cons_succ]
        rfl
      refine take_ (i := 15) (N := (some 44)) (v := ?_) (a' := ?_) #[true, true, true, true, true, true, true, true, true, true, true, true, true, true, true, true, false, false, false, false, false, false, false] rfl rfl (by kernel_rfl) (fun _ _ _ h => h) (Or.inl ⟨by rfl, ?_⟩) hHeld ?_ ?_
      rotate_left
      · intro w' ⟨s0, s1, s2, s3⟩
        go_simp
        try with_reducible rfl
      rotate_left
      · simp only [Act.put, List.setIfInBounds_toArray, List.set_cons_zero, List.set_cons_succ]
        rfl
      refine pure_ (i := 16) (N := (some 45)) (v := ?_) (a' := ?_) #[true, true, true, true, true, true, true, true, true, true, true, true, true, true, true, true, true, false, false, false, false, false, false] rfl rfl (by kernel_rfl) (fun _ _ _ h => h) (Or.inl ⟨by rfl, ?_⟩) ?_ ?_
      rotate_left
      · intro w'
        go_simp
        try with_reducible rfl
      rotate_left
      · simp only [Act.put, List.setIfInBounds_toArray, List.set_cons_zero, List.set_cons_succ]
        rfl
      refine pure_ (i := 17) (N := (some 46)) (v := ?_) (a' := ?_) #[true, true, true, true, true, true, true, true, true, true, true, true, true, true, true, true, true, true, false, false, false, false, false] rfl rfl (by kernel_rfl) (fun _ _ _ h => h) (Or.inl ⟨by rfl, ?_⟩) ?_ ?_
      rotate_left
      · intro w'
        go_simp
        try with_reducible rfl
      rotate_left
      · simp only [Act.put, List.setIfInBounds_toArray, List.set_cons_zero, List.set_cons_succ]
        rfl
      refine take_ (i := 18) (N := (some 47)) (v := ?_) (a' := ?_) #[true, true, true, true, true, true, true, true, true, true, true, true, true, true, true, true, true, true, true, false, false, false, false] rfl rfl (by kernel_rfl) (fun _ _ _ h => h) (Or.inl ⟨by rfl, ?_⟩) hHeld ?_ ?_
      rotate_left
      · intro w' ⟨s0, s1, s2, s3⟩
        have hcv := HCv.out w' s3.out
        go_simp
        try with_reducible rfl
      rotate_left
      · simp only [Act.put, List.setIfInBounds_toArray, List.set_cons_zero, List.set_cons_succ]
        rfl
      refine pure_ (i := 19) (N := (some 48)) (v := ?_) (a' := ?_) #[true, true, true, true, true, true, true, true, true, true, true, true, true, true, true, true, true, true, true, true, false, false, false] rfl rfl (by kernel_rfl) (fun _ _ _ h => h) (Or.inl ⟨by rfl, ?_⟩) ?_ ?_
      rotate_left
      · intro w'
        go_simp
        try with_reducible rfl
      rotate_left
      · simp only [Act.put, List.setIfInBounds_toArray, List.set_cons_zero, List.set_cons_succ]
        rfl
      refine one_ (i := 20) (N := (some 49)) #[true, true, true, true, true, true, true, true, true, true, true, true, true, true, true, true, true, true, true, true, true, false, false] rfl rfl (by kernel_rfl) (by decide) (fun K hK => ?_)
      rw [if_pos (by rfl)]
      go_simp
      refine hK.out _ _ HS1.out (fun hHeld => ?_)
      clear hK K
      refine one_ (i := 21) (N := (some 50)) #[true, true, true, true, true, true, true, true, true, true, true, true, true, true, true, true, true, true, true, true, true, true, false] rfl rfl (by kernel_rfl) (by decide) (fun K hK => ?_)
      refine app_ _ _ 23 23 rfl (by rfl) rfl _ _ rfl rfl hr1 ?_
      refine hK.out _ _ HS2.out (fun hHeld => ?_)
      clear hK K
      refine norm_ (a' := ?_) ?_ ?_
      rotate_left
      · show Act.put _ (some 50) _ = _
        simp only [Act.put, List.setIfInBounds_toArray, List.set_cons_zero, List.set_cons_succ]
        rfl
      refine pure_ (i := 22) (N := (some 7)) (v := ?_) (a' := ?_) #[true, true, true, true, true, true, true, true, true, true, true, true, true, true, true, true, true, true, true, true, true, true, true] rfl rfl (by kernel_rfl) (fun _ _ _ h => h) (Or.inl ⟨by rfl, ?_⟩) ?_ ?_
      rotate_left
      · intro w'
        go_simp
        try with_reducible rfl
      rotate_left
      · simp only [Act.put, List.setIfInBounds_toArray, List.set_cons_zero, List.set_cons_succ]
        rfl
      refine done_ (by kernel_rfl) ?_
      have B2 : w5.cell? ⟨bx, 2, none⟩ = some (.string t0) := (blk_cell HF.out.2.1 2).trans rfl
      have B1 : w5.cell? ⟨bs, 1, none⟩ = some (.int .i64 q) := (blk_cell HF.out.2.2 1).trans rfl
      clear hHeld HS0 HS1 HS2 hr1 hct HCv
      go_wp2_with fail
      go_roundg (S.length - (i + 1))
      case measure => have := HQn.out; omega
      case rel => exact ⟨i + 1, by go_num, by rw [HSv.out.2], by omega, by rw [HSv.out.1]; exact HF.out.1, rfl⟩
    · obtain rfl : i = S.length := by omega
      have hdl : decide ((S.length : Int) < (S.length : Int)) = false := by simp
      have HF := Lib.hid (show Oe W wr u7 (backR b es) from by rw [HA2.out]; exact HQ.out.1.weak HO1.out.2)
      go_wp2_with fail
      go_ret2
      exact ⟨u7, by rw [HK.out]; rfl, HF.out⟩
  · have hk0 : (k != 0) = true := by simp [hk]
    have HF := Lib.hid (show backR b es = [] from by rw [HA.out, if_neg hk])
    go_wp2_with fail
    go_ret2
    exact ⟨.slice none 0 0, by rw [HK.out]; rfl, by rw [HF.out]; exact ⟨World.ownsRow_nil _ _ _ _, HO1.out.2⟩⟩
end Go.Proofs.Ytgcjkijndibejaa.Srt
