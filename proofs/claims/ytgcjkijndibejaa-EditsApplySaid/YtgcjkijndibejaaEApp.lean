/- edits.Apply, walked. Conditions: as each lemma says. -/
import Derived.Test.YtgcjkijndibejaaEOb
import Derived.Lib.SlFresh
set_option linter.unusedVariables false
set_option linter.unusedSimpArgs false
namespace Go.Proofs.Ytgcjkijndibejaa.Srt
open Go.Lib hiding bytesOf bytesOf_length
open Go.Shelf Go.RowKit Go.Proofs.YtgcjkijndibejaaW.PrintWords Go.Proofs.YtgcjkijndibejaaW.PrintLast

/-- Edits of so many bytes, in order and apart. -/
structure OkS (n : Nat) (S : List Ed) : Prop where
  rng : ∀ i, i < S.length → chk n (S.getD i dE) = true
  seq : ∀ i, i + 1 < S.length → okP (S.getD i dE) (S.getD (i + 1) dE) = true
theorem tidy_ok {b : List Int} {es : List Ed} (h : (tidy b es).1 = 0) : OkS b.length (tidy b es).2 ∧ (tidy b es).2 = srtE (kept b es) ∧ es.length ≤ 65536 ∧ (∀ e ∈ es, chk b.length e = true) := by
  unfold tidy at *
  by_cases h1 : 65536 < es.length
  · rw [if_pos h1] at h; cases h
  · rw [if_neg h1] at h ⊢
    by_cases h2 : es.all (chk b.length) = true
    · rw [if_pos h2] at h ⊢
      by_cases h3 : okL (srtE (kept b es)) = true
      · rw [if_pos h3] at h ⊢
        refine ⟨⟨fun i hi => ?_, (okL_iff _).1 h3⟩, rfl, by omega, fun e he => List.all_eq_true.1 h2 e he⟩
        exact List.all_eq_true.1 h2 _ (List.mem_filter.1 (srtE_mem _ _ (getD_memE _ i hi))).1
      · rw [if_neg h3] at h; cases h
    · rw [if_neg h2] at h; cases h
theorem chk_iff (n : Nat) (e : Ed) : chk n e = true ↔ 0 ≤ e.1 ∧ 0 ≤ e.2.1 ∧ e.1 + e.2.1 ≤ n := by
  unfold chk
  simp only [Bool.and_eq_true, decide_eq_true_eq]
  omega
theorem okP_iff (p q : Ed) : okP p q = true ↔ p.1 + p.2.1 ≤ q.1 ∧ ¬ (p.1 = q.1 ∧ p.2.1 = q.2.1) := by
  unfold okP
  simp only [Bool.and_eq_true, decide_eq_true_eq, Bool.not_eq_true', Bool.and_eq_false_iff, beq_eq_false_iff_ne]
  omega
/-- Where the first i edits end. -/
def atE (S : List Ed) : Nat → Nat
  | 0 => 0
  | i + 1 => (S.getD i dE).1.toNat + (S.getD i dE).2.1.toNat
/-- What is put out behind the first i edits. -/
def outE (b : List Int) (S : List Ed) : Nat → List Int
  | 0 => []
  | i + 1 => outE b S i ++ (b.drop (atE S i)).take ((S.getD i dE).1.toNat - atE S i) ++ bytesOf (S.getD i dE).2.2
/-- Bytes with edits done. -/
def applyL (b : List Int) (S : List Ed) : List Int := outE b S S.length ++ b.drop (atE S S.length)
def applyR (b : List Int) (es : List Ed) : List Int := if (tidy b es).1 = 0 then applyL b (tidy b es).2 else []
theorem at_le {n : Nat} {S : List Ed} (h : OkS n S) (i : Nat) (hi : i < S.length) : atE S i ≤ (S.getD i dE).1.toNat := by
  cases i with
  | zero => exact Nat.zero_le _
  | succ i =>
    have h1 := (okP_iff _ _).1 (h.seq i hi)
    have h2 := (chk_iff _ _).1 (h.rng i (by omega))
    have h3 := (chk_iff _ _).1 (h.rng (i + 1) hi)
    show (S.getD i dE).1.toNat + (S.getD i dE).2.1.toNat ≤ _
    omega
theorem at_len {n : Nat} {S : List Ed} (h : OkS n S) (i : Nat) (hi : i ≤ S.length) : atE S i ≤ n := by
  cases i with
  | zero => exact Nat.zero_le _
  | succ i =>
    have h2 := (chk_iff _ _).1 (h.rng i (by omega))
    show (S.getD i dE).1.toNat + (S.getD i dE).2.1.toNat ≤ _
    omega
theorem out_len {b : List Int} {n : Nat} {S : List Ed} (h : OkS n S) (m : Nat) (hm : ∀ e ∈ S, e.2.2.size ≤ m) (i : Nat) (hi : i ≤ S.length) : (outE b S i).length ≤ atE S i + m * i := by
  induction i with
  | zero => exact Nat.zero_le _
  | succ i ih =>
    have ih := ih (by omega)
    have h1 := at_le h i (by omega)
    have h2 := hm _ (getD_memE S i (by omega))
    show (outE b S i ++ (b.drop (atE S i)).take ((S.getD i dE).1.toNat - atE S i) ++ bytesOf (S.getD i dE).2.2).length ≤ (S.getD i dE).1.toNat + (S.getD i dE).2.1.toNat + _
    rw [List.length_append, List.length_append, List.length_take, bytesOf_length, Nat.mul_add]
    omega
theorem EdR.form {W : World} {v : Value} {es : List Ed} (h : EdR W v es) : ∃ A c, v = .slice A es.length c ∧ es.length ≤ c ∧ (0 < es.length → ∃ g o, A = some ⟨g, o, none⟩ ∧ g < W.heap.size ∧ ∀ i j, i < es.length → j < 3 → W.cell? ⟨g, o + (i * 3 + j), none⟩ = (encE (es.getD i dE))[j]?) := by
  rcases h with ⟨rfl, rfl⟩ | ⟨g, o, c, rfl, hc, hg, hcell⟩
  · exact ⟨none, 0, rfl, Nat.le_refl _, fun h => by cases h⟩
  · refine ⟨_, _, rfl, hc, fun _ => ⟨g, o, rfl, hg, fun i j hi hj => ?_⟩⟩
    rw [hcell _ (by omega), edC_get _ _ (by omega), show (i * 3 + j) / 3 = i by omega, show (i * 3 + j) % 3 = j by omega]
    have : j = 0 ∨ j = 1 ∨ j = 2 := by omega
    rcases this with rfl | rfl | rfl <;> rfl
theorem Ob.ne {w0 W : World} {v : Value} {xs : List Int} (h : Ob w0 W v xs) {bx : Nat} {t : TypeId} {cs : Array Value} (ht : t ≠ 5) (hb : W.heap[bx]? = some (.cells cs t (0, 0))) : some bx ≠ v.ownBlock := by
  rcases h.own.2 with ⟨rfl, _⟩ | ⟨g, cap, cur, rfl, _, hh, _⟩
  · intro e; cases e
  · intro e
    injection e with e
    subst e
    exact blk_ne hb hh ht rfl
theorem Ob.weak {w0 w1 W : World} {v : Value} {xs : List Int} (h : Ob w1 W v xs) (hb : Below w0.heap.size w0 w1) : Ob w0 W v xs := ⟨own_less h.own hb.size, below_step hb h.bel⟩
theorem out_succ (b : List Int) (S : List Ed) (i : Nat) : outE b S (i + 1) = outE b S i ++ (b.drop (atE S i)).take ((S.getD i dE).1.toNat - atE S i) ++ bytesOf (S.getD i dE).2.2 := rfl
theorem at_succ (S : List Ed) (i : Nat) : atE S (i + 1) = (S.getD i dE).1.toNat + (S.getD i dE).2.1.toNat := rfl
theorem cut_from_b (A : Option Addr) (n c p : Nat) (hp : p ≤ n) (hc : n ≤ c) : ∀ W : World, (Instr.slice 22 (.slice A n c) (some (.int .i64 p)) none none).run Try.prog W = .ok (.slice (if c = p then A else A.map (·.add (p * 1))) (n - p) (c - p)) W := by
  obtain ⟨i0, hi0, _, hsz, _⟩ := info_parts info_u8
  have := cut_from (P := Try.prog) 22 5 .i64 Try.underlying22 hi0 1 hsz A n c (p : Int) (by omega) (by omega)
  simpa using this
set_option maxRecDepth 100000 in
set_option maxHeartbeats 8000000 in
theorem apply_any (A : Option Addr) (c : Nat) (b : List Int) (v : Value) (es : List Ed) (W : World) (hC : Kd.C (Kd.int .u8) W A b.length b) (hc : b.length ≤ c) (hE : EdR W v es) (hb : b.length ≤ 100000) (hn : es.length ≤ 500) (ht : ∀ e ∈ es, e.2.2.size ≤ 1000) :
    Calls Try.prog 15 #[.slice A b.length c, v] W fun e w' => ∃ v', e = .returned (.tuple #[v', .int .i64 (tidy b es).1]) ∧ Ob W w' v' (applyR b es) := by
  have HC := Lib.hid (And.intro hC hc)
  have HT := Lib.hid (fun h => tidy_ok (b := b) (es := es) h)
  have HA := Lib.hid (show applyR b es = if (tidy b es).1 = 0 then applyL b (tidy b es).2 else [] from rfl)
  have HE := Lib.hid hE
  have Ht := Lib.hid ht
  clear hC hc hE ht
  go_enter Try.func15, Try.ntmps15
  go_wp2_with fail
  refine (tidy_any A c b v es W HC.out.1 HC.out.2 HE.out hb).mono ?_
  rintro e w1 ⟨v1, rfl, ho1, hb1⟩
  have HO1 := Lib.hid (And.intro ho1 hb1)
  clear ho1 hb1
  generalize (tidy b es).2 = S at *
  generalize hkk : (tidy b es).1 = k at *
  have HK := Lib.hid hkk
  clear hkk
  by_cases hk : k = 0
  · subst hk
    obtain ⟨hS, hS1, _, _⟩ := HT.out rfl
    have HS := Lib.hid hS
    have hkl := kept_len b es
    have hsl := srtE_length (kept b es)
    have hmem : ∀ e ∈ S, e.2.2.size ≤ 1000 := fun e he => Ht.out e (List.mem_filter.1 (srtE_mem _ _ (hS1 ▸ he))).1
    rw [← hS1] at hsl
    have hS5 : S.length ≤ 500 := by omega
    have HM := Lib.hid hmem
    have HA2 := Lib.hid (show applyR b es = applyL b S from by rw [HA.out, if_pos rfl])
    clear HT HA hS hS1 hmem HE Ht hkl hsl
    obtain ⟨A1, c1, rfl, hc1, hR⟩ := (EdR.own HO1.out.1).form
    have HR := Lib.hid hR
    clear hR
    go_upto_block 0 with fail
    go_wp2_with fail
    go_loopg [7, 8, 22] S.length (fun gn ov av iv wr => ∃ i : Nat, iv = .int .i64 i ∧ av = .int .i64 (atE S i) ∧ i ≤ S.length ∧ Hid (Ob w1 wr ov (outE b S i) ∧ gn = S.length - i))
    case atStart => exact ⟨0, rfl, rfl, Nat.zero_le _, ⟨World.ownsRow_nil _ _ _ _, Below.refl _ _⟩, rfl⟩
    case round =>
    obtain ⟨i, rfl, rfl, hi, HQ⟩ := hrel
    obtain ⟨A7, c7, rfl, _, _⟩ := HQ.out.1.form
    have HAt := Lib.hid (at_len HS.out i hi)
    by_cases hlt : i < S.length
    · have hdl : decide ((i : Int) < (S.length : Int)) = true := by simp; omega
      obtain ⟨gs, os, rfl, hgs, hcell⟩ := HR.out (by omega)
      have kp : ∀ j, j < 3 → wr.cell? ⟨gs, os + (i * 3 + j), none⟩ = (encE (S.getD i dE))[j]? := fun j hj => (HQ.out.1.bel.cell (p := ⟨gs, os + (i * 3 + j), none⟩) hgs).trans (hcell i j hlt hj)
      have k0 := kp 0 (by omega)
      have k1 := kp 1 (by omega)
      have k2 := kp 2 (by omega)
      have q1 := at_le HS.out i hlt
      have q2 := (chk_iff _ _).1 (HS.out.rng i hlt)
      have q3 := HM.out _ (getD_memE S i hlt)
      have q4 := out_len (b := b) HS.out 1000 HM.out i (by omega)
      have HSu := Lib.hid (And.intro (out_succ b S i) (at_succ S i))
      obtain ⟨x, hx⟩ : ∃ x, S.getD i dE = x := ⟨_, rfl⟩
      rw [hx] at k0 k1 k2 q1 q2 q3 HSu
      obtain ⟨a0, l0, t0⟩ := x
      obtain ⟨q5, q6, q7⟩ := q2
      have q5 : 0 ≤ a0 := q5
      have q6 : 0 ≤ l0 := q6
      have q7 : a0 + l0 ≤ (b.length : Int) := q7
      have q3 : t0.size ≤ 1000 := q3
      obtain ⟨p, rfl⟩ : ∃ p : Nat, a0 = p := ⟨a0.toNat, by omega⟩
      obtain ⟨q, rfl⟩ : ∃ q : Nat, l0 = q := ⟨l0.toNat, by omega⟩
      have q1 : atE S i ≤ p := q1
      have k0 : wr.cell? ⟨gs, os + i * 3, none⟩ = some (.int .i64 p) := k0
      have k1 : wr.cell? ⟨gs, os + i * 3 + 1, none⟩ = some (.int .i64 q) := k1
      have k2 : wr.cell? ⟨gs, os + i * 3 + 2, none⟩ = some (.string t0) := k2
      have e1 : ((p : Int), (q : Int), t0).1.toNat = p := by simp
      have e2 : ((p : Int), (q : Int), t0).2.1.toNat = q := by simp
      have HSv : Hid (outE b S (i + 1) = outE b S i ++ (b.drop (atE S i)).take (p - atE S i) ++ bytesOf t0 ∧ atE S (i + 1) = p + q) := ⟨by rw [HSu.out.1, e1], by rw [HSu.out.2, e1, e2]⟩
      clear HSu kp hcell hx e1 e2
      have hct := cut_b A b.length c (atE S i) p q1 (by omega) HC.out.2
      have HCm := Lib.hid (fun (w' : World) (hb' : Below w1.heap.size w1 w') => C_mid (Kd.C_below HC.out.1 (below_step HO1.out.2 hb')) HC.out.2 (atE S i) p q1 (by omega))
      generalize (if c = atE S i then A else A.map (·.add (atE S i * 1))) = A2 at *
      have ha1 : outE b S i = outE b S i := rfl
      generalize outE b S i = o at *
      have ha2 := HAt.out
      have HAn := Lib.hid (show atE S i ≤ p ∧ p + q ≤ b.length from ⟨q1, by omega⟩)
      generalize atE S i = at0 at *
      clear ha1
      go_upto_region 9 with fail
      have hbx := blk_new wr (.cells #[.int .i64 p, .int .i64 q, .string t0] 46)
      have hbl := below_alloc (Below.refl wr.heap.size wr) (.cells #[.int .i64 p, .int .i64 q, .string t0] 46)
      have HB := Lib.hid hbx
      have HW3 := Lib.hid (HQ.out.1.below hbl)
      have HQn := Lib.hid HQ.out.2
      clear k0 k1 k2 HQ hbx hbl hgs
      generalize wr.alloc (.cells #[.int .i64 p, .int .i64 q, .string t0] 46) = w3 at *
      generalize wr.heap.size = bx at *
      have hbd : Below w3.heap.size w3 w3.drew := below_drew1 (Below.refl _ _)
      have ho3 : Ob w1 w3.drew (.slice A7 o.length c7) o := HW3.out.below hbd
      have hx3 : w3.drew.heap[bx]? = some (.cells #[.int .i64 p, .int .i64 q, .string t0] 46) := HB.out
      obtain ⟨v4, w4, hr1, ho4, hg4⟩ := ho3.append A2 (p - at0) (c - at0) _ (HCm.out _ ho3.bel) (by omega) 22
      obtain ⟨A4, c4, rfl, _, _⟩ := ho4.form
      have hx4 := blk_grown hx3 hg4 (ho3.ne (by decide) hx3)
      obtain ⟨v5, w5, hr2, ho5, hg5⟩ := ho4.appendS t0 (by rw [List.length_append, List.length_take, List.length_drop]; omega) 22
      have hx5 := blk_grown hx4 hg5 (ho4.ne (by decide) hx4)
      have hcs : ∀ w' : World, w'.heap[bx]? = some (.cells #[.int .i64 p, .int .i64 q, .string t0] 46) → w'.cell? ⟨bx, 0, none⟩ = some (.int .i64 p) ∧ w'.cell? ⟨bx, 2, none⟩ = some (.string t0) ∧ True := fun w' h => ⟨(blk_cell h 0).trans rfl, (blk_cell h 2).trans rfl, trivial⟩
      have HS0 := Lib.hid (hcs _ hx3)
      have HS1 := Lib.hid (hcs _ hx4)
      have HS2 := Lib.hid (hcs _ hx5)
      have HF := Lib.hid (And.intro ho5 hx5)
      clear ho3 hx3 hx4 ho4 hg4 hx5 ho5 hg5 hcs HCm hbd HW3 HB
      refine start_ (n := 12) (S := (fun W' => W'.cell? ⟨bx, 0, none⟩ = some (.int .i64 p) ∧ W'.cell? ⟨bx, 2, none⟩ = some (.string t0) ∧ True)) (ds := []) #[false, false, false, false, false, false, false, false, false, false, false, false] (by kernel_rfl) rfl rfl (HS0.out) (fun hHeld => ?_)
      refine pure_ (i := 0) (N := (some 26)) (v := ?_) (a' := ?_) #[true, false, false, false, false, false, false, false, false, false, false, false] rfl rfl (by kernel_rfl) (fun _ _ _ h => h) (Or.inl ⟨by rfl, ?_⟩) ?_ ?_
      rotate_left
      · intro w'
        go_simp
        try with_reducible rfl
      rotate_left
      · simp only [Act.put, List.setIfInBounds_toArray, List.set_cons_zero, List.set_cons_succ]
        rfl
      refine pure_ (i := 1) (N := (some 27)) (v := ?_) (a' := ?_) #[true, true, false, false, false, false, false, false, false, false, false, false] rfl rfl (by kernel_rfl) (fun _ _ _ h => h) (Or.inl ⟨by rfl, ?_⟩) ?_ ?_
      rotate_left
      · intro w'
        go_simp
        try with_reducible rfl
      rotate_left
      · simp only [Act.put, List.setIfInBounds_toArray, List.set_cons_zero, List.set_cons_succ]
        rfl
      refine pure_ (i := 2) (N := (some 28)) (v := ?_) (a' := ?_) #[true, true, true, false, false, false, false, false, false, false, false, false] rfl rfl (by kernel_rfl) (fun _ _ _ h => h) (Or.inl ⟨by rfl, ?_⟩) ?_ ?_
      rotate_left
      · intro w'
        go_simp
        try with_reducible rfl
      rotate_left
      · simp only [Act.put, List.setIfInBounds_toArray, List.set_cons_zero, List.set_cons_succ]
        rfl
      refine pure_ (i := 3) (N := (some 29)) (v := ?_) (a' := ?_) #[true, true, true, true, false, false, false, false, false, false, false, false] rfl rfl (by kernel_rfl) (fun _ _ _ h => h) (Or.inl ⟨by rfl, ?_⟩) ?_ ?_
      rotate_left
      · intro w'
        go_simp
        try with_reducible rfl
      rotate_left
      · simp only [Act.put, List.setIfInBounds_toArray, List.set_cons_zero, List.set_cons_succ]
        rfl
      refine pure_ (i := 4) (N := (some 30)) (v := ?_) (a' := ?_) #[true, true, true, true, true, false, false, false, false, false, false, false] rfl rfl (by kernel_rfl) (fun _ _ _ h => h) (Or.inl ⟨by rfl, ?_⟩) ?_ ?_
      rotate_left
      · intro w'
        go_simp
        try with_reducible rfl
      rotate_left
      · simp only [Act.put, List.setIfInBounds_toArray, List.set_cons_zero, List.set_cons_succ]
        rfl
      refine take_ (i := 5) (N := (some 31)) (v := ?_) (a' := ?_) #[true, true, true, true, true, true, false, false, false, false, false, false] rfl rfl (by kernel_rfl) (fun _ _ _ h => h) (Or.inl ⟨by rfl, ?_⟩) hHeld ?_ ?_
      rotate_left
      · intro w' ⟨s0, s1, s2⟩
        go_simp
        try with_reducible rfl
      rotate_left
      · simp only [Act.put, List.setIfInBounds_toArray, List.set_cons_zero, List.set_cons_succ]
        rfl
      refine pure_ (i := 6) (N := (some 32)) (v := ?_) (a' := ?_) #[true, true, true, true, true, true, true, false, false, false, false, false] rfl rfl (by kernel_rfl) (fun _ _ _ h => h) (Or.inl ⟨by rfl, ?_⟩) ?_ ?_
      rotate_left
      · intro w'
        go_simp
        try with_reducible rfl
      rotate_left
      · simp only [Act.put, List.setIfInBounds_toArray, List.set_cons_zero, List.set_cons_succ]
        rfl
      refine pure_ (i := 8) (N := (some 34)) (v := ?_) (a' := ?_) #[true, true, true, true, true, true, true, false, true, false, false, false] rfl rfl (by kernel_rfl) (fun _ _ _ h => h) (Or.inl ⟨by rfl, ?_⟩) ?_ ?_
      rotate_left
      · intro w'
        go_simp
        try with_reducible rfl
      rotate_left
      · simp only [Act.put, List.setIfInBounds_toArray, List.set_cons_zero, List.set_cons_succ]
        rfl
      refine take_ (i := 9) (N := (some 35)) (v := ?_) (a' := ?_) #[true, true, true, true, true, true, true, false, true, true, false, false] rfl rfl (by kernel_rfl) (fun _ _ _ h => h) (Or.inl ⟨by rfl, ?_⟩) hHeld ?_ ?_
      rotate_left
      · intro w' ⟨s0, s1, s2⟩
        go_simp
        try with_reducible rfl
      rotate_left
      · simp only [Act.put, List.setIfInBounds_toArray, List.set_cons_zero, List.set_cons_succ]
        rfl
      refine one_ (i := 7) (N := (some 33)) #[true, true, true, true, true, true, true, true, true, true, false, false] rfl rfl (by kernel_rfl) (by decide) (fun K hK => ?_)
      refine app_ _ _ 22 22 rfl (by rfl) rfl _ _ rfl rfl hr1 ?_
      refine hK.out _ _ HS1.out (fun hHeld => ?_)
      clear hK K
      refine norm_ (a' := ?_) ?_ ?_
      rotate_left
      · show Act.put _ (some 33) _ = _
        simp only [Act.put, List.setIfInBounds_toArray, List.set_cons_zero, List.set_cons_succ]
        rfl
      refine one_ (i := 10) (N := (some 36)) #[true, true, true, true, true, true, true, true, true, true, true, false] rfl rfl (by kernel_rfl) (by decide) (fun K hK => ?_)
      refine app_ _ _ 22 9 rfl (by rfl) rfl _ _ rfl rfl hr2 ?_
      refine hK.out _ _ HS2.out (fun hHeld => ?_)
      clear hK K
      refine norm_ (a' := ?_) ?_ ?_
      rotate_left
      · show Act.put _ (some 36) _ = _
        simp only [Act.put, List.setIfInBounds_toArray, List.set_cons_zero, List.set_cons_succ]
        rfl
      refine pure_ (i := 11) (N := (some 7)) (v := ?_) (a' := ?_) #[true, true, true, true, true, true, true, true, true, true, true, true] rfl rfl (by kernel_rfl) (fun _ _ _ h => h) (Or.inl ⟨by rfl, ?_⟩) ?_ ?_
      rotate_left
      · intro w'
        go_simp
        try with_reducible rfl
      rotate_left
      · simp only [Act.put, List.setIfInBounds_toArray, List.set_cons_zero, List.set_cons_succ]
        rfl
      refine done_ (by kernel_rfl) ?_
      have B0 : w5.cell? ⟨bx, 0, none⟩ = some (.int .i64 p) := (blk_cell HF.out.2 0).trans rfl
      have B1 : w5.cell? ⟨bx, 1, none⟩ = some (.int .i64 q) := (blk_cell HF.out.2 1).trans rfl
      clear hHeld HS0 HS1 HS2 hr1 hr2 hct
      go_wp2_with fail
      go_roundg (S.length - (i + 1))
      case measure => have := HQn.out; omega
      case rel => exact ⟨i + 1, by go_num, by rw [HSv.out.2]; go_num, by omega, by rw [HSv.out.1]; exact HF.out.1, rfl⟩
    · obtain rfl : i = S.length := by omega
      have hdl : decide ((S.length : Int) < (S.length : Int)) = false := by simp
      have q4 := out_len (b := b) HS.out 1000 HM.out S.length (by omega)
      have hat := HAt.out
      have hct := cut_from_b A b.length c (atE S S.length) hat HC.out.2
      have hCd := Kd.C_drop (Kd.C_below HC.out.1 (below_step HO1.out.2 HQ.out.1.bel)) hat HC.out.2
      rw [List.length_drop] at hCd
      have hCd : Kd.C (Kd.int .u8) wr (if c = atE S S.length then A else A.map (·.add (atE S S.length * 1))) (b.length - atE S S.length) (b.drop (atE S S.length)) := hCd
      generalize (if c = atE S S.length then A else A.map (·.add (atE S S.length * 1))) = A2 at *
      obtain ⟨v8, w8, hr8, ho8, _⟩ := HQ.out.1.append A2 (b.length - atE S S.length) (c - atE S S.length) _ hCd (by omega) 22
      have HF := Lib.hid (show Ob W w8 v8 (applyR b es) from by rw [HA2.out]; exact ho8.weak HO1.out.2)
      clear hCd ho8 HQ
      go_wp2_with (at_builtin; go_loud (refine Lib.wpList_append_run_sl _ rfl _ _ 22 rfl (.slice A7 (outE b S S.length).length c7) (.slice A2 (b.length - atE S S.length) (c - atE S S.length)) rfl rfl hr8 ?_))
      go_ret2
      exact ⟨v8, by rw [HK.out]; rfl, HF.out⟩
  · have hk0 : (k != 0) = true := by simp [hk]
    have HF := Lib.hid (show applyR b es = [] from by rw [HA.out, if_neg hk])
    go_wp2_with fail
    go_ret2
    exact ⟨.slice none 0 0, by rw [HK.out]; rfl, by rw [HF.out]; exact ⟨World.ownsRow_nil _ _ _ _, HO1.out.2⟩⟩
end Go.Proofs.Ytgcjkijndibejaa.Srt
