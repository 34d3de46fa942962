/- Several texts in one: HRefB HRefC HRefD HBits LRef HRefE HTags. Conditions: as each lemma says. -/
import Derived.Test.YtcbibbdkjhkmoaaHRefQ
import Derived.Test.YtcbibbdkjhkmoaaPMisd
import Derived.Test.YtcbibbdkjhkmoaaHShut
import Derived.Test.YtcbibbdkjhkmoaaHRefM
import Derived.Test.YtcbibbdkjhkmoaaHLex
import Derived.Test.YtcbibbdkjhkmoaaHScan
import Derived.Test.YtcbibbdkjhkmoaaLSeg
import Derived.Test.YtcbibbdkjhkmoaaHAw
set_option linter.unusedVariables false
set_option linter.unusedSimpArgs false
namespace Go.Proofs.Ytcbibbdkjhkmoaa.H
open Go.RowKit Go.Proofs.YtcbibbdkjhkmoaaW.PrintWords Go.Proofs.Ytcbibbdkjhkmoaa.L Go.Proofs.Ytcbibbdkjhkmoaa.S Go.Proofs.Ytcbibbdkjhkmoaa.Htm Go.Proofs.Ytcbibbdkjhkmoaa.PHtml

theorem Ev.up {α : Type} {g : Nat → Option α} {r : α} (h : Ev (fun k => g (k + 1)) r) : Ev g r := Ev.step (fun _ => rfl) h
theorem Ev.some_ {α : Type} (r : α) : Ev (fun _ => some r) r := Ev.now r

/-! ### behind -/
theorem untl_yes (t b : List Int) (i : Nat) (hi : i < b.length) (h : t.isPrefixOf (b.drop i) = true) : untl t b i = i + t.length := by
  unfold untl
  rw [drop_at b i hi] at h ⊢
  unfold fnd
  rw [if_pos h]
  rfl
theorem untl_no (t b : List Int) (i : Nat) (hi : i < b.length) (h : t.isPrefixOf (b.drop i) = false) : untl t b i = untl t b (i + 1) := by
  unfold untl
  rw [drop_at b i hi] at h ⊢
  rw [show fnd t (b.getD i 0 :: b.drop (i + 1)) = if t.isPrefixOf (b.getD i 0 :: b.drop (i + 1)) then some 0 else (fnd t (b.drop (i + 1))).map (· + 1) from rfl]
  rw [if_neg (by rw [h]; simp)]
  cases fnd t (b.drop (i + 1)) with
  | none => rfl
  | some j => simp only [Option.map_some]; omega
theorem untl_end (t b : List Int) (i : Nat) (ht : t ≠ []) (hi : b.length ≤ i) : untl t b i = b.length := by
  unfold untl
  rw [List.drop_eq_nil_of_le hi, fnd_nil t ht]
theorem behind_is (s m : ByteArray) (hs : s.size ≤ 100000) (hm : 0 < m.size) (hm2 : m.size ≤ 10) : ∀ (d i : Nat), s.size - i = d → i ≤ 200000 → Ev (fun k => redpenref10_behind.l0 k s i m) ((untl (bytesOf m) (bytesOf s) i : Nat) : Int) := by
  have hl := bytesOf_length s
  have hml := bytesOf_length m
  have hne : bytesOf m ≠ [] := by intro h; rw [h] at hml; simp at hml; omega
  intro d
  induction d with
  | zero =>
    intro i hd hi
    refine Ev.up ?_
    simp only [redpenref10_behind.l0]
    rw [untl_end _ _ _ hne (by omega)]
    simp only [if_neg (show ¬ ((i : Int) < (s.size : Int)) by omega), hl]
    exact Ev.some_ _
  | succ d ih =>
    intro i hd hi
    refine Ev.up ?_
    simp only [redpenref10_behind.l0, if_pos (show ((i : Int) < (s.size : Int)) by omega), at_f s m i hs hi hm hm2, Option.bind_some]
    cases hp : (bytesOf m).isPrefixOf ((bytesOf s).drop i) with
    | true =>
      rw [untl_yes _ _ _ (by omega) hp]
      simp only [if_pos]
      rw [wrl _ (by omega) (by omega), hml]
      exact Ev.some_ _
    | false =>
      rw [untl_no _ _ _ (by omega) hp]
      simp only [Bool.false_eq_true, if_false]
      rw [wrl _ (by omega) (by omega)]
      exact ih (i + 1) (by omega) (by omega)
theorem rbehind_any (s m : ByteArray) (i : Nat) (w : World) (hs : s.size ≤ 100000) (hi : i ≤ 200000) (hm : 0 < m.size) (hm2 : m.size ≤ 10) :
    Calls Try.prog 33 #[.string s, .int .i64 i, .string m] w fun e w' => e = .returned (.int .i64 (untl (bytesOf m) (bytesOf s) i : Nat)) ∧ ∃ n, w' = w.drewN n := by
  obtain ⟨k, hk⟩ := (behind_is s m hs hm hm2 _ i rfl hi).rounds
  exact (redpenref10_behind.calls k s i m _ w hk).mono fun _ _ h => ⟨h.1, h.2.out⟩

/-! ### put -/
theorem put_is (c : Int) (q : Nat) (hq : q ≤ 100000) : ∀ (d : Nat) (L : List Int) (a : Nat), q - a = d → L.length ≤ 100000 → Ev (fun k => redpenref10_Labels_put.l0 k L c q a) (setL L c a q) := by
  intro d
  induction d with
  | zero =>
    intro L a hd hL
    refine Ev.up ?_
    simp only [redpenref10_Labels_put.l0]
    rw [setL_none _ _ _ _ (.inl (by omega))]
    simp only [if_neg (show ¬ ((a : Int) < (q : Int)) by omega)]
    exact Ev.some_ _
  | succ d ih =>
    intro L a hd hL
    refine Ev.up ?_
    simp only [redpenref10_Labels_put.l0, if_pos (show ((a : Int) < (q : Int)) by omega)]
    by_cases ha : a < L.length
    · simp only [if_pos (show ((a : Int) < (L.length : Int)) by omega), if_pos (show (0 : Int) ≤ (a : Int) by omega)]
      rw [wrl _ (by omega) (by omega)]
      have e1 : ((a : Int)).toNat = a := rfl
      rw [e1]
      have := ih (L.set a c) (a + 1) (by omega) (by rw [List.length_set]; exact hL)
      have e2 : setL (L.set a c) c ((a + 1 : Nat) : Int) q = setL L c a q := by
        apply List.ext_getElem?
        intro i
        rw [setL_get, setL_get, List.getElem?_set]
        by_cases hi : a = i
        · subst hi
          rw [if_pos rfl, if_pos ha, List.getElem?_eq_getElem ha, Option.map_some, Option.map_some, if_neg (by omega), if_pos (by omega)]
        · rw [if_neg hi]
          congr 1
          funext x
          by_cases h : ((a + 1 : Nat) : Int) ≤ (i : Int) ∧ (i : Int) < (q : Int)
          · rw [if_pos h, if_pos (by omega)]
          · rw [if_neg h, if_neg (by omega)]
      rw [e2] at this
      exact this
    · simp only [if_neg (show ¬ ((a : Int) < (L.length : Int)) by omega)]
      rw [setL_none _ _ _ _ (.inr (.inr (by omega)))]
      exact Ev.some_ _
/-- The reference's labels in memory. -/
structure Rl (w0 W : World) (v : Value) (L : List Int) : Prop where
  own : Kd.R (Kd.int .u8) 57 W w0.heap.size (fun k => v.ownBlock = some k) v L
  bel : Below w0.heap.size w0 W
section
variable {w0 W W' : World} {v : Value} {L : List Int}
theorem Rl.kept (h : Rl w0 W v L) (hb : Below W.heap.size W W') : Rl w0 W' v L := ⟨Kd.R_below h.own hb, below_step h.bel hb⟩
theorem Rl.drewN (h : Rl w0 W v L) (n : Nat) : Rl w0 (W.drewN n) v L := h.kept (pw_below_drewN (Below.refl _ _) n)
theorem rl_flat {ok : Nat → Prop} (h : Kd.R (Kd.int .u8) 57 W w0.heap.size ok v L) (hb : Below w0.heap.size w0 W) : Rl w0 W v L := ⟨Kd.R_flat (fun h => h) h (fun k hk _ => hk), hb⟩
end
theorem rput_any {w0 W : World} {v : Value} {L : List Int} (h : Rl w0 W v L) (hL : L.length ≤ 100000) (c : Int) (a q : Nat) (hq : q ≤ 100000) :
    Calls Try.prog 34 #[v, .int .u8 c, .int .i64 a, .int .i64 q] W fun e w' => e = .returned (.tuple #[]) ∧ Rl w0 w' v (setL L c a q) := by
  obtain ⟨k, hk⟩ := (put_is c q hq _ L a rfl hL).rounds
  refine (redpenref10_Labels_put.calls k _ v L c a q _ w0 W h.bel h.own (by unfold redpenref10_Labels_put.f; exact hk)).mono ?_
  rintro e w' ⟨rfl, hr, hb, _⟩
  exact ⟨rfl, rl_flat hr hb⟩

/-! ### tag -/
def toP (s : Nat × Nat) : S54 := ⟨s.1, s.2⟩
theorem reps_spC (w : World) (S : List (Nat × Nat)) : Reps (k54.K w) 2 (S.map toP) (spC S) := by
  induction S with
  | nil => exact Reps.none _ _
  | cons s S ih => exact Reps.c2 (k54_mk w (toP s)) ih
theorem own_P {w : World} {base : Nat} {A : Option Addr} {c : Nat} {S : List (Nat × Nat)} (h : w.ownsRow base 54 2 (.slice A S.length c) S.length (spC S)) : S.length ≤ c ∧ Kd.C k54 w A S.length (S.map toP) := by
  refine ⟨own_le h, ?_⟩
  obtain ⟨A', c', e, hr⟩ := own_reads_row h (reps_spC w S) (by simp)
  injection e with e1 e2 e3
  subst e1
  exact hr
theorem tag_l0 (F : Int) (nm : ByteArray) (cl : Bool) (S : List (Nat × Nat)) (hS : ∀ u z, (u, z) ∈ S → u + z ≤ 100000) (hSl : S.length ≤ 100000) : ∀ (d i : Nat) (L : List Int), S.length - i = d → L.length ≤ 100000 → Ev (fun k => redpenref10_Labels_tag.l0 k L i F nm cl (S.map toP)) (spans (S.drop i) L) := by
  intro d
  induction d with
  | zero =>
    intro i L hd hL
    refine Ev.up ?_
    simp only [redpenref10_Labels_tag.l0]
    rw [List.drop_eq_nil_of_le (by omega)]
    simp only [List.length_map, if_neg (show ¬ ((i : Int) < (S.length : Int)) by omega)]
    exact Ev.some_ _
  | succ d ih =>
    intro i L hd hL
    have hi : i < S.length := by omega
    have e1 : rd_T54 (S.map toP) (i : Int) = toP S[i] := by
      unfold rd_T54
      rw [Int.toNat_natCast, List.getD_eq_getElem?_getD, List.getElem?_map, List.getElem?_eq_getElem hi]
      rfl
    have hb := hS (S[i]).1 (S[i]).2 (List.getElem_mem hi)
    rw [List.drop_eq_getElem_cons hi]
    refine Ev.up ?_
    simp only [redpenref10_Labels_tag.l0, List.length_map, if_pos (show ((i : Int) < (S.length : Int)) by omega), if_pos (Int.natCast_nonneg i), e1, toP]
    rw [wrl _ (by omega) (by omega), wrl _ (by omega) (by omega)]
    have e3 : (((S[i]).1 : Int) + ((S[i]).2 : Int)) = (((S[i]).1 + (S[i]).2 : Nat) : Int) := by omega
    rw [e3]
    refine Ev.bind (put_is 1 ((S[i]).1 + (S[i]).2) hb _ L (S[i]).1 rfl hL) ?_
    have := ih (i + 1) (setL L 1 ((S[i]).1 : Int) (((S[i]).1 + (S[i]).2 : Nat) : Int)) (by omega) (by rw [setL_length]; exact hL)
    have e2 : spans (S[i] :: S.drop (i + 1)) L = spans (S.drop (i + 1)) (setL L 1 ((S[i]).1 : Int) (((S[i]).1 + (S[i]).2 : Nat) : Int)) := by
      show spans (S.drop (i + 1)) (setL L 1 ((S[i]).1 : Int) (((S[i]).1 : Int) + ((S[i]).2 : Int))) = _
      rw [e3]
    rw [e2]
    exact this
theorem tag_is (p : Nat) (T : Tg) (L : List Int) (hf : T.fin ≤ 100000) (hS : ∀ u z, (u, z) ∈ T.prose → u + z ≤ 100000) (hSl : T.prose.length ≤ 100000) (hL : L.length ≤ 100000) : Ev (fun k => redpenref10_Labels_tag.f k L p T.fin (strOfNums T.name) T.closes (T.prose.map toP)) (tagL p T L) := by
  unfold redpenref10_Labels_tag.f
  refine Ev.bind (put_is 2 T.fin hf _ L p rfl hL) ?_
  have := tag_l0 T.fin (strOfNums T.name) T.closes T.prose hS hSl _ 0 (setL L 2 (p : Int) (T.fin : Int)) rfl (by rw [setL_length]; exact hL)
  exact this
theorem rtag_any {w0 W : World} {v : Value} {L : List Int} (h : Rl w0 W v L) (hL : L.length ≤ 100000) (p : Nat) (T : Tg) (A1 : Option Addr) (c1 base : Nat) (ho : W.ownsRow base 54 2 (.slice A1 T.prose.length c1) T.prose.length (spC T.prose)) (hf : T.fin ≤ 100000) (hS : ∀ u z, (u, z) ∈ T.prose → u + z ≤ 100000) (hSl : T.prose.length ≤ 100000) :
    Calls Try.prog 36 #[v, .int .i64 p, .agg #[.int .i64 T.fin, .string (strOfNums T.name), .bool T.closes, .slice A1 T.prose.length c1]] W fun e w' => e = .returned (.tuple #[]) ∧ Rl w0 w' v (tagL p T L) ∧ Kept W w' (fun k => v.ownBlock = some k) := by
  obtain ⟨k, hk⟩ := (tag_is p T L hf hS hSl hL).rounds
  obtain ⟨hc, hC⟩ := own_P ho
  have hfoot : ∀ ad, A1 = some ad → 0 < T.prose.length → ¬ (v.ownBlock = some ad.block) := by
    intro ad e hn hv
    rcases ho.2 with ⟨e2, h0⟩ | ⟨g, cap, cur, e2, _, hg, _⟩
    · omega
    · injection e2 with e3 _ _
      rw [e] at e3
      injection e3 with e3
      subst e3
      obtain ⟨_, _, _, q, hq, cells, hcl⟩ := (Kd.R_bound h.own).1 _ hv
      rw [show (⟨g, 0, none⟩ : Addr).block = g from rfl, hg] at hcl
      simp only [Option.some.injEq, Obj.cells.injEq] at hcl
      have e4 := hcl.2.1
      rw [← e4] at hq
      exact absurd hq (by decide)
  have hlen : (T.prose.map toP).length = T.prose.length := List.length_map ..
  have hK : ∀ W_, Kept W W_ (fun k => v.ownBlock = some k) → Kd.C k54 W_ A1 (T.prose.map toP).length (T.prose.map toP) := by
    rw [hlen]
    exact Kd.C_foot_neS (fun h => h) hC hfoot
  have hcalls := redpenref10_Labels_tag.calls k _ v L p T.fin (strOfNums T.name) T.closes A1 c1 (T.prose.map toP) _ w0 W h.bel h.own hK (by rw [hlen]; exact hc) hk
  rw [hlen] at hcalls
  refine hcalls.mono ?_
  rintro e w' ⟨rfl, hr, hb, hkp⟩
  exact ⟨rfl, rl_flat hr hb, hkp⟩
theorem rl_ne {w0 W : World} {v : Value} {L : List Int} (h : Rl w0 W v L) {j : Nat} {cs : Array Value} {t : TypeId} {fz : Nat × Nat} (hj : W.heap[j]? = some (.cells cs t fz)) (ht : t ≠ 57) : ¬ v.ownBlock = some j := by
  intro hv
  obtain ⟨_, _, _, q, hq, cells, hcl⟩ := (Kd.R_bound h.own).1 _ hv
  rw [hj] at hcl
  simp only [Option.some.injEq, Obj.cells.injEq] at hcl
  rw [← hcl.2.1] at hq
  rcases List.mem_cons.1 hq with e | e
  · exact ht e
  · cases e

/-! ### All -/
theorem set_fill (c : Int) (n : Nat) : ∀ (d i : Nat), n - i = d → i ≤ n → n ≤ 100000 → Ev (fun k => redpenref10_All.l0 k n c (List.replicate i c ++ List.replicate (n - i) 0) i) (List.replicate n c) := by
  intro d
  induction d with
  | zero =>
    intro i hd hi hn
    refine Ev.up ?_
    obtain rfl : i = n := by omega
    simp only [redpenref10_All.l0, if_neg (show ¬ ((i : Int) < (i : Int)) by omega), Nat.sub_self, List.replicate_zero, List.append_nil]
    exact Ev.some_ _
  | succ d ih =>
    intro i hd hi hn
    refine Ev.up ?_
    have hlen : (List.replicate i c ++ List.replicate (n - i) (0 : Int)).length = n := by simp; omega
    simp only [redpenref10_All.l0, if_pos (show ((i : Int) < (n : Int)) by omega), if_pos (Int.natCast_nonneg i), hlen, Int.toNat_natCast]
    rw [wrl _ (by omega) (by omega)]
    have e : (List.replicate i c ++ List.replicate (n - i) (0 : Int)).set i c = List.replicate (i + 1) c ++ List.replicate (n - (i + 1)) 0 := by
      rw [List.set_append_right (h := by simp), List.length_replicate, Nat.sub_self, show n - i = (n - (i + 1)) + 1 by omega, List.replicate_succ, List.set_cons_zero, List.replicate_succ', List.append_assoc]
      rfl
    rw [e]
    exact ih (i + 1) (by omega) (by omega) hn
theorem rall_any (n : Nat) (c : Int) (w : World) (hn : n ≤ 100000) :
    Calls Try.prog 31 #[.int .i64 n, .int .u8 c] w fun e w' => ∃ v, e = .returned v ∧ Rl w w' v (List.replicate n c) := by
  have h : Ev (fun k => redpenref10_All.f k n c) (List.replicate n c) := by
    unfold redpenref10_All.f
    have h := set_fill c n _ 0 rfl (Nat.zero_le _) hn
    rw [List.replicate_zero, List.nil_append, Nat.sub_zero] at h
    simp only [if_pos (Int.natCast_nonneg n), Int.toNat_natCast, if_pos (show n ≤ 281474976710656 by omega)]
    exact h
  obtain ⟨k, hk⟩ := h.rounds
  refine (redpenref10_All.calls k n c _ w hk).mono ?_
  rintro e w' ⟨v, rfl, hr, hb⟩
  exact ⟨v, rfl, rl_flat hr hb⟩
end Go.Proofs.Ytcbibbdkjhkmoaa.H

set_option linter.unusedVariables false
set_option linter.unusedSimpArgs false
namespace Go.Proofs.Ytcbibbdkjhkmoaa.H
open Go.RowKit Go.Proofs.YtcbibbdkjhkmoaaW.PrintWords Go.Proofs.Ytcbibbdkjhkmoaa.L Go.Proofs.Ytcbibbdkjhkmoaa.S Go.Proofs.Ytcbibbdkjhkmoaa.Htm

theorem rf_start (W : World) : Rf W ((W.alloc (tfC 0 ⟨#[]⟩ false (.slice none 0 0))).alloc (tfC 0 ⟨#[]⟩ false (.slice none 0 0))) (W.heap.size + 1) W.heap.size [] false (.slice none 0 0) [] := by
  have e1 : (W.alloc (tfC 0 ⟨#[]⟩ false (.slice none 0 0))).heap.size = W.heap.size + 1 := by simp
  refine ⟨?_, blk_alloc (blk_new W _) _, World.ownsRow_nil _ _ _ _, below_alloc (below_alloc (Below.refl _ _) _) _, by omega, Nat.le_refl _, by omega⟩
  have := blk_new (W.alloc (tfC 0 ⟨#[]⟩ false (.slice none 0 0))) (tfC 0 ⟨#[]⟩ false (.slice none 0 0))
  rw [e1] at this
  exact this
set_option maxRecDepth 100000 in
theorem rread_out (s : ByteArray) (a : Int) (W : World) (ha : a < 0 ∨ (s.size : Int) ≤ a) :
    Calls Try.prog 18 #[.string s, .int .i64 a] W fun e w' => e = .returned (.tuple #[noTag, .bool false]) ∧ Below W.heap.size W w' := by
  by_cases h0 : a < 0
  · have h1 : decide (a < 0) = true := by simp [h0]
    go_enter Try.func18, Try.ntmps18
    go_upto_region 2 with fail
    have HR := Lib.hid (rf_start W)
    generalize hr : W.heap.size = r at *
    generalize ht : r + 1 = t at *
    generalize hw2 : (W.alloc (tfC 0 ⟨#[]⟩ false (.slice none 0 0))).alloc (tfC 0 ⟨#[]⟩ false (.slice none 0 0)) = w2 at *
    clear hw2
    obtain ⟨k0, k1, k2, k3⟩ := tf_cells HR.out.rb
    have g0 := HR.out.fr 0
    have g1 := HR.out.fr 1
    have g2 := HR.out.fr 2
    have g3 := HR.out.fr 3
    obtain ⟨t0, t1, t2, t3⟩ := tf_cells HR.out.tb
    go_wp2_with fail
    have HE := Lib.hid (fput_ HR.out.rb HR.out.bel HR.out.lr HR.out.own 0 (strOfNums []) false (.slice none 0 0))
    clear k0 k1 k2 k3 g0 g1 g2 g3 t0 t1 t2 t3
    generalize (((w2.setCell ⟨r, 0, none⟩ (.int .i64 0)).setCell ⟨r, 1, none⟩ (.string (strOfNums []))).setCell ⟨r, 2, none⟩ (.bool false)).setCell ⟨r, 3, none⟩ (.slice none 0 0) = w6 at *
    obtain ⟨k0, k1, k2, k3⟩ := tf_cells HE.out.1
    (try simp only [Exit.inBlock, Exit.then])
    refine bodyPost_ret (v := .tuple #[noTag, .bool false]) ?_ rfl ?_
    · simp [results, Try.results18, go_sem, k0, k1, k2, k3]
      try rfl
    exact ⟨rfl, hr ▸ HE.out.2.1⟩
  · have h1 : decide (a < 0) = false := by simp [h0]
    have h2 : decide ((s.size : Int) ≤ a) = true := by simp; omega
    go_enter Try.func18, Try.ntmps18
    go_upto_region 2 with fail
    have HR := Lib.hid (rf_start W)
    generalize hr : W.heap.size = r at *
    generalize ht : r + 1 = t at *
    generalize hw2 : (W.alloc (tfC 0 ⟨#[]⟩ false (.slice none 0 0))).alloc (tfC 0 ⟨#[]⟩ false (.slice none 0 0)) = w2 at *
    clear hw2
    obtain ⟨k0, k1, k2, k3⟩ := tf_cells HR.out.rb
    have g0 := HR.out.fr 0
    have g1 := HR.out.fr 1
    have g2 := HR.out.fr 2
    have g3 := HR.out.fr 3
    obtain ⟨t0, t1, t2, t3⟩ := tf_cells HR.out.tb
    go_wp2_with fail
    have HE := Lib.hid (fput_ HR.out.rb HR.out.bel HR.out.lr HR.out.own 0 (strOfNums []) false (.slice none 0 0))
    clear k0 k1 k2 k3 g0 g1 g2 g3 t0 t1 t2 t3
    generalize (((w2.setCell ⟨r, 0, none⟩ (.int .i64 0)).setCell ⟨r, 1, none⟩ (.string (strOfNums []))).setCell ⟨r, 2, none⟩ (.bool false)).setCell ⟨r, 3, none⟩ (.slice none 0 0) = w6 at *
    obtain ⟨k0, k1, k2, k3⟩ := tf_cells HE.out.1
    (try simp only [Exit.inBlock, Exit.then])
    refine bodyPost_ret (v := .tuple #[noTag, .bool false]) ?_ rfl ?_
    · simp [results, Try.results18, go_sem, k0, k1, k2, k3]
      try rfl
    exact ⟨rfl, hr ▸ HE.out.2.1⟩
/-- SHUT -/
theorem pfx_two (x y : Int) (b : List Int) (p : Nat) : [x, y].isPrefixOf (b.drop p) = (isAt b p x && isAt b (p + 1) y) := by
  rcases Nat.lt_or_ge p b.length with h | h
  · rw [drop_at b p h, List.isPrefixOf_cons_cons, pfx_one y b (p + 1), ← pfx_one x b p, drop_at b p h, List.isPrefixOf_cons_cons]
    simp
  · rw [List.drop_eq_nil_of_le h, ← pfx_one x b p, List.drop_eq_nil_of_le h]
    rfl
theorem isAt_b (b : List Int) (p : Nat) (y : Int) : isAt b p y = (b[p]? == some y) := by
  unfold isAt
  rw [Bool.eq_iff_iff]
  simp
theorem cut_str (s : ByteArray) (a c : Nat) (h1 : a ≤ c) (h2 : c ≤ s.size) : ∀ w : World, (Instr.slice 9 (.string s) (some (.int .i64 a)) (some (.int .i64 c)) none).run Try.prog w = .ok (.string (s.extract a c)) w := by
  intro w
  have f1 := eq_true (Int.natCast_nonneg a)
  have f2 := eq_true (show (a : Int) ≤ (c : Int) by omega)
  have f3 := eq_true (show (c : Int) ≤ (s.size : Int) by omega)
  go_simp
theorem isShut_r (b nm : List Int) (j : Nat) : isShut b nm j = ([60, 47].isPrefixOf (b.drop j) && (decide (j + 2 + nm.length ≤ b.length) && ((((b.drop (j + 2)).take nm.length).map sm == nm) && endB b (j + 2 + nm.length)))) := by
  rw [pfx_two, isAt_b, isAt_b]
  unfold isShut
  generalize (b[j]? == some 60) = x1
  generalize (b[j + 1]? == some 47) = x2
  generalize decide (j + 2 + nm.length ≤ b.length) = x3
  generalize (((b.drop (j + 2)).take nm.length).map sm == nm) = x4
  cases x1 <;> cases x2 <;> cases x3 <;> cases x4 <;> rfl
set_option maxRecDepth 100000 in
set_option maxHeartbeats 2000000 in
theorem rshut_any (s : ByteArray) (p : Nat) (nm : List Int) (W : World) (hm : s.size ≤ 65536) (hp : p ≤ s.size) (hn : Bys nm) (hnl : nm.length ≤ 65536) :
    Calls Try.prog 37 #[.string s, .int .i64 p, .string (strOfNums nm)] W fun e w' => e = .returned (.int .i64 (shutP (bytesOf s) nm p)) ∧ Below W.heap.size W w' := by
  have hl := bytesOf_length s
  have HB := Lib.hid (And.intro (Bys.of s) hn)
  have HIX := Lib.hid (ix_at s)
  generalize hb : bytesOf s = b at *
  have hsz := strOfNums_size' nm
  obtain ⟨m, hml⟩ : ∃ m, nm.length = m := ⟨_, rfl⟩
  rw [hml] at hsz hnl
  replace hl := hl.symm
  clear hn
  go_enter Try.func37, Try.ntmps37
  go_wp2_with fail
  go_loopg [1] (b.length - p) (fun gn pv wr => ∃ j : Nat, pv = .int .i64 j ∧ j ≤ b.length ∧ Hid (Below W.heap.size W wr ∧ shutP b nm j = shutP b nm p ∧ gn = b.length - j))
  case atStart => exact ⟨p, rfl, by omega, Below.refl _ _, rfl, rfl⟩
  case round =>
    obtain ⟨j, rfl, hj, HQ⟩ := hrel
    by_cases hlt : j < b.length
    · have hd : decide ((j : Int) < (b.length : Int)) = true := by simp; omega
      obtain ⟨X, hX⟩ : ∃ X, X = isShut b nm j := ⟨_, rfl⟩
      have HX := Lib.hid hX
      clear hX
      have HI := Lib.hid (isShut_r b nm j)
      go_upto_region 4 with fail
      go_cut [60] (fun v wx => v = .bool X ∧ Hid (Below W.heap.size W wx))
      case first =>
        cases hpf : [60, 47].isPrefixOf (b.drop j) with
        | false =>
          obtain rfl : X = false := by rw [HX.out, HI.out, hpf]; rfl
          go_wp2_with (go_at_call 32; refine (rat_any s ⟨#[60, 47]⟩ j _ (by omega) (by omega) (by decide) (by decide)).mono ?_; rintro e wA ⟨rfl, nA, rfl⟩; rw [show bytesOf ⟨#[60, 47]⟩ = [60, 47] from rfl, hb, hpf])
          go_meet
          exact ⟨rfl, pw_below_drewN HQ.out.1 _⟩
        | true =>
          have HQA := Lib.hid HQ.out.1
          by_cases hk : j + 2 + m ≤ b.length
          · have hdk : decide ((j : Int) + 2 + (m : Int) ≤ (b.length : Int)) = true := by simp; omega
            have HBy := Lib.hid ((HB.out.1.drop (j + 2)).take m)
            rw [hpf, hml, decide_eq_true hk, Bool.true_and, Bool.true_and] at HI
            have hkk : (((strOfNums (((b.drop (j + 2)).take m).map sm)).toList == (strOfNums nm).toList)) = (((b.drop (j + 2)).take m).map sm == nm) := str_eq (bys_sm' HBy.out) HB.out.2
            generalize hqq : (((b.drop (j + 2)).take m).map sm) = ks at *
            have hct2 : ∀ w : World, (Instr.slice 9 (.string s) (some (.int .i64 ((j : Int) + 2))) (some (.int .i64 ((j : Int) + 2 + (m : Int)))) none).run Try.prog w = .ok (.string (s.extract (j + 2) (j + 2 + m))) w := by
              intro w'
              have := cut_str s (j + 2) (j + 2 + m) (by omega) (by omega) w'
              simpa only [Int.natCast_add, Int.cast_ofNat_Int] using this
            cases hs : (ks == nm) with
            | false =>
              rw [hs] at hkk HI
              obtain rfl : X = false := by rw [HX.out, HI.out]; rfl
              clear hs
              go_wp2_with (first | (go_at_call 32; refine (rat_any s ⟨#[60, 47]⟩ j _ (by omega) (by omega) (by decide) (by decide)).mono ?_; rintro e wA ⟨rfl, nA, rfl⟩; rw [show bytesOf ⟨#[60, 47]⟩ = [60, 47] from rfl, hb, hpf]) | (go_at_call 45; refine (low_any (s.extract (j + 2) (j + 2 + m)) _ (Nat.le_trans (size_ext s _ _) hm)).mono ?_; rintro e w2 ⟨rfl, hb2⟩; have HB2 := Lib.hid (below_step (pw_below_drewN HQA.out _) hb2); clear hb2; rw [bytesOf_ext, hb, Nat.add_sub_cancel_left, hqq]))
              go_meet
              exact ⟨rfl, HB2.out⟩
            | true =>
              rw [hs, Bool.true_and] at HI
              rw [hs] at hkk
              clear hs
              by_cases hke : j + 2 + m = b.length
              · have hke1 : ((j : Int) + 2 + (m : Int) == (b.length : Int)) = true := by simp; omega
                obtain rfl : X = true := by rw [HX.out, HI.out, endB_out b _ (by omega)]
                clear hke
                go_wp2_with (first | (go_at_call 32; refine (rat_any s ⟨#[60, 47]⟩ j _ (by omega) (by omega) (by decide) (by decide)).mono ?_; rintro e wA ⟨rfl, nA, rfl⟩; rw [show bytesOf ⟨#[60, 47]⟩ = [60, 47] from rfl, hb, hpf]) | (go_at_call 45; refine (low_any (s.extract (j + 2) (j + 2 + m)) _ (Nat.le_trans (size_ext s _ _) hm)).mono ?_; rintro e w2 ⟨rfl, hb2⟩; have HB2 := Lib.hid (below_step (pw_below_drewN HQA.out _) hb2); clear hb2; rw [bytesOf_ext, hb, Nat.add_sub_cancel_left, hqq]))
                go_meet
                exact ⟨rfl, HB2.out⟩
              · have hke1 : ((j : Int) + 2 + (m : Int) == (b.length : Int)) = false := by simp; omega
                have hkl : j + 2 + m < b.length := by omega
                have hE := endB_in b (j + 2 + m) hkl
                have hbk := isBlank_in b (j + 2 + m) hkl
                have hix := HIX.out (j + 2 + m) (by omega)
                generalize b.getD (j + 2 + m) 0 = z at *
                have hix2 : ∀ w : World, (Instr.index 9 (.string s) (.int .i64 ((j : Int) + 2 + (m : Int)))).run Try.prog w = .ok (.int .u8 z) w := by
                  intro w'
                  have := hix w'
                  simpa only [Int.natCast_add, Int.cast_ofNat_Int] using this
                rw [hE] at HI
                clear hE hke hix
                cases hz : blankB z with
                | true =>
                  rw [hz] at hbk
                  obtain rfl : X = true := by rw [HX.out, HI.out, hz]; rfl
                  go_wp2_with (first | (go_at_call 32; refine (rat_any s ⟨#[60, 47]⟩ j _ (by omega) (by omega) (by decide) (by decide)).mono ?_; rintro e wA ⟨rfl, nA, rfl⟩; rw [show bytesOf ⟨#[60, 47]⟩ = [60, 47] from rfl, hb, hpf]) | (go_at_call 45; refine (low_any (s.extract (j + 2) (j + 2 + m)) _ (Nat.le_trans (size_ext s _ _) hm)).mono ?_; rintro e w2 ⟨rfl, hb2⟩; have HB2 := Lib.hid (below_step (pw_below_drewN HQA.out _) hb2); clear hb2; rw [bytesOf_ext, hb, Nat.add_sub_cancel_left, hqq]) | (go_at_call 46; refine (rblank_any s (j + 2 + m) _).mono ?_; rintro e w3 ⟨rfl, n3, rfl⟩; rw [hb, hbk]))
                  go_meet
                  exact ⟨rfl, pw_below_drewN HB2.out _⟩
                | false =>
                  rw [hz] at hbk
                  cases hz7 : (z == 47) with
                  | true =>
                    obtain rfl : X = true := by rw [HX.out, HI.out, hz7]; simp
                    go_wp2_with (first | (go_at_call 32; refine (rat_any s ⟨#[60, 47]⟩ j _ (by omega) (by omega) (by decide) (by decide)).mono ?_; rintro e wA ⟨rfl, nA, rfl⟩; rw [show bytesOf ⟨#[60, 47]⟩ = [60, 47] from rfl, hb, hpf]) | (go_at_call 45; refine (low_any (s.extract (j + 2) (j + 2 + m)) _ (Nat.le_trans (size_ext s _ _) hm)).mono ?_; rintro e w2 ⟨rfl, hb2⟩; have HB2 := Lib.hid (below_step (pw_below_drewN HQA.out _) hb2); clear hb2; rw [bytesOf_ext, hb, Nat.add_sub_cancel_left, hqq]) | (go_at_call 46; refine (rblank_any s (j + 2 + m) _).mono ?_; rintro e w3 ⟨rfl, n3, rfl⟩; rw [hb, hbk]))
                    go_meet
                    exact ⟨rfl, pw_below_drewN HB2.out _⟩
                  | false =>
                    obtain rfl : X = (z == 62) := by rw [HX.out, HI.out, hz, hz7]; simp
                    go_wp2_with (first | (go_at_call 32; refine (rat_any s ⟨#[60, 47]⟩ j _ (by omega) (by omega) (by decide) (by decide)).mono ?_; rintro e wA ⟨rfl, nA, rfl⟩; rw [show bytesOf ⟨#[60, 47]⟩ = [60, 47] from rfl, hb, hpf]) | (go_at_call 45; refine (low_any (s.extract (j + 2) (j + 2 + m)) _ (Nat.le_trans (size_ext s _ _) hm)).mono ?_; rintro e w2 ⟨rfl, hb2⟩; have HB2 := Lib.hid (below_step (pw_below_drewN HQA.out _) hb2); clear hb2; rw [bytesOf_ext, hb, Nat.add_sub_cancel_left, hqq]) | (go_at_call 46; refine (rblank_any s (j + 2 + m) _).mono ?_; rintro e w3 ⟨rfl, n3, rfl⟩; rw [hb, hbk]))
                    go_meet
                    exact ⟨rfl, pw_below_drewN HB2.out _⟩
          · have hdk : decide ((j : Int) + 2 + (m : Int) ≤ (b.length : Int)) = false := by simp; omega
            obtain rfl : X = false := by rw [HX.out, HI.out, hml, decide_eq_false hk]; simp
            go_wp2_with (go_at_call 32; refine (rat_any s ⟨#[60, 47]⟩ j _ (by omega) (by omega) (by decide) (by decide)).mono ?_; rintro e wA ⟨rfl, nA, rfl⟩; rw [show bytesOf ⟨#[60, 47]⟩ = [60, 47] from rfl, hb, hpf])
            go_meet
            exact ⟨rfl, pw_below_drewN HQ.out.1 _⟩
      case rest =>
        obtain ⟨rfl, HW⟩ := hcut
        cases X with
        | true =>
          have hX := HX.out.symm
          have HR := Lib.hid (HQ.out.2.1.symm.trans (shutP_yes b nm j hX hlt))
          clear hX HX
          go_wp2_with fail
          go_ret
          exact ⟨by rw [HR.out]; rfl, HW.out⟩
        | false =>
          have hX := HX.out.symm
          have HR := Lib.hid ((shutP_no b nm j hX hlt).symm.trans HQ.out.2.1)
          clear hX HX
          go_wp2_with fail
          go_roundg (b.length - (j + 1))
          case measure => have := HQ.out.2.2; omega
          case rel => exact ⟨j + 1, by go_num, by omega, HW.out, HR.out, rfl⟩
    · have hd : decide ((j : Int) < (b.length : Int)) = false := by simp; omega
      obtain rfl : j = b.length := by omega
      have HR := Lib.hid (HQ.out.2.1.symm.trans (shutP_end b nm))
      go_wp2_with fail
      go_ret
      exact ⟨by rw [HR.out]; rfl, HQ.out.1⟩
end Go.Proofs.Ytcbibbdkjhkmoaa.H

set_option linter.unusedVariables false
set_option linter.unusedSimpArgs false
namespace Go.Proofs.Ytcbibbdkjhkmoaa.H
open Go.RowKit Go.Proofs.YtcbibbdkjhkmoaaW.PrintWords Go.Proofs.Ytcbibbdkjhkmoaa.L Go.Proofs.Ytcbibbdkjhkmoaa.S Go.Proofs.Ytcbibbdkjhkmoaa.Htm

theorem rread_tag (s : ByteArray) (p : Nat) (W : World) (hs : s.size ≤ 65536) (hp : p < s.size) :
    Calls Try.prog 18 #[.string s, .int .i64 p] W fun e w' => ∃ (T : Tg) (A1 : Option Addr) (c1 : Nat) (ok : Bool), e = .returned (.tuple #[.agg #[.int .i64 T.fin, .string (strOfNums T.name), .bool T.closes, .slice A1 T.prose.length c1], .bool ok]) ∧ Htm.read (bytesOf s) p = (if ok then some T else none) ∧ w'.ownsRow W.heap.size 54 2 (.slice A1 T.prose.length c1) T.prose.length (spC T.prose) ∧ Below W.heap.size W w' := by
  refine (rread_in s p W hs hp).mono ?_
  rintro e w' ⟨hbel, ⟨h1, rfl⟩ | ⟨T, v, h1, rfl, ho⟩⟩
  · exact ⟨⟨0, [], false, []⟩, none, 0, false, rfl, h1, World.ownsRow_nil _ _ _ _, hbel⟩
  · obtain ⟨A1, c1, rfl⟩ := own_form ho
    exact ⟨T, A1, c1, true, rfl, h1, ho, hbel⟩
/-- What stands in memory behind the reading of a tag, in the reference. -/
def Tr (W wx : World) (vl : Value) (L : List Int) (base : Nat) (v : Value) (S : List (Nat × Nat)) (tb fin : Nat) (nm : List Int) (cl : Bool) : Prop :=
  Rl W wx vl L ∧ wx.ownsRow base 54 2 v S.length (spC S) ∧ wx.heap[tb]? = some (tfC fin (strOfNums nm) cl v)
theorem Tr.drewN {W wx : World} {vl : Value} {L : List Int} {base : Nat} {v : Value} {S : List (Nat × Nat)} {tb fin : Nat} {nm : List Int} {cl : Bool} (h : Tr W wx vl L base v S tb fin nm cl) (n : Nat) : Tr W (wx.drewN n) vl L base v S tb fin nm cl :=
  ⟨h.1.drewN n, h.2.1, h.2.2⟩
theorem opens_letter (b : List Int) (p : Nat) : isLetter b (opens b p) = (isLetter b (p + 1) || (isAt b (p + 1) 47 && isLetter b (p + 2))) := by
  rw [opens_in]
  cases h : isAt b (p + 1) 47 with
  | false => simp
  | true =>
    have hl := isAt_lt h
    rw [isAt_in b (p + 1) 47 hl] at h
    rw [isLetter_in b (p + 1) hl, eq_of_beq h]
    rfl
set_option maxRecDepth 100000 in
set_option maxHeartbeats 8000000 in
theorem rhtml_any (s : ByteArray) (W : World) (hm : s.size ≤ 65536) :
    Calls Try.prog 16 #[.string s] W fun e w' => ∃ v, e = .returned v ∧ Rl W w' v (lexL (bytesOf s)) := by
  have hl := bytesOf_length s
  have HBy := Lib.hid (Bys.of s)
  have HIX := Lib.hid (ix_at s)
  generalize hb : bytesOf s = b at *
  replace hl := hl.symm
  go_enter Try.func16, Try.ntmps16
  go_wp2_with fail
  refine (rall_any b.length 1 _ (by omega)).mono ?_
  rintro e w1 ⟨v, rfl, hr1⟩
  have HS := Lib.hid hr1
  clear hr1
  go_wp2_with fail
  go_loopg [4] b.length (fun gn pv wr => ∃ (p : Nat) (L : List Int), pv = .int .i64 p ∧ p ≤ b.length ∧ Hid (Rl W wr v L ∧ L.length = b.length ∧ lexN b gn p L = lexL b ∧ b.length ≤ p + gn))
  case atStart => exact ⟨0, List.replicate b.length 1, rfl, Nat.zero_le _, HS.out, by simp, rfl, by omega⟩
  case round =>
    obtain ⟨p, L, rfl, hp, HQ⟩ := hrel
    clear HS
    by_cases hlt : p < b.length
    · have hd : decide ((p : Int) < (b.length : Int)) = true := by simp; omega
      obtain ⟨m, rfl⟩ : ∃ m, gk = m + 1 := ⟨gk - 1, by have := HQ.out.2.2.2; omega⟩
      have HN := Lib.hid (fun q L' hs => lexN_step b m p L q L' HQ.out.2.2.1 hlt hs)
      have HL := Lib.hid HQ.out.2
      have HW := Lib.hid HQ.out.1
      have hix := HIX.out p (by omega)
      have hbp := getD_some b p hlt
      have HOk := Lib.hid (step_ok b p L hlt HQ.out.2.1)
      clear HQ
      generalize b.getD p 0 = x at *
      by_cases hx : x = 60
      · subst hx
        have HBp := Lib.hid hbp
        clear hbp
        go_upto_region 7 with fail
        clear hix
        cases hb1 : begs b p [60, 33, 45, 45] with
        | true =>
          go_wp2_with fail
          refine (rat_any s ⟨#[60, 33, 45, 45]⟩ p _ (by omega) (by omega) (by decide) (by decide)).mono ?_
          rintro e w3 ⟨rfl, n3, rfl⟩
          rw [hb, show (bytesOf ⟨#[60, 33, 45, 45]⟩).isPrefixOf (b.drop p) = true from hb1]
          have HW3 := Lib.hid (HW.out.drewN n3)
          clear HW
          generalize wr.drewN n3 = w3 at *
          have hbl := begs_le hb1 (Nat.le_of_lt hlt)
          simp only [List.length_cons, List.length_nil] at hbl
          have HSt := Lib.hid (step_rem b p L HBp.out hb1)
          clear hb1
          go_wp2_with fail
          refine (rbehind_any s ⟨#[45, 45, 62]⟩ (p + 4) _ (by omega) (by omega) (by decide) (by decide)).mono ?_
          rintro e w9 ⟨rfl, n9, rfl⟩
          rw [show bytesOf ⟨#[45, 45, 62]⟩ = [45, 45, 62] from rfl, hb]
          have HW9 := Lib.hid (HW3.out.drewN n9)
          clear HW3
          generalize w3.drewN n9 = w9 at *
          rw [HSt.out] at HOk
          generalize untl [45, 45, 62] b (p + 4) = q at *
          have hq0 : decide (0 < q) = true := decide_eq_true (Nat.lt_of_le_of_lt (Nat.zero_le p) HOk.out.1)
          have hq1 : (0 < q) = True := eq_true (Nat.lt_of_le_of_lt (Nat.zero_le p) HOk.out.1)
          go_wp2_with fail
          refine (rput_any HW9.out (by have := HL.out.1; omega) 3 p q (by have h0 : q ≤ b.length := HOk.out.2.1; omega)).mono ?_
          rintro e w10 ⟨rfl, hr10⟩
          have HW10 := Lib.hid hr10
          clear hr10 HW9
          go_wp2_with fail
          go_roundg m
          case measure => omega
          case rel => exact ⟨q, _, by go_num, HOk.out.2.1, HW10.out, HOk.out.2.2, HN.out _ _ HSt.out, by have := HL.out.2.2; have h0 : p < q := HOk.out.1; omega⟩
        | false =>
          go_wp2_with fail
          refine (rat_any s ⟨#[60, 33, 45, 45]⟩ p _ (by omega) (by omega) (by decide) (by decide)).mono ?_
          rintro e w3 ⟨rfl, n3, rfl⟩
          rw [hb, show (bytesOf ⟨#[60, 33, 45, 45]⟩).isPrefixOf (b.drop p) = false from hb1]
          have HW3 := Lib.hid (HW.out.drewN n3)
          clear HW
          generalize wr.drewN n3 = w3 at *
          cases hb2 : begs b p [60, 33, 91, 67, 68, 65, 84, 65, 91] with
          | true =>
            go_wp2_with fail
            refine (rat_any s ⟨#[60, 33, 91, 67, 68, 65, 84, 65, 91]⟩ p _ (by omega) (by omega) (by decide) (by decide)).mono ?_
            rintro e w4 ⟨rfl, n4, rfl⟩
            rw [hb, show (bytesOf ⟨#[60, 33, 91, 67, 68, 65, 84, 65, 91]⟩).isPrefixOf (b.drop p) = true from hb2]
            have HW4 := Lib.hid (HW3.out.drewN n4)
            clear HW3
            generalize w3.drewN n4 = w4 at *
            have hbl := begs_le hb2 (Nat.le_of_lt hlt)
            simp only [List.length_cons, List.length_nil] at hbl
            have HSt := Lib.hid (step_opq b p L HBp.out hb1 hb2)
            clear hb2
            go_wp2_with fail
            refine (rbehind_any s ⟨#[93, 93, 62]⟩ (p + 9) _ (by omega) (by omega) (by decide) (by decide)).mono ?_
            rintro e w9 ⟨rfl, n9, rfl⟩
            rw [show bytesOf ⟨#[93, 93, 62]⟩ = [93, 93, 62] from rfl, hb]
            have HW9 := Lib.hid (HW4.out.drewN n9)
            clear HW4
            generalize w4.drewN n9 = w9 at *
            rw [HSt.out] at HOk
            generalize untl [93, 93, 62] b (p + 9) = q at *
            have hq0 : decide (0 < q) = true := decide_eq_true (Nat.lt_of_le_of_lt (Nat.zero_le p) HOk.out.1)
            have hq1 : (0 < q) = True := eq_true (Nat.lt_of_le_of_lt (Nat.zero_le p) HOk.out.1)
            go_wp2_with fail
            refine (rput_any HW9.out (by have := HL.out.1; omega) 6 p q (by have h0 : q ≤ b.length := HOk.out.2.1; omega)).mono ?_
            rintro e w10 ⟨rfl, hr10⟩
            have HW10 := Lib.hid hr10
            clear hr10 HW9
            go_wp2_with fail
            go_roundg m
            case measure => omega
            case rel => exact ⟨q, _, by go_num, HOk.out.2.1, HW10.out, HOk.out.2.2, HN.out _ _ HSt.out, by have := HL.out.2.2; have h0 : p < q := HOk.out.1; omega⟩
          | false =>
            go_upto_region 13 with (go_at_call 32; refine (rat_any s ⟨#[60, 33, 91, 67, 68, 65, 84, 65, 91]⟩ p _ (by omega) (by omega) (by decide) (by decide)).mono ?_; rintro e w4 ⟨rfl, n4, rfl⟩; rw [hb, show (bytesOf ⟨#[60, 33, 91, 67, 68, 65, 84, 65, 91]⟩).isPrefixOf (b.drop p) = false from hb2]; have HW4 := Lib.hid (HW3.out.drewN n4); clear HW3; generalize w3.drewN n4 = w4 at *)
            obtain ⟨B, hB⟩ : ∃ B : Bool, B = (begs b p [60, 33] || begs b p [60, 63]) := ⟨_, rfl⟩
            have HB := Lib.hid hB
            clear hB
            go_cut [45] (fun v_ wx => v_ = .bool B ∧ Hid (Rl W wx v L))
            case first =>
              cases hb3 : begs b p [60, 33] with
              | true =>
                obtain rfl : B = true := by rw [HB.out, hb3]; rfl
                go_wp2_with (go_at_call 32; refine (rat_any s ⟨#[60, 33]⟩ p _ (by omega) (by omega) (by decide) (by decide)).mono ?_; rintro e w5 ⟨rfl, n5, rfl⟩; rw [hb, show (bytesOf ⟨#[60, 33]⟩).isPrefixOf (b.drop p) = true from hb3])
                go_meet
                exact ⟨rfl, HW4.out.drewN _⟩
              | false =>
                obtain rfl : B = begs b p [60, 63] := by rw [HB.out, hb3]; rfl
                go_wp2_with fail
                refine (rat_any s ⟨#[60, 33]⟩ p _ (by omega) (by omega) (by decide) (by decide)).mono ?_
                rintro e w5 ⟨rfl, n5, rfl⟩
                rw [hb, show (bytesOf ⟨#[60, 33]⟩).isPrefixOf (b.drop p) = false from hb3]
                go_wp2_with fail
                have HW5 := Lib.hid (HW4.out.drewN n5)
                clear HW4
                generalize w4.drewN n5 = w5 at *
                refine (rat_any s ⟨#[60, 63]⟩ p _ (by omega) (by omega) (by decide) (by decide)).mono ?_
                rintro e w6 ⟨rfl, n6, rfl⟩
                rw [hb, show (bytesOf ⟨#[60, 63]⟩).isPrefixOf (b.drop p) = begs b p [60, 63] from rfl]
                go_wp2_with fail
                go_meet
                exact ⟨rfl, HW5.out.drewN _⟩
            case rest =>
              obtain ⟨rfl, HW6⟩ := hcut
              clear HW4
              cases B with
              | true =>
                have hB := HB.out.symm
                clear HB
                have hbl : p + 2 ≤ b.length := by
                  rcases (Bool.or_eq_true_iff.1 hB) with h | h
                  · exact begs_le h (Nat.le_of_lt hlt)
                  · exact begs_le h (Nat.le_of_lt hlt)
                have HSt := Lib.hid (step_mk b p L HBp.out hb1 hb2 hB)
                clear hB
                go_wp2_with fail
                refine (rbehind_any s ⟨#[62]⟩ (p + 2) _ (by omega) (by omega) (by decide) (by decide)).mono ?_
                rintro e w9 ⟨rfl, n9, rfl⟩
                rw [show bytesOf ⟨#[62]⟩ = [62] from rfl, hb]
                have HW9 := Lib.hid (HW6.out.drewN n9)
                clear HW6
                generalize wc.drewN n9 = w9 at *
                rw [HSt.out] at HOk
                generalize untl [62] b (p + 2) = q at *
                have hq0 : decide (0 < q) = true := decide_eq_true (Nat.lt_of_le_of_lt (Nat.zero_le p) HOk.out.1)
                have hq1 : (0 < q) = True := eq_true (Nat.lt_of_le_of_lt (Nat.zero_le p) HOk.out.1)
                go_wp2_with fail
                refine (rput_any HW9.out (by have := HL.out.1; omega) 2 p q (by have h0 : q ≤ b.length := HOk.out.2.1; omega)).mono ?_
                rintro e w10 ⟨rfl, hr10⟩
                have HW10 := Lib.hid hr10
                clear hr10 HW9
                go_wp2_with fail
                go_roundg m
                case measure => omega
                case rel => exact ⟨q, _, by go_num, HOk.out.2.1, HW10.out, HOk.out.2.2, HN.out _ _ HSt.out, by have := HL.out.2.2; have h0 : p < q := HOk.out.1; omega⟩
              | false =>
                have hB := HB.out.symm
                have HBB := Lib.hid hB
                clear HB hB
                go_wp2_with fail
                refine (rread_tag s p _ hm (by omega)).mono ?_
                rintro e w7 ⟨T, A1, c1, ok, rfl, hr, ho, hb7⟩
                rw [hb] at hr
                obtain ⟨fin, nm, cl, S⟩ := T
                have HW7 := Lib.hid (And.intro (HW6.out.kept hb7) (And.intro ho hr))
                clear hr ho hb7 HW6
                go_upto_region 19 with fail
                have HT := Lib.hid (show Tr W (w7.alloc (tfC fin (strOfNums nm) cl (.slice A1 S.length c1))) v L wc.heap.size (.slice A1 S.length c1) S w7.heap.size fin nm cl from ⟨HW7.out.1.kept (below_alloc (Below.refl _ _) _), HW7.out.2.1.alloc _, blk_new w7 _⟩)
                have HRd := Lib.hid HW7.out.2.2
                clear HW7
                generalize hw8 : w7.alloc (tfC fin (strOfNums nm) cl (.slice A1 S.length c1)) = w8 at *
                generalize htb : w7.heap.size = tb at *
                generalize hbs : wc.heap.size = base at *
                clear hw8 htb
                cases ok with
                | false =>
                  have HSt := Lib.hid (step_none b p L HBp.out hb1 hb2 HBB.out HRd.out)
                  obtain ⟨X, hX⟩ : ∃ X : Bool, X = isLetter b (opens b p) := ⟨_, rfl⟩
                  have HX := Lib.hid hX
                  rw [← hX] at HSt
                  clear hX
                  have HOL := Lib.hid (opens_letter b p)
                  go_upto_region 20 with fail
                  go_cut [88] (fun v_ wx => v_ = .bool X ∧ Hid (Rl W wx v L))
                  case first =>
                    cases hl1 : isLetter b (p + 1) with
                    | true =>
                      obtain rfl : X = true := by rw [HX.out, HOL.out, hl1]; rfl
                      go_wp2_with fail
                      refine (rletter_any s (p + 1) _).mono ?_
                      rintro e wa ⟨rfl, na, rfl⟩
                      rw [hb, hl1]
                      go_wp2_with fail
                      go_meet
                      exact ⟨rfl, HT.out.1.drewN _⟩
                    | false =>
                      go_wp2_with fail
                      refine (rletter_any s (p + 1) _).mono ?_
                      rintro e wa ⟨rfl, na, rfl⟩
                      rw [hb, hl1]
                      have HTa := Lib.hid (HT.out.1.drewN na)
                      clear HT
                      generalize w8.drewN na = w9 at *
                      cases h47 : isAt b (p + 1) 47 with
                      | false =>
                        obtain rfl : X = false := by rw [HX.out, HOL.out, hl1, h47]; rfl
                        go_wp2_with fail
                        refine (rat_any s ⟨#[47]⟩ (p + 1) _ (by omega) (by omega) (by decide) (by decide)).mono ?_
                        rintro e wb ⟨rfl, nb, rfl⟩
                        rw [show bytesOf ⟨#[47]⟩ = [47] from rfl, hb, pfx_one, h47]
                        go_wp2_with fail
                        go_meet
                        exact ⟨rfl, HTa.out.drewN _⟩
                      | true =>
                        obtain rfl : X = isLetter b (p + 2) := by rw [HX.out, HOL.out, hl1, h47]; rfl
                        go_wp2_with fail
                        refine (rat_any s ⟨#[47]⟩ (p + 1) _ (by omega) (by omega) (by decide) (by decide)).mono ?_
                        rintro e wb ⟨rfl, nb, rfl⟩
                        rw [show bytesOf ⟨#[47]⟩ = [47] from rfl, hb, pfx_one, h47]
                        have HTb := Lib.hid (HTa.out.drewN nb)
                        clear HTa
                        generalize w9.drewN nb = w10 at *
                        go_wp2_with fail
                        refine (rletter_any s (p + 2) _).mono ?_
                        rintro e wd ⟨rfl, nd, rfl⟩
                        rw [hb]
                        go_wp2_with fail
                        go_meet
                        exact ⟨rfl, HTb.out.drewN _⟩
                  case rest =>
                    obtain ⟨rfl, HT3⟩ := hcut
                    clear HT
                    cases X with
                    | false =>
                      have HSt2 := Lib.hid (HSt.out.trans (if_neg (by simp)))
                      clear HSt
                      go_wp2_with fail
                      go_roundg m
                      case measure => omega
                      case rel => exact ⟨p + 1, L, by go_num, by omega, HT3.out, HL.out.1, HN.out _ _ HSt2.out, by have := HL.out.2.2; omega⟩
                    | true =>
                      have HSt2 := Lib.hid (HSt.out.trans (if_pos rfl))
                      clear HSt
                      have HE := Lib.hid (lexN_end b m _ (HN.out _ _ HSt2.out))
                      go_wp2_with fail
                      refine (rput_any HT3.out (by have := HL.out.1; omega) 2 p b.length (by omega)).mono ?_
                      rintro e w10 ⟨rfl, hr10⟩
                      have HW10 := Lib.hid hr10
                      clear hr10 HT3
                      go_wp2_with fail
                      go_ret
                      exact ⟨v, rfl, HE.out ▸ HW10.out⟩
                | true =>
                  have hrd : Htm.read b p = some ⟨fin, nm, cl, S⟩ := HRd.out
                  obtain ⟨r1, r2, r3, r4, r5, q1, m1, r6⟩ := read_ok b p _ hrd
                  simp only at r1 r2 r3 r4 r5 r6
                  have HNm := Lib.hid (show Bys nm from by rw [r6]; exact bys_sm' ((HBy.out.drop q1).take m1))
                  have HSt := Lib.hid (step_tag b p L HBp.out hb1 hb2 HBB.out _ hrd)
                  have HR4 := Lib.hid r4
                  clear hrd r4 r6 HRd
                  obtain ⟨k0, k1, k2, k3⟩ := tf_cells HT.out.2.2
                  go_upto_region 24 with fail
                  go_wp2_with fail
                  refine (rtag_any HT.out.1 (by have := HL.out.1; omega) p ⟨fin, nm, cl, S⟩ A1 c1 base HT.out.2.1 (by show fin ≤ 100000; omega) (fun u z h => Nat.le_trans (HR4.out u z h) (by omega)) (by show S.length ≤ 100000; omega)).mono ?_
                  rintro e w9 ⟨rfl, hr9, hkp⟩
                  have HW9 := Lib.hid (And.intro hr9 (blk_kept HT.out.2.2 hkp (rl_ne HT.out.1 HT.out.2.2 (by decide))))
                  clear hr9 hkp HT k0 k1 k2 k3
                  obtain ⟨k0, k1, k2, k3⟩ := tf_cells HW9.out.2
                  cases cl with
                  | true =>
                    rw [past_c] at HSt
                    go_wp2_with fail
                    go_roundg m
                    case measure => omega
                    case rel => exact ⟨fin, _, by go_num, r2, HW9.out.1, by rw [tagL_length]; exact HL.out.1, HN.out _ _ HSt.out, by have := HL.out.2.2; omega⟩
                  | false =>
                    obtain ⟨SC, hSC⟩ : ∃ x : Bool, x = (nm == nScript || nm == nStyle) := ⟨_, rfl⟩
                    obtain ⟨TX, hTX⟩ : ∃ x : Bool, x = (nm == nArea || nm == nTitle) := ⟨_, rfl⟩
                    have HSC := Lib.hid hSC
                    have HTX := Lib.hid hTX
                    clear hSC hTX
                    have e1 : ((strOfNums nm).toList == ([115, 99, 114, 105, 112, 116] : List UInt8)) = (nm == nScript) := name_eq HNm.out nScript [115, 99, 114, 105, 112, 116] (by intro x hx; simp [nScript] at hx; omega) (by rw [ByteArray.toList_eq]; rfl)
                    have e2 : ((strOfNums nm).toList == ([115, 116, 121, 108, 101] : List UInt8)) = (nm == nStyle) := name_eq HNm.out nStyle [115, 116, 121, 108, 101] (by intro x hx; simp [nStyle] at hx; omega) (by rw [ByteArray.toList_eq]; rfl)
                    have e3 : ((strOfNums nm).toList == ([116, 101, 120, 116, 97, 114, 101, 97] : List UInt8)) = (nm == nArea) := name_eq HNm.out nArea [116, 101, 120, 116, 97, 114, 101, 97] (by intro x hx; simp [nArea] at hx; omega) (by rw [ByteArray.toList_eq]; rfl)
                    have e4 : ((strOfNums nm).toList == ([116, 105, 116, 108, 101] : List UInt8)) = (nm == nTitle) := name_eq HNm.out nTitle [116, 105, 116, 108, 101] (by intro x hx; simp [nTitle] at hx; omega) (by rw [ByteArray.toList_eq]; rfl)
                    have HE12 := Lib.hid (And.intro e1 e2)
                    have HE34 := Lib.hid (And.intro e3 e4)
                    clear e1 e2 e3 e4
                    go_upto_region 27 with fail
                    clear k0 k2 k3
                    go_cut [112] (fun v_ wx => v_ = .bool SC ∧ Hid (Rl W wx v (tagL p ⟨fin, nm, false, S⟩ L) ∧ wx.heap[tb]? = some (tfC fin (strOfNums nm) false (.slice A1 S.length c1))))
                    case first =>
                      have e1 := HE12.out.1
                      have e2 := HE12.out.2
                      cases h1 : (nm == nScript) with
                      | true =>
                        obtain rfl : SC = true := by rw [HSC.out, h1]; rfl
                        rw [h1] at e1
                        go_wp2_with fail
                        go_meet
                        exact ⟨rfl, HW9.out⟩
                      | false =>
                        obtain rfl : SC = (nm == nStyle) := by rw [HSC.out, h1]; rfl
                        rw [h1] at e1
                        go_wp2_with fail
                        go_meet
                        exact ⟨rfl, HW9.out⟩
                    case rest =>
                      obtain ⟨rfl, HW10⟩ := hcut
                      clear HW9 k1
                      cases SC with
                      | true =>
                        have HP := Lib.hid (past_code b p L fin nm S HSC.out.symm)
                        obtain ⟨k0, k1, k2, k3⟩ := tf_cells HW10.out.2
                        go_wp2_with fail
                        refine (rshut_any s fin nm _ hm (by omega) HNm.out (by omega)).mono ?_
                        rintro e w11 ⟨rfl, hb11⟩
                        rw [hb]
                        have HW11 := Lib.hid (HW10.out.1.kept hb11)
                        clear hb11 HW10 k0 k1 k2 k3
                        have hsh := shutP_le b nm fin r2
                        generalize shutP b nm fin = q at *
                        go_wp2_with fail
                        refine (rput_any HW11.out (by rw [tagL_length]; have := HL.out.1; omega) 4 fin q (by omega)).mono ?_
                        rintro e w12 ⟨rfl, hr12⟩
                        have HW12 := Lib.hid hr12
                        clear hr12 HW11
                        go_wp2_with fail
                        go_roundg m
                        case measure => omega
                        case rel => exact ⟨q, _, by go_num, hsh.2, HW12.out, by rw [setL_length, tagL_length]; exact HL.out.1, HN.out _ _ (HSt.out.trans HP.out), by have := HL.out.2.2; omega⟩
                      | false =>
                        obtain ⟨k0, k1, k2, k3⟩ := tf_cells HW10.out.2
                        go_upto_region 31 with fail
                        go_cut [130] (fun v_ wx => v_ = .bool TX ∧ Hid (Rl W wx v (tagL p ⟨fin, nm, false, S⟩ L) ∧ wx.heap[tb]? = some (tfC fin (strOfNums nm) false (.slice A1 S.length c1))))
                        case first =>
                          have e3 := HE34.out.1
                          have e4 := HE34.out.2
                          cases h1 : (nm == nArea) with
                          | true =>
                            obtain rfl : TX = true := by rw [HTX.out, h1]; rfl
                            rw [h1] at e3
                            go_wp2_with fail
                            go_meet
                            exact ⟨rfl, HW10.out⟩
                          | false =>
                            obtain rfl : TX = (nm == nTitle) := by rw [HTX.out, h1]; rfl
                            rw [h1] at e3
                            go_wp2_with fail
                            go_meet
                            exact ⟨rfl, HW10.out⟩
                        case rest =>
                          obtain ⟨rfl, HW11⟩ := hcut
                          clear HW10 k0 k1 k2 k3
                          cases TX with
                          | true =>
                            have HP := Lib.hid (past_text b p L fin nm S HSC.out.symm HTX.out.symm)
                            obtain ⟨k0, k1, k2, k3⟩ := tf_cells HW11.out.2
                            go_wp2_with fail
                            refine (rshut_any s fin nm _ hm (by omega) HNm.out (by omega)).mono ?_
                            rintro e w12 ⟨rfl, hb12⟩
                            rw [hb]
                            have HW12 := Lib.hid (HW11.out.1.kept hb12)
                            clear hb12 HW11 k0 k1 k2 k3
                            have hsh := shutP_le b nm fin r2
                            generalize shutP b nm fin = q at *
                            go_wp2_with fail
                            go_roundg m
                            case measure => omega
                            case rel => exact ⟨q, _, by go_num, hsh.2, HW12.out, by rw [tagL_length]; exact HL.out.1, HN.out _ _ (HSt.out.trans HP.out), by have := HL.out.2.2; omega⟩
                          | false =>
                            have HP := Lib.hid (past_else b p L fin nm S HSC.out.symm HTX.out.symm)
                            go_wp2_with fail
                            go_roundg m
                            case measure => omega
                            case rel => exact ⟨fin, _, by go_num, r2, HW11.out.1, by rw [tagL_length]; exact HL.out.1, HN.out _ _ (HSt.out.trans HP.out), by have := HL.out.2.2; omega⟩
      · have hx1 : (x != 60) = true := by simp [hx]
        have HSt := Lib.hid (step_txt b p L (by rw [hbp]; simp [hx]))
        clear hbp
        go_wp2_with fail
        go_roundg m
        case measure => omega
        case rel => exact ⟨p + 1, L, by go_num, by omega, HW.out, HL.out.1, HN.out _ _ HSt.out, by have := HL.out.2.2; omega⟩
    · obtain rfl : p = b.length := by omega
      have hd : decide ((b.length : Int) < (b.length : Int)) = false := by simp
      have HE := Lib.hid (lexN_end b gk L HQ.out.2.2.1)
      go_wp2_with fail
      go_ret
      exact ⟨v, rfl, HE.out ▸ HQ.out.1⟩
end Go.Proofs.Ytcbibbdkjhkmoaa.H

set_option linter.unusedVariables false
set_option linter.unusedSimpArgs false
namespace Go.Proofs.Ytcbibbdkjhkmoaa.H
open Go.RowKit Go.Proofs.YtcbibbdkjhkmoaaW.PrintWords Go.Proofs.Ytcbibbdkjhkmoaa.L Go.Proofs.Ytcbibbdkjhkmoaa.S Go.Proofs.Ytcbibbdkjhkmoaa.Htm

theorem wr (a : Int) (h0 : -1000000 ≤ a) (h : a ≤ 1000000) : wrap64 a = a := by unfold wrap64; omega
theorem wrn (p d : Nat) {n : Nat} (hn : n ≤ 100000) (hp : p ≤ n) (hd : d ≤ 10) : wrap64 ((p : Int) + (d : Int)) = ((p + d : Nat) : Int) := by
  rw [wr _ (by omega) (by omega), Int.natCast_add]
/-- What a number stands for. -/
def pc (P : List ByteArray) (raw : List Int) (a : Int) : List Int :=
  if a.toNat < P.length then bytesOf (P.getD a.toNat ByteArray.empty) else if 0 < raw.length then [raw.getD (a.toNat % raw.length) 0] else []
def btx (P : List ByteArray) (raw l : List Int) : List Int := (l.take 60).flatMap (pc P raw)
theorem rd_bys {l : List Int} (h : Bys l) (i : Nat) (hi : i < l.length) : 0 ≤ rd l (i : Int) ∧ rd l (i : Int) < 256 := by
  have e : rd l (i : Int) = l[i] := by
    unfold rd
    rw [Int.toNat_natCast, List.getD_eq_getElem?_getD, List.getElem?_eq_getElem hi]
    rfl
  rw [e]
  exact h _ (List.getElem_mem _)
theorem drop60 (l : List Int) (i : Nat) (hi : i < l.length) (h : i < 60) : (l.take 60).drop i = rd l (i : Int) :: (l.take 60).drop (i + 1) := by
  have hl : i < (l.take 60).length := by rw [List.length_take]; omega
  rw [List.drop_eq_getElem_cons hl]
  congr 1
  unfold rd
  rw [Int.toNat_natCast, List.getElem_take, List.getD_eq_getElem?_getD, List.getElem?_eq_getElem hi]
  rfl
theorem bits_l0 (P : List ByteArray) (l1 l2 : List Int) (hP : ∀ p ∈ P, p.size ≤ 60) (hPl : P.length ≤ 1000) (h1 : Bys l1) (h2 : Bys l2) (hl2 : l2.length ≤ 1000) (hl1 : l1.length ≤ 140737488351232) :
    ∀ (d i : Nat) (x : List Int), 60 - i ≤ d → i ≤ 60 → i ≤ l1.length → x.length ≤ 60 * i → 
    ∃ k, PBits.redpenlaw11_Bits.l0 k P l2 x l1 (l1.length : Int) i = some (x ++ ((l1.take 60).drop i).flatMap (pc P l2)) ∧ (x ++ ((l1.take 60).drop i).flatMap (pc P l2)).length ≤ 3600 := by
  have done : ∀ (i : Nat), (l1.length ≤ i ∨ 60 ≤ i) → ((l1.take 60).drop i).flatMap (pc P l2) = [] := by
    intro i h
    rw [List.drop_eq_nil_of_le (by rw [List.length_take]; omega)]
    rfl
  intro d
  induction d with
  | zero =>
    intro i x hd hi hil hx
    have e60 : i = 60 := by omega
    rw [done i (.inr (by omega)), List.append_nil]
    refine ⟨1, ?_, by omega⟩
    simp only [PBits.redpenlaw11_Bits.l0]
    by_cases c : i < l1.length
    · rw [if_pos (by omega), if_pos (by omega), if_pos (by omega), if_pos (by omega)]
    · rw [if_neg (by omega)]
  | succ d ih =>
    intro i x hd hi hil hx
    by_cases c : i < l1.length
    · by_cases c60 : i = 60
      · rw [done i (.inr (by omega)), List.append_nil]
        refine ⟨1, ?_, by omega⟩
        simp only [PBits.redpenlaw11_Bits.l0]
        rw [if_pos (by omega), if_pos (by omega), if_pos (by omega), if_pos (by omega)]
      · rw [drop60 l1 i c (by omega), List.flatMap_cons]
        have hr := rd_bys h1 i c
        have hw : wrap64 (rd l1 (i : Int)) = rd l1 (i : Int) := wr _ (by omega) (by omega)
        have hw1 : wrap64 ((i : Int) + 1) = ((i + 1 : Nat) : Int) := wrn i 1 (by omega : 60 ≤ 100000) hi (by decide)
        have g5 : 60 - (i + 1) ≤ d := by clear hw hw1; omega
        have g6 : i + 1 ≤ 60 := by clear hw hw1; omega
        have q1 : (i : Int) < (l1.length : Int) := by clear hw hw1; omega
        have q2 : (0 : Int) ≤ (i : Int) := by clear hw hw1; omega
        have q3 : ¬ ((i : Int) ≥ 60) := by clear hw hw1; omega
        generalize hrr : rd l1 (i : Int) = a at *
        obtain ⟨n, rfl⟩ : ∃ n : Nat, a = n := ⟨a.toNat, by clear hw hw1; omega⟩
        have hn : n < 256 := by clear hw hw1; omega
        have q4 : (0 : Int) ≤ (n : Int) := Int.natCast_nonneg n
        by_cases cp : n < P.length
        · have epc : pc P l2 (n : Int) = bytesOf (P.getD n ByteArray.empty) := by unfold pc; rw [Int.toNat_natCast, if_pos cp]
          have hmem : P.getD n ByteArray.empty ∈ P := by rw [List.getD_eq_getElem?_getD, List.getElem?_eq_getElem cp]; exact List.getElem_mem _
          have hs := hP _ hmem
          have hxl : (x ++ bytesOf (P.getD n ByteArray.empty)).length ≤ 60 * (i + 1) := by rw [List.length_append, bytesOf_length]; clear hw hw1; omega
          obtain ⟨k, hk, hr1⟩ := ih (i + 1) (x ++ bytesOf (P.getD n ByteArray.empty)) g5 g6 c hxl
          rw [epc, ← List.append_assoc]
          refine ⟨k + 1, ?_, hr1⟩
          simp only [PBits.redpenlaw11_Bits.l0]
          rw [if_pos q1, if_pos q2, if_pos q1, if_neg q3, hrr, hw, if_pos (Int.ofNat_lt.2 cp), if_pos q4]
          have e : rdOf ByteArray.empty P (n : Int) = P.getD n ByteArray.empty := rfl
          rw [e, if_pos (by clear hw hw1; omega), hw1]
          exact hk
        · by_cases cl : 0 < l2.length
          · have ht0 : 0 ≤ Int.tmod (n : Int) (l2.length : Int) := Int.tmod_nonneg _ q4
            have ht1 : Int.tmod (n : Int) (l2.length : Int) < (l2.length : Int) := Int.tmod_lt_of_pos _ (by omega)
            have htt : Int.tmod (n : Int) (l2.length : Int) = ((n % l2.length : Nat) : Int) := by rw [Int.tmod_eq_emod_of_nonneg q4]; rfl
            rw [htt] at ht0 ht1
            have epc : pc P l2 (n : Int) = [rd l2 ((n % l2.length : Nat) : Int)] := by
              unfold pc rd
              rw [Int.toNat_natCast, if_neg cp, if_pos cl, Int.toNat_natCast]
            obtain ⟨k, hk, hr1⟩ := ih (i + 1) (x ++ [rd l2 ((n % l2.length : Nat) : Int)]) g5 g6 c (by rw [List.length_append]; simp only [List.length_cons, List.length_nil]; clear hw hw1; omega)
            rw [epc, ← List.append_assoc]
            refine ⟨k + 1, ?_, hr1⟩
            simp only [PBits.redpenlaw11_Bits.l0]
            rw [if_pos q1, if_pos q2, if_pos q1, if_neg q3, hrr, hw, if_neg (fun h => cp (Int.ofNat_lt.1 h)), if_pos (Int.natCast_pos.2 cl), if_neg (by clear hw hw1; omega), htt, if_pos ht0, if_pos ht1, if_pos (by clear hw hw1; omega), hw1]
            exact hk
          · have epc : pc P l2 (n : Int) = [] := by
              unfold pc
              rw [Int.toNat_natCast, if_neg cp, if_neg cl]
            obtain ⟨k, hk, hr1⟩ := ih (i + 1) x g5 g6 c (by clear hw hw1; omega)
            rw [epc, List.nil_append]
            refine ⟨k + 1, ?_, hr1⟩
            simp only [PBits.redpenlaw11_Bits.l0]
            rw [if_pos q1, if_pos q2, if_pos q1, if_neg q3, hrr, hw, if_neg (fun h => cp (Int.ofNat_lt.1 h)), if_neg (fun h => cl (Int.natCast_pos.1 h)), hw1]
            exact hk
    · rw [done i (.inl (by omega)), List.append_nil]
      refine ⟨1, ?_, by omega⟩
      simp only [PBits.redpenlaw11_Bits.l0]
      rw [if_neg (by omega)]
theorem btx_bys (P : List ByteArray) (raw l : List Int) (h : Bys raw) : Bys (btx P raw l) := by
  intro y hy
  unfold btx at hy
  obtain ⟨a, _, ha⟩ := List.mem_flatMap.1 hy
  unfold pc at ha
  split at ha
  · exact Bys.of _ y ha
  split at ha
  · rename_i hr
    rw [List.mem_singleton] at ha
    subst ha
    have hlt := Nat.mod_lt a.toNat hr
    exact h _ (by rw [List.getD_eq_getElem?_getD, List.getElem?_eq_getElem hlt]; exact List.getElem_mem _)
  · cases ha
theorem bits_any (A0 : Option Addr) (c0 : Nat) (P : List ByteArray) (A1 : Option Addr) (c1 : Nat) (l1 : List Int) (A2 : Option Addr) (c2 : Nat) (l2 : List Int) (w : World) (hP : ∀ p ∈ P, p.size ≤ 60) (hPl : P.length ≤ 1000) (h1 : Bys l1) (h2 : Bys l2) (hl2 : l2.length ≤ 1000) (hl1 : l1.length ≤ 140737488351232)
    (hr0 : Kd.C Kd.string w A0 P.length P) (hc0 : P.length ≤ c0) (hr1 : Kd.C (Kd.int .u8) w A1 l1.length l1) (hc1 : l1.length ≤ c1) (hr2 : Kd.C (Kd.int .u8) w A2 l2.length l2) (hc2 : l2.length ≤ c2) :
    Calls Try.prog 10 #[.slice A0 P.length c0, .slice A1 l1.length c1, .slice A2 l2.length c2] w fun e w' => ∃ (A : Option Addr) (c : Nat), e = .returned (.slice A (btx P l2 l1).length c) ∧ (btx P l2 l1).length ≤ 3600 ∧ (btx P l2 l1).length ≤ c ∧ Kd.C (Kd.int .u8) w' A (btx P l2 l1).length (btx P l2 l1) ∧ Below w.heap.size w w' := by
  obtain ⟨k, hk, hrl⟩ := bits_l0 P l1 l2 hP hPl h1 h2 hl2 hl1 60 0 [] (by omega) (by omega) (by omega) (by simp)
  rw [List.drop_zero, List.nil_append] at hk hrl
  refine (PBits.redpenlaw11_Bits.calls k A0 c0 P A1 c1 l1 A2 c2 l2 _ w hr0 hc0 hr1 hc1 hr2 hc2 hk).mono ?_
  rintro e w' ⟨v, rfl, hr, hb⟩
  obtain ⟨A, cp, rfl, hle, hC⟩ := Kd.R_reads hr
  exact ⟨A, cp, rfl, hrl, hle, hC, hb⟩
end Go.Proofs.Ytcbibbdkjhkmoaa.H

namespace Go.Proofs.Ytcbibbdkjhkmoaa.L
open Go.RowKit Go.Proofs.YtcbibbdkjhkmoaaW.PrintWords Go.Proofs.Ytcbibbdkjhkmoaa.PSegs

def toS (s : Sg) : S66 := ⟨s.1, ⟨s.2.1, s.2.2⟩⟩

theorem reps_rowC (w : World) (S : List Sg) : Reps (k66.K w) 3 (S.map toS) (rowC S) := by
  induction S with
  | nil => exact Reps.none _ _
  | cons s S ih => exact Reps.c3 (k66_mk w (toS s)) ih
/-- An own row of parts, as the print reads it. -/
theorem own_C {w : World} {base n : Nat} {v : Value} {S : List Sg} (h : w.ownsRow base 66 3 v n (rowC S)) : ∃ A c, v = .slice A (S.map toS).length c ∧ (S.map toS).length ≤ c ∧ Kd.C k66 w A (S.map toS).length (S.map toS) := by
  have hn : n = S.length := by
    have := h.1
    rw [rowC_length] at this
    omega
  subst hn
  have hnc : ∃ A c, v = .slice A S.length c ∧ S.length ≤ c := by
    rcases h.2 with ⟨rfl, h0⟩ | ⟨g, cap, cur, rfl, _, _, hc, _⟩
    · exact ⟨none, 0, by rw [h0], by omega⟩
    · exact ⟨_, cap, rfl, hc⟩
  obtain ⟨A, c, rfl, hc⟩ := hnc
  obtain ⟨A', c', e, hr⟩ := own_reads_row h (reps_rowC w S) (by simp)
  injection e with e1 e2 e3
  subst e1
  refine ⟨A, c, by simp, by simpa using hc, ?_⟩
  rw [List.length_map]
  exact hr
def toQ (s : Sg) : PSameSegs.S66 := ⟨s.1, ⟨s.2.1, s.2.2⟩⟩
theorem C_conv {w : World} {A : Option Addr} {n : Nat} {S : List Sg} (h : Kd.C k66 w A n (S.map toS)) : Kd.C PSameSegs.k66 w A n (S.map toQ) := by
  refine ⟨by have := h.1; simpa using this, h.2.1, fun hn => ?_⟩
  obtain ⟨ad, e, hc⟩ := h.2.2 hn
  refine ⟨ad, e, fun j p hj => ?_⟩
  rw [List.getElem?_map, Option.map_eq_some_iff] at hj
  obtain ⟨s, hs, rfl⟩ := hj
  obtain ⟨c, hl, hk, hcell⟩ := hc j (toS s) (by rw [List.getElem?_map, hs]; rfl)
  obtain rfl := k66_open hk
  exact ⟨_, rfl, PSameSegs.k66_mk w (toQ s), hcell⟩
/-- Labels in a block, as the print reads them. -/
theorem cells_C {w : World} {k t : Nat} {L : List Int} (h : w.heap[k]? = some (.cells (cellsL L) t (0, 0))) (hl : L.length ≤ 9223372036854775807) : Kd.C (Kd.int .u8) w (some ⟨k, 0, none⟩) L.length L := by
  refine ⟨rfl, hl, fun _ => ⟨_, rfl, fun j p hj => ⟨[.int .u8 p], rfl, rfl, fun i u hu => ?_⟩⟩⟩
  have hi : i = 0 := by
    have := (List.getElem?_eq_some_iff.1 hu).1
    simpa using this
  subst hi
  have hp : Value.int .u8 p = u := by simpa using hu
  subst hp
  have e : (⟨k, 0, none⟩ : Addr).add (j * 1 + 0) = ⟨k, j, none⟩ := by
    unfold Addr.add
    by_cases h0 : j = 0
    · subst h0; rfl
    · simp [h0]
  have hz : (Kd.int IntKind.u8).sz = 1 := rfl
  rw [hz, e, blk_cell h, cellsL_get, hj]
  rfl

/-! ### the reference's Segs -/
theorem ref_segs_in (L : List Int) (hL : L.length ≤ 9223372036854775806) (hL2 : L.length < 5864062014805) : ∀ (d k fuel i : Nat) (T : List Sg), L.length - k = d → i < k → k ≤ L.length → 3 * d + 3 ≤ fuel →
    segsTo L k = T ++ [(L.getD i 0, (i : Int), (k : Int) - i)] → redpenref10_Segs.l1 fuel L (T.map toS) i k = some ((segsOf L).map toS) := by
  intro d
  induction d with
  | zero =>
    intro k fuel i T hd hik hk hf hs
    obtain ⟨f, rfl⟩ : ∃ m, fuel = m + 2 := ⟨fuel - 2, by omega⟩
    have hkl : k = L.length := by omega
    have hlen : (T.map toS).length < 5864062014805 := by
      have := (segsTo_ok L k).1
      rw [hs] at this
      simp at this ⊢
      omega
    simp only [redpenref10_Segs.l1, redpenref10_Segs.l0]
    rw [if_neg (by omega), if_pos (by omega), if_pos (by omega), if_pos hlen, if_neg (by omega)]
    have hw : wrap64 ((k : Int) - (i : Int)) = (k : Int) - i := by unfold wrap64; omega
    unfold segsOf
    rw [← hkl, hs, hw]
    simp [toS, rd]
  | succ d ih =>
    intro k fuel i T hd hik hk hf hs
    obtain ⟨f, rfl⟩ : ∃ m, fuel = m + 3 := ⟨fuel - 3, by omega⟩
    have hkl : k < L.length := by omega
    have hw : wrap64 ((k : Int) - (i : Int)) = (k : Int) - i := by unfold wrap64; omega
    have hw1 : wrap64 ((k : Int) + 1) = ((k + 1 : Nat) : Int) := by unfold wrap64; omega
    have hri : rd L (i : Int) = L.getD i 0 := by simp [rd]
    have hrk : rd L (k : Int) = L.getD k 0 := by simp [rd]
    have hstep : segsTo L (k + 1) = segsStep (segsTo L k) k (L.getD k 0) := rfl
    rw [hs, segsStep_snoc] at hstep
    have hlen : (T.map toS).length < 5864062014805 := by
      have := (segsTo_ok L k).1
      rw [hs] at this
      simp at this ⊢
      omega
    rw [redpenref10_Segs.l1, if_pos (by omega), if_pos (by omega), if_pos (by omega), if_pos (by omega), hri, hrk]
    by_cases he : L.getD k 0 = L.getD i 0
    · rw [if_pos he, hw1]
      refine ih (k + 1) _ i T (by omega) (by omega) (by omega) (by omega) ?_
      rw [hstep, if_pos he.symm, show (((k + 1 : Nat) : Int) - (i : Int)) = (k : Int) - i + 1 from by omega]
    · rw [if_neg he, if_pos hlen, redpenref10_Segs.l0, if_pos (by omega), redpenref10_Segs.l1, if_pos (by omega), if_pos (by omega), if_pos (by omega), if_pos (by omega), if_pos rfl, hw1]
      have e : (T.map toS ++ [(⟨L.getD i 0, ⟨(i : Int), wrap64 ((k : Int) - (i : Int))⟩⟩ : S66)]) = (T ++ [(L.getD i 0, (i : Int), (k : Int) - i)]).map toS := by simp [toS, hw]
      rw [e]
      refine ih (k + 1) f k _ (by omega) (by omega) (by omega) (by omega) ?_
      rw [hstep, if_neg (fun h => he h.symm), show (((k + 1 : Nat) : Int) - (k : Int)) = 1 from by omega]
theorem ref_segs (L : List Int) (hL : L.length < 5864062014805) : redpenref10_Segs.f (3 * L.length + 6) L = some ((segsOf L).map toS) := by
  unfold redpenref10_Segs.f
  rw [redpenref10_Segs.l0]
  rcases Nat.eq_zero_or_pos L.length with h0 | h0
  · rw [if_neg (by omega)]
    unfold segsOf
    rw [h0]
    rfl
  · rw [if_pos (by omega), redpenref10_Segs.l1, if_pos (by omega), if_pos (by omega), if_pos (by omega), if_pos (by omega), if_pos rfl]
    have hw1 : wrap64 (0 + 1) = ((1 : Nat) : Int) := by unfold wrap64; omega
    rw [hw1]
    refine ref_segs_in L (by omega) hL (L.length - 1) 1 _ 0 [] rfl (by omega) (by omega) (by omega) ?_
    rfl
/-! ### two lists of parts -/
theorem ref_same (S : List Sg) (hL : S.length ≤ 9223372036854775806) : ∀ (d i fuel : Nat), S.length - i = d → i ≤ S.length → d + 1 ≤ fuel → PSameSegs.redpenref10_SameSegs.l0 fuel (S.map toQ) (S.map toQ) i = some true := by
  intro d
  induction d with
  | zero =>
    intro i fuel hd hi hf
    obtain ⟨f, rfl⟩ : ∃ m, fuel = m + 1 := ⟨fuel - 1, by omega⟩
    rw [PSameSegs.redpenref10_SameSegs.l0, if_neg (by simp; omega)]
  | succ d ih =>
    intro i fuel hd hi hf
    obtain ⟨f, rfl⟩ : ∃ m, fuel = m + 1 := ⟨fuel - 1, by omega⟩
    have hw1 : wrap64 ((i : Int) + 1) = ((i + 1 : Nat) : Int) := by unfold wrap64; omega
    rw [PSameSegs.redpenref10_SameSegs.l0, if_pos (by simp; omega), if_pos (by omega), if_pos (by simp; omega), if_neg (by simp), hw1]
    exact ih (i + 1) f (by omega) (by omega) (by omega)
theorem ref_same_any (S : List Sg) (hL : S.length ≤ 9223372036854775806) : PSameSegs.redpenref10_SameSegs.f (S.length + 1) (S.map toQ) (S.map toQ) = some true := by
  unfold PSameSegs.redpenref10_SameSegs.f
  rw [if_pos rfl]
  exact ref_same S hL S.length 0 _ (by omega) (by omega) (by omega)
/-! ### the walks, in this seat's own words -/
theorem refSegs_any (k : Nat) (c : Nat) (L : List Int) (w : World) (h : w.heap[k]? = some (.cells (cellsL L) 57 (0, 0))) (hc : L.length ≤ c) (hl : L.length ≤ 1000000) :
    Calls Try.prog 15 #[.slice (some ⟨k, 0, none⟩) L.length c] w fun e w' => ∃ A cp, e = .returned (.slice A ((segsOf L).map toQ).length cp) ∧ ((segsOf L).map toQ).length ≤ cp ∧ Kd.C PSameSegs.k66 w' A ((segsOf L).map toQ).length ((segsOf L).map toQ) ∧ Below w.heap.size w w' := by
  refine (redpenref10_Segs.calls (3 * L.length + 6) (some ⟨k, 0, none⟩) c L _ w (cells_C h (by omega)) hc (ref_segs L (by omega))).mono ?_
  rintro e w' ⟨v, rfl, hr, hb⟩
  obtain ⟨A, cp, rfl, hle, hC⟩ := Kd.R_reads hr
  refine ⟨A, cp, by simp, by simpa using hle, ?_, hb⟩
  have := C_conv hC
  simpa using this
theorem own_Q {w : World} {base n : Nat} {v : Value} {S : List Sg} (h : w.ownsRow base 66 3 v n (rowC S)) : ∃ A c, v = .slice A (S.map toQ).length c ∧ (S.map toQ).length ≤ c ∧ Kd.C PSameSegs.k66 w A (S.map toQ).length (S.map toQ) := by
  obtain ⟨A, c, e, hc, hC⟩ := own_C h
  refine ⟨A, c, by simpa using e, by simpa using hc, ?_⟩
  have := C_conv hC
  simpa using this
theorem same_any (A1 A2 : Option Addr) (c1 c2 : Nat) (S : List Sg) (w : World) (hl : S.length ≤ 1000000) (h1 : Kd.C PSameSegs.k66 w A1 (S.map toQ).length (S.map toQ)) (h2 : Kd.C PSameSegs.k66 w A2 (S.map toQ).length (S.map toQ)) (hc1 : (S.map toQ).length ≤ c1) (hc2 : (S.map toQ).length ≤ c2) :
    Calls Try.prog 13 #[.slice A1 (S.map toQ).length c1, .slice A2 (S.map toQ).length c2] w fun e w' => e = .returned (.bool true) ∧ ∃ n, w' = w.drewN n :=
  (PSameSegs.redpenref10_SameSegs.calls (S.length + 1) A1 c1 _ A2 c2 _ true w h1 hc1 h2 hc2 (ref_same_any S (by omega))).mono fun _ _ h => ⟨h.1, h.2.out⟩
end Go.Proofs.Ytcbibbdkjhkmoaa.L

set_option linter.unusedVariables false
set_option linter.unusedSimpArgs false
namespace Go.Proofs.Ytcbibbdkjhkmoaa.H
open Go.RowKit Go.Proofs.YtcbibbdkjhkmoaaW.PrintWords Go.Proofs.Ytcbibbdkjhkmoaa.L Go.Proofs.Ytcbibbdkjhkmoaa.S Go.Proofs.Ytcbibbdkjhkmoaa.Htm

theorem bytes_strH (l : List Int) (h : Bys l) : bytesOf (strOfNums l) = l := by
  unfold bytesOf strOfNums
  simp only [List.map_map]
  induction l with
  | nil => rfl
  | cons x l ih =>
    have hx := h x (by simp)
    simp only [List.map_cons, Function.comp]
    rw [ih (fun y hy => h y (by simp [hy]))]
    congr 1
    simp only [UInt8.toNat_ofNat']
    omega
theorem pieces_any (w : World) : Calls Try.prog 11 #[] w fun e w' => ∃ (P : List ByteArray) (A : Option Addr) (c : Nat), e = .returned (.slice A P.length c) ∧ (∀ p ∈ P, p.size ≤ 60) ∧ P.length ≤ 1000 ∧ P.length ≤ c ∧ Kd.C Kd.string w' A P.length P ∧ Below w.heap.size w w' := by
  refine (Ppieces.redpenlaw11_pieces.calls _ w rfl).mono ?_
  rintro e w' ⟨v, rfl, hr, hb⟩
  obtain ⟨A, cp, rfl, hle, hC⟩ := Kd.R_reads hr
  exact ⟨_, A, cp, rfl, by decide, by decide, hle, hC, hb⟩
theorem refSegs_C (A : Option Addr) (c : Nat) (L : List Int) (w : World) (h : Kd.C (Kd.int .u8) w A L.length L) (hc : L.length ≤ c) (hl : L.length ≤ 1000000) :
    Calls Try.prog 15 #[.slice A L.length c] w fun e w' => ∃ A cp, e = .returned (.slice A ((segsOf L).map toQ).length cp) ∧ ((segsOf L).map toQ).length ≤ cp ∧ Kd.C PSameSegs.k66 w' A ((segsOf L).map toQ).length ((segsOf L).map toQ) ∧ Below w.heap.size w w' := by
  refine (PSegs.redpenref10_Segs.calls (3 * L.length + 6) A c L _ w h hc (ref_segs L (by omega))).mono ?_
  rintro e w' ⟨v, rfl, hr, hb⟩
  obtain ⟨A, cp, rfl, hle, hC⟩ := Kd.R_reads hr
  refine ⟨A, cp, by simp, by simpa using hle, ?_, hb⟩
  have := C_conv hC
  simpa using this
theorem lexN_lenE (b : List Int) : ∀ (n p : Nat) (L : List Int), L.length = b.length → (lexN b n p L).length = b.length := by
  intro n
  induction n with
  | zero => intro p L h; exact h
  | succ n ih =>
    intro p L h
    unfold lexN
    split
    · rename_i hp
      exact ih _ _ (step_ok b p L hp h).2.2
    · exact h
theorem lexL_lenE (b : List Int) : (lexL b).length = b.length := lexN_lenE b _ 0 _ (by simp)
/-- The reference's labels of HTML bytes. -/
theorem refHtml_any (b : List Int) (w : World) (hb : Bys b) (hl : b.length ≤ 65536) :
    Calls Try.prog 16 #[.string (strOfNums b)] w fun e w' => ∃ A c, e = .returned (.slice A (lexL b).length c) ∧ (lexL b).length ≤ c ∧ Kd.C (Kd.int .u8) w' A (lexL b).length (lexL b) ∧ Below w.heap.size w w' := by
  have h := rhtml_any (strOfNums b) w (by rw [strOfNums_size']; exact hl)
  rw [bytes_strH b hb] at h
  refine h.mono ?_
  rintro e w' ⟨v, rfl, hr⟩
  obtain ⟨A, cp, rfl, hle, hC⟩ := Kd.R_reads hr.own
  exact ⟨A, cp, rfl, hle, hC, hr.bel⟩
theorem same_Q (Q : List PSameSegs.S66) (A1 A2 : Option Addr) (c1 c2 : Nat) (S : List Sg) (w : World) (hQ : Q = S.map toQ) (hl : S.length ≤ 1000000) (h1 : Kd.C PSameSegs.k66 w A1 Q.length Q) (h2 : Kd.C PSameSegs.k66 w A2 Q.length Q) (hc1 : Q.length ≤ c1) (hc2 : Q.length ≤ c2) :
    Calls Try.prog 13 #[.slice A1 Q.length c1, .slice A2 Q.length c2] w fun e w' => e = .returned (.bool true) ∧ ∃ n, w' = w.drewN n := by
  subst hQ
  exact same_any A1 A2 c1 c2 S w hl h1 h2 hc1 hc2
/-- A text, as a slice of bytes. -/
structure Tt (W : World) (v : Value) (A : Option Addr) (c : Nat) (b : List Int) : Prop where
  e : v = .slice A b.length c
  C : Kd.C (Kd.int .u8) W A b.length b
  c : b.length ≤ c
  m : b.length ≤ 4000
  b : Bys b
def Two (W : World) (B : Nat) (x y : Value) (t : Nat) : Prop := W.heap[B]? = some (.cells #[x, y] t (0, 0))
theorem Tt.below {W W' : World} {v : Value} {A : Option Addr} {c : Nat} {b : List Int} (h : Tt W v A c b) (hb : Below W.heap.size W W') : Tt W' v A c b := ⟨h.e, Kd.C_below h.C hb, h.c, h.m, h.b⟩
theorem two_below {W W' : World} {B t : Nat} {x y : Value} (h : Two W B x y t) (hb : Below W.heap.size W W') : Two W' B x y t := blk_below h hb
theorem two_at {W : World} {B t : Nat} {x y : Value} (h : Two W B x y t) (j : Nat) (hj : j < 2) : W.cell? ⟨B, j, none⟩ = some (if j = 0 then x else y) := by
  rw [blk_cell h]
  match j, hj with
  | 0, _ => rfl
  | 1, _ => rfl
theorem bys_flat {α : Type} (l : List α) (f : α → List Int) (h : ∀ a ∈ l, Bys (f a)) : Bys (l.flatMap f) := by
  intro x hx
  obtain ⟨a, ha, hxa⟩ := List.mem_flatMap.1 hx
  exact h a ha x hxa
theorem pc_bys (P : List ByteArray) (raw : List Int) (a : Int) (h : Bys raw) : Bys (pc P raw a) := by
  unfold pc
  split
  · exact Bys.of _
  · split
    · rename_i hr
      intro x hx
      simp only [List.mem_singleton] at hx
      subst hx
      have hlt : a.toNat % raw.length < raw.length := Nat.mod_lt _ hr
      rw [List.getD_eq_getElem?_getD, List.getElem?_eq_getElem hlt]
      exact h _ (List.getElem_mem hlt)
    · intro x hx
      cases hx
end Go.Proofs.Ytcbibbdkjhkmoaa.H

set_option linter.unusedVariables false
set_option linter.unusedSimpArgs false
namespace Go.Proofs.Ytcbibbdkjhkmoaa.H
open Go.RowKit Go.Proofs.YtcbibbdkjhkmoaaW.PrintWords Go.Proofs.Ytcbibbdkjhkmoaa.L Go.Proofs.Ytcbibbdkjhkmoaa.S Go.Proofs.Ytcbibbdkjhkmoaa.Htm

/-- The tag at a place, whatever number it is. -/
def rdZ (b : List Int) (a : Int) : Option Tg := if 0 ≤ a ∧ a < b.length then Htm.read b a.toNat else none
def tgOf (r : Option Tg) : Tg := r.getD ⟨0, [], false, []⟩
def tgV (T : Tg) (v : Value) : Value := .agg #[.int .i64 T.fin, .string (strOfNums T.name), .bool T.closes, v]
theorem rdZ_out (b : List Int) (a : Int) (h : a < 0 ∨ (b.length : Int) ≤ a) : rdZ b a = none := if_neg (by omega)
theorem rdZ_in (b : List Int) (p : Nat) (h : p < b.length) : rdZ b p = Htm.read b p := by
  unfold rdZ
  rw [if_pos (by omega), Int.toNat_natCast]
theorem tg_len (b : List Int) (a : Int) (h : b.length ≤ 100000) : (tgOf (rdZ b a)).prose.length ≤ 1000000 := by
  unfold rdZ
  split
  · cases hr : Htm.read b a.toNat with
    | none => exact Nat.zero_le _
    | some T =>
      have := read_ok b _ T hr
      show T.prose.length ≤ _
      omega
  · exact Nat.zero_le _
theorem read_z (A : Option Addr) (c : Nat) (b : List Int) (a : Int) (W : World) (hC : Kd.C (Kd.int .u8) W A b.length b) (hc : b.length ≤ c) (hb : Bys b) (hm : b.length ≤ 65536) :
    Calls Try.prog 17 #[.slice A b.length c, .int .i64 a] W fun e w' => ∃ (A1 : Option Addr) (c1 : Nat), e = .returned (.tuple #[tgV (tgOf (rdZ b a)) (.slice A1 (tgOf (rdZ b a)).prose.length c1), .bool (rdZ b a).isSome]) ∧ w'.ownsRow W.heap.size 54 2 (.slice A1 (tgOf (rdZ b a)).prose.length c1) (tgOf (rdZ b a)).prose.length (spC (tgOf (rdZ b a)).prose) ∧ Below W.heap.size W w' := by
  by_cases ha : a < 0 ∨ (b.length : Int) ≤ a
  · refine (read_out A b.length c a W ha).mono ?_
    rintro e w' ⟨rfl, hb⟩
    rw [rdZ_out b a ha]
    exact ⟨none, 0, rfl, World.ownsRow_nil _ _ _ _, hb⟩
  · obtain ⟨p, rfl⟩ : ∃ p : Nat, a = p := ⟨a.toNat, by omega⟩
    have hp : p < b.length := by omega
    rw [rdZ_in b p hp]
    refine (read_in A c b p W hC hc hb hm hp).mono ?_
    rintro e w' ⟨hbel, ⟨h1, rfl⟩ | ⟨T, v, h1, rfl, ho⟩⟩
    · rw [h1]
      exact ⟨none, 0, rfl, World.ownsRow_nil _ _ _ _, hbel⟩
    · obtain ⟨A1, c1, rfl⟩ := own_form ho
      rw [h1]
      exact ⟨A1, c1, rfl, ho, hbel⟩
theorem rread_z (b : List Int) (a : Int) (W : World) (hb : Bys b) (hm : b.length ≤ 65536) :
    Calls Try.prog 18 #[.string (strOfNums b), .int .i64 a] W fun e w' => ∃ (A1 : Option Addr) (c1 : Nat), e = .returned (.tuple #[tgV (tgOf (rdZ b a)) (.slice A1 (tgOf (rdZ b a)).prose.length c1), .bool (rdZ b a).isSome]) ∧ w'.ownsRow W.heap.size 54 2 (.slice A1 (tgOf (rdZ b a)).prose.length c1) (tgOf (rdZ b a)).prose.length (spC (tgOf (rdZ b a)).prose) ∧ Below W.heap.size W w' := by
  have hsz := strOfNums_size' b
  by_cases ha : a < 0 ∨ (b.length : Int) ≤ a
  · refine (rread_out (strOfNums b) a W (by rw [hsz]; exact ha)).mono ?_
    rintro e w' ⟨rfl, hb⟩
    rw [rdZ_out b a ha]
    exact ⟨none, 0, rfl, World.ownsRow_nil _ _ _ _, hb⟩
  · obtain ⟨p, rfl⟩ : ∃ p : Nat, a = p := ⟨a.toNat, by omega⟩
    have hp : p < b.length := by omega
    rw [rdZ_in b p hp]
    have h := rread_in (strOfNums b) p W (by rw [hsz]; exact hm) (by rw [hsz]; exact hp)
    rw [bytes_strH b hb] at h
    refine h.mono ?_
    rintro e w' ⟨hbel, ⟨h1, rfl⟩ | ⟨T, v, h1, rfl, ho⟩⟩
    · rw [h1]
      exact ⟨none, 0, rfl, World.ownsRow_nil _ _ _ _, hbel⟩
    · obtain ⟨A1, c1, rfl⟩ := own_form ho
      rw [h1]
      exact ⟨A1, c1, rfl, ho, hbel⟩
def toU (s : Nat × Nat) : PSameTag.S54 := ⟨s.1, s.2⟩
theorem reps_spU (w : World) (S : List (Nat × Nat)) : Reps (PSameTag.k54.K w) 2 (S.map toU) (spC S) := by
  induction S with
  | nil => exact Reps.none _ _
  | cons s S ih => exact Reps.c2 (PSameTag.k54_mk w (toU s)) ih
theorem own_U {w : World} {base : Nat} {A : Option Addr} {c : Nat} {S : List (Nat × Nat)} (h : w.ownsRow base 54 2 (.slice A S.length c) S.length (spC S)) : S.length ≤ c ∧ Kd.C PSameTag.k54 w A S.length (S.map toU) := by
  refine ⟨own_le h, ?_⟩
  obtain ⟨A', c', e, hr⟩ := own_reads_row h (reps_spU w S) (by simp)
  injection e with e1 e2 e3
  subst e1
  exact hr
theorem same_l0 (x : Int) (y : ByteArray) (z : Bool) (x' : Int) (y' : ByteArray) (z' : Bool) (S : List (Nat × Nat)) (hS : S.length ≤ 1000000) : ∀ (d i : Nat), S.length - i = d → i ≤ S.length → Ev (fun k => PSameTag.redpenref10_SameTag.l0 k i x y z (S.map toU) x' y' z' (S.map toU)) true := by
  intro d
  induction d with
  | zero =>
    intro i hd hi
    refine Ev.up ?_
    simp only [PSameTag.redpenref10_SameTag.l0, List.length_map, if_neg (show ¬ ((i : Int) < (S.length : Int)) by omega)]
    exact Ev.some_ _
  | succ d ih =>
    intro i hd hi
    refine Ev.up ?_
    simp only [PSameTag.redpenref10_SameTag.l0, List.length_map, if_pos (show ((i : Int) < (S.length : Int)) by omega), if_pos (Int.natCast_nonneg i), beq_self_eq_true, Bool.not_true, Bool.or_self, Bool.false_eq_true, if_false]
    rw [wrl _ (by omega) (by omega)]
    exact ih (i + 1) (by omega) (by omega)
theorem same_tag (T : Tg) (hT : T.prose.length ≤ 1000000) : Ev (fun k => PSameTag.redpenref10_SameTag.f k T.fin (strOfNums T.name) T.closes (T.prose.map toU) T.fin (strOfNums T.name) T.closes (T.prose.map toU)) true := by
  unfold PSameTag.redpenref10_SameTag.f
  simp only [if_true, bne_self_eq_false, Bool.false_eq_true, if_false]
  refine Ev.up ?_
  simp only [PSameTag.redpenref10_SameTag.j0, Bool.false_eq_true, if_false]
  exact same_l0 _ _ _ _ _ _ T.prose hT _ 0 rfl (Nat.zero_le _)
theorem sameTag_any (T : Tg) (hT : T.prose.length ≤ 1000000) (A1 A2 : Option Addr) (c1 c2 base1 base2 : Nat) (w : World) (h1 : w.ownsRow base1 54 2 (.slice A1 T.prose.length c1) T.prose.length (spC T.prose)) (h2 : w.ownsRow base2 54 2 (.slice A2 T.prose.length c2) T.prose.length (spC T.prose)) :
    Calls Try.prog 19 #[tgV T (.slice A1 T.prose.length c1), tgV T (.slice A2 T.prose.length c2)] w fun e w' => e = .returned (.bool true) ∧ Below w.heap.size w w' := by
  obtain ⟨k, hk⟩ := (same_tag T hT).rounds
  obtain ⟨hc1, hC1⟩ := own_U h1
  obtain ⟨hc2, hC2⟩ := own_U h2
  have hlen : (T.prose.map toU).length = T.prose.length := List.length_map ..
  have h := PSameTag.redpenref10_SameTag.calls k T.fin (strOfNums T.name) T.closes A1 c1 (T.prose.map toU) T.fin (strOfNums T.name) T.closes A2 c2 (T.prose.map toU) true w (by rw [hlen]; exact hC1) (by rw [hlen]; exact hc1) (by rw [hlen]; exact hC2) (by rw [hlen]; exact hc2) hk
  rw [hlen] at h
  exact h
/-- A row of places of one's own. -/
structure Oi (w0 W : World) (v : Value) (xs : List Int) : Prop where
  own : W.ownsRow w0.heap.size 3 1 v xs.length (nums .i64 xs)
  bel : Below w0.heap.size w0 W
section
variable {w0 W W' : World} {v : Value} {xs : List Int}
theorem Oi.below (h : Oi w0 W v xs) (hb : Below W.heap.size W W') : Oi w0 W' v xs := ⟨pw_own_below h.own hb, below_step h.bel hb⟩
theorem Oi.form (h : Oi w0 W v xs) : ∃ A c, v = .slice A xs.length c ∧ xs.length ≤ c ∧ Kd.C (Kd.int .i64) W A xs.length xs := by
  obtain ⟨A, c, rfl, hr⟩ := own_reads h.own
  exact ⟨A, c, rfl, own_le h.own, Kd.C_of_reads (d := 0) (h1 := fun _ => rfl) hr⟩
theorem Oi.lit (w0 W : World) (x : Int) (h : Below w0.heap.size w0 W) : Oi w0 (W.alloc (.cells #[.int .i64 x] 3)) (.slice (some ⟨W.heap.size, 0, none⟩) 1 1) [x] :=
  ⟨own_lit W _ _ .i64 [x] h.size (by simp), below_alloc h _⟩
end
theorem infoInt : (Try.prog.info? 3).map (fun i => (i.zero, i.size, i.bytes)) = some (some (.int .i64 0), 1, 8) := by kernel_rfl
end Go.Proofs.Ytcbibbdkjhkmoaa.H
