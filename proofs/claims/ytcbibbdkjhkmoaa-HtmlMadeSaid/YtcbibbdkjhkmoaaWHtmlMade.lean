/- The law HtmlMade, walked: it answers true. Conditions: none. -/
import Derived.Test.YtcbibbdkjhkmoaaHMade
import Derived.Test.YtcbibbdkjhkmoaaHMo
import Derived.Test.YtcbibbdkjhkmoaaWMore
set_option linter.unusedVariables false
set_option linter.unusedSimpArgs false
namespace Go.Proofs.Ytcbibbdkjhkmoaa.H
open Go.RowKit Go.Proofs.YtcbibbdkjhkmoaaW.PrintWords Go.Proofs.YtcbibbdkjhkmoaaW.PrintLast Go.Proofs.YtcbibbdkjhkmoaaW.PrintMore Go.Proofs.YtcbibbdkjhkmoaaW.Opn Go.Proofs.Ytcbibbdkjhkmoaa.L Go.Proofs.Ytcbibbdkjhkmoaa.S Go.Proofs.Ytcbibbdkjhkmoaa.Htm

/-- append in a region in the text's order, by its run. -/
theorem appG_ {P : Program} {ops : Array Oper} {rest : List Oper} {Q : Exit → Act → World → Prop} {o : Oper} {a : Act} {w w1 : World} {v1 : Value} (hgd : o.guard = none) (s x : Operand) (t u : TypeId)
    (ho : o.op = .call { callee := .builtin .append, args := #[s, x], argTypes := #[t, u] }) (v0 u0 : Value) (hs : a.eval s = v0) (hx : a.eval x = u0)
    (hr : (Builtin.append_ #[t, u] o.type #[v0, u0]).run P w = .ok v1 w1) (h : wpList P ops Q rest (a.put o.dst v1) w1) : wpList P ops Q (o :: rest) a w :=
  wpList_plain hgd fun _ hK => by
    unfold Oper.wp execOp
    simp only [ho, resolve, invoke, builtin, Sem.run_bind, Sem.run_pure, Result.andThen_ok, List.map_toArray, List.map_cons, List.map_nil, hs, hx, hr]
    exact hK _ _ h
theorem opRows : Opens Try.prog 27 (Kd.slice 22 (Kd.slice 5 (Kd.int .u8))) (fun xs => (∀ x ∈ xs, Bys x ∧ x.length ≤ 140737488351232) ∧ xs.length ≤ 140737488351232) :=
  Opens.imp (Opens.slice (B := 24) opBytes Try.underlying27 (by kernel_rfl) (by kernel_rfl)) (fun xs h => ⟨h.2.2, by have := h.2.1; omega⟩)
/-- A row out of a row of rows. -/
theorem row_at {w : World} {A : Option Addr} {n : Nat} {xs : List (List Int)} (h : Kd.C (Kd.slice 5 (Kd.int .u8)) w A n xs) (i : Nat) (hi : i < n) :
    ∃ ad A' c', A = some ad ∧ w.cell? (ad.add i) = some (.slice A' (xs.getD i []).length c') ∧ (xs.getD i []).length ≤ c' ∧ Kd.C (Kd.int .u8) w A' (xs.getD i []).length (xs.getD i []) := by
  obtain ⟨ad, c, e, _, ⟨A', c', e2, hc, hC⟩, hcell⟩ := Kd.C_get h [] (i : Int) (by omega) (by omega)
  have h0 := hcell 0 (.slice A' (xs.getD i []).length c') (by rw [e2]; rfl)
  exact ⟨ad, A', c', e, by simpa [Kd.slice] using h0, hc, hC⟩
theorem own_apartT {W : World} {b1 b2 e1 e2 s1 s2 n1 n2 : Nat} {v1 v2 : Value} {x1 x2 : List Value} (h1 : W.ownsRow b1 e1 s1 v1 n1 x1) (h2 : W.ownsRow b2 e2 s2 v2 n2 x2) (hne : e1 ≠ e2) : v1.ownBlock = none ∨ v1.ownBlock ≠ v2.ownBlock := by
  cases hk : v1.ownBlock with
  | none => exact .inl rfl
  | some k =>
    refine .inr fun e => hne ?_
    obtain ⟨c1, g1⟩ := own_typed h1 k hk
    obtain ⟨c2, g2⟩ := own_typed h2 k e.symm
    rw [g1] at g2
    injection g2 with g2
    injection g2
/-- The tag under way, and the wanted spans. -/
structure Md (w W : World) (v u : Value) (b : List Int) (S : List (Nat × Nat)) : Prop where
  ob : Ob w W v b
  sp : W.ownsRow w.heap.size 54 2 u S.length (spC S)
section
variable {w W W' : World} {v u : Value} {b : List Int} {S : List (Nat × Nat)}
theorem Md.below (h : Md w W v u b S) (hb : Below W.heap.size W W') : Md w W' v u b S := ⟨h.ob.below hb, pw_own_below h.sp hb⟩
theorem Md.bytes (h : Md w W v u b S) {v1 : Value} {b1 : List Int} (ho : Ob w W' v1 b1) (hg : W.grownBy W' v.ownBlock) : Md w W' v1 u b1 S := ⟨ho, h.sp.kept hg (own_apartT h.sp h.ob.own (by decide))⟩
theorem Md.spans (h : Md w W v u b S) {u1 : Value} {S1 : List (Nat × Nat)} (ho : W'.ownsRow w.heap.size 54 2 u1 S1.length (spC S1)) (hb : Below w.heap.size w W') (hg : W.grownBy W' u.ownBlock) : Md w W' v u1 b S1 := ⟨⟨h.ob.own.kept hg (own_apartT h.ob.own h.sp (by decide)), hb⟩, ho⟩
end
def nmB (k : Nat) : ByteArray := [(⟨#[97, 108, 116]⟩ : ByteArray), ⟨#[84, 73, 84, 76, 69]⟩, ⟨#[99, 108, 97, 115, 115]⟩, ⟨#[120, 45, 97, 108, 116]⟩, ⟨#[65, 108, 116]⟩, ⟨#[116, 105, 116, 108, 101, 115]⟩].getD k ByteArray.empty
theorem nmB_ok (k : Nat) (h : k < 6) : bytesOf (nmB k) = mkName k ∧ (nmB k).size ≤ 8 := by
  match k, h with
  | 0, _ => exact ⟨by decide, by decide⟩
  | 1, _ => exact ⟨by decide, by decide⟩
  | 2, _ => exact ⟨by decide, by decide⟩
  | 3, _ => exact ⟨by decide, by decide⟩
  | 4, _ => exact ⟨by decide, by decide⟩
  | 5, _ => exact ⟨by decide, by decide⟩
/-- The attribute of a number. -/
def prs (nl : List Int) (vl : List (List Int)) (i : Nat) : Nat × List Int := ((nl.getD i 0 % 6).toNat, mkText (vl.getD i []))
def alS (nl : List Int) (vl : List (List Int)) (i : Nat) : List (Nat × List Int) := (List.range i).map (prs nl vl)
theorem alS_snoc (nl : List Int) (vl : List (List Int)) (i : Nat) : alS nl vl (i + 1) = alS nl vl i ++ [prs nl vl i] := by unfold alS; rw [List.range_succ, List.map_append]; rfl
theorem alS_ok (nl : List Int) (vl : List (List Int)) (i : Nat) : ∀ a ∈ alS nl vl i, Okm a := by
  intro a ha
  obtain ⟨j, _, rfl⟩ := List.mem_map.1 ha
  exact ⟨by show (nl.getD j 0 % 6).toNat < 6; omega, mkText_no _⟩
theorem mkAttrs_le (nl : List Int) (vl : List (List Int)) : ∀ i, (mkAttrs (alS nl vl i)).length ≤ 20 * i := by
  intro i
  induction i with
  | zero => exact Nat.le_refl _
  | succ i ih =>
    rw [alS_snoc, mkAttrs_snoc, List.length_append]
    have h2 := mkText_len (vl.getD i [])
    have h1 : (mkName (prs nl vl i).1).length ≤ 6 := by
      have hk : (nl.getD i 0 % 6).toNat < 6 := by omega
      show (mkName (nl.getD i 0 % 6).toNat).length ≤ 6
      generalize (nl.getD i 0 % 6).toNat = k at *
      match k, hk with
      | 0, _ => decide
      | 1, _ => decide
      | 2, _ => decide
      | 3, _ => decide
      | 4, _ => decide
      | 5, _ => decide
    have h3 : (mkAttr (prs nl vl i)).length = (mkName (prs nl vl i).1).length + (mkText (vl.getD i [])).length + 4 := by unfold mkAttr; simp [prs]; omega
    omega
theorem bys_app {x y : List Int} (h : Bys x) (k : Bys y) : Bys (x ++ y) := by
  intro z hz
  rcases List.mem_append.1 hz with h' | h'
  · exact h z h'
  · exact k z h'
theorem bys_dec {x : List Int} (h : x.all (fun z => decide (0 ≤ z ∧ z < 256)) = true) : Bys x := by
  intro z hz
  have := List.all_eq_true.1 h z hz
  exact of_decide_eq_true this
theorem alS_bys (nl : List Int) (vl : List (List Int)) (i : Nat) : Bys (mkAttrs (alS nl vl i)) := by
  intro z hz
  obtain ⟨a, ha, hza⟩ := List.mem_flatMap.1 hz
  obtain ⟨j, _, rfl⟩ := List.mem_map.1 ha
  have hk : (nl.getD j 0 % 6).toNat < 6 := by omega
  have hn : Bys (mkName (nl.getD j 0 % 6).toNat) := by
    generalize (nl.getD j 0 % 6).toNat = k at *
    match k, hk with
    | 0, _ => exact bys_dec (by decide)
    | 1, _ => exact bys_dec (by decide)
    | 2, _ => exact bys_dec (by decide)
    | 3, _ => exact bys_dec (by decide)
    | 4, _ => exact bys_dec (by decide)
    | 5, _ => exact bys_dec (by decide)
  have h : Bys ([32] ++ (mkName (nl.getD j 0 % 6).toNat ++ ([61, 34] ++ (mkText (vl.getD j []) ++ [34])))) :=
    bys_app (bys_dec (by decide)) (bys_app hn (bys_app (bys_dec (by decide)) (bys_app (mkText_bys _) (bys_dec (by decide)))))
  exact h z hza
theorem mkB_bys (cl : Bool) : Bys (mkB cl) := by cases cl <;> exact bys_dec (by decide)
theorem wants_le (al : List (Nat × List Int)) : ∀ p, (mkWants al p).length ≤ al.length := by
  induction al with
  | nil => intro p; exact Nat.le_refl _
  | cons a al ih =>
    intro p
    have := ih (p + (mkAttr a).length)
    show (mkWant a p ++ mkWants al _).length ≤ _
    rw [List.length_append, List.length_cons]
    have h1 : (mkWant a p).length ≤ 1 := by unfold mkWant; split <;> simp
    omega

theorem z60 (W : World) : (W.alloc (.cells #[.int .u8 60] 5 (1, 2))).cell? ⟨W.heap.size, 0, none⟩ = some (.int .u8 60) := by
  rw [cell_of_row _ _ _ _ _ _ (blk_new W _)]
  rfl
theorem fst_byte (w0 W : World) (hb : Below w0.heap.size w0 W) (ty : TypeId) :
    ∃ v1 w1, (Builtin.append_ #[22, 22] ty #[.slice (some ⟨W.heap.size, 0, none⟩) 1 1, .slice (some ⟨W.heap.size + 1, 0, none⟩) 1 1]).run Try.prog ((W.alloc (.cells #[.int .u8 60] 5 (1, 2))).alloc (.cells #[.int .u8 47] 5)) = .ok v1 w1 ∧ Ob w0 w1 v1 [60, 47] := by
  obtain ⟨i0, hi, hz0, hz1, hz2⟩ := info_parts info5
  have ht := Try.underlying22
  have hbel : Below w0.heap.size w0 ((W.alloc (.cells #[.int .u8 60] 5 (1, 2))).alloc (.cells #[.int .u8 47] 5)) := below_alloc (below_alloc hb _) _
  have e1 : (W.alloc (.cells #[.int .u8 60] 5 (1, 2))).heap.size = W.heap.size + 1 := by simp
  have h47 := blk_new (W.alloc (.cells #[.int .u8 60] 5 (1, 2))) (.cells #[.int .u8 47] 5 (0, 0))
  rw [e1] at h47
  obtain ⟨v1, w1, hr, ho, hg⟩ := run_append_arg_grows (P := Try.prog) ((W.alloc (.cells #[.int .u8 60] 5 (1, 2))).alloc (.cells #[.int .u8 47] 5)) 22 ty 5 i0 (.int .u8 0) 1 1 ht hi hz0 hz1 hz2 rfl (by omega) ⟨W.heap.size, 0, none⟩ 1 1 (nums .u8 [60]) (by simp [nums]) (fun j u hu => by
      have hj : j = 0 := by have := (List.getElem?_eq_some_iff.1 hu).1; simpa [nums] using this
      subst hj
      simp [nums] at hu
      subst hu
      rw [add_plain, cell_of_row _ _ _ _ _ _ (blk_alloc (blk_new W _) _)]
      rfl) ⟨W.heap.size + 1, 0, none⟩ 1 1 (nums .u8 [47]) (by simp [nums]) (fun j u hu => by
      have hj : j = 0 := by have := (List.getElem?_eq_some_iff.1 hu).1; simpa [nums] using this
      subst hj
      simp [nums] at hu
      subst hu
      rw [add_plain, blk_cell h47]
      rfl) (by omega) (by simp only [maxLen]; omega) (by omega)
  exact ⟨v1, w1, hr, own_less ho hbel.size, hbel.grown hg hbel.size (fun k hk => by cases hk)⟩
theorem fst_str (w0 W : World) (hb : Below w0.heap.size w0 W) (ty : TypeId) :
    ∃ v1 w1, (Builtin.append_ #[22, 9] ty #[.slice (some ⟨W.heap.size, 0, none⟩) 1 1, .string ⟨#[69, 109, 45, 50]⟩]).run Try.prog (W.alloc (.cells #[.int .u8 60] 5 (1, 2))) = .ok v1 w1 ∧ Ob w0 w1 v1 [60, 69, 109, 45, 50] := by
  obtain ⟨i0, hi, hz0, hz1, hz2⟩ := info_parts info5
  have ht := Try.underlying22
  have hu := Try.underlying9
  generalize hW : W.alloc (.cells #[.int .u8 60] 5 (1, 2)) = W2
  have hbel : Below w0.heap.size w0 W2 := by rw [← hW]; exact below_alloc hb _
  have h60 : W2.cell? ⟨W.heap.size, 0, none⟩ = some (.int .u8 60) := by rw [← hW]; exact z60 W
  have hs4 : (⟨#[69, 109, 45, 50]⟩ : ByteArray).size = 4 := rfl
  have hr := Lib.run_append_grow_string (P := Try.prog) W2 22 9 ty 5 i0 (.int .u8 0) ht hu hi hz0 ⟨W.heap.size, 0, none⟩ 1 1 (nums .u8 [60]) (by simp [nums, hz1]) (fun j u hu => by
      have hj : j = 0 := by have := (List.getElem?_eq_some_iff.1 hu).1; simpa [nums] using this
      subst hj
      simp [nums] at hu
      subst hu
      rw [add_plain]
      exact h60) ⟨#[69, 109, 45, 50]⟩ (by rw [hs4]; omega) (by rw [hs4]; omega) (growslice_fits (by rw [hs4]; omega) (by rw [hz2, hs4]; omega))
  rw [hs4] at hr
  have hge := grownCap_ge W2 (1 + 4) 1 5
  have hcm : grownCap W2 (1 + 4) 1 5 ≤ maxLen := grownCap_le_maxLen W2 (1 + 4) 1 5 (by simp only [maxLen]; omega)
  refine ⟨_, _, hr, ⟨?_, below_alloc (below_drew1 hbel) _⟩⟩
  refine ⟨rfl, .inr ⟨W2.heap.size, _, _, rfl, hbel.size, heap_alloc_new W2.drew _, hge, hcm, ?_, ?_⟩⟩
  · have hz1' : (Value.int IntKind.u8 0).cells.size = 1 := rfl
    simp only [Array.size_append, List.size_toArray, size_zeroCells, hz1', nums_length, Lib.strCells_length, hs4]
    simp only [List.length_cons, List.length_nil]
    omega
  · simp only [Array.toList_append, List.append_assoc]
    rw [strCells_nums, ← List.append_assoc, ← nums_append, show [60] ++ bytesOf ⟨#[69, 109, 45, 50]⟩ = [60, 69, 109, 45, 50] from rfl]
    exact List.take_left (l₁ := nums .u8 [60, 69, 109, 45, 50])
/-- The tag's beginning, as far as it is made. -/
def Pre (w w1 : World) (cl : Bool) (v : Value) (W : World) : Prop :=
  (cl = true → Ob w W v [60, 47]) ∧ (cl = false → v = .slice (some ⟨w1.heap.size, 0, none⟩) 1 1 ∧ W = w1.alloc (.cells #[.int .u8 60] 5 (1, 2)))
theorem apart_drop : ∀ (j : Nat) (S : List (Nat × Nat)) (lo hi : Nat), apart S lo hi → ∃ lo', apart (S.drop j) lo' hi := by
  intro j
  induction j with
  | zero => intro S lo hi h; exact ⟨lo, h⟩
  | succ j ih =>
    intro S lo hi h
    cases S with
    | nil => exact ⟨lo, h⟩
    | cons s S => exact ih S _ hi h.2.2
theorem span_at {W : World} {base c : Nat} {A : Option Addr} {S : List (Nat × Nat)} (h : W.ownsRow base 54 2 (.slice A S.length c) S.length (spC S)) {j u z : Nat} (huz : S[j]? = some (u, z)) : ∃ gg, A = some ⟨gg, 0, none⟩ ∧ gg < W.heap.size ∧ W.cell? ⟨gg, j * 2, none⟩ = some (.int .i64 u) ∧ W.cell? ⟨gg, j * 2 + 1, none⟩ = some (.int .i64 z) := by
  obtain ⟨e1, e2⟩ := spC_get S j u z huz
  have hlt := (List.getElem?_eq_some_iff.1 huz).1
  have hsl := spC_length S
  obtain ⟨gg, cap, eA, hgl⟩ : ∃ gg cap, Value.slice A S.length c = .slice (some ⟨gg, 0, none⟩) S.length cap ∧ gg < W.heap.size := by
    rcases h.2 with ⟨_, h0⟩ | ⟨g', cap, cur, e, hb', hg', _⟩
    · omega
    · exact ⟨g', cap, e, blk_lt hg'⟩
  injection eA with eA _ ec
  subst eA
  subst ec
  exact ⟨gg, rfl, hgl, by rw [h.cellAt _ (by omega), e1], by rw [h.cellAt _ (by omega), e2]⟩
theorem own_drewN {W : World} {b e s n : Nat} {v : Value} {xs : List Value} (h : W.ownsRow b e s v n xs) (q : Nat) : (W.drewN q).ownsRow b e s v n xs := pw_own_below h (pw_below_drewN (Below.refl _ _) q)
attribute [local go_sem high] eqSpan
attribute [local go_sem] min2_int min_two min_three
set_option maxRecDepth 100000 in
set_option maxHeartbeats 4000000 in
theorem htmlMade_any (A0 : Option Addr) (c0 : Nat) (nl : List Int) (A1 : Option Addr) (c1 : Nat) (vl : List (List Int)) (cl : Bool) (A3 : Option Addr) (c3 : Nat) (bh : List Int) (w : World) (hM : Mx w)
    (hC0 : Kd.C (Kd.int .u8) w A0 nl.length nl) (hB0 : Bys nl) (hm0 : nl.length ≤ 140737488351232) (hC1 : Kd.C (Kd.slice 5 (Kd.int .u8)) w A1 vl.length vl) (hB1 : ∀ x ∈ vl, Bys x ∧ x.length ≤ 140737488351232) (hm1 : vl.length ≤ 140737488351232) (hC3 : Kd.C (Kd.int .u8) w A3 bh.length bh) (hB3 : Bys bh) (hm3 : bh.length ≤ 140737488351232) :
    Calls Try.prog 6 #[.slice A0 nl.length c0, .slice A1 vl.length c1, .bool cl, .slice A3 bh.length c3] w fun e w' => e = .returned (.bool true) ∧ Below w.heap.size w w' := by
  have HH := Lib.hid (And.intro hM (And.intro hC0 (And.intro hB0 (And.intro hC1 (And.intro hB1 (And.intro hC3 hB3))))))
  clear hM hC0 hB0 hC1 hB1 hC3 hB3
  go_enter Try.func6, Try.ntmps6
  go_wp2_with fail
  refine (awake_any _ HH.out.1).mono ?_
  rintro e w1 ⟨rfl, hb1⟩
  have HW := Lib.hid hb1
  clear hb1
  have kcv := Lib.run_convert_bytes_const (P := Try.prog) w1 22 5 #[.int .u8 60] 1 1 Try.underlying22 Try.underlying5
  go_upto_if 26 with fail
  clear kcv
  go_cut [10] (fun v wx => Hid (Pre w w1 cl v wx))
  case first =>
    cases cl with
    | true =>
      obtain ⟨v2, w2, hr2, ho2⟩ := fst_byte w w1 HW.out 22
      have HO2 := Lib.hid ho2
      clear ho2
      go_wp2_with (at_builtin; refine appG_ rfl _ _ 22 22 rfl (.slice (some ⟨w1.heap.size, 0, none⟩) 1 1) (.slice (some ⟨w1.heap.size + 1, 0, none⟩) 1 1) rfl rfl hr2 ?_)
      go_meet
      exact Lib.hid (show Pre _ _ _ _ _ from ⟨fun _ => HO2.out, fun h => (by cases h)⟩)
    | false =>
      go_wp2_with fail
      go_meet
      exact Lib.hid (show Pre _ _ _ _ _ from ⟨fun h => (by cases h), fun _ => ⟨rfl, rfl⟩⟩)
  case rest =>
    rename_i vb _
    have HP := Lib.hid hcut.out
    clear hcut
    go_upto_region 7 with fail
    go_cut [10] (fun v wx => Hid (Ob w wx v (mkB cl)))
    case first =>
      cases cl with
      | true =>
        obtain ⟨A2, c2, rfl, hc2, _⟩ := (HP.out.1 rfl).form
        obtain ⟨v3, w3, hr3, ho3, _⟩ := Ob.appendS (HP.out.1 rfl) ⟨#[69, 109, 45, 50]⟩ (by decide) 22
        have HO3 := Lib.hid ho3
        clear ho3
        go_wp2_with (at_builtin; refine appG_ rfl _ _ 22 9 rfl (.slice A2 2 c2) (.string ⟨#[69, 109, 45, 50]⟩) rfl rfl hr3 ?_)
        go_meet
        exact HO3
      | false =>
        obtain ⟨rfl, rfl⟩ := HP.out.2 rfl
        obtain ⟨v3, w3, hr3, ho3⟩ := fst_str w w1 HW.out 22
        have HO3 := Lib.hid ho3
        clear ho3
        go_wp2_with (at_builtin; refine appG_ rfl _ _ 22 9 rfl (.slice (some ⟨w1.heap.size, 0, none⟩) 1 1) (.string ⟨#[69, 109, 45, 50]⟩) rfl rfl hr3 ?_)
        go_meet
        exact HO3
    case rest =>
      have HO := Lib.hid hcut.out
      clear hcut HP
      go_upto_block 0 with fail
      obtain ⟨m, hm, h8, hmv, hmn⟩ : ∃ m : Nat, (if (8 : Int) < (if vl.length < nl.length then (vl.length : Int) else (nl.length : Int)) then (8 : Int) else (if vl.length < nl.length then (vl.length : Int) else (nl.length : Int))) = (m : Int) ∧ m ≤ 8 ∧ m ≤ vl.length ∧ m ≤ nl.length := by
        refine ⟨min (min nl.length vl.length) 8, ?_, by omega, by omega, by omega⟩
        by_cases h1 : vl.length < nl.length
        · rw [if_pos h1]
          split <;> omega
        · rw [if_neg h1]
          split <;> omega
      rw [hm]
      clear hm
      have HN := Lib.hid (And.intro hmv hmn)
      clear hmv hmn
      go_wp2_with fail
      go_loopg [10, 11, 37] m (fun gn bv sv iv wr => ∃ (i : Nat), iv = .int .i64 i ∧ i ≤ m ∧ Hid (Md w wr bv sv (mkB cl ++ mkAttrs (alS nl vl i)) (mkWants (alS nl vl i) (mkB cl).length) ∧ gn = m - i))
      case atStart => exact ⟨0, rfl, Nat.zero_le _, ⟨by rw [show mkAttrs (alS nl vl 0) = [] from rfl, List.append_nil]; exact HO.out, World.ownsRow_nil _ _ _ _⟩, rfl⟩
      case round =>
        obtain ⟨i, rfl, hi, HQ⟩ := hrel
        clear HO
        obtain ⟨A5, c5, rfl, _, hCb⟩ := HQ.out.1.ob.form
        obtain ⟨A6, c6, rfl⟩ := own_form HQ.out.1.sp
        obtain ⟨b, hb⟩ : ∃ b, b = mkB cl ++ mkAttrs (alS nl vl i) := ⟨_, rfl⟩
        obtain ⟨S, hS⟩ : ∃ S, S = mkWants (alS nl vl i) (mkB cl).length := ⟨_, rfl⟩
        have hbl : b.length ≤ 200 := by
          have h1 := mkAttrs_le nl vl i
          rw [hb, List.length_append]
          have : (mkB cl).length ≤ 6 := by cases cl <;> decide
          omega
        have hSl : S.length ≤ 8 := by
          rw [hS]
          refine Nat.le_trans (wants_le _ _) ?_
          unfold alS
          rw [List.length_map, List.length_range]
          omega
        rw [← hb, ← hS] at HQ ⊢
        rw [← hb] at hCb
        have HBS := Lib.hid (And.intro hb hS)
        clear hb hS
        by_cases hlt : i < m
        · have hd : decide ((i : Int) < (m : Int)) = true := by simp; omega
          have hin : i < nl.length := by have := HN.out.2; omega
          have hiv : i < vl.length := by have := HN.out.1; omega
          clear hCb
          obtain ⟨adn, rfl, hn0⟩ := Kd.at_int HH.out.2.1 (i : Int) (by omega) (by omega)
          have HCn := Lib.hid (show ∀ W' : World, Below w.heap.size w W' → W'.cell? (adn.add i) = some (.int .u8 (nl.getD i 0)) from by
            intro W' hW
            obtain ⟨ad', e, hx⟩ := Kd.at_int (Kd.C_below HH.out.2.1 hW) (i : Int) (by omega) (by omega)
            injection e with e
            subst e
            exact hx)
          clear hn0
          obtain ⟨adv, A7, c7, rfl, _, _, _⟩ := row_at HH.out.2.2.2.1 i hiv
          have hxn := HH.out.2.2.1 _ (show nl.getD i 0 ∈ nl from by rw [List.getD_eq_getElem?_getD, List.getElem?_eq_getElem hin]; exact List.getElem_mem _)
          have HPr := Lib.hid (show prs nl vl i = ((nl.getD i 0 % 6).toNat, mkText (vl.getD i [])) from rfl)
          generalize nl.getD i 0 = xn at *
          obtain ⟨n, rfl⟩ : ∃ n : Nat, xn = n := ⟨xn.toNat, by omega⟩
          obtain ⟨k, hk⟩ : ∃ k : Nat, (n : Int) % 6 = (k : Int) := ⟨n % 6, by omega⟩
          have hk6 : k < 6 := by omega
          have HK := Lib.hid hk
          rw [hk, Int.toNat_natCast] at HPr
          clear hk hxn
          go_upto_region 12 with fail
          go_cut [13] (fun v wx => v = .string (nmB k) ∧ Hid (Md w wx (.slice A5 b.length c5) (.slice A6 S.length c6) b S))
          case first =>
            have hk := HK.out
            have hcn := HCn.out (wr.alloc (.cells #[.string ⟨#[97, 108, 116]⟩, .string ⟨#[84, 73, 84, 76, 69]⟩, .string ⟨#[99, 108, 97, 115, 115]⟩, .string ⟨#[120, 45, 97, 108, 116]⟩, .string ⟨#[65, 108, 116]⟩, .string ⟨#[116, 105, 116, 108, 101, 115]⟩] 9 (0, 0))) (below_alloc HQ.out.1.ob.bel _)
            have hcell : (wr.alloc (.cells #[.string ⟨#[97, 108, 116]⟩, .string ⟨#[84, 73, 84, 76, 69]⟩, .string ⟨#[99, 108, 97, 115, 115]⟩, .string ⟨#[120, 45, 97, 108, 116]⟩, .string ⟨#[65, 108, 116]⟩, .string ⟨#[116, 105, 116, 108, 101, 115]⟩] 9 (0, 0))).cell? ⟨wr.heap.size, k, none⟩ = some (.string (nmB k)) := by
              rw [blk_cell (blk_new wr _)]
              exact at_strsM [(⟨#[97, 108, 116]⟩ : ByteArray), ⟨#[84, 73, 84, 76, 69]⟩, ⟨#[99, 108, 97, 115, 115]⟩, ⟨#[120, 45, 97, 108, 116]⟩, ⟨#[65, 108, 116]⟩, ⟨#[116, 105, 116, 108, 101, 115]⟩] k hk6
            go_wp2_with fail
            go_meet
            exact ⟨rfl, Lib.hid (HQ.out.1.below (below_alloc (Below.refl _ _) _))⟩
          case rest =>
            obtain ⟨rfl, HM⟩ := hcut
            obtain ⟨hn1, hn2⟩ := nmB_ok k hk6
            have HNm := Lib.hid hn1
            clear hn1
            generalize nmB k = N at *
            obtain ⟨b2, hb2⟩ : ∃ b2, b2 = b ++ [32] := ⟨_, rfl⟩
            obtain ⟨b3, hb3⟩ : ∃ b3, b3 = b2 ++ bytesOf N := ⟨_, rfl⟩
            obtain ⟨b4, hb4⟩ : ∃ b4, b4 = b3 ++ bytesOf (⟨#[61, 34]⟩ : ByteArray) := ⟨_, rfl⟩
            have hs2 : (⟨#[61, 34]⟩ : ByteArray).size = 2 := rfl
            have hbN := bytesOf_length N
            have hl2 : b2.length = b.length + 1 := by rw [hb2, List.length_append]; rfl
            have hl3 : b3.length = b.length + 1 + N.size := by rw [hb3, List.length_append, hl2, hbN]
            have hl4 : b4.length = b.length + 1 + N.size + 2 := by rw [hb4, List.length_append, hl3]; rfl
            have HBB := Lib.hid (And.intro hb2 (And.intro hb3 hb4))
            have HL := Lib.hid (And.intro hl2 (And.intro hl3 hl4))
            clear hl2 hl3 hl4 hb2 hb3 hb4 hbN
            go_upto_region 14 with (first | (at_builtin; refine appG_ rfl _ _ 22 9 rfl (.slice A8 b2.length c8) (.string N) rfl rfl hr3 ?_) | (at_builtin; refine appG_ rfl _ _ 22 9 rfl (.slice A9 b3.length c9) (.string ⟨#[61, 34]⟩) rfl rfl hr4 ?_) | (at_builtin; refine print_append_num (w0 := w) w.heap.size rfl _ _ 22 5 .u8 1 rfl Try.underlying22 info_u8 (by decide) (.slice A5 b.length c5) b 32 rfl rfl HM.out.ob.own HM.out.ob.bel HM.out.ob.bel.size (by omega) ?_; intro v1 w2 ho hb1 hg1 _; have hm2 := HM.out.bytes (b1 := b ++ [32]) ⟨ho, hb1⟩ hg1; rw [← HBB.out.1] at hm2; clear ho hb1 hg1; obtain ⟨A8, c8, rfl, hc8, _⟩ := hm2.ob.form; obtain ⟨v3, w3, hr3, ho3, hg3⟩ := hm2.ob.appendS N (by have := HL.out.1; omega) 22; have hm3 := hm2.bytes ho3 hg3; rw [← HBB.out.2.1] at hm3; clear ho3 hg3; obtain ⟨A9, c9, rfl, hc9, _⟩ := hm3.ob.form; obtain ⟨v4, w4, hr4, ho4, hg4⟩ := hm3.ob.appendS ⟨#[61, 34]⟩ (by rw [hs2]; have := HL.out.2.1; omega) 22; have hm4 := hm3.bytes ho4 hg4; rw [← HBB.out.2.2] at hm4; clear ho4 hg4; obtain ⟨A10, c10, rfl, hc10, _⟩ := hm4.ob.form; have HM4 := Lib.hid hm4; clear hm2 hm3 hm4 hc8 hc9 hc10))
            clear hr3 hr4 HM
            obtain ⟨adv', A7', c7', e7, hcv, hcc, hCv⟩ := row_at (Kd.C_below HH.out.2.2.2.1 HM4.out.ob.bel) i hiv
            injection e7 with e7
            subst e7
            have HCv := Lib.hid (And.intro hCv (HH.out.2.2.2.2.1 _ (show vl.getD i [] ∈ vl from by rw [List.getD_eq_getElem?_getD, List.getElem?_eq_getElem hiv]; exact List.getElem_mem _)))
            clear hCv
            generalize vl.getD i [] = vi at *
            go_wp2_with fail
            refine (text_any A7' c7' vi _ HCv.out.1 HCv.out.2.1 HCv.out.2.2).mono ?_
            rintro e w5 ⟨rfl, hb5⟩
            have HM5 := Lib.hid (HM4.out.below hb5)
            have hcn5 := HCn.out w5 HM5.out.ob.bel
            have htl := mkText_len vi
            have HTx := Lib.hid (mkText_bys vi)
            clear hcv hcc hb5 HCv
            generalize mkText vi = tx at *
            have HTb := Lib.hid (strOfNums_size' tx)
            have hk := HK.out
            go_upto_region 16 with fail
            rw [hk]
            clear hk hcn5 HCn HK
            have hem : (strOfNums tx).toList = [] ↔ tx = [] := by
              constructor
              · intro h
                have h2 := HTb.out
                rw [← ByteArray.size_data, ← Array.length_toList, ← ByteArray.toList_eq, h] at h2
                exact List.eq_nil_of_length_eq_zero h2.symm
              · rintro rfl
                rw [ByteArray.toList_eq]
                rfl
            have hne : (!(strOfNums tx).toList.isEmpty) = !tx.isEmpty := by
              cases tx with
              | nil => rw [hem.2 rfl]; rfl
              | cons y z =>
                have : (strOfNums (y :: z)).toList ≠ [] := fun h => by cases hem.1 h
                simpa using this
            have HNe := Lib.hid hne
            clear hem hne
            obtain ⟨X, hX⟩ : ∃ X, X = mkIs (k, tx) := ⟨_, rfl⟩
            have HX := Lib.hid hX
            clear hX
            go_cut [74] (fun v wx => v = .bool X ∧ Hid (Md w wx (.slice A10 b4.length c10) (.slice A6 S.length c6) b4 S))
            case first =>
              have hne := HNe.out
              obtain ⟨E, hE⟩ : ∃ E, (!tx.isEmpty) = E := ⟨_, rfl⟩
              rw [hE] at hne
              have HE := Lib.hid hE
              have HNE := Lib.hid hne
              clear hE hne
              by_cases hk2 : k < 2
              · have hd2 : decide ((k : Int) < 2) = true := by simp; omega
                obtain rfl : X = E := by rw [HX.out, ← HE.out]; unfold mkIs; rw [decide_eq_true hk2]; rfl
                clear hk2 HNe
                go_wp2_with fail
                go_meet
                exact ⟨by rw [HNE.out], HM5⟩
              · have hd2 : decide ((k : Int) < 2) = false := by simp; omega
                by_cases hk4 : k = 4
                · have hd4 : ((k : Int) == 4) = true := by simp; omega
                  obtain rfl : X = E := by rw [HX.out, ← HE.out]; unfold mkIs; rw [hk4]; rfl
                  clear hk2 hk4 HNe
                  go_wp2_with fail
                  go_meet
                  exact ⟨by rw [HNE.out], HM5⟩
                · have hd4 : ((k : Int) == 4) = false := by simp; omega
                  obtain rfl : X = false := by
                    rw [HX.out]
                    unfold mkIs
                    rw [decide_eq_false hk2, show ((k, tx).1 == 4) = false from by simp; exact hk4]
                    rfl
                  clear hk2 hk4 HNe
                  go_wp2_with fail
                  go_meet
                  exact ⟨rfl, HM5⟩
            case rest =>
              obtain ⟨rfl, HM6⟩ := hcut
              clear HM5 HNe
              have HB5 := Lib.hid (show b4 ++ tx ++ [34] = mkB cl ++ mkAttrs (alS nl vl (i + 1)) from by
                rw [alS_snoc, mkAttrs_snoc, ← List.append_assoc, ← HBS.out.1, HPr.out, HBB.out.2.2, HBB.out.2.1, HBB.out.1, HNm.out]
                show _ = b ++ (32 :: (mkName k ++ 61 :: 34 :: (tx ++ [34])))
                rw [show bytesOf (⟨#[61, 34]⟩ : ByteArray) = [61, 34] from rfl]
                simp)
              have HS5 := Lib.hid (show mkWants (alS nl vl (i + 1)) (mkB cl).length = S ++ (if X then [(b4.length, tx.length)] else []) from by
                rw [alS_snoc, mkWants_snoc, ← HBS.out.2, HPr.out, HX.out]
                congr 1
                unfold mkWant
                have hlN := bytesOf_length N
                rw [HNm.out] at hlN
                have hbb := congrArg List.length HBS.out.1
                rw [List.length_append] at hbb
                have := HL.out.2.2
                show (if mkIs (k, tx) = true then [((mkB cl).length + (mkAttrs (alS nl vl i)).length + (mkName k).length + 3, tx.length)] else []) = _
                rw [show (mkB cl).length + (mkAttrs (alS nl vl i)).length + (mkName k).length + 3 = b4.length by omega])
              obtain ⟨S5, hS5⟩ : ∃ S5, S5 = S ++ (if X then [(b4.length, tx.length)] else []) := ⟨_, rfl⟩
              have HS6 := Lib.hid hS5
              clear hS5
              have hts := HTb.out
              go_upto_if 74 with fail
              go_cut [11] (fun v wx => ∃ A c, v = .slice A S5.length c ∧ Hid (Md w wx (.slice A10 b4.length c10) v b4 S5))
              case first =>
                cases X with
                | true =>
                  obtain rfl : S5 = S ++ [(b4.length, tx.length)] := HS6.out
                  clear HS6
                  go_wp2_with (at_builtin; refine print_append_cells (w0 := w) w.heap.size rfl _ _ 41 54 (.agg #[.int .i64 0, .int .i64 0]) 2 16 rfl Try.underlying41 infoSpan rfl (by decide) (by decide) (.slice A6 S.length c6) S.length (spC S) [.int .i64 (b4.length : Int), .int .i64 (tx.length : Int)] rfl rfl rfl (by simp [Value.oneCell']) HM6.out.sp HM6.out.ob.bel HM6.out.ob.bel.size (by omega) ?_; intro vv w6 hown hb6 hg6 _; obtain ⟨A11, c11, rfl⟩ := own_form hown; have HM7 := Lib.hid (HM6.out.spans (S1 := S ++ [(b4.length, tx.length)]) (by rw [List.length_append, List.length_singleton, spC_snoc]; exact hown) hb6 hg6); clear hown hb6 hg6)
                  go_meet
                  exact ⟨A11, c11, by rw [List.length_append]; rfl, HM7⟩
                | false =>
                  obtain rfl : S5 = S := by rw [HS6.out]; simp
                  clear HS6
                  go_wp2_with fail
                  go_meet
                  exact ⟨A6, c6, rfl, HM6⟩
              case rest =>
                obtain ⟨A11, c11, rfl, HM7⟩ := hcut
                clear HM6 hts
                obtain ⟨b5, hb5⟩ : ∃ b5, b5 = b4 ++ tx := ⟨_, rfl⟩
                obtain ⟨v8, w8, hr8, ho8, hg8⟩ := HM7.out.ob.appendS (strOfNums tx) (by rw [HTb.out]; have := HL.out.2.2; omega) 22
                rw [bytes_strM tx HTx.out, ← hb5] at ho8
                have hm8 := HM7.out.bytes ho8 hg8
                obtain ⟨A12, c12, rfl, _, _⟩ := hm8.ob.form
                have HM8 := Lib.hid hm8
                have HL5 := Lib.hid (show b5.length ≤ 300 from by rw [hb5, List.length_append]; have := HL.out.2.2; omega)
                have HB6 := Lib.hid hb5
                clear hb5 ho8 hg8 hm8
                go_upto_region 19 with (first | (at_builtin; refine appG_ rfl _ _ 22 9 rfl (.slice A10 b4.length c10) (.string (strOfNums tx)) rfl rfl hr8 ?_) | (at_builtin; refine print_append_num (w0 := w) w.heap.size rfl _ _ 22 5 .u8 1 rfl Try.underlying22 info_u8 (by decide) (.slice A12 b5.length c12) b5 34 rfl rfl HM8.out.ob.own HM8.out.ob.bel HM8.out.ob.bel.size (by have := HL5.out; omega) ?_; intro v9 w9 ho hb9 hg9 _; have hm9 := HM8.out.bytes (b1 := b5 ++ [34]) ⟨ho, hb9⟩ hg9; have HM9 := Lib.hid hm9; clear ho hb9 hg9 hm9))
                go_wp2_with fail
                go_roundg (m - (i + 1))
                case measure => have := HQ.out.2; omega
                case rel =>
                  refine ⟨i + 1, by go_num, by omega, ?_, rfl⟩
                  rw [HS5.out, ← HS6.out, ← HB5.out, ← HB6.out]
                  exact HM9.out
        · obtain rfl : i = m := by omega
          have hd : decide ((i : Int) < (i : Int)) = false := by simp
          have HD := Lib.hid HQ.out.1
          clear HQ hCb HN
          obtain ⟨al, hal⟩ : ∃ al, al = alS nl vl i := ⟨_, rfl⟩
          have HAl := Lib.hid (And.intro (show ∀ a ∈ al, Okm a from by rw [hal]; exact alS_ok nl vl i) (show Bys (mkAttrs al) from by rw [hal]; exact alS_bys nl vl i))
          rw [← hal] at HBS
          clear hal
          go_upto_region 21 with (at_builtin; refine print_append_num (w0 := w) w.heap.size rfl _ _ 22 5 .u8 1 rfl Try.underlying22 info_u8 (by decide) (.slice A5 b.length c5) b 62 rfl rfl HD.out.ob.own HD.out.ob.bel HD.out.ob.bel.size (by omega) ?_; intro v9 w9 ho hb9 hg9 _; have hm9 := HD.out.bytes (b1 := b ++ [62]) ⟨ho, hb9⟩ hg9; have HM9 := Lib.hid hm9; clear ho hb9 hg9 hm9)
          clear HD
          obtain ⟨bF, hbF⟩ : ∃ bF, bF = b ++ [62] := ⟨_, rfl⟩
          rw [← hbF] at HM9
          have HF := Lib.hid (show bF.length ≤ 300 ∧ bF = mkB cl ++ (mkAttrs al ++ [62]) from ⟨by rw [hbF, List.length_append]; show b.length + 1 ≤ 300; omega, by rw [hbF, HBS.out.1, List.append_assoc]⟩)
          clear hbF
          obtain ⟨A13, c13, rfl, hc13, hC13⟩ := HM9.out.ob.form
          obtain ⟨v21, w21, hr21, ho21, hg21⟩ := (Ob.lit w w9 [] HM9.out.ob.bel (by simp)).append A13 bF.length c13 bF (Kd.C_below hC13 (below_alloc (Below.refl _ _) _)) (by have := HF.out.1; show 0 + bF.length ≤ 1000000; omega) 22
          have hm10 : Md w w21 (.slice A13 bF.length c13) (.slice A6 S.length c6) bF S := by
            have h1 : Md w (w9.alloc (.cells (nums .u8 []).toArray 5)) (.slice A13 bF.length c13) (.slice A6 S.length c6) bF S := HM9.out.below (below_alloc (Below.refl _ _) _)
            have hb2 : Below w9.heap.size w9 w21 := (below_alloc (Below.refl _ _) (.cells (nums .u8 []).toArray 5)).grown hg21 (by simp) (fun k hk => by injection hk with hk; subst hk; exact Nat.le_refl _)
            exact HM9.out.below hb2
          rw [List.nil_append] at ho21
          obtain ⟨A14, c14, rfl, hc14, _⟩ := ho21.form
          have HM10 := Lib.hid (And.intro hm10 ho21)
          clear hm10 ho21 hg21 hC13
          go_wp2_with (at_builtin; refine appG_ rfl _ _ 22 22 rfl (.slice (some ⟨w9.heap.size, 0, none⟩) 0 0) (.slice A13 bF.length c13) rfl rfl hr21 ?_)
          refine (text_any A3 c3 bh _ (Kd.C_below HH.out.2.2.2.2.2.1 HM10.out.1.ob.bel) HH.out.2.2.2.2.2.2 hm3).mono ?_
          rintro e w22 ⟨rfl, hb22⟩
          clear hr21
          have htl := mkText_len bh
          have HTx := Lib.hid (mkText_bys bh)
          generalize mkText bh = tb at *
          have hm11 : Md w w22 (.slice A14 bF.length c14) (.slice A6 S.length c6) bF S := ⟨HM10.out.2.below hb22, (HM10.out.1.below hb22).sp⟩
          clear hb22 HM10
          obtain ⟨x, hx⟩ : ∃ x, x = bF ++ tb := ⟨_, rfl⟩
          obtain ⟨v23, w23, hr23, ho23, hg23⟩ := hm11.ob.appendS (strOfNums tb) (by rw [strOfNums_size']; have := HF.out.1; omega) 22
          rw [bytes_strM tb HTx.out, ← hx] at ho23
          have hm12 := hm11.bytes ho23 hg23
          obtain ⟨A15, c15, rfl, hc15, hC15⟩ := hm12.ob.form
          have HM12 := Lib.hid (And.intro hm12 (And.intro hc15 hC15))
          have HX := Lib.hid (show x = mkB cl ++ (mkAttrs al ++ 62 :: tb) from by rw [hx, HF.out.2]; simp)
          have HXl := Lib.hid (show x.length ≤ 400 ∧ 0 < x.length from by
            have h1 := HF.out.1
            rw [hx, List.length_append]
            refine ⟨by omega, ?_⟩
            rw [HF.out.2, List.length_append, List.length_append]
            show 0 < _ + (_ + 1) + _
            omega)
          have HXb := Lib.hid (show Bys x from by rw [HX.out]; exact bys_app (mkB_bys cl) (bys_app HAl.out.2 (bys_app (x := [62]) (bys_dec (by decide)) HTx.out)))
          have HRd := Lib.hid (show Htm.read x 0 = some ⟨bF.length, [101, 109, 45, 50], cl, S⟩ from by
            have h := read_made cl al tb x HAl.out.1 HX.out
            rw [h, HBS.out.2, HF.out.2]
            simp
            omega)
          clear hx hm11 ho23 hg23 hm12 hc15 hC15
          go_wp2_with (at_builtin; refine appG_ rfl _ _ 22 9 rfl (.slice A14 bF.length c14) (.string (strOfNums tb)) rfl rfl hr23 ?_)
          refine (read_in A15 c15 x 0 _ HM12.out.2.2 HM12.out.2.1 HXb.out (by have := HXl.out.1; omega) HXl.out.2).mono ?_
          rintro e w24 ⟨hb24, ⟨h1, rfl⟩ | ⟨T, v, h1, rfl, ho24⟩⟩
          · rw [HRd.out] at h1
            cases h1
          rw [HRd.out] at h1
          injection h1 with h1
          subst h1
          have HM13 := Lib.hid (And.intro (HM12.out.1.below hb24) ho24)
          clear hr23 hb24 ho24 HM12
          obtain ⟨A16, c16, rfl⟩ := own_form HM13.out.2
          rw [show strOfNums [101, 109, 45, 50] = (⟨#[101, 109, 45, 50]⟩ : ByteArray) from rfl]
          go_upto_region 22 with fail
          have H25 := Lib.hid (show (w24.alloc (tgC bF.length ⟨#[101, 109, 45, 50]⟩ cl (.slice A16 S.length c16))).heap[w24.heap.size]? = some (tgC bF.length ⟨#[101, 109, 45, 50]⟩ cl (.slice A16 S.length c16)) ∧ (w24.alloc (tgC bF.length ⟨#[101, 109, 45, 50]⟩ cl (.slice A16 S.length c16))).ownsRow w23.heap.size 54 2 (.slice A16 S.length c16) S.length (spC S) ∧ (w24.alloc (tgC bF.length ⟨#[101, 109, 45, 50]⟩ cl (.slice A16 S.length c16))).ownsRow w.heap.size 54 2 (.slice A6 S.length c6) S.length (spC S) ∧ Below w.heap.size w (w24.alloc (tgC bF.length ⟨#[101, 109, 45, 50]⟩ cl (.slice A16 S.length c16))) from
            ⟨blk_new w24 _, HM13.out.2.alloc _, HM13.out.1.sp.alloc _, below_alloc HM13.out.1.ob.bel _⟩)
          clear HM13 hm3
          generalize w24.alloc (tgC bF.length ⟨#[101, 109, 45, 50]⟩ cl (.slice A16 S.length c16)) = w25 at *
          generalize w24.heap.size = tp at *
          generalize w23.heap.size = base at *
          obtain ⟨k0, k1, k2, k3⟩ := tg_cells H25.out.1
          go_upto_region 24 with fail
          go_wp2_with fail
          clear k0 k1 k2 k3
          refine (new_yes bF.length _ (by have := HF.out.1; omega)).mono ?_
          rintro e w26 ⟨g, k, rfl, hs26, hb26, _, hkk⟩
          have hkW : w.heap.size ≤ k := Nat.le_trans H25.out.2.2.2.size hkk
          have H26 := Lib.hid (And.intro hs26 (And.intro (blk_below H25.out.1 hb26) (And.intro (pw_own_below H25.out.2.1 hb26) (And.intro (pw_own_below H25.out.2.2.1 hb26) (below_step H25.out.2.2.2 hb26)))))
          clear hs26 hb26 hkk H25
          obtain ⟨k0, k1, k2, k3⟩ := tg_cells H26.out.2.1
          have hap := wants_apart al (mkB cl).length
          rw [← HBS.out.2] at hap
          have HAp := Lib.hid (And.intro hap (show (mkB cl).length + (mkAttrs al).length ≤ bF.length from by rw [HF.out.2]; simp))
          clear hap
          go_wp2_with fail
          refine (lay_any g k _ _ base (.slice A16 S.length c16) S bF.length [101, 109, 45, 50] cl 0 H26.out.1 H26.out.2.2.1 (by omega) (fun u z h => by have h1 := (apart_ok _ _ _ HAp.out.1).2 u z h; have h2 := HAp.out.2; have h3 := HF.out.1; omega) (by have h3 := HF.out.1; omega)).mono ?_
          rintro e w27 ⟨rfl, hs27, hg27⟩
          rw [tagL_made ⟨bF.length, [101, 109, 45, 50], cl, S⟩ bF.length rfl] at hs27
          have H27 := Lib.hid (show Sheet w27 g k (spans S (List.replicate bF.length 2)) ∧ w27.heap[tp]? = some (tgC bF.length ⟨#[101, 109, 45, 50]⟩ cl (.slice A16 S.length c16)) ∧ w27.ownsRow base 54 2 (.slice A16 S.length c16) S.length (spC S) ∧ w27.ownsRow w.heap.size 54 2 (.slice A6 S.length c6) S.length (spC S) ∧ Below w.heap.size w w27 from
            ⟨hs27, blk_grown H26.out.2.1 hg27 (by intro e; injection e with e; exact blk_ne H26.out.2.1 H26.out.1.2.1 (by decide) e), H26.out.2.2.1.kept hg27 (Or.inr (own_ne H26.out.2.2.1 H26.out.1.2.1 (by decide))), H26.out.2.2.2.1.kept hg27 (Or.inr (own_ne H26.out.2.2.2.1 H26.out.1.2.1 (by decide))), below_grown H26.out.2.2.2.2 hkW hg27⟩)
          clear hs27 hg27 H26 k0 k1 k2 k3
          obtain ⟨k0, k1, k2, k3⟩ := tg_cells H27.out.2.1
          go_upto_block 2 with fail
          clear k0 k1 k2 k3
          go_wp2_with fail
          go_loopg [143] S.length (fun gn pv wr => ∃ j : Nat, pv = .int .i64 j ∧ j ≤ S.length ∧ Hid (Sheet wr g k (spans (S.drop j) (List.replicate bF.length 2)) ∧ wr.ownsRow base 54 2 (.slice A16 S.length c16) S.length (spC S) ∧ wr.ownsRow w.heap.size 54 2 (.slice A6 S.length c6) S.length (spC S) ∧ Below w.heap.size w wr ∧ gn = S.length - j))
          case atStart => exact ⟨0, rfl, Nat.zero_le _, H27.out.1, H27.out.2.2.1, H27.out.2.2.2.1, H27.out.2.2.2.2, rfl⟩
          case round =>
            obtain ⟨j, rfl, hj, HR⟩ := hrel
            clear H27
            by_cases hjl : j < S.length
            · have hjd : decide ((j : Int) < (S.length : Int)) = true := by simp; omega
              obtain ⟨u, z, huz⟩ : ∃ u z, S[j]? = some (u, z) := ⟨_, _, List.getElem?_eq_getElem hjl⟩
              obtain ⟨lo', hlo⟩ := apart_drop j S _ _ HAp.out.1
              have hdr : S.drop j = (u, z) :: S.drop (j + 1) := by
                rw [List.drop_eq_getElem_cons hjl]
                congr 1
                exact Option.some.inj ((List.getElem?_eq_getElem hjl).symm.trans huz)
              rw [hdr] at hlo
              have hhd := spans_head (u, z) (S.drop (j + 1)) lo' _ bF.length (List.replicate bF.length 2) (List.length_replicate ..) hlo HAp.out.2
              have hun := spans_undo (u, z) (S.drop (j + 1)) lo' _ bF.length hlo HAp.out.2
              have hsh := HR.out.1
              rw [hdr] at hsh
              have huzb := (apart_ok _ _ _ HAp.out.1).2 u z (List.mem_of_getElem? huz)
              have hub : u + z ≤ 300 := by have h2 := HAp.out.2; have h3 := HF.out.1; omega
              obtain ⟨g1, rfl, hg1, d0, d1⟩ := span_at HR.out.2.1 huz
              obtain ⟨g2, rfl, hg2, e0, e1⟩ := span_at HR.out.2.2.1 huz
              have HS1 := Lib.hid (And.intro hsh (And.intro hhd hun))
              clear hsh hhd hun hlo hdr huz huzb
              generalize hLL : spans ((u, z) :: S.drop (j + 1)) (List.replicate bF.length 2) = LL at *
              clear hLL
              go_upto_region 29 with fail
              have H29 := Lib.hid (show Sheet (wr.alloc (.cells #[.int .i64 (u : Int), .int .i64 (z : Int)] 54 (0, 0))) g k LL ∧ (wr.alloc (.cells #[.int .i64 (u : Int), .int .i64 (z : Int)] 54 (0, 0))).ownsRow base 54 2 (.slice (some ⟨g1, 0, none⟩) S.length c16) S.length (spC S) ∧ (wr.alloc (.cells #[.int .i64 (u : Int), .int .i64 (z : Int)] 54 (0, 0))).ownsRow w.heap.size 54 2 (.slice (some ⟨g2, 0, none⟩) S.length c6) S.length (spC S) ∧ Below w.heap.size w (wr.alloc (.cells #[.int .i64 (u : Int), .int .i64 (z : Int)] 54 (0, 0))) from
                ⟨HS1.out.1.alloc _, HR.out.2.1.alloc _, HR.out.2.2.1.alloc _, below_alloc HR.out.2.2.2.1 _⟩)
              have HG := Lib.hid HR.out.2.2.2.2
              have hpb := blk_new wr (.cells #[.int .i64 (u : Int), .int .i64 (z : Int)] 54 (0, 0))
              have q0 : (wr.alloc (.cells #[.int .i64 (u : Int), .int .i64 (z : Int)] 54 (0, 0))).cell? ⟨wr.heap.size, 0, none⟩ = some (.int .i64 u) := (blk_cell hpb 0).trans rfl
              have q1 : (wr.alloc (.cells #[.int .i64 (u : Int), .int .i64 (z : Int)] 54 (0, 0))).cell? ⟨wr.heap.size, 1, none⟩ = some (.int .i64 z) := (blk_cell hpb 1).trans rfl
              have r0 : (wr.alloc (.cells #[.int .i64 (u : Int), .int .i64 (z : Int)] 54 (0, 0))).cell? ⟨g2, j * 2, none⟩ = some (.int .i64 u) := by
                rw [(below_alloc (Below.refl wr.heap.size wr) _).cell (p := ⟨g2, j * 2, none⟩) hg2]
                exact e0
              have r1 : (wr.alloc (.cells #[.int .i64 (u : Int), .int .i64 (z : Int)] 54 (0, 0))).cell? ⟨g2, j * 2 + 1, none⟩ = some (.int .i64 z) := by
                rw [(below_alloc (Below.refl wr.heap.size wr) _).cell (p := ⟨g2, j * 2 + 1, none⟩) hg2]
                exact e1
              have HPB := Lib.hid hpb
              clear hpb HR d0 d1 e0 e1 hg1 hg2
              generalize wr.alloc (.cells #[.int .i64 (u : Int), .int .i64 (z : Int)] 54 (0, 0)) = w30 at *
              generalize wr.heap.size = pb at *
              have HXu := Lib.hid (show LL[u]? = some 1 from HS1.out.2.1)
              go_quiet ((refine (at_in g k LL u 1 _ (H29.out.1.drewN _) HXu.out).mono ?_; rintro e w' ⟨rfl, rfl⟩; exact ⟨rfl, _, rfl⟩))
              have q0' : (w30.drewN nq).cell? ⟨pb, 0, none⟩ = some (.int .i64 u) := q0
              have q1' : (w30.drewN nq).cell? ⟨pb, 1, none⟩ = some (.int .i64 z) := q1
              have H30 := Lib.hid (And.intro (H29.out.1.drewN nq) (And.intro (own_drewN H29.out.2.1 nq) (And.intro (own_drewN H29.out.2.2.1 nq) (pw_below_drewN H29.out.2.2.2 nq))))
              clear q0 q1 r0 r1 H29 HPB
              generalize w30.drewN nq = w31 at *
              go_wp2_with fail
              refine (set_any g k LL 2 u ((u : Int) + (z : Int)) _ H30.out.1).mono ?_
              rintro e w32 ⟨rfl, hs32, hg32⟩
              have H32 := Lib.hid (show Sheet w32 g k (spans (S.drop (j + 1)) (List.replicate bF.length 2)) ∧ w32.ownsRow base 54 2 (.slice (some ⟨g1, 0, none⟩) S.length c16) S.length (spC S) ∧ w32.ownsRow w.heap.size 54 2 (.slice (some ⟨g2, 0, none⟩) S.length c6) S.length (spC S) ∧ Below w.heap.size w w32 from
                ⟨HS1.out.2.2 ▸ hs32, H30.out.2.1.kept hg32 (Or.inr (own_ne H30.out.2.1 H30.out.1.2.1 (by decide))), H30.out.2.2.1.kept hg32 (Or.inr (own_ne H30.out.2.2.1 H30.out.1.2.1 (by decide))), below_grown H30.out.2.2.2 hkW hg32⟩)
              clear hs32 hg32 H30 q0' q1'
              go_wp2_with fail
              go_roundg (S.length - (j + 1))
              case measure => have := HG.out; omega
              case rel => exact ⟨j + 1, by go_num, by omega, H32.out.1, H32.out.2.1, H32.out.2.2.1, H32.out.2.2.2, rfl⟩
            · obtain rfl : j = S.length := by omega
              have hjd : decide ((S.length : Int) < (S.length : Int)) = false := by simp
              have hsh := HR.out.1
              rw [List.drop_length] at hsh
              have HSF := Lib.hid (And.intro (show Sheet wr g k (List.replicate bF.length 2) from hsh) HR.out.2.2.2.1)
              have hpos : 0 < bF.length := by rw [HF.out.2]; simp; omega
              have HX0 := Lib.hid (show (List.replicate bF.length (2 : Int))[0]? = some 2 from by rw [List.getElem?_replicate, if_pos hpos])
              have HSg := Lib.hid (segs_two bF.length hpos)
              clear hsh HR hpos
              go_wp2_with fail
              refine (segs_any g k _ _ HSF.out.1).mono ?_
              rintro e w33 ⟨v33, rfl, ho33, hb33⟩
              rw [HSg.out] at ho33
              obtain ⟨A33, c33, rfl⟩ := own_form ho33
              have HSG := Lib.hid (And.intro (HSF.out.1.below hb33) (below_step HSF.out.2 hb33))
              clear ho33 hb33 HSF
              go_wp2_with fail
              refine (at_in g k _ 0 2 _ HSG.out.1 HX0.out).mono ?_
              rintro e w34 ⟨rfl, rfl⟩
              go_wp2_with fail
              go_ret
              exact ⟨rfl, HSG.out.2⟩
end Go.Proofs.Ytcbibbdkjhkmoaa.H
namespace Go.Proofs.Ytcbibbdkjhkmoaa.Wk.HtmlMade
open Go.RowKit Go.Proofs.YtcbibbdkjhkmoaaW.PrintWords Go.Proofs.Ytcbibbdkjhkmoaa.S Go.Proofs.Ytcbibbdkjhkmoaa.H
theorem walk (A0 : Option Addr) (c0 : Nat) (l0 : List Int) (A1 : Option Addr) (c1 : Nat) (l1 : List (List Int)) (a2 : Bool) (A3 : Option Addr) (c3 : Nat) (l3 : List Int) (w : World) (hM : Mx w) (hr0 : Kd.C (Kd.int .u8) w A0 l0.length l0) (hc0 : l0.length ≤ c0) (hg0 : Bys l0 ∧ l0.length ≤ 140737488351232) (hr1 : Kd.C (Kd.slice 5 (Kd.int .u8)) w A1 l1.length l1) (hc1 : l1.length ≤ c1) (hg1 : (∀ x ∈ l1, Bys x ∧ x.length ≤ 140737488351232) ∧ l1.length ≤ 140737488351232) (hr3 : Kd.C (Kd.int .u8) w A3 l3.length l3) (hc3 : l3.length ≤ c3) (hg3 : Bys l3 ∧ l3.length ≤ 140737488351232) :
    Calls Try.prog 6 #[.slice A0 l0.length c0, .slice A1 l1.length c1, .bool a2, .slice A3 l3.length c3] w fun e w' => e = .returned (.bool true) ∧ Below w.heap.size w w' :=
  htmlMade_any A0 c0 l0 A1 c1 l1 a2 A3 c3 l3 w hM hr0 hg0.1 hg0.2 hr1 hg1.1 hg1.2 hr3 hg3.1 hg3.2
end Go.Proofs.Ytcbibbdkjhkmoaa.Wk.HtmlMade
