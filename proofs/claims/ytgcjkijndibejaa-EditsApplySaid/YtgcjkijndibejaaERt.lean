/- The reference's Tidy, walked: it answers what Tidy answers. Conditions: as each lemma says. -/
import Derived.Test.YtgcjkijndibejaaPTidyx1
import Derived.Test.YtgcjkijndibejaaECv
set_option linter.unusedVariables false
set_option linter.unusedSimpArgs false
namespace Go.Proofs.Ytgcjkijndibejaa.Srt
open Go.Lib hiding bytesOf bytesOf_length
open Go.Shelf Go.RowKit Go.Proofs.YtgcjkijndibejaaW.PrintWords Go.Proofs.YtgcjkijndibejaaW.PrintLast

theorem add_offE (g o n : Nat) : (⟨g, o, none⟩ : Addr).add n = ⟨g, o + n, none⟩ := by
  unfold Addr.add
  by_cases h : n = 0 <;> simp [h]
theorem OeLit (w0 W : World) (h : Below w0.heap.size w0 W) : Oe w0 (W.alloc (.cells #[] 46)) (.slice (some ⟨W.heap.size, 0, none⟩) 0 0) [] := by
  refine ⟨?_, below_alloc h _⟩
  have h := World.ownsRow_lit (base := w0.heap.size) (e := 46) (size := 3) W #[] 0 h.size (by simp [maxLen]) (by simp)
  have h : (W.alloc (.cells #[] 46)).ownsRow w0.heap.size 46 3 (.slice (some ⟨W.heap.size, 0, none⟩) 0 0) 0 [] := by simpa using h
  exact h
/-- Edits appended onto a row of one's own. -/
theorem OeAppendR {w0 W : World} {v : Value} {es : List Ed} (h : Oe w0 W v es) (A : Option Addr) (n c : Nat) (ls : List Ed) (hn : n = ls.length) (hE : EdR W (.slice A n c) ls) (hl : es.length + ls.length ≤ 1000000) (ty : TypeId) :
    ∃ v1 w1, (Builtin.append_ #[23, 23] ty #[v, .slice A n c]).run Try.prog W = .ok v1 w1 ∧ Oe w0 w1 v1 (es ++ ls) ∧ W.grownBy w1 v.ownBlock := by
  subst hn
  obtain ⟨i0, hi, hz0, hz1, hz2⟩ := info_parts info46
  have ht := Try.underlying23
  rcases hE with ⟨he, rfl⟩ | ⟨g, of, c2, he, hc2, hg, hcells⟩
  · injection he with hA hn hc
    subst hA; subst hc
    refine ⟨v, W, ?_, by rw [List.append_nil]; exact h, World.grownBy.refl W _⟩
    rcases h.own.2 with ⟨rfl, hn⟩ | ⟨g, cap, cur, rfl, _, _, hnc, _⟩
    · simp [Builtin.append_, run_underlying ht, sizeOf, typeInfo, hi, Builtin.lenOf, Builtin.firstCells]
    · simp [Builtin.append_, run_underlying ht, sizeOf, typeInfo, hi, Builtin.lenOf, Builtin.firstCells, hnc, storeCells]
  · injection he with hA hn hc
    subst hA; subst hc
    have hl3 : (edC ls).length = ls.length * 3 := edC_length ls
    obtain ⟨v1, w1, hr, h2, h3, _⟩ := run_append_own (P := Try.prog) (w := W) w0.heap.size 23 ty 46 i0 (.agg #[(.int .i64 0), (.int .i64 0), (.string ⟨#[]⟩)]) 3 32 Try.underlying23 hi hz0 hz1 hz2 rfl (by omega) v es.length (edC es) h.own ⟨g, of, none⟩ ls.length c (edC ls) hl3
      (fun j u hu => by
        have hj : j < ls.length * 3 := by rw [← hl3]; exact (List.getElem?_eq_some_iff.1 hu).1
        rw [add_offE, hcells j hj, hu])
      (fun u hu => by
        unfold edC at hu
        obtain ⟨x, _, hx⟩ := List.mem_flatMap.1 hu
        simp only [encE, List.mem_cons, List.not_mem_nil, or_false] at hx
        rcases hx with rfl | rfl | rfl <;> rfl)
      (by simp only [maxLen]; omega) (by omega) h.bel.size
    refine ⟨v1, w1, hr, ⟨?_, h.bel.grown h3 h.bel.size (fun k hk => (h.own.lt k hk).1)⟩, h3⟩
    have e : edC (es ++ ls) = edC es ++ edC ls := by unfold edC; rw [List.flatMap_append]
    rw [e, List.length_append]
    exact h2
theorem edC_take (es : List Ed) (k t : Nat) (h : t < (es.take k).length * 3) : (edC (es.take k))[t]? = (edC es)[t]? := by
  have hk : (es.take k).length ≤ es.length := by rw [List.length_take]; omega
  rw [edC_get _ _ h, edC_get _ _ (by omega)]
  have h3 : t / 3 < (es.take k).length := by omega
  have h4 : t / 3 < k := by rw [List.length_take] at h3; omega
  simp only [List.getD_eq_getElem?_getD, List.getElem?_take_of_lt h4]
theorem edC_drop (es : List Ed) (k t : Nat) (h : t < (es.drop k).length * 3) : (edC (es.drop k))[t]? = (edC es)[k * 3 + t]? := by
  have hk : (es.drop k).length = es.length - k := List.length_drop
  rw [edC_get _ _ h, edC_get _ _ (by omega)]
  have h3 : (k * 3 + t) / 3 = k + t / 3 := by omega
  have h4 : (k * 3 + t) % 3 = t % 3 := by omega
  rw [h3, h4]
  simp only [List.getD_eq_getElem?_getD, List.getElem?_drop]
theorem EdR.take {W : World} {A : Option Addr} {n c : Nat} {es : List Ed} (h : EdR W (.slice A n c) es) (k : Nat) (hk : k ≤ es.length) : EdR W (.slice A k c) (es.take k) := by
  rcases h with ⟨he, rfl⟩ | ⟨g, of, c2, he, hc2, hg, hcells⟩
  · injection he with hA hn hc
    subst hA; subst hc
    obtain rfl : k = 0 := by simpa using hk
    exact .inl ⟨rfl, rfl⟩
  · injection he with hA hn hc
    subst hA; subst hc
    have hl : (es.take k).length = k := by rw [List.length_take]; omega
    refine .inr ⟨g, of, c, by rw [hl], by omega, hg, fun t ht => ?_⟩
    rw [hcells t (by omega), edC_take es k t ht]
theorem EdR.drop {W : World} {A : Option Addr} {n c : Nat} {es : List Ed} (h : EdR W (.slice A n c) es) (k : Nat) (hk : k ≤ es.length) : EdR W (.slice (if c = k then A else A.map (·.add (k * 3))) (n - k) (c - k)) (es.drop k) := by
  rcases h with ⟨he, rfl⟩ | ⟨g, of, c2, he, hc2, hg, hcells⟩
  · injection he with hA hn hc
    subst hA; subst hn; subst hc
    obtain rfl : k = 0 := by simpa using hk
    exact .inl ⟨rfl, rfl⟩
  · injection he with hA hn hc
    subst hA; subst hn; subst hc
    have hl : (es.drop k).length = es.length - k := List.length_drop
    by_cases hck : c = k
    · rw [if_pos hck]
      exact .inr ⟨g, of, c - k, by rw [hl], by omega, hg, fun t ht => by omega⟩
    · rw [if_neg hck]
      refine .inr ⟨g, of + k * 3, c - k, by rw [hl]; show Value.slice (some ((⟨g, of, none⟩ : Addr).add (k * 3))) _ _ = _; rw [add_offE], by omega, hg, fun t ht => ?_⟩
      rw [edC_drop es k t ht, Nat.add_assoc]
      exact hcells _ (by omega)
theorem cut_to_e (A : Option Addr) (n c p : Nat) (hp : p ≤ n) (hc : n ≤ c) : ∀ W : World, (Instr.slice 23 (.slice A n c) none (some (.int .i64 p)) none).run Try.prog W = .ok (.slice A p c) W := by
  obtain ⟨i0, hi0, _, hsz, _⟩ := info_parts info46
  have := cut_to (P := Try.prog) 23 46 .i64 Try.underlying23 hi0 A n c (p : Int) (by omega) (by omega) hc
  simpa using this
theorem cut_from_e (A : Option Addr) (n c p : Nat) (hp : p ≤ n) : ∀ W : World, (Instr.slice 23 (.slice A n c) (some (.int .i64 p)) none none).run Try.prog W = .ok (.slice (if c = p then A else A.map (·.add (p * 3))) (n - p) (c - p)) W := by
  obtain ⟨i0, hi0, _, hsz, _⟩ := info_parts info46
  have := cut_from (P := Try.prog) 23 46 .i64 Try.underlying23 hi0 3 hsz A n c (p : Int) (by omega) (by omega)
  simpa using this
theorem in_any (p q : Int) (n : Nat) (t : ByteArray) (w : World) (hn : n ≤ 1000000000) : Calls Try.prog 26 #[.agg #[.int .i64 p, .int .i64 q], .int .i64 n] w fun x w' => x = .returned (.bool (chk n (p, q, t))) ∧ Below w.heap.size w w' := by
  have h : PTidy.redpenref01_In.f p q n = some (chk n (p, q, t)) := by
    unfold PTidy.redpenref01_In.f chk
    show _ = some (decide (0 ≤ p) && decide (0 ≤ q) && decide (p ≤ (n : Int)) && decide (q ≤ (n : Int) - p))
    by_cases h1 : 0 ≤ p
    · rw [if_pos h1, decide_eq_true h1]
      by_cases h2 : 0 ≤ q
      · rw [if_pos h2, decide_eq_true h2]
        by_cases h3 : p ≤ (n : Int)
        · have hw : wrap64 ((n : Int) - p) = (n : Int) - p := by unfold wrap64; omega
          rw [if_pos h3, decide_eq_true h3, hw]
          rfl
        · rw [if_neg h3, decide_eq_false h3]; simp
      · rw [if_neg h2, decide_eq_false h2]; simp
    · rw [if_neg h1, decide_eq_false h1]; simp
  refine (PTidy.redpenref01_In.calls p q n _ w h).mono ?_
  rintro x w' ⟨h1, h2⟩
  exact ⟨h1, h2⟩
/-- Where one edit more stands: behind those that are not later. -/
theorem insert_at (K : List Ed) (e : Ed) (k : Nat) (hk : k ≤ K.length) (h2 : ∀ x ∈ (srtE K).drop k, ltE e x = true) (h1 : 0 < k → ltE e ((srtE K).getD (k - 1) dE) = false) : srtE (K ++ [e]) = (srtE K).take k ++ e :: (srtE K).drop k := by
  refine srtE_snoc K e k (fun x hx => ?_) h2
  have hl := srtE_length K
  obtain ⟨j, hj, rfl⟩ := List.getElem_of_mem hx
  rw [List.length_take] at hj
  have h3 := h1 (by omega)
  rw [List.getD_eq_getElem?_getD, List.getElem?_eq_getElem (by omega), Option.getD_some] at h3
  rw [List.getElem_take]
  by_cases hjk : j = k - 1
  · subst hjk
    exact h3
  · have h4 := List.pairwise_iff_getElem.1 (srtE_sorted K) j (k - 1) (by omega) (by omega) (by omega)
    rw [ltE_nff] at h3 h4 ⊢
    omega
set_option maxRecDepth 100000 in
set_option maxHeartbeats 8000000 in
theorem refTidy_any (A : Option Addr) (c : Nat) (b : List Int) (v : Value) (es : List Ed) (W : World) (hC : Kd.C (Kd.int .u8) W A b.length b) (hc : b.length ≤ c) (hE : EdR W v es) (hb : b.length ≤ 100000) (hn : es.length ≤ 500) :
    Calls Try.prog 13 #[.slice A b.length c, v] W fun e w' => ∃ v', e = .returned (.tuple #[v', .int .i64 (tidy b es).1]) ∧ Oe W w' v' (tidy b es).2 := by
  have HC := Lib.hid (And.intro hC hc)
  have hE2 := hE
  obtain ⟨A1, c1, rfl, hc1, hR⟩ := hE2.form
  have HR := Lib.hid hR
  have hTd : tidy b es = if es.all (chk b.length) = true then (if okL (srtE (kept b es)) = true then (0, srtE (kept b es)) else (8, [])) else (2, []) := by unfold tidy; rw [if_neg (by omega)]
  have HTd := Lib.hid hTd
  have hd65 : decide ((65536 : Int) < (es.length : Int)) = false := by simp; omega
  have HE := Lib.hid hE
  clear hC hc hE hE2 hR hTd
  go_enter Try.func13, Try.ntmps13
  go_upto_block 0 with fail
  go_wp2_with fail
  go_loopg [6, 7] es.length (fun gn ov iv wr => ∃ i : Nat, iv = .int .i64 i ∧ i ≤ es.length ∧ Hid (Oe W wr ov (srtE (kept b (es.take i))) ∧ (es.take i).all (chk b.length) = true ∧ gn = es.length - i))
  case atStart => exact ⟨0, rfl, Nat.zero_le _, ⟨by rw [show srtE (kept b (es.take 0)) = [] from srtE_nil]; exact World.ownsRow_nil _ _ _ _, Below.refl _ _⟩, rfl, rfl⟩
  case round =>
  obtain ⟨i, rfl, hi, HQ⟩ := hrel
  obtain ⟨A6, c6, rfl, hc6, hR6⟩ := HQ.out.1.form
  by_cases hlt : i < es.length
  · have hdl : decide ((i : Int) < (es.length : Int)) = true := by simp; omega
    have hsn := kept_snoc b es i hlt
    obtain ⟨g, of, rfl, hg, hcell⟩ := HR.out (by omega)
    have kp : ∀ j, j < 3 → W.cell? ⟨g, of + (i * 3 + j), none⟩ = (encE (es.getD i dE))[j]? := fun j hj => hcell i j hlt hj
    obtain ⟨x, hx⟩ : ∃ x, es.getD i dE = x := ⟨_, rfl⟩
    have k0 := kp 0 (by omega)
    have k1 := kp 1 (by omega)
    have k2 := kp 2 (by omega)
    rw [hx] at hsn k0 k1 k2
    obtain ⟨a0, l0, t0⟩ := x
    have k0 : W.cell? ⟨g, of + i * 3, none⟩ = some (.int .i64 a0) := k0
    have k1 : W.cell? ⟨g, of + i * 3 + 1, none⟩ = some (.int .i64 l0) := k1
    have k2 : W.cell? ⟨g, of + i * 3 + 2, none⟩ = some (.string t0) := k2
    have HK := Lib.hid (show ∀ w' : World, Below W.heap.size W w' → w'.cell? ⟨g, of + i * 3, none⟩ = some (.int .i64 a0) ∧ w'.cell? ⟨g, of + i * 3 + 1, none⟩ = some (.int .i64 l0) ∧ w'.cell? ⟨g, of + i * 3 + 2, none⟩ = some (.string t0) from fun w' h => ⟨(h.cell (p := ⟨g, of + i * 3, none⟩) hg).trans k0, (h.cell (p := ⟨g, of + i * 3 + 1, none⟩) hg).trans k1, (h.cell (p := ⟨g, of + i * 3 + 2, none⟩) hg).trans k2⟩)
    have HSn := Lib.hid hsn
    have HX := Lib.hid hx
    have hkl := kept_len b (es.take i)
    rw [List.length_take] at hkl
    have HSl := Lib.hid (srtE_length (kept b (es.take i)))
    clear kp hx hcell hsn k0 k1 k2 hg hR6
    obtain ⟨k0, k1, _⟩ := HK.out _ HQ.out.1.bel
    go_wp2_with fail
    clear k0 k1
    refine (in_any a0 l0 b.length t0 _ (by omega)).mono ?_
    rintro e w2 ⟨rfl, hb2⟩
    have hbx := blk_below (blk_new wr (.cells #[.int .i64 a0, .int .i64 l0] 44)) hb2
    have B0 : w2.cell? ⟨wr.heap.size, 0, none⟩ = some (.int .i64 a0) := (blk_cell hbx 0).trans rfl
    have B1 : w2.cell? ⟨wr.heap.size, 1, none⟩ = some (.int .i64 l0) := (blk_cell hbx 1).trans rfl
    have HBx := Lib.hid hbx
    have HO2 := Lib.hid ((HQ.out.1.below (below_alloc (Below.refl _ _) _)).below hb2)
    have HAl := Lib.hid HQ.out.2
    clear hb2 hbx HQ
    generalize wr.heap.size = bx at *
    cases hck : chk b.length (a0, l0, t0) with
    | false =>
      have HT := Lib.hid (show tidy b es = (2, []) from by
        rw [HTd.out, if_neg]
        intro h
        have := List.all_eq_true.1 h (es.getD i dE) (by rw [List.getD_eq_getElem?_getD, List.getElem?_eq_getElem hlt]; exact List.getElem_mem _)
        rw [HX.out, hck] at this
        cases this)
      go_wp2_with fail
      go_ret2
      exact ⟨.slice none 0 0, by rw [HT.out]; rfl, by rw [HT.out]; exact ⟨World.ownsRow_nil _ _ _ _, HO2.out.bel⟩⟩
    | true =>
      have hck2 := (chk_iff _ _).1 hck
      obtain ⟨q1, q2, q3⟩ := hck2
      have q1 : 0 ≤ a0 := q1
      have q2 : 0 ≤ l0 := q2
      have q3 : a0 + l0 ≤ (b.length : Int) := q3
      obtain ⟨p, rfl⟩ : ∃ p : Nat, a0 = p := ⟨a0.toNat, by omega⟩
      obtain ⟨q, rfl⟩ : ∃ q : Nat, l0 = q := ⟨l0.toNat, by omega⟩
      obtain ⟨r, hr⟩ : ∃ r : Nat, (p : Int) + (q : Int) = (r : Int) := ⟨p + q, by omega⟩
      have rr : IntKind.i64.wrap (r : Int) = (r : Int) := by rw [IntKind.wrap_i64]; omega
      have hrb : r ≤ b.length := by omega
      have hpr : p ≤ r := by omega
      have hrq : r - p = q := by omega
      have hct := cut_b A b.length c p r hpr hrb HC.out.2
      have hCm := C_mid (Kd.C_below HC.out.1 HO2.out.bel) HC.out.2 p r hpr hrb
      have hcutE : cut b ((p : Int), (q : Int), t0) = (b.drop p).take (r - p) := by unfold cut; rw [hrq]; rfl
      rw [← hcutE] at hCm
      rw [hrq] at hct hCm
      generalize (if c = p then A else A.map (·.add (p * 1))) = A2 at *
      have hcv : ∀ n, (convert 22 9 (.slice A2 q (c - p))).run Try.prog (w2.drewN n) = .ok (.string (strOfNums (cut b ((p : Int), (q : Int), t0)))) (w2.drewN n) := fun n => conv_C (Kd.C_below hCm (pw_below_drewN (Below.refl _ _) n))
      obtain ⟨D, hD⟩ : ∃ D : Bool, chg b ((p : Int), (q : Int), t0) = D := ⟨_, rfl⟩
      have HY := Lib.hid (show D = decide (¬ (strOfNums (cut b ((p : Int), (q : Int), t0))).toList = t0.toList) from hD.symm)
      rw [hD] at HSn
      generalize strOfNums (cut b ((p : Int), (q : Int), t0)) = Y at *
      have HCk := Lib.hid hck
      obtain ⟨_, _, k2⟩ := HK.out _ HO2.out.bel
      clear hCm hcutE hck q1 q2 q3 hD
      go_upto_region 10 with fail
      go_cut [45] (fun v wx => v = .bool (!D) ∧ Hid (∃ n, wx = w2.drewN n))
      case first =>
        go_quiet (fail)
        go_wp2_with fail
        go_meet
        refine ⟨?_, ⟨_, rfl⟩⟩
        congr 1
        rw [HY.out, Bool.eq_iff_iff]
        simp
      case rest =>
      obtain ⟨rfl, HN⟩ := hcut
      obtain ⟨nq, hnq⟩ := HN.out
      have hb3 : Below w2.heap.size w2 wc := by rw [hnq]; exact pw_below_drewN (Below.refl _ _) nq
      have HO3 := Lib.hid (HO2.out.below hb3)
      have HA3 := Lib.hid (show (es.take (i + 1)).all (chk b.length) = true from by
        rw [List.take_add_one, List.all_append, HAl.out.1, List.getElem?_eq_getElem hlt]
        have := HX.out
        rw [List.getD_eq_getElem?_getD, List.getElem?_eq_getElem hlt] at this
        have e2 : es[i] = ((p : Int), (q : Int), t0) := this
        simp only [Option.toList_some, List.all_cons, List.all_nil, Bool.and_true, Bool.true_and]
        rw [e2]; exact HCk.out)
      have HBx3 := Lib.hid (blk_below HBx.out hb3)
      clear hct hcv HN hnq hb3 HO2 B0 B1 k2 HY HBx
      cases D with
      | false =>
        have HK2 := Lib.hid (show kept b (es.take (i + 1)) = kept b (es.take i) from by rw [HSn.out, if_neg (by simp)])
        go_wp2_with fail
        go_roundg (es.length - (i + 1))
        case measure => have := HAl.out.2; omega
        case rel => exact ⟨i + 1, by go_num, by omega, by rw [HK2.out]; exact HO3.out, HA3.out, rfl⟩
      | true =>
        have HK2 := Lib.hid (show kept b (es.take (i + 1)) = kept b (es.take i) ++ [((p : Int), (q : Int), t0)] from by rw [HSn.out, if_pos rfl])
        have HIn := Lib.hid (insert_at (kept b (es.take i)) ((p : Int), (q : Int), t0))
        generalize kept b (es.take i) = K at *
        generalize srtE K = O at *
        have hOK : O.length = K.length := HSl.out
        have hOl : O.length ≤ 500 := by omega
        have HOK := Lib.hid hOK
        clear hOK HSl
        obtain ⟨wo, rfl⟩ : ∃ wo : World, wo = wc := ⟨_, rfl⟩
        go_upto_block 2 with fail
        go_cut [9] (fun kv wx => ∃ k : Nat, kv = .int .i64 k ∧ k ≤ O.length ∧ Hid (srtE (K ++ [((p : Int), (q : Int), t0)]) = O.take k ++ ((p : Int), (q : Int), t0) :: O.drop k ∧ Below wo.heap.size wo wx))
        case first =>
          obtain ⟨AO, cO, hvO, hcO, hRO⟩ := HO3.out.form
          have hRO2 := hRO
          injection hvO with hA6 _ hc6'
          subst hA6
          subst hc6'
          have HRO := Lib.hid hRO
          clear hcO hRO hRO2
          go_wp2_with fail
          go_loopg [9] O.length (fun gn kv wr => ∃ k : Nat, kv = .int .i64 k ∧ k ≤ O.length ∧ Hid ((∀ x ∈ O.drop k, ltE ((p : Int), (q : Int), t0) x = true) ∧ Below wo.heap.size wo wr ∧ gn = k))
          case atStart => exact ⟨O.length, rfl, Nat.le_refl _, fun x hx => by rw [List.drop_length] at hx; exact (List.not_mem_nil hx).elim, Below.refl _ _, rfl⟩
          case round =>
          obtain ⟨k, rfl, hk, HJ⟩ := hrel
          have hbx := blk_below HBx3.out HJ.out.2.1
          have B0 : wr.cell? ⟨bx, 0, none⟩ = some (.int .i64 p) := (blk_cell hbx 0).trans rfl
          have B1 : wr.cell? ⟨bx, 1, none⟩ = some (.int .i64 q) := (blk_cell hbx 1).trans rfl
          clear hbx
          go_upto_region 12 with fail
          by_cases hk0 : k = 0
          · subst hk0
            have hd0 : decide ((0 : Int) < ((0 : Nat) : Int)) = false := rfl
            go_quiet (fail)
            go_wp2_with fail
            go_meet
            exact ⟨0, rfl, by omega, HIn.out 0 (by omega) HJ.out.1 (fun h => absurd h (by omega)), pw_below_drewN HJ.out.2.1 _⟩
          · have hd0 : decide ((0 : Int) < (k : Int)) = true := by simp; omega
            obtain ⟨h, hh⟩ : ∃ h : Nat, (k : Int) - 1 = (h : Int) := ⟨k - 1, by omega⟩
            have hhl : h < O.length := by omega
            have hd0b : decide (0 < k) = true := by simp; omega
            have hd0c : 0 < k := by omega
            have rh : IntKind.i64.wrap (h : Int) = (h : Int) := by rw [IntKind.wrap_i64]; omega
            obtain ⟨gO, oO, rfl, hgO, hcO⟩ := HRO.out (by omega)
            have kp : ∀ t, t < 3 → wr.cell? ⟨gO, oO + (h * 3 + t), none⟩ = (encE (O.getD h dE))[t]? := fun t ht => (HJ.out.2.1.cell (p := ⟨gO, oO + (h * 3 + t), none⟩) hgO).trans (hcO h t hhl ht)
            obtain ⟨y, hy⟩ : ∃ y, O.getD h dE = y := ⟨_, rfl⟩
            have k0 := kp 0 (by omega)
            have k1 := kp 1 (by omega)
            rw [hy] at k0 k1
            obtain ⟨y1, y2, yt⟩ := y
            have k0 : wr.cell? ⟨gO, oO + h * 3, none⟩ = some (.int .i64 y1) := k0
            have k1 : wr.cell? ⟨gO, oO + h * 3 + 1, none⟩ = some (.int .i64 y2) := k1
            have HY := Lib.hid hy
            clear kp hy hcO hgO HRO
            by_cases g1 : (p : Int) < y1
            · have hd1 : decide ((p : Int) < y1) = true := decide_eq_true g1
              have HV := Lib.hid (show ltE ((p : Int), (q : Int), t0) (y1, y2, yt) = true from (ltE_iff _ _).2 (.inl g1))
              go_quiet (fail)
              go_wp2_with fail
              go_roundg h
              case measure => have := HJ.out.2.2; omega
              case rel =>
                refine ⟨h, by go_num, by omega, ⟨fun x hx => ?_, pw_below_drewN HJ.out.2.1 _, rfl⟩⟩
                rw [drop_getD O h hhl] at hx
                rcases List.mem_cons.1 hx with rfl | hx
                · rw [HY.out]; exact HV.out
                · exact HJ.out.1 x (by rw [show k = h + 1 by omega]; exact hx)
            · have hd1 : decide ((p : Int) < y1) = false := decide_eq_false g1
              by_cases g2 : y1 = (p : Int)
              · have hd2 : (y1 == (p : Int)) = true := by rw [beq_iff_eq]; exact g2
                by_cases g3 : (q : Int) < y2
                · have hd3 : decide ((q : Int) < y2) = true := decide_eq_true g3
                  have HV := Lib.hid (show ltE ((p : Int), (q : Int), t0) (y1, y2, yt) = true from (ltE_iff _ _).2 (.inr ⟨g2.symm, g3⟩))
                  clear g2
                  go_quiet (fail)
                  go_wp2_with fail
                  go_roundg h
                  case measure => have := HJ.out.2.2; omega
                  case rel =>
                    refine ⟨h, by go_num, by omega, ⟨fun x hx => ?_, pw_below_drewN HJ.out.2.1 _, rfl⟩⟩
                    rw [drop_getD O h hhl] at hx
                    rcases List.mem_cons.1 hx with rfl | hx
                    · rw [HY.out]; exact HV.out
                    · exact HJ.out.1 x (by rw [show k = h + 1 by omega]; exact hx)
                · have hd3 : decide ((q : Int) < y2) = false := decide_eq_false g3
                  have HV := Lib.hid (show ltE ((p : Int), (q : Int), t0) (y1, y2, yt) = false from (ltE_nff _ _).2 (fun h => by
                    have h : (p : Int) < y1 ∨ ((p : Int) = y1 ∧ (q : Int) < y2) := h
                    omega))
                  clear g2
                  go_quiet (fail)
                  go_wp2_with fail
                  go_meet
                  exact ⟨k, rfl, hk, HIn.out k (by have := HOK.out; omega) HJ.out.1 (fun _ => by rw [show k - 1 = h by omega, HY.out]; exact HV.out), pw_below_drewN HJ.out.2.1 _⟩
              · have hd2 : (y1 == (p : Int)) = false := by rw [beq_eq_false_iff_ne]; exact g2
                have HV := Lib.hid (show ltE ((p : Int), (q : Int), t0) (y1, y2, yt) = false from (ltE_nff _ _).2 (fun h => by
                  have h : (p : Int) < y1 ∨ ((p : Int) = y1 ∧ (q : Int) < y2) := h
                  omega))
                go_quiet (fail)
                go_wp2_with fail
                go_meet
                exact ⟨k, rfl, hk, HIn.out k (by have := HOK.out; omega) HJ.out.1 (fun _ => by rw [show k - 1 = h by omega, HY.out]; exact HV.out), pw_below_drewN HJ.out.2.1 _⟩
        case rest =>
        obtain ⟨k, rfl, hk, HJ⟩ := hcut
        have HOc := Lib.hid (HO3.out.below HJ.out.2)
        have HE6 := Lib.hid (EdR.own HOc.out.own)
        have hct1 := cut_to_e A6 O.length c6 k hk hc6
        have hct3 := cut_from_e A6 O.length c6 k hk
        have HL6 := Lib.hid (fun (w' : World) (h : Below wc.heap.size wc w') => (HE6.out.below h).drop k hk)
        generalize (if c6 = k then A6 else A6.map (·.add (k * 3))) = A9 at *
        have hb0 : Below wc.heap.size wc wc.drew := below_drew1 (Below.refl _ _)
        have hltk : (O.take k).length = k := by rw [List.length_take]; omega
        have HTk := Lib.hid (fun (w' : World) (h : Below wc.heap.size wc w') => (HE6.out.below h).take k hk)
        have HS0 := Lib.hid (HK.out _ (below_step HOc.out.bel hb0))
        -- the order 0, 4, 9
        have hl1 := OeLit wc wc.drew hb0
        have HT1 := Lib.hid (HK.out _ (below_step HOc.out.bel hl1.bel))
        obtain ⟨vA, wA, hrA, hoA, _⟩ := OeAppendR hl1 A6 k c6 (O.take k) hltk.symm (HTk.out _ hl1.bel) (by rw [hltk]; simp; omega) 23
        rw [List.nil_append] at hoA
        have HT2 := Lib.hid (HK.out _ (below_step HOc.out.bel hoA.bel))
        have hoA2 := hoA.below (below_alloc (Below.refl _ _) (.cells #[.int .i64 p, .int .i64 q, .string t0] 46 (0, 0)))
        have HT3 := Lib.hid (HK.out _ (below_step HOc.out.bel hoA2.bel))
        have HOA := Lib.hid (And.intro hoA2 (blk_new wA (.cells #[.int .i64 p, .int .i64 q, .string t0] 46 (0, 0))))
        -- the order 0, 9, 4
        have hl2 := hl1.below (below_alloc (Below.refl _ _) (.cells #[.int .i64 p, .int .i64 q, .string t0] 46 (0, 0)))
        have HT4 := Lib.hid (HK.out _ (below_step HOc.out.bel hl2.bel))
        obtain ⟨vB, wB, hrB, hoB, hgB⟩ := OeAppendR hl2 A6 k c6 (O.take k) hltk.symm (HTk.out _ hl2.bel) (by rw [hltk]; simp; omega) 23
        rw [List.nil_append] at hoB
        have HT5 := Lib.hid (HK.out _ (below_step HOc.out.bel hoB.bel))
        have hkB := blk_new (wc.drew.alloc (.cells #[] 46)) (.cells #[.int .i64 p, .int .i64 q, .string t0] 46 (0, 0))
        rw [size_alloc1] at hkB
        have HOB := Lib.hid (And.intro hoB (blk_grown hkB hgB (by intro e; injection e with e; exact absurd e (by show ¬ wc.heap.size + 1 = wc.heap.size; omega))))
        -- the order 9, 0, 4
        have hl3 := OeLit wc (wc.drew.alloc (.cells #[.int .i64 p, .int .i64 q, .string t0] 46 (0, 0))) (below_alloc hb0 _)
        have HT6 := Lib.hid (HK.out _ (below_step HOc.out.bel (below_alloc hb0 (.cells #[.int .i64 p, .int .i64 q, .string t0] 46 (0, 0)))))
        have HT7 := Lib.hid (HK.out _ (below_step HOc.out.bel hl3.bel))
        rw [size_alloc1] at hl3
        obtain ⟨vC, wC, hrC, hoC, hgC⟩ := OeAppendR hl3 A6 k c6 (O.take k) hltk.symm (HTk.out _ hl3.bel) (by rw [hltk]; simp; omega) 23
        rw [List.nil_append] at hoC
        have HT8 := Lib.hid (HK.out _ (below_step HOc.out.bel hoC.bel))
        have hkC := blk_alloc (blk_new wc.drew (.cells #[.int .i64 p, .int .i64 q, .string t0] 46 (0, 0))) (.cells #[] 46)
        have HOC := Lib.hid (And.intro hoC (blk_grown hkC hgC (by intro e; injection e with e; exact absurd e (by show ¬ wc.heap.size = wc.heap.size + 1; omega))))
        have HTk2 := Lib.hid hltk
        have HG := Lib.hid HAl.out.2
        have HI2 := Lib.hid (show srtE (kept b (es.take (i + 1))) = O.take k ++ ((p : Int), (q : Int), t0) :: O.drop k from by rw [HK2.out, HJ.out.1])
        clear hb0 hltk hl1 hoA hoA2 hl2 hoB hgB hkB hl3 hoC hgC hkC HO3 HJ HIn HSn HX HBx3 HAl HCk HE6 HTk
        go_upto_region 14 with fail
        refine start_ (n := 16) (S := (fun W' => W'.cell? ⟨g, of + i * 3, none⟩ = some (.int .i64 p) ∧ W'.cell? ⟨g, of + i * 3 + 1, none⟩ = some (.int .i64 q) ∧ W'.cell? ⟨g, of + i * 3 + 2, none⟩ = some (.string t0))) (ds := []) #[false, false, false, false, false, false, false, false, false, false, false, false, false, false, false, false] (by kernel_rfl) rfl rfl (HS0.out) (fun hHeld => ?_)
        refine pure_ (i := 1) (N := (some 89)) (v := ?_) (a' := ?_) #[false, true, false, false, false, false, false, false, false, false, false, false, false, false, false, false] rfl rfl (by kernel_rfl) (fun _ _ _ h => h) (Or.inl ⟨by rfl, ?_⟩) ?_ ?_
        rotate_left
        · intro w'
          go_simp
          try with_reducible rfl
        rotate_left
        · simp only [Act.put, List.setIfInBounds_toArray, List.set_cons_zero, List.set_cons_succ]
          rfl
        refine pure_ (i := 2) (N := (some 90)) (v := ?_) (a' := ?_) #[false, true, true, false, false, false, false, false, false, false, false, false, false, false, false, false] rfl rfl (by kernel_rfl) (fun _ _ _ h => h) (Or.inl ⟨by rfl, ?_⟩) ?_ ?_
        rotate_left
        · intro w'
          go_simp
          try with_reducible rfl
        rotate_left
        · simp only [Act.put, List.setIfInBounds_toArray, List.set_cons_zero, List.set_cons_succ]
          rfl
        refine pure_ (i := 3) (N := (some 91)) (v := ?_) (a' := ?_) #[false, true, true, true, false, false, false, false, false, false, false, false, false, false, false, false] rfl rfl (by kernel_rfl) (fun _ _ _ h => h) (Or.inl ⟨by rfl, ?_⟩) ?_ ?_
        rotate_left
        · intro w'
          go_simp
          try with_reducible rfl
        rotate_left
        · simp only [Act.put, List.setIfInBounds_toArray, List.set_cons_zero, List.set_cons_succ]
          rfl
        refine pure_ (i := 5) (N := (some 93)) (v := ?_) (a' := ?_) #[false, true, true, true, false, true, false, false, false, false, false, false, false, false, false, false] rfl rfl (by kernel_rfl) (fun _ _ _ h => h) (Or.inl ⟨by rfl, ?_⟩) ?_ ?_
        rotate_left
        · intro w'
          go_simp
          try with_reducible rfl
        rotate_left
        · simp only [Act.put, List.setIfInBounds_toArray, List.set_cons_zero, List.set_cons_succ]
          rfl
        refine pure_ (i := 6) (N := (some 94)) (v := ?_) (a' := ?_) #[false, true, true, true, false, true, true, false, false, false, false, false, false, false, false, false] rfl rfl (by kernel_rfl) (fun _ _ _ h => h) (Or.inl ⟨by rfl, ?_⟩) ?_ ?_
        rotate_left
        · intro w'
          go_simp
          try with_reducible rfl
        rotate_left
        · simp only [Act.put, List.setIfInBounds_toArray, List.set_cons_zero, List.set_cons_succ]
          rfl
        refine pure_ (i := 7) (N := (some 95)) (v := ?_) (a' := ?_) #[false, true, true, true, false, true, true, true, false, false, false, false, false, false, false, false] rfl rfl (by kernel_rfl) (fun _ _ _ h => h) (Or.inl ⟨by rfl, ?_⟩) ?_ ?_
        rotate_left
        · intro w'
          go_simp
          try with_reducible rfl
        rotate_left
        · simp only [Act.put, List.setIfInBounds_toArray, List.set_cons_zero, List.set_cons_succ]
          rfl
        refine take_ (i := 8) (N := (some 96)) (v := ?_) (a' := ?_) #[false, true, true, true, false, true, true, true, true, false, false, false, false, false, false, false] rfl rfl (by kernel_rfl) (fun _ _ _ h => h) (Or.inl ⟨by rfl, ?_⟩) hHeld ?_ ?_
        rotate_left
        · intro w' ⟨s0, s1, s2⟩
          go_simp
          try with_reducible rfl
        rotate_left
        · simp only [Act.put, List.setIfInBounds_toArray, List.set_cons_zero, List.set_cons_succ]
          rfl
        refine pure_ (i := 11) (N := (some 99)) (v := ?_) (a' := ?_) #[false, true, true, true, false, true, true, true, true, false, false, true, false, false, false, false] rfl rfl (by kernel_rfl) (fun _ _ _ h => h) (Or.inl ⟨by rfl, ?_⟩) ?_ ?_
        rotate_left
        · intro w'
          go_simp
          try with_reducible rfl
        rotate_left
        · simp only [Act.put, List.setIfInBounds_toArray, List.set_cons_zero, List.set_cons_succ]
          rfl
        refine pure_ (i := 12) (N := (some 100)) (v := ?_) (a' := ?_) #[false, true, true, true, false, true, true, true, true, false, false, true, true, false, false, false] rfl rfl (by kernel_rfl) (fun _ _ _ h => h) (Or.inl ⟨by rfl, ?_⟩) ?_ ?_
        rotate_left
        · intro w'
          go_simp
          try with_reducible rfl
        rotate_left
        · simp only [Act.put, List.setIfInBounds_toArray, List.set_cons_zero, List.set_cons_succ]
          rfl
        refine pure_ (i := 13) (N := (some 101)) (v := ?_) (a' := ?_) #[false, true, true, true, false, true, true, true, true, false, false, true, true, true, false, false] rfl rfl (by kernel_rfl) (fun _ _ _ h => h) (Or.inl ⟨by rfl, ?_⟩) ?_ ?_
        rotate_left
        · intro w'
          go_simp
          try with_reducible rfl
        rotate_left
        · simp only [Act.put, List.setIfInBounds_toArray, List.set_cons_zero, List.set_cons_succ]
          rfl
        refine join_ (σ := Value × Value × Nat) 3 #[true, true, true, true, true, true, true, true, true, true, false, true, true, true, false, false] (fun x => [(88, x.1), (92, x.2.1), (97, .slice (some ⟨x.2.2, 0, none⟩) 1 1)]) (fun x w' => Oe wc w' x.2.1 (O.take k) ∧ w'.heap[x.2.2]? = some (.cells #[.int .i64 p, .int .i64 q, .string t0] 46 (0, 0))) ?_ (fun hJn => ?_)
        · rintro ⟨x1, v4, gb⟩ w4 ⟨ho4, hbk⟩
          refine norm_ (a' := ?_) ?_ ?_
          rotate_left
          · simp only [putAll, Act.put, List.setIfInBounds_toArray, List.set_cons_zero, List.set_cons_succ]
            rfl
          obtain ⟨v5, w5, hr2, ho5, _⟩ := ho4.append ((p : Int), (q : Int), t0) gb hbk (by rw [HTk2.out]; omega) 23
          obtain ⟨v6, w6, hr3, ho6, _⟩ := OeAppendR ho5 A9 (O.length - k) (c6 - k) (O.drop k) (by rw [List.length_drop]) (HL6.out _ ho5.bel) (by rw [List.length_append, HTk2.out, List.length_drop]; simp; omega) 23
          have HS4 := Lib.hid (HK.out _ (below_step HOc.out.bel ho5.bel))
          have HS5 := Lib.hid (HK.out _ (below_step HOc.out.bel ho6.bel))
          have HF := Lib.hid (show Oe W w6 v6 (srtE (kept b (es.take (i + 1)))) from by
            rw [HI2.out]
            have h := ho6.weak HOc.out.bel
            rw [List.append_assoc] at h
            exact h)
          clear ho4 hbk ho5 ho6 hrA hrB hrC HT1 HT2 HT3 HT4 HT5 HT6 HT7 HT8 HOA HOB HOC HOc HL6 HTk2 HI2
          refine one_ (i := 10) (N := (some 98)) #[true, true, true, true, true, true, true, true, true, true, true, true, true, true, false, false] rfl rfl (by kernel_rfl) (by decide) (fun K hK => ?_)
          refine app_ _ _ 23 23 rfl (by rfl) rfl _ _ rfl rfl hr2 ?_
          refine hK.out _ _ HS4.out (fun hHeld => ?_)
          clear hK K
          refine norm_ (a' := ?_) ?_ ?_
          rotate_left
          · show Act.put _ (some 98) _ = _
            simp only [Act.put, List.setIfInBounds_toArray, List.set_cons_zero, List.set_cons_succ]
            rfl
          refine one_ (i := 14) (N := (some 102)) #[true, true, true, true, true, true, true, true, true, true, true, true, true, true, true, false] rfl rfl (by kernel_rfl) (by decide) (fun K hK => ?_)
          refine app_ _ _ 23 23 rfl (by rfl) rfl _ _ rfl rfl hr3 ?_
          refine hK.out _ _ HS5.out (fun hHeld => ?_)
          clear hK K
          refine norm_ (a' := ?_) ?_ ?_
          rotate_left
          · show Act.put _ (some 102) _ = _
            simp only [Act.put, List.setIfInBounds_toArray, List.set_cons_zero, List.set_cons_succ]
            rfl
          refine pure_ (i := 15) (N := (some 6)) (v := ?_) (a' := ?_) #[true, true, true, true, true, true, true, true, true, true, true, true, true, true, true, true] rfl rfl (by kernel_rfl) (fun _ _ _ h => h) (Or.inl ⟨by rfl, ?_⟩) ?_ ?_
          rotate_left
          · intro w'
            go_simp
            try with_reducible rfl
          rotate_left
          · simp only [Act.put, List.setIfInBounds_toArray, List.set_cons_zero, List.set_cons_succ]
            rfl
          refine done_ (by kernel_rfl) ?_
          clear hHeld HS0 HS4 HS5 hr2 hr3 hct1 hct3
          go_wp2_with fail
          go_roundg (es.length - (i + 1))
          case measure => have := HG.out; omega
          case rel => exact ⟨i + 1, by go_num, by omega, HF.out, HA3.out, rfl⟩
        · skip
          refine two_ (i := 0) (j := 9) (Ni := (some 88)) (Nj := (some 97)) #[true, true, true, true, false, true, true, true, true, false, false, true, true, true, false, false] #[false, true, true, true, false, true, true, true, true, true, false, true, true, true, false, false] rfl rfl rfl rfl (by kernel_rfl) (by decide) (by decide) (fun K hK => ?_) (fun K hK => ?_)
          · skip
            rw [if_pos (by rfl)]
            go_simp
            refine hK.out _ _ HT1.out (fun hHeld => ?_)
            clear hK K
            refine two_ (i := 4) (j := 9) (Ni := (some 92)) (Nj := (some 97)) #[true, true, true, true, true, true, true, true, true, false, false, true, true, true, false, false] #[true, true, true, true, false, true, true, true, true, true, false, true, true, true, false, false] rfl rfl rfl rfl (by kernel_rfl) (by decide) (by decide) (fun K hK => ?_) (fun K hK => ?_)
            · skip
              refine app_ _ _ 23 23 rfl (by rfl) rfl _ _ rfl rfl hrA ?_
              refine hK.out _ _ HT2.out (fun hHeld => ?_)
              clear hK K
              refine norm_ (a' := ?_) ?_ ?_
              rotate_left
              · show Act.put _ (some 92) _ = _
                simp only [Act.put, List.setIfInBounds_toArray, List.set_cons_zero, List.set_cons_succ]
                rfl
              refine one_ (i := 9) (N := (some 97)) #[true, true, true, true, true, true, true, true, true, true, false, true, true, true, false, false] rfl rfl (by kernel_rfl) (by decide) (fun K hK => ?_)
              rw [if_pos (by rfl)]
              go_simp
              refine hK.out _ _ HT3.out (fun hHeld => ?_)
              clear hK K
              have hj := hJn (.slice (some ⟨wc.heap.size, 0, none⟩) 0 0, vA, wA.heap.size) _ ⟨HOA.out.1, HOA.out.2⟩
              simp only [putAll, Act.put, List.setIfInBounds_toArray, List.set_cons_zero, List.set_cons_succ] at hj
              exact hj
            · skip
              rw [if_pos (by rfl)]
              go_simp
              refine hK.out _ _ HT4.out (fun hHeld => ?_)
              clear hK K
              refine one_ (i := 4) (N := (some 92)) #[true, true, true, true, true, true, true, true, true, true, false, true, true, true, false, false] rfl rfl (by kernel_rfl) (by decide) (fun K hK => ?_)
              refine app_ _ _ 23 23 rfl (by rfl) rfl _ _ rfl rfl hrB ?_
              refine hK.out _ _ HT5.out (fun hHeld => ?_)
              clear hK K
              refine norm_ (a' := ?_) ?_ ?_
              rotate_left
              · show Act.put _ (some 92) _ = _
                simp only [Act.put, List.setIfInBounds_toArray, List.set_cons_zero, List.set_cons_succ]
                rfl
              have hj := hJn (.slice (some ⟨wc.heap.size, 0, none⟩) 0 0, vB, wc.heap.size + 1) _ ⟨HOB.out.1, HOB.out.2⟩
              simp only [putAll, Act.put, List.setIfInBounds_toArray, List.set_cons_zero, List.set_cons_succ] at hj
              exact hj
          · skip
            rw [if_pos (by rfl)]
            go_simp
            refine hK.out _ _ HT6.out (fun hHeld => ?_)
            clear hK K
            refine one_ (i := 0) (N := (some 88)) #[true, true, true, true, false, true, true, true, true, true, false, true, true, true, false, false] rfl rfl (by kernel_rfl) (by decide) (fun K hK => ?_)
            rw [if_pos (by rfl)]
            go_simp
            refine hK.out _ _ HT7.out (fun hHeld => ?_)
            clear hK K
            refine one_ (i := 4) (N := (some 92)) #[true, true, true, true, true, true, true, true, true, true, false, true, true, true, false, false] rfl rfl (by kernel_rfl) (by decide) (fun K hK => ?_)
            refine app_ _ _ 23 23 rfl (by rfl) rfl _ _ rfl rfl hrC ?_
            refine hK.out _ _ HT8.out (fun hHeld => ?_)
            clear hK K
            refine norm_ (a' := ?_) ?_ ?_
            rotate_left
            · show Act.put _ (some 92) _ = _
              simp only [Act.put, List.setIfInBounds_toArray, List.set_cons_zero, List.set_cons_succ]
              rfl
            have hj := hJn (.slice (some ⟨wc.heap.size + 1, 0, none⟩) 0 0, vC, wc.heap.size) _ ⟨HOC.out.1, HOC.out.2⟩
            simp only [putAll, Act.put, List.setIfInBounds_toArray, List.set_cons_zero, List.set_cons_succ] at hj
            exact hj
  · obtain rfl : i = es.length := by omega
    have hdl : decide ((es.length : Int) < (es.length : Int)) = false := by simp
    have hq := HQ.out
    rw [List.take_length] at hq
    have HO := Lib.hid hq.1
    have HT := Lib.hid (show tidy b es = if okL (srtE (kept b es)) = true then (0, srtE (kept b es)) else (8, []) from by rw [HTd.out, if_pos hq.2.1])
    have HCk := Lib.hid (show ∀ e ∈ srtE (kept b es), chk b.length e = true from fun e he => List.all_eq_true.1 hq.2.1 e (List.mem_filter.1 (srtE_mem _ e he)).1)
    have hsl := srtE_length (kept b es)
    have hkl := kept_len b es
    have hSl : (srtE (kept b es)).length ≤ 500 := by omega
    rw [List.take_length] at hR6
    rw [List.take_length]
    have HR6 := Lib.hid hR6
    clear hq HQ hsl hkl hR6 hc6
    generalize srtE (kept b es) = S at *
    obtain ⟨wo, rfl⟩ : ∃ wo : World, wo = wr := ⟨_, rfl⟩
    go_upto_block 4 with fail
    go_wp2_with fail
    go_loopg [10] S.length (fun gn iv wr => ∃ i : Nat, iv = .int .i64 i ∧ 1 ≤ i ∧ i ≤ S.length + 1 ∧ Hid (Below wo.heap.size wo wr ∧ (∀ j, j + 1 < i → okP (S.getD j dE) (S.getD (j + 1) dE) = true) ∧ gn + i ≥ S.length + 1))
    case atStart => exact ⟨1, rfl, by omega, by omega, Below.refl _ _, fun j h => by omega, by omega⟩
    case round =>
    obtain ⟨i, rfl, hi1, hi2, HJ⟩ := hrel
    by_cases hlt2 : i < S.length
    · have hdl2 : decide ((i : Int) < (S.length : Int)) = true := by simp; omega
      obtain ⟨h, hh⟩ : ∃ h : Nat, (i : Int) - 1 = (h : Int) := ⟨i - 1, by omega⟩
      have rh : IntKind.i64.wrap (h : Int) = (h : Int) := by rw [IntKind.wrap_i64]; omega
      have hhl : h < S.length := by omega
      obtain ⟨gs, os, rfl, hgs, hcS⟩ := HR6.out (by omega)
      have kp : ∀ i j, i < S.length → j < 3 → wr.cell? ⟨gs, os + (i * 3 + j), none⟩ = (encE (S.getD i dE))[j]? := fun i j hi hj => (HJ.out.1.cell (p := ⟨gs, os + (i * 3 + j), none⟩) hgs).trans (hcS i j hi hj)
      have q1 := (chk_iff _ _).1 (HCk.out _ (getD_memE S h hhl))
      have k0 : wr.cell? ⟨gs, os + h * 3, none⟩ = some (.int .i64 (S.getD h dE).1) := kp h 0 hhl (by omega)
      have k1 : wr.cell? ⟨gs, os + h * 3 + 1, none⟩ = some (.int .i64 (S.getD h dE).2.1) := kp h 1 hhl (by omega)
      have k2 : wr.cell? ⟨gs, os + i * 3, none⟩ = some (.int .i64 (S.getD i dE).1) := kp i 0 hlt2 (by omega)
      have k3 : wr.cell? ⟨gs, os + i * 3 + 1, none⟩ = some (.int .i64 (S.getD i dE).2.1) := kp i 1 hlt2 (by omega)
      obtain ⟨a1, ha1⟩ : ∃ a, (S.getD h dE).1 = a := ⟨_, rfl⟩
      obtain ⟨l1, hl1⟩ : ∃ a, (S.getD h dE).2.1 = a := ⟨_, rfl⟩
      obtain ⟨a2, ha2⟩ : ∃ a, (S.getD i dE).1 = a := ⟨_, rfl⟩
      obtain ⟨l2, hl2⟩ : ∃ a, (S.getD i dE).2.1 = a := ⟨_, rfl⟩
      rw [ha1] at k0 q1
      rw [hl1] at k1 q1
      rw [ha2] at k2
      rw [hl2] at k3
      have HA := Lib.hid (show (S.getD h dE).1 = a1 ∧ (S.getD h dE).2.1 = l1 ∧ (S.getD i dE).1 = a2 ∧ (S.getD i dE).2.1 = l2 from ⟨ha1, hl1, ha2, hl2⟩)
      have rs : IntKind.i64.wrap (a1 + l1) = a1 + l1 := by rw [IntKind.wrap_i64]; omega
      have Q1 := Lib.hid q1
      clear kp hcS hgs ha1 hl1 ha2 hl2 HR6 q1
      go_upto_region 18 with fail
      by_cases g2 : a2 = a1
      · by_cases g3 : l2 = l1
        · have he1 : (a2 == a1) = true := by rw [beq_iff_eq]; exact g2
          have he2 : (l2 == l1) = true := by rw [beq_iff_eq]; exact g3
          have G := Lib.hid (And.intro g2 g3)
          clear g2 g3
          have HT2 := Lib.hid (show tidy b es = (8, []) from by
            rw [HT.out, if_neg]
            rw [okL_iff]
            intro hh2
            have := hh2 h (by omega)
            rw [show h + 1 = i by omega, okP_iff] at this
            have e1 := HA.out
            have e2 := G.out
            omega)
          go_quiet (fail)
          go_wp2_with fail
          go_ret2
          refine ⟨.slice none 0 0, ?_, ?_⟩
          · rw [HT2.out]; rfl
          · rw [HT2.out]; exact ⟨World.ownsRow_nil _ _ _ _, pw_below_drewN (below_step HO.out.bel HJ.out.1) _⟩
        · have he1 : (a2 == a1) = true := by rw [beq_iff_eq]; exact g2
          have he2 : (l2 == l1) = false := by rw [beq_eq_false_iff_ne]; exact g3
          have G := Lib.hid (And.intro g2 g3)
          clear g2
          by_cases g1 : a2 < a1 + l1
          · have hd1 : decide (a2 < a1 + l1) = true := decide_eq_true g1
            have HT2 := Lib.hid (show tidy b es = (8, []) from by
              rw [HT.out, if_neg]
              rw [okL_iff]
              intro hh2
              have := hh2 h (by omega)
              rw [show h + 1 = i by omega, okP_iff] at this
              have e1 := HA.out
              omega)
            go_quiet (fail)
            go_wp2_with fail
            go_ret2
            refine ⟨.slice none 0 0, ?_, ?_⟩
            · rw [HT2.out]; rfl
            · rw [HT2.out]; exact ⟨World.ownsRow_nil _ _ _ _, pw_below_drewN (below_step HO.out.bel HJ.out.1) _⟩
          · have hd1 : decide (a2 < a1 + l1) = false := decide_eq_false g1
            have HP2 := Lib.hid (show okP (S.getD h dE) (S.getD i dE) = true from by
              rw [okP_iff]
              have e1 := HA.out
              have e2 := G.out
              omega)
            go_quiet (fail)
            go_wp2_with fail
            go_roundg (S.length - i)
            case measure => have := HJ.out.2.2; omega
            case rel =>
              refine ⟨i + 1, by go_num, by omega, by omega, pw_below_drewN HJ.out.1 _, fun j hj => ?_, by omega⟩
              by_cases e : j = h
              · rw [e, show h + 1 = i by omega]; exact HP2.out
              · exact HJ.out.2.1 j (by omega)
      · have he1 : (a2 == a1) = false := by rw [beq_eq_false_iff_ne]; exact g2
        by_cases g1 : a2 < a1 + l1
        · have hd1 : decide (a2 < a1 + l1) = true := decide_eq_true g1
          have HT2 := Lib.hid (show tidy b es = (8, []) from by
            rw [HT.out, if_neg]
            rw [okL_iff]
            intro hh2
            have := hh2 h (by omega)
            rw [show h + 1 = i by omega, okP_iff] at this
            have e1 := HA.out
            omega)
          go_quiet (fail)
          go_wp2_with fail
          go_ret2
          refine ⟨.slice none 0 0, ?_, ?_⟩
          · rw [HT2.out]; rfl
          · rw [HT2.out]; exact ⟨World.ownsRow_nil _ _ _ _, pw_below_drewN (below_step HO.out.bel HJ.out.1) _⟩
        · have hd1 : decide (a2 < a1 + l1) = false := decide_eq_false g1
          have HP2 := Lib.hid (show okP (S.getD h dE) (S.getD i dE) = true from by
            rw [okP_iff]
            have e1 := HA.out
            omega)
          go_quiet (fail)
          go_wp2_with fail
          go_roundg (S.length - i)
          case measure => have := HJ.out.2.2; omega
          case rel =>
            refine ⟨i + 1, by go_num, by omega, by omega, pw_below_drewN HJ.out.1 _, fun j hj => ?_, by omega⟩
            by_cases e : j = h
            · rw [e, show h + 1 = i by omega]; exact HP2.out
            · exact HJ.out.2.1 j (by omega)
    · have hdl2 : decide ((i : Int) < (S.length : Int)) = false := by simp; omega
      have HT2 := Lib.hid (show tidy b es = (0, S) from by
        rw [HT.out, if_pos]
        rw [okL_iff]
        exact fun j hj => HJ.out.2.1 j (by omega))
      have HF := Lib.hid (HO.out.below HJ.out.1)
      go_wp2_with fail
      go_ret2
      exact ⟨_, by rw [HT2.out]; rfl, by rw [HT2.out]; exact HF.out⟩
end Go.Proofs.Ytgcjkijndibejaa.Srt
