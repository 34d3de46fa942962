/- edits.Tidy, walked. Conditions: as each lemma says. -/
import Derived.Test.YtgcjkijndibejaaESrtE
import Derived.Test.YtgcjkijndibejaaPCheckx1
set_option linter.unusedVariables false
set_option linter.unusedSimpArgs false
namespace Go.Proofs.Ytgcjkijndibejaa.Srt
open Go.Shelf Go.RowKit Go.Lib Go.Proofs.YtgcjkijndibejaaW.PrintWords Go.Proofs.YtgcjkijndibejaaW.PrintLast Go.Proofs.Ytgcjkijndibejaa.PCheck

theorem C_take {w : World} {A : Option Addr} {n : Nat} {b : List Int} (h : Kd.C (Kd.int .u8) w A n b) (m : Nat) (hm : m ≤ n) : Kd.C (Kd.int .u8) w A m (b.take m) := by
  refine ⟨by rw [List.length_take, h.1]; omega, by have := h.2.1; omega, fun hn => ?_⟩
  obtain ⟨ad, e, hc⟩ := h.2.2 (by omega)
  refine ⟨ad, e, fun j p hj => hc j p ?_⟩
  rw [List.getElem?_take] at hj
  split at hj
  · exact hj
  · cases hj
theorem C_mid {w : World} {A : Option Addr} {c : Nat} {b : List Int} (h : Kd.C (Kd.int .u8) w A b.length b) (hc : b.length ≤ c) (p q : Nat) (hp : p ≤ q) (hq : q ≤ b.length) : Kd.C (Kd.int .u8) w (if c = p then A else A.map (·.add (p * 1))) (q - p) ((b.drop p).take (q - p)) := by
  have h1 := Kd.C_drop h (show p ≤ b.length by omega) hc
  rw [List.length_drop] at h1
  exact C_take h1 (q - p) (by omega)
theorem info_u8 : (Try.prog.info? 5).map (fun i => (i.zero, i.size, i.bytes)) = some (some (.int .u8 0), 1, 1) := by kernel_rfl
theorem cut_b (A : Option Addr) (n c p q : Nat) (hp : p ≤ q) (hq : q ≤ n) (hc : n ≤ c) : ∀ W : World, (Instr.slice 22 (.slice A n c) (some (.int .i64 p)) (some (.int .i64 q)) none).run Try.prog W = .ok (.slice (if c = p then A else A.map (·.add (p * 1))) (q - p) (c - p)) W := by
  obtain ⟨i0, hi0, _, hsz, _⟩ := info_parts info_u8
  have := cut_mid (P := Try.prog) 22 5 .i64 .i64 Try.underlying22 hi0 1 hsz A n c (p : Int) (q : Int) (by omega) (by omega) (by omega) hc
  simpa using this
theorem info46 : (Try.prog.info? 46).map (fun i => (i.zero, i.size, i.bytes)) = some (some (.agg #[(.int .i64 0), (.int .i64 0), (.string ⟨#[]⟩)]), 3, 32) := by kernel_rfl
/-- Edits, as a slice in memory reads. -/
def EdR (W : World) (v : Value) (es : List Ed) : Prop :=
  (v = .slice none 0 0 ∧ es = []) ∨ ∃ g of c, v = .slice (some ⟨g, of, none⟩) es.length c ∧ es.length ≤ c ∧ g < W.heap.size ∧ ∀ t, t < es.length * 3 → W.cell? ⟨g, of + t, none⟩ = (edC es)[t]?
theorem EdR.below {W W' : World} {v : Value} {es : List Ed} (h : EdR W v es) (hb : Below W.heap.size W W') : EdR W' v es := by
  rcases h with h | ⟨g, of, c, h1, h2, h3, h4⟩
  · exact .inl h
  · exact .inr ⟨g, of, c, h1, h2, Nat.lt_of_lt_of_le h3 hb.size, fun t ht => (hb.cell (p := ⟨g, of + t, none⟩) h3).trans (h4 t ht)⟩
theorem EdR.own {W : World} {base : Nat} {v : Value} {es : List Ed} (h : W.ownsRow base 46 3 v es.length (edC es)) : EdR W v es := by
  rcases h.2 with ⟨h1, h2⟩ | ⟨g, cap, cur, h1, _, h3, h4, _, _, h5⟩
  · exact .inl ⟨h1, List.eq_nil_of_length_eq_zero h2⟩
  · refine .inr ⟨g, 0, cap, h1, h4, (Array.getElem?_eq_some_iff.1 h3).1, fun t ht => ?_⟩
    rw [Nat.zero_add, blk_cell h3, ← h5, List.getElem?_take_of_lt ht, Array.getElem?_toList]
theorem own_form3 {W : World} {base n k : Nat} {e : TypeId} {v : Value} {xs : List Value} (h : W.ownsRow base e k v n xs) : ∃ A c, v = .slice A n c := by
  rcases h.2 with ⟨h1, h2⟩ | ⟨g, cap, cur, h1, _⟩
  · exact ⟨none, 0, by rw [h1, h2]⟩
  · exact ⟨_, _, h1⟩
/-- Is a span one of so many bytes? -/
def chk (n : Nat) (e : Ed) : Bool := decide (0 ≤ e.1) && decide (0 ≤ e.2.1) && decide (e.1 ≤ (n : Int)) && decide (e.2.1 ≤ (n : Int) - e.1)
theorem check_any (e : Ed) (n : Nat) (w : World) (hn : n ≤ 1000000000) : Calls Try.prog 21 #[.agg #[.int .i64 e.1, .int .i64 e.2.1], .int .i64 n] w fun x w' => x = .returned (.int .i64 (if chk n e = true then 0 else 2)) ∧ Below w.heap.size w w' := by
  have h : span_Check.f e.1 e.2.1 n = some (if chk n e = true then 0 else 2) := by
    unfold span_Check.f chk
    by_cases h1 : e.1 < 0
    · rw [if_pos h1, decide_eq_false (show ¬ 0 ≤ e.1 by omega)]; simp
    · rw [if_neg h1, decide_eq_true (show 0 ≤ e.1 by omega)]
      by_cases h2 : e.2.1 < 0
      · rw [if_pos h2, decide_eq_false (show ¬ 0 ≤ e.2.1 by omega)]; simp
      · rw [if_neg h2, decide_eq_true (show 0 ≤ e.2.1 by omega)]
        by_cases h3 : e.1 > (n : Int)
        · rw [if_pos h3, decide_eq_false (show ¬ e.1 ≤ (n : Int) by omega)]; simp
        · rw [if_neg h3, decide_eq_true (show e.1 ≤ (n : Int) by omega)]
          have hw : wrap64 ((n : Int) - e.1) = (n : Int) - e.1 := by unfold wrap64; omega
          rw [hw]
          by_cases h4 : e.2.1 > (n : Int) - e.1
          · rw [if_pos h4, decide_eq_false (show ¬ e.2.1 ≤ (n : Int) - e.1 by omega)]; simp
          · rw [if_neg h4, decide_eq_true (show e.2.1 ≤ (n : Int) - e.1 by omega)]; simp
  refine (span_Check.calls e.1 e.2.1 n _ w h).mono ?_
  rintro x w' ⟨h1, h2⟩
  exact ⟨h1, h2⟩
/-- The bytes that an edit's span covers. -/
def cut (b : List Int) (e : Ed) : List Int := (b.drop e.1.toNat).take e.2.1.toNat
/-- Does an edit change something? -/
def chg (b : List Int) (e : Ed) : Bool := decide (¬ (strOfNums (cut b e)).toList = e.2.2.toList)
def kept (b : List Int) (es : List Ed) : List Ed := es.filter (chg b)
theorem kept_snoc (b : List Int) (es : List Ed) (i : Nat) (h : i < es.length) : kept b (es.take (i + 1)) = if chg b (es.getD i dE) = true then kept b (es.take i) ++ [es.getD i dE] else kept b (es.take i) := by
  have e : es.take (i + 1) = es.take i ++ [es.getD i dE] := by
    rw [List.take_add_one, List.getElem?_eq_getElem h, List.getD_eq_getElem?_getD, List.getElem?_eq_getElem h]; rfl
  unfold kept
  rw [e, List.filter_append]
  by_cases hc : chg b (es.getD i dE) = true
  · rw [if_pos hc, List.filter_cons, if_pos hc]; rfl
  · rw [if_neg hc, List.filter_cons, if_neg hc]; simp
theorem kept_len (b : List Int) (es : List Ed) : (kept b es).length ≤ es.length := List.length_filter_le _ _
def okP (p q : Ed) : Bool := decide (p.1 + p.2.1 ≤ q.1) && !(p.1 == q.1 && p.2.1 == q.2.1)
def okL : List Ed → Bool
  | p :: q :: r => okP p q && okL (q :: r)
  | _ => true
theorem okL_iff : ∀ l : List Ed, okL l = true ↔ ∀ i, i + 1 < l.length → okP (l.getD i dE) (l.getD (i + 1) dE) = true := by
  intro l
  induction l with
  | nil => exact ⟨fun _ i h => by simp at h, fun _ => rfl⟩
  | cons p r ih =>
    cases r with
    | nil => exact ⟨fun _ i h => by simp at h, fun _ => rfl⟩
    | cons q r =>
      rw [show okL (p :: q :: r) = (okP p q && okL (q :: r)) from rfl, Bool.and_eq_true, ih]
      constructor
      · rintro ⟨h1, h2⟩ i hi
        cases i with
        | zero => exact h1
        | succ i => exact h2 i (by simpa using hi)
      · intro h
        exact ⟨h 0 (by simp), fun i hi => h (i + 1) (by simpa using hi)⟩
theorem edC_snoc (l : List Ed) (e : Ed) : edC (l ++ [e]) = edC l ++ encE e := by
  unfold edC
  rw [List.flatMap_append]
  simp
theorem getD_memE (l : List Ed) (i : Nat) (h : i < l.length) : l.getD i dE ∈ l := by
  rw [List.getD_eq_getElem?_getD, List.getElem?_eq_getElem h]
  exact List.getElem_mem _
/-- What Tidy answers. -/
def tidy (b : List Int) (es : List Ed) : Int × List Ed :=
  if 65536 < es.length then (4, []) else if es.all (chk b.length) = true then (if okL (srtE (kept b es)) = true then (0, srtE (kept b es)) else (8, [])) else (2, [])
set_option maxRecDepth 100000 in
set_option maxHeartbeats 8000000 in
theorem tidy_any (A : Option Addr) (c : Nat) (b : List Int) (v : Value) (es : List Ed) (W : World) (hC : Kd.C (Kd.int .u8) W A b.length b) (hc : b.length ≤ c) (hE : EdR W v es) (hb : b.length ≤ 100000) :
    Calls Try.prog 12 #[.slice A b.length c, v] W fun e w' => ∃ v', e = .returned (.tuple #[v', .int .i64 (tidy b es).1]) ∧ w'.ownsRow W.heap.size 46 3 v' (tidy b es).2.length (edC (tidy b es).2) ∧ Below W.heap.size W w' := by
  have HC := Lib.hid (And.intro hC hc)
  clear hC hc
  rcases hE with ⟨rfl, rfl⟩ | ⟨g, of, c2, rfl, hc2, hg, hcells⟩
  · have HT := Lib.hid (show tidy b [] = (0, []) from by
      have h0 : srtE (kept b []) = [] := List.eq_nil_of_length_eq_zero (srtE_length _)
      unfold tidy
      rw [if_neg (by simp), if_pos (by simp), h0]
      rw [if_pos (show okL [] = true from rfl)])
    go_enter Try.func12, Try.ntmps12
    go_upto_block 0 with fail
    go_wp2_with fail
    go_loopg [6, 16] 0 (fun gn ov iv wr => ov = .slice none 0 0 ∧ iv = .int .i64 0 ∧ wr = W)
    case atStart => exact ⟨rfl, rfl, rfl⟩
    case round =>
    obtain ⟨rfl, rfl, hw⟩ := hrel
    subst wr
    go_upto_region 12 with fail
    go_wp2_with fail
    refine (sort_any [] W W.heap.size _ (World.ownsRow_nil _ _ _ _) (by simp)).mono ?_
    rintro e w5 ⟨rfl, ho5, hg5⟩
    have HW5 := Lib.hid (show w5.ownsRow W.heap.size 46 3 (.slice none 0 0) 0 [] ∧ Below W.heap.size W w5 from
        ⟨World.ownsRow_nil _ _ _ _, (Below.refl _ _).grown hg5 (Nat.le_refl _) (fun k hk => ((World.ownsRow_nil W W.heap.size 46 3).lt k hk).1)⟩)
    clear ho5 hg5
    go_upto_block 2 with fail
    go_wp2_with fail
    go_loopg [9] 0 (fun gn iv wr => iv = .int .i64 1 ∧ wr = w5)
    case atStart => exact ⟨rfl, rfl⟩
    case round =>
      obtain ⟨rfl, rfl⟩ := hrel
      go_wp2_with fail
      go_ret2
      refine ⟨.slice none 0 0, ?_, ?_, HW5.out.2⟩
      · rw [HT.out]; rfl
      · rw [HT.out]; exact HW5.out.1
  · have HG := Lib.hid (And.intro hg hcells)
    clear hg hcells
    by_cases hbig : 65536 < es.length
    · have hd : decide ((65536 : Int) < (es.length : Int)) = true := by simp; omega
      have HT := Lib.hid (show tidy b es = (4, []) from by unfold tidy; rw [if_pos hbig])
      go_enter Try.func12, Try.ntmps12
      go_wp2_with fail
      go_ret2
      refine ⟨.slice none 0 0, ?_, ?_, Below.refl _ _⟩
      · rw [HT.out]; rfl
      · rw [HT.out]; exact World.ownsRow_nil _ _ _ _
    have hd : decide ((65536 : Int) < (es.length : Int)) = false := by simp; omega
    go_enter Try.func12, Try.ntmps12
    go_upto_block 0 with fail
    go_wp2_with fail
    go_loopg [6, 16] es.length (fun gn ov iv wr => ∃ i : Nat, iv = .int .i64 i ∧ i ≤ es.length ∧ Hid (wr.ownsRow W.heap.size 46 3 ov (kept b (es.take i)).length (edC (kept b (es.take i))) ∧ Below W.heap.size W wr ∧ (es.take i).all (chk b.length) = true ∧ gn = es.length - i))
    case atStart => exact ⟨0, rfl, Nat.zero_le _, World.ownsRow_nil _ _ _ _, Below.refl _ _, rfl, rfl⟩
    case round =>
    obtain ⟨i, rfl, hi, HQ⟩ := hrel
    obtain ⟨A6, c6, rfl⟩ := own_form3 HQ.out.1
    by_cases hlt : i < es.length
    · have hdl : decide ((i : Int) < (es.length : Int)) = true := by simp; omega
      have hsn := kept_snoc b es i hlt
      have hcl : ∀ j, j < 3 → wr.cell? ⟨g, of + (i * 3 + j), none⟩ = (encE (es.getD i dE))[j]? := fun j hj => by
        rw [HQ.out.2.1.cell (p := ⟨g, of + (i * 3 + j), none⟩) HG.out.1, HG.out.2 _ (by omega), edC_get _ _ (by omega), show (i * 3 + j) / 3 = i by omega, show (i * 3 + j) % 3 = j by omega]
        have : j = 0 ∨ j = 1 ∨ j = 2 := by omega
        rcases this with rfl | rfl | rfl <;> rfl
      have k0 := hcl 0 (by omega)
      have k1 := hcl 1 (by omega)
      have k2 := hcl 2 (by omega)
      obtain ⟨x, hx⟩ : ∃ x, es.getD i dE = x := ⟨_, rfl⟩
      rw [hx] at hsn k0 k1 k2
      obtain ⟨a0, l0, t0⟩ := x
      have k0 : wr.cell? ⟨g, of + i * 3, none⟩ = some (.int .i64 a0) := k0
      have k1 : wr.cell? ⟨g, of + i * 3 + 1, none⟩ = some (.int .i64 l0) := k1
      have k2 : wr.cell? ⟨g, of + i * 3 + 2, none⟩ = some (.string t0) := k2
      have HSn := Lib.hid hsn
      have HX := Lib.hid hx
      clear hcl hsn hx
      go_wp2_with fail
      refine (check_any (a0, l0, t0) b.length _ (by omega)).mono ?_
      rintro e w2 ⟨rfl, hb2⟩
      have hbx := blk_below (blk_new wr (.cells #[.int .i64 a0, .int .i64 l0, .string t0] 46)) hb2
      have B0 : w2.cell? ⟨wr.heap.size, 0, none⟩ = some (.int .i64 a0) := (blk_cell hbx 0).trans rfl
      have B1 : w2.cell? ⟨wr.heap.size, 1, none⟩ = some (.int .i64 l0) := (blk_cell hbx 1).trans rfl
      have B2 : w2.cell? ⟨wr.heap.size, 2, none⟩ = some (.string t0) := (blk_cell hbx 2).trans rfl
      have HW2 := Lib.hid (show w2.ownsRow W.heap.size 46 3 (.slice A6 (kept b (es.take i)).length c6) (kept b (es.take i)).length (edC (kept b (es.take i))) ∧ Below W.heap.size W w2 ∧ (es.take i).all (chk b.length) = true ∧ gk = es.length - i from
        ⟨pw_own_below (pw_own_below HQ.out.1 (below_alloc (Below.refl _ _) _)) hb2, below_step (below_alloc HQ.out.2.1 _) hb2, HQ.out.2.2⟩)
      clear hb2 hbx k0 k1 k2 HQ
      generalize wr.heap.size = bx at *
      cases hck : chk b.length (a0, l0, t0) with
      | false =>
        have HT := Lib.hid (show tidy b es = (2, []) from by
          unfold tidy
          rw [if_neg hbig, if_neg]
          intro h
          have := List.all_eq_true.1 h (es.getD i dE) (by rw [List.getD_eq_getElem?_getD, List.getElem?_eq_getElem hlt]; exact List.getElem_mem _)
          rw [HX.out, hck] at this
          cases this)
        rw [if_neg (by simp)]
        go_wp2_with fail
        go_ret2
        refine ⟨.slice none 0 0, ?_, ?_, HW2.out.2.1⟩
        · rw [HT.out]; rfl
        · rw [HT.out]; exact World.ownsRow_nil _ _ _ _
      | true =>
        rw [if_pos rfl]
        have hck2 := hck
        unfold chk at hck2
        simp only [Bool.and_eq_true, decide_eq_true_eq] at hck2
        obtain ⟨⟨⟨q1, q2⟩, q3⟩, q4⟩ := hck2
        obtain ⟨p, rfl⟩ : ∃ p : Nat, a0 = p := ⟨a0.toNat, by omega⟩
        obtain ⟨q, rfl⟩ : ∃ q : Nat, l0 = q := ⟨l0.toNat, by omega⟩
        obtain ⟨r, hr⟩ : ∃ r : Nat, (p : Int) + (q : Int) = (r : Int) := ⟨p + q, by omega⟩
        have rr : IntKind.i64.wrap (r : Int) = (r : Int) := by rw [IntKind.wrap_i64]; omega
        have hrb : r ≤ b.length := by omega
        have hpr : p ≤ r := by omega
        have hrq : r - p = q := by omega
        have hct := cut_b A b.length c p r hpr hrb HC.out.2
        have hCm := C_mid (Kd.C_below HC.out.1 HW2.out.2.1) HC.out.2 p r hpr hrb
        have hcutE : cut b ((p : Int), (q : Int), t0) = (b.drop p).take (r - p) := by unfold cut; rw [hrq]; rfl
        rw [← hcutE] at hCm
        rw [hrq] at hct hCm
        generalize (if c = p then A else A.map (·.add (p * 1))) = A2 at *
        have hcv : ∀ n, (convert 22 9 (.slice A2 q (c - p))).run Try.prog (w2.drewN n) = .ok (.string (strOfNums (cut b ((p : Int), (q : Int), t0)))) (w2.drewN n) := fun n => Kd.C_string (P := Try.prog) (c := c - p) Try.underlying22 Try.underlying5 Try.underlying9 (Kd.C_below hCm (pw_below_drewN (Below.refl _ _) n))
        obtain ⟨D, hD⟩ : ∃ D : Bool, chg b ((p : Int), (q : Int), t0) = D := ⟨_, rfl⟩
        have HY := Lib.hid (show D = decide (¬ (strOfNums (cut b ((p : Int), (q : Int), t0))).toList = t0.toList) from hD.symm)
        rw [hD] at HSn
        generalize strOfNums (cut b ((p : Int), (q : Int), t0)) = Y at *
        have HCk := Lib.hid hck
        clear hCm hcutE hck q1 q2 q3 q4 hD
        go_upto_region 9 with fail
        go_cut [41] (fun v wx => v = .bool D ∧ Hid (∃ n, wx = w2.drewN n))
        case first =>
          go_quiet (fail)
          go_wp2_with fail
          go_meet
          refine ⟨?_, ⟨_, rfl⟩⟩
          congr 1
          rw [HY.out, Bool.eq_iff_iff]
          simp
        case rest =>
        obtain ⟨rfl, HN⟩ := hcut
        obtain ⟨nq, hnq⟩ := HN.out
        have hb3 : Below w2.heap.size w2 wc := by rw [hnq]; exact pw_below_drewN (Below.refl _ _) nq
        have HW3 := Lib.hid (show wc.ownsRow W.heap.size 46 3 (.slice A6 (kept b (es.take i)).length c6) (kept b (es.take i)).length (edC (kept b (es.take i))) ∧ Below W.heap.size W wc ∧ (es.take (i + 1)).all (chk b.length) = true ∧ gk = es.length - i from
          ⟨pw_own_below HW2.out.1 hb3, below_step HW2.out.2.1 hb3, by
            rw [List.take_add_one, List.all_append, HW2.out.2.2.1, List.getElem?_eq_getElem hlt]
            have := HX.out
            rw [List.getD_eq_getElem?_getD, List.getElem?_eq_getElem hlt] at this
            have e2 : es[i] = ((p : Int), (q : Int), t0) := this
            simp only [Option.toList_some, List.all_cons, List.all_nil, Bool.and_true, Bool.true_and]
            rw [e2]; exact HCk.out, HW2.out.2.2.2⟩)
        have B0 : wc.cell? ⟨bx, 0, none⟩ = some (.int .i64 p) := by rw [hnq]; exact B0
        have B1 : wc.cell? ⟨bx, 1, none⟩ = some (.int .i64 q) := by rw [hnq]; exact B1
        have B2 : wc.cell? ⟨bx, 2, none⟩ = some (.string t0) := by rw [hnq]; exact B2
        clear hct hcv HW2 HN hnq hb3
        have hkl := kept_len b (es.take i)
        rw [List.length_take] at hkl
        cases D with
        | false =>
          have HK := Lib.hid (show kept b (es.take (i + 1)) = kept b (es.take i) from by rw [HSn.out, if_neg (by simp)])
          go_wp2_with fail
          go_roundg (es.length - (i + 1))
          case measure => have := HW3.out.2.2.2; omega
          case rel => exact ⟨i + 1, by go_num, by omega, by rw [HK.out]; exact HW3.out.1, HW3.out.2.1, HW3.out.2.2.1, rfl⟩
        | true =>
          have HK := Lib.hid (show kept b (es.take (i + 1)) = kept b (es.take i) ++ [((p : Int), (q : Int), t0)] from by rw [HSn.out, if_pos rfl])
          have hB3 := HW3.out.2.1.size
          generalize kept b (es.take i) = K at *
          go_wp2_with (at_builtin; refine print_append_cells (w0 := W) W.heap.size rfl _ _ 23 46 (.agg #[(.int .i64 0), (.int .i64 0), (.string ⟨#[]⟩)]) 3 32 rfl Try.underlying23 info46 rfl (by decide) (by decide) (.slice A6 K.length c6) K.length (edC K) [.int .i64 p, .int .i64 q, .string t0] rfl rfl rfl (by simp [Value.oneCell']) HW3.out.1 HW3.out.2.1 hB3 (by omega) ?_; intro v1 w4 hown1 hb1 _ _; have HO := Lib.hid hown1; have HB := Lib.hid hb1; clear hown1 hb1)
          go_roundg (es.length - (i + 1))
          case measure => have := HW3.out.2.2.2; omega
          case rel => exact ⟨i + 1, by go_num, by omega, by rw [HK.out, edC_snoc, List.length_append]; exact HO.out, HB.out, HW3.out.2.2.1, rfl⟩
    · obtain rfl : i = es.length := by omega
      have hdl : decide ((es.length : Int) < (es.length : Int)) = false := by simp
      have hq := HQ.out
      rw [List.take_length] at hq
      rw [List.take_length]
      have HQ2 := Lib.hid hq
      have hkl := kept_len b es
      have HT := Lib.hid (show tidy b es = if okL (srtE (kept b es)) = true then (0, srtE (kept b es)) else (8, []) from by unfold tidy; rw [if_neg hbig, if_pos hq.2.2.1])
      have HCk := Lib.hid (show ∀ e ∈ srtE (kept b es), chk b.length e = true from fun e he => List.all_eq_true.1 hq.2.2.1 e (List.mem_filter.1 (srtE_mem _ e he)).1)
      clear hq HQ
      have hsl := srtE_length (kept b es)
      go_upto_region 12 with fail
      go_wp2_with fail
      refine (sort_any (kept b es) wr W.heap.size _ HQ2.out.1 (by omega)).mono ?_
      rintro e w5 ⟨rfl, ho5, hg5⟩
      have ho5 : w5.ownsRow W.heap.size 46 3 (.slice A6 (kept b es).length c6) (srtE (kept b es)).length (edC (srtE (kept b es))) := by rw [hsl]; exact ho5
      have HW5 := Lib.hid (show w5.ownsRow W.heap.size 46 3 (.slice A6 (kept b es).length c6) (srtE (kept b es)).length (edC (srtE (kept b es))) ∧ Below W.heap.size W w5 from
        ⟨ho5, HQ2.out.2.1.grown hg5 HQ2.out.2.1.size (fun k hk => (HQ2.out.1.lt k hk).1)⟩)
      clear ho5 hg5 HQ2
      have hS := EdR.own HW5.out.1
      have hSl : (srtE (kept b es)).length ≤ 65536 := by omega
      clear hsl
      generalize hv6 : Value.slice A6 (kept b es).length c6 = v6 at *
      generalize srtE (kept b es) = S at *
      go_upto_block 2 with fail
      rcases hS with ⟨hv, rfl⟩ | ⟨gs, os, cs, hv, hcs, hgs, hcS⟩
      · subst hv
        go_wp2_with fail
        go_loopg [9] 0 (fun gn iv wr => iv = .int .i64 1 ∧ wr = w5)
        case atStart => exact ⟨rfl, rfl⟩
        case round =>
          obtain ⟨rfl, rfl⟩ := hrel
          go_wp2_with fail
          go_ret2
          refine ⟨.slice none 0 0, ?_, ?_, HW5.out.2⟩
          · rw [HT.out]; rfl
          · rw [HT.out]; exact HW5.out.1
      · subst hv
        have HS := Lib.hid (And.intro hgs hcS)
        clear hgs hcS
        go_wp2_with fail
        go_loopg [9] S.length (fun gn iv wr => ∃ i : Nat, iv = .int .i64 i ∧ 1 ≤ i ∧ i ≤ S.length + 1 ∧ Hid (Below w5.heap.size w5 wr ∧ (∀ j, j + 1 < i → okP (S.getD j dE) (S.getD (j + 1) dE) = true) ∧ gn + i ≥ S.length + 1))
        case atStart => exact ⟨1, rfl, by omega, by omega, Below.refl _ _, fun j h => by omega, by omega⟩
        case round =>
        obtain ⟨i, rfl, hi1, hi2, HR⟩ := hrel
        by_cases hlt : i < S.length
        · have hdl : decide ((i : Int) < (S.length : Int)) = true := by simp; omega
          obtain ⟨h, rfl⟩ : ∃ h, i = h + 1 := ⟨i - 1, by omega⟩
          have hcell : ∀ t, t < S.length * 3 → wr.cell? ⟨gs, os + t, none⟩ = (edC S)[t]? := fun t ht => (HR.out.1.cell (p := ⟨gs, os + t, none⟩) HS.out.1).trans (HS.out.2 t ht)
          have kp : ∀ i j, i < S.length → j < 3 → wr.cell? ⟨gs, os + (i * 3 + j), none⟩ = (encE (S.getD i dE))[j]? := fun i j hi hj => by
            rw [hcell _ (by omega), edC_get _ _ (by omega), show (i * 3 + j) / 3 = i by omega, show (i * 3 + j) % 3 = j by omega]
            have : j = 0 ∨ j = 1 ∨ j = 2 := by omega
            rcases this with rfl | rfl | rfl <;> rfl
          have c1 := HCk.out _ (getD_memE S h (by omega))
          have c2 := HCk.out _ (getD_memE S (h + 1) hlt)
          have k0 : wr.cell? ⟨gs, os + h * 3, none⟩ = some (.int .i64 (S.getD h dE).1) := kp h 0 (by omega) (by omega)
          have k1 : wr.cell? ⟨gs, os + h * 3 + 1, none⟩ = some (.int .i64 (S.getD h dE).2.1) := kp h 1 (by omega) (by omega)
          have k2 : wr.cell? ⟨gs, os + (h + 1) * 3, none⟩ = some (.int .i64 (S.getD (h + 1) dE).1) := kp (h + 1) 0 hlt (by omega)
          have k3 : wr.cell? ⟨gs, os + (h + 1) * 3 + 1, none⟩ = some (.int .i64 (S.getD (h + 1) dE).2.1) := kp (h + 1) 1 hlt (by omega)
          have HP := Lib.hid (show okP (S.getD h dE) (S.getD (h + 1) dE) = (decide ((S.getD h dE).1 + (S.getD h dE).2.1 ≤ (S.getD (h + 1) dE).1) && !((S.getD h dE).1 == (S.getD (h + 1) dE).1 && (S.getD h dE).2.1 == (S.getD (h + 1) dE).2.1)) from rfl)
          unfold chk at c1 c2
          simp only [Bool.and_eq_true, decide_eq_true_eq] at c1 c2
          generalize (S.getD h dE).1 = a1 at *
          generalize (S.getD h dE).2.1 = l1 at *
          generalize (S.getD (h + 1) dE).1 = a2 at *
          generalize (S.getD (h + 1) dE).2.1 = l2 at *
          clear kp hcell
          have rs : IntKind.i64.wrap (a1 + l1) = a1 + l1 := by rw [IntKind.wrap_i64]; omega
          go_upto_region 17 with fail
          have hbx := blk_new wr (.cells #[.int .i64 a1, .int .i64 l1] 44)
          have hbl := below_alloc (Below.refl wr.heap.size wr) (.cells #[.int .i64 a1, .int .i64 l1] 44)
          have hgw : gs < wr.heap.size := Nat.lt_of_lt_of_le HS.out.1 HR.out.1.size
          have B0 := (blk_cell hbx 0).trans (show _ = some (Value.int .i64 a1) from rfl)
          have B1 := (blk_cell hbx 1).trans (show _ = some (Value.int .i64 l1) from rfl)
          have k2 := (hbl.cell (p := ⟨gs, os + (h + 1) * 3, none⟩) hgw).trans k2
          have k3 := (hbl.cell (p := ⟨gs, os + (h + 1) * 3 + 1, none⟩) hgw).trans k3
          have HR2 := Lib.hid (below_step HR.out.1 hbl)
          have HRr := Lib.hid HR.out.2
          clear HR hbx hbl hgw k0 k1
          generalize wr.alloc (.cells #[.int .i64 a1, .int .i64 l1] 44) = w6 at *
          generalize wr.heap.size = bx at *
          by_cases g1 : a2 < a1 + l1
          · have hd1 : decide (a2 < a1 + l1) = true := decide_eq_true g1
            have HT2 := Lib.hid (show tidy b es = (8, []) from by
              rw [HT.out, if_neg]
              rw [okL_iff]
              intro hh
              have := hh h (by omega)
              rw [HP.out] at this
              simp only [Bool.and_eq_true, decide_eq_true_eq, Bool.not_eq_true', Bool.and_eq_false_iff, beq_eq_false_iff_ne] at this
              omega)
            go_quiet (fail)
            go_wp2_with fail
            go_ret2
            refine ⟨.slice none 0 0, ?_, ?_, pw_below_drewN (below_step HW5.out.2 HR2.out) _⟩
            · rw [HT2.out]; rfl
            · rw [HT2.out]; exact World.ownsRow_nil _ _ _ _
          · have hd1 : decide (a2 < a1 + l1) = false := decide_eq_false g1
            by_cases g2 : a1 = a2
            · subst g2
              by_cases g3 : l1 = l2
              · subst g3
                have HT2 := Lib.hid (show tidy b es = (8, []) from by
                  rw [HT.out, if_neg]
                  rw [okL_iff]
                  intro hh
                  have := hh h (by omega)
                  rw [HP.out] at this
                  simp only [Bool.and_eq_true, decide_eq_true_eq, Bool.not_eq_true', Bool.and_eq_false_iff, beq_eq_false_iff_ne] at this
                  omega)
                go_quiet (fail)
                go_wp2_with fail
                go_ret2
                refine ⟨.slice none 0 0, ?_, ?_, pw_below_drewN (below_step HW5.out.2 HR2.out) _⟩
                · rw [HT2.out]; rfl
                · rw [HT2.out]; exact World.ownsRow_nil _ _ _ _
              · have hl : (l1 == l2) = false := by rw [beq_eq_false_iff_ne]; exact g3
                have HP2 := Lib.hid (show okP (S.getD h dE) (S.getD (h + 1) dE) = true from by
                  rw [HP.out]
                  simp only [Bool.and_eq_true, decide_eq_true_eq, Bool.not_eq_true', Bool.and_eq_false_iff, beq_eq_false_iff_ne]
                  omega)
                go_quiet (fail)
                go_wp2_with fail
                go_roundg (S.length - (h + 1))
                case measure => have := HRr.out.2; omega
                case rel =>
                  refine ⟨h + 1 + 1, by go_num, by omega, by omega, pw_below_drewN HR2.out _, fun j hj => ?_, by omega⟩
                  by_cases e : j = h
                  · rw [e]; exact HP2.out
                  · exact HRr.out.1 j (by omega)
            · have ha : (a1 == a2) = false := by rw [beq_eq_false_iff_ne]; exact g2
              have HP2 := Lib.hid (show okP (S.getD h dE) (S.getD (h + 1) dE) = true from by
                rw [HP.out]
                simp only [Bool.and_eq_true, decide_eq_true_eq, Bool.not_eq_true', Bool.and_eq_false_iff, beq_eq_false_iff_ne]
                omega)
              go_quiet (fail)
              go_wp2_with fail
              go_roundg (S.length - (h + 1))
              case measure => have := HRr.out.2; omega
              case rel =>
                refine ⟨h + 1 + 1, by go_num, by omega, by omega, pw_below_drewN HR2.out _, fun j hj => ?_, by omega⟩
                by_cases e : j = h
                · rw [e]; exact HP2.out
                · exact HRr.out.1 j (by omega)
        · have hdl : decide ((i : Int) < (S.length : Int)) = false := by simp; omega
          have HT2 := Lib.hid (show tidy b es = (0, S) from by
            rw [HT.out, if_pos]
            rw [okL_iff]
            intro j hj
            exact HR.out.2.1 j (by omega))
          go_wp2_with fail
          go_ret2
          refine ⟨.slice (some ⟨gs, os, none⟩) S.length cs, ?_, ?_, below_step HW5.out.2 HR.out.1⟩
          · rw [HT2.out]; rfl
          · rw [HT2.out]; exact pw_own_below HW5.out.1 HR.out.1
end Go.Proofs.Ytgcjkijndibejaa.Srt
