/- The law EditsRefuse, walked: it answers true. Conditions: none. -/
import Derived.Test.YtgcjkijndibejaaECv
set_option linter.unusedVariables false
set_option linter.unusedSimpArgs false
namespace Go.Proofs.Ytgcjkijndibejaa.Srt
open Go.Lib hiding bytesOf bytesOf_length
open Go.Shelf Go.RowKit Go.Proofs.YtgcjkijndibejaaW.PrintWords Go.Proofs.YtgcjkijndibejaaW.PrintLast

theorem chg_long (b : List Int) (hb : Bys b) (e : Ed) (h : e.2.1.toNat < e.2.2.size) : chg b e = true := by
  rw [chg_iff b hb]
  intro h1
  have h2 := congrArg List.length h1
  rw [bytesOf_length] at h2
  unfold cut at h2
  rw [List.length_take] at h2
  omega
theorem kept_all (b : List Int) (es : List Ed) (h : ∀ e ∈ es, chg b e = true) : kept b es = es := List.filter_eq_self.2 h
/-- Two edits that change something, the first one ahead. -/
theorem tidy_two (b : List Int) (hb : Bys b) (p q : Ed) (hp : chk b.length p = true) (hq : chk b.length q = true) (hcp : chg b p = true) (hcq : chg b q = true) (hlt : ltE p q = true) :
    (tidy b [p, q]).1 = (if okP p q = true then 0 else 8) ∧ (tidy b [q, p]).1 = (if okP p q = true then 0 else 8) := by
  have h1 : srtE [p, q] = [p, q] := srtE_of _ _ (List.Perm.refl _) (by simp [hlt])
  have h2 : srtE [q, p] = [p, q] := srtE_of _ _ (List.Perm.swap _ _ _) (by simp [hlt])
  have k1 : kept b [p, q] = [p, q] := kept_all _ _ (by simp [hcp, hcq])
  have k2 : kept b [q, p] = [q, p] := kept_all _ _ (by simp [hcp, hcq])
  have ho : okL [p, q] = okP p q := by show (okP p q && okL [q]) = _; rw [show okL [q] = true from rfl, Bool.and_true]
  constructor
  · unfold tidy
    rw [if_neg (by simp), if_pos (by simp [hp, hq]), k1, h1, ho]
    split <;> rfl
  · unfold tidy
    rw [if_neg (by simp), if_pos (by simp [hp, hq]), k2, h2, ho]
    split <;> rfl
theorem tidy_same (b : List Int) (z : Ed) (hz : chk b.length z = true) (hc : chg b z = true) : (tidy b [z, z]).1 = 8 := by
  have h0 : (srtE [z, z]).Perm (List.replicate 2 z) := srtE_perm [z, z]
  have h1 : srtE [z, z] = [z, z] := List.perm_replicate.1 h0
  have k1 : kept b [z, z] = [z, z] := kept_all _ _ (by simp [hc])
  have ho : okL [z, z] = false := by show (okP z z && okL [z]) = _; unfold okP; simp
  unfold tidy
  rw [if_neg (by simp), if_pos (by simp [hz]), k1, h1, ho]
  rfl
theorem tidy_out (b : List Int) (p r : Ed) (hr : chk b.length r = false) : (tidy b [p, r]).1 = 2 := by
  unfold tidy
  rw [if_neg (by simp), if_neg (by simp [hr])]
/-- Apply, of two edits that are laid in a row. -/
theorem apply_two (A : Option Addr) (c : Nat) (b : List Int) (p1 q1 p2 q2 : Int) (s1 s2 : ByteArray) (W : World) (hC : Kd.C (Kd.int .u8) W A b.length b) (hc : b.length ≤ c) (hb : b.length ≤ 100000) (h1 : s1.size ≤ 1000) (h2 : s2.size ≤ 1000) :
    Calls Try.prog 15 #[.slice A b.length c, .slice (some ⟨W.heap.size, 0, none⟩) 2 2] (W.alloc (.cells #[.int .i64 p1, .int .i64 q1, .string s1, .int .i64 p2, .int .i64 q2, .string s2] 46)) fun e w' => (∃ v', e = .returned (.tuple #[v', .int .i64 (tidy b [(p1, q1, s1), (p2, q2, s2)]).1])) ∧ Below W.heap.size W w' := by
  have hx1 := blk_new W (.cells #[.int .i64 p1, .int .i64 q1, .string s1, .int .i64 p2, .int .i64 q2, .string s2] 46)
  have hb1 := below_alloc (Below.refl W.heap.size W) (.cells #[.int .i64 p1, .int .i64 q1, .string s1, .int .i64 p2, .int .i64 q2, .string s2] 46)
  refine (apply_any A c b _ [(p1, q1, s1), (p2, q2, s2)] _ (Kd.C_below hC hb1) hc (EdR.lit [(p1, q1, s1), (p2, q2, s2)] hx1) hb (by simp) (by
    intro e he
    rcases List.mem_cons.1 he with rfl | he
    · exact h1
    · rcases List.mem_singleton.1 he with rfl
      exact h2)).mono ?_
  rintro e w' ⟨v', rfl, ho⟩
  exact ⟨⟨v', rfl⟩, below_step hb1 ho.bel⟩
/-- Four blocks of edits. -/
structure Four (W : World) (a1 a2 a3 a4 : Nat) (c1 c2 c3 c4 : Array Value) : Prop where
  f1 : W.heap[a1]? = some (.cells c1 46 (0, 0))
  f2 : W.heap[a2]? = some (.cells c2 46 (0, 0))
  f3 : W.heap[a3]? = some (.cells c3 46 (0, 0))
  f4 : W.heap[a4]? = some (.cells c4 46 (0, 0))
theorem Four.below {W W' : World} {a1 a2 a3 a4 : Nat} {c1 c2 c3 c4 : Array Value} (h : Four W a1 a2 a3 a4 c1 c2 c3 c4) (hb : Below W.heap.size W W') : Four W' a1 a2 a3 a4 c1 c2 c3 c4 :=
  ⟨blk_below h.f1 hb, blk_below h.f2 hb, blk_below h.f3 hb, blk_below h.f4 hb⟩
set_option maxRecDepth 100000 in
set_option maxHeartbeats 8000000 in
theorem editsRefuse_any (A : Option Addr) (c : Nat) (b : List Int) (at0 n0 : Nat) (x y : ByteArray) (w : World) (hC : Kd.C (Kd.int .u8) w A b.length b) (hc : b.length ≤ c) (hB : Bys b) (hm : b.length ≤ 140737488351232) (hx : x.size ≤ 140737488351232) (hy : y.size ≤ 140737488351232) (ha : at0 < 256) (hn : n0 < 256) :
    Calls Try.prog 8 #[.slice A b.length c, .int .u8 at0, .int .u8 n0, .string x, .string y] w fun e w' => e = .returned (.bool true) ∧ Below w.heap.size w w' := by
  have HC := Lib.hid (And.intro hC (And.intro hc hB))
  clear hC hc hB
  go_enter Try.func8, Try.ntmps8
  go_wp2_with fail
  refine (awake_any _).mono ?_
  rintro e w1 ⟨rfl, hb1⟩
  have HW := Lib.hid hb1
  clear hb1
  by_cases g1 : b.length < 3
  · have h3 : decide ((b.length : Int) < 3) = true := by simp; omega
    go_wp2_with fail
    go_ret
    exact ⟨rfl, HW.out⟩
  have h3 : decide ((b.length : Int) < 3) = false := by simp; omega
  by_cases g2 : 300 < b.length
  · have h4 : decide ((300 : Int) < (b.length : Int)) = true := by simp; omega
    go_wp2_with fail
    go_ret
    exact ⟨rfl, HW.out⟩
  have h4 : decide ((300 : Int) < (b.length : Int)) = false := by simp; omega
  by_cases g3 : 100 < x.size + y.size
  · have h5 : decide ((100 : Int) < (x.size : Int) + (y.size : Int)) = true := by simp; omega
    go_wp2_with fail
    go_ret
    exact ⟨rfl, HW.out⟩
  have h5 : decide ((100 : Int) < (x.size : Int) + (y.size : Int)) = false := by simp; omega
  obtain ⟨i, hi, hi2⟩ : ∃ i : Nat, (at0 : Int) % ((b.length : Int) - 2) = (i : Int) ∧ i + 3 ≤ b.length := by
    have h1 := Int.emod_nonneg (at0 : Int) (show (b.length : Int) - 2 ≠ 0 by omega)
    have h2 := Int.emod_lt_of_pos (at0 : Int) (show 0 < (b.length : Int) - 2 by omega)
    exact ⟨((at0 : Int) % ((b.length : Int) - 2)).toNat, by omega, by omega⟩
  obtain ⟨k', hk', hk2⟩ : ∃ k' : Nat, (n0 : Int) % ((b.length : Int) - (i : Int) - 1) = (k' : Int) ∧ i + k' + 2 ≤ b.length := by
    have h1 := Int.emod_nonneg (n0 : Int) (show (b.length : Int) - (i : Int) - 1 ≠ 0 by omega)
    have h2 := Int.emod_lt_of_pos (n0 : Int) (show 0 < (b.length : Int) - (i : Int) - 1 by omega)
    exact ⟨((n0 : Int) % ((b.length : Int) - (i : Int) - 1)).toNat, by omega, by omega⟩
  obtain ⟨k, hk⟩ : ∃ k : Nat, (2 : Int) + (k' : Int) = (k : Int) := ⟨2 + k', by omega⟩
  obtain ⟨r, hr⟩ : ∃ r : Nat, (i : Int) + (k : Int) = (r : Int) := ⟨i + k, by omega⟩
  obtain ⟨s, hs⟩ : ∃ s : Nat, (r : Int) - 1 = (s : Int) := ⟨r - 1, by omega⟩
  have hk1 : 2 ≤ k := by omega
  have hrb : r ≤ b.length := by omega
  have hir : i ≤ r := by omega
  have hsr : s ≤ r := by omega
  have hct1 := cut_b A b.length c i r hir hrb HC.out.2.1
  have hct2 := cut_b A b.length c s r hsr hrb HC.out.2.1
  have HCw := Lib.hid (Kd.C_below HC.out.1 HW.out)
  obtain ⟨M1, hM1⟩ : ∃ M : ByteArray, M = strOfNums ((b.drop i).take (r - i)) := ⟨_, rfl⟩
  obtain ⟨M2, hM2⟩ : ∃ M : ByteArray, M = strOfNums ((b.drop s).take (r - s)) := ⟨_, rfl⟩
  have hl1 : M1.size = k := by rw [hM1, strOfNums_size', List.length_take, List.length_drop]; omega
  have hl2 : M2.size = 1 := by rw [hM2, strOfNums_size', List.length_take, List.length_drop]; omega
  have HCv1 := Lib.hid (fun (w' : World) (hb : Below w1.heap.size w1 w') => conv_cut HCw.out HC.out.2.1 i r hir hrb (c - i) hb)
  have HCv2 := Lib.hid (fun (w' : World) (hb : Below w1.heap.size w1 w') => conv_cut HCw.out HC.out.2.1 s r hsr hrb (c - s) hb)
  rw [← hM1] at HCv1
  rw [← hM2] at HCv2
  generalize (if c = i then A else A.map (·.add (i * 1))) = A1 at *
  generalize (if c = s then A else A.map (·.add (s * 1))) = A2 at *
  have hls1 : M1.size ≤ 300 := by omega
  have hls2 : M2.size ≤ 300 := by omega
  have HL1 := Lib.hid hl1
  have HL2 := Lib.hid hl2
  have hcv1 := HCv1.out w1 (Below.refl _ _)
  clear hM1 hM2 hl1 hl2
  have hq1 : (9223372036854775807 < x.size + 1) = False := by simp; omega
  have hq2 : (9223372036854775807 < x.size + 1 + M1.size) = False := by simp; omega
  have hq3 : (9223372036854775807 < y.size + 1) = False := by simp; omega
  have hq4 : (9223372036854775807 < y.size + 1 + M2.size) = False := by simp; omega
  have hq5 : (9223372036854775807 < 1 + x.size) = False := by simp; omega
  go_upto_region 8 with fail
  obtain ⟨P, hP⟩ : ∃ P : ByteArray, x ++ (⟨#[0]⟩ : ByteArray) ++ M1 = P := ⟨_, rfl⟩
  obtain ⟨Q, hQ⟩ : ∃ Q : ByteArray, y ++ (⟨#[0]⟩ : ByteArray) ++ M2 = Q := ⟨_, rfl⟩
  obtain ⟨Z, hZ⟩ : ∃ Z : ByteArray, (⟨#[122]⟩ : ByteArray) ++ x = Z := ⟨_, rfl⟩
  have e0 : (⟨#[0]⟩ : ByteArray).size = 1 := rfl
  have e1 : (⟨#[122]⟩ : ByteArray).size = 1 := rfl
  have HP := Lib.hid (show P.size = x.size + 1 + k from by rw [← hP, ByteArray.size_append, ByteArray.size_append, HL1.out, e0])
  have HQ := Lib.hid (show Q.size = y.size + 2 from by rw [← hQ, ByteArray.size_append, ByteArray.size_append, HL2.out, e0])
  have HZ := Lib.hid (show Z.size = x.size + 1 from by rw [← hZ, ByteArray.size_append, e1]; omega)
  rw [hP]
  have HB2 := Lib.hid (below_alloc (Below.refl w1.heap.size w1) (.cells #[.int .i64 (i : Int), .int .i64 (k : Int), .string P] 46))
  have HX1 := Lib.hid (blk_new w1 (.cells #[.int .i64 (i : Int), .int .i64 (k : Int), .string P] 46))
  have hcv2 := HCv2.out _ HB2.out
  have hsz := size_alloc1 w1 (.cells #[.int .i64 (i : Int), .int .i64 (k : Int), .string P] 46)
  have HSZ := Lib.hid hsz
  clear hsz hcv1 hP
  generalize w1.alloc (.cells #[.int .i64 (i : Int), .int .i64 (k : Int), .string P] 46) = w2 at *
  go_upto_region 9 with fail
  clear hcv2 hQ
  go_upto_region 11 with fail
  have HF0 := Lib.hid (show Below w1.heap.size w1 (((w2.alloc (.cells #[.int .i64 (s : Int), .int .i64 1, .string Q] 46)).alloc (.cells #[.int .i64 (b.length : Int), .int .i64 1, .string x] 46)).alloc (.cells #[.int .i64 (i : Int), .int .i64 0, .string Z] 46)) from below_alloc (below_alloc (below_alloc HB2.out _) _) _)
  have HX0 := Lib.hid (show Four (((w2.alloc (.cells #[.int .i64 (s : Int), .int .i64 1, .string Q] 46)).alloc (.cells #[.int .i64 (b.length : Int), .int .i64 1, .string x] 46)).alloc (.cells #[.int .i64 (i : Int), .int .i64 0, .string Z] 46)) w1.heap.size w2.heap.size (w2.heap.size + 1) (w2.heap.size + 1 + 1) #[.int .i64 (i : Int), .int .i64 (k : Int), .string P] #[.int .i64 (s : Int), .int .i64 1, .string Q] #[.int .i64 (b.length : Int), .int .i64 1, .string x] #[.int .i64 (i : Int), .int .i64 0, .string Z] from
    ⟨blk_alloc (blk_alloc (blk_alloc HX1.out _) _) _, blk_alloc (blk_alloc (blk_new _ _) _) _, blk_alloc (by have h := blk_new (w2.alloc (.cells #[.int .i64 (s : Int), .int .i64 1, .string Q] 46)) (.cells #[.int .i64 (b.length : Int), .int .i64 1, .string x] 46); rw [size_alloc1] at h; exact h) _, by have h := blk_new ((w2.alloc (.cells #[.int .i64 (s : Int), .int .i64 1, .string Q] 46)).alloc (.cells #[.int .i64 (b.length : Int), .int .i64 1, .string x] 46)) (.cells #[.int .i64 (i : Int), .int .i64 0, .string Z] 46); rw [size_alloc1, size_alloc1] at h; exact h⟩)
  have HB0 := Lib.hid (below_step HW.out HF0.out)
  have HC0 := Lib.hid (Kd.C_below HCw.out HF0.out)
  clear HF0 HX1 HB2 HSZ HCw HW HCv1 HCv2 hct1 hct2
  generalize (((w2.alloc (.cells #[.int .i64 (s : Int), .int .i64 1, .string Q] 46)).alloc (.cells #[.int .i64 (b.length : Int), .int .i64 1, .string x] 46)).alloc (.cells #[.int .i64 (i : Int), .int .i64 0, .string Z] 46)) = W0 at *
  generalize w2.heap.size + 1 + 1 = a4 at *
  generalize w2.heap.size + 1 = a3 at *
  generalize w2.heap.size = a2 at *
  generalize w1.heap.size = a1 at *
  have hPs : P.size ≤ 1000 := by have := HP.out; omega
  have hQs : Q.size ≤ 1000 := by have := HQ.out; omega
  have hZs : Z.size ≤ 1000 := by have := HZ.out; omega
  have hxs : x.size ≤ 1000 := by omega
  have kp : chk b.length ((i : Int), (k : Int), P) = true := by rw [chk_iff]; show (0 : Int) ≤ i ∧ (0 : Int) ≤ k ∧ (i : Int) + k ≤ b.length; omega
  have kq : chk b.length ((s : Int), (1 : Int), Q) = true := by rw [chk_iff]; show (0 : Int) ≤ s ∧ (0 : Int) ≤ 1 ∧ (s : Int) + 1 ≤ b.length; omega
  have kz : chk b.length ((i : Int), (0 : Int), Z) = true := by rw [chk_iff]; show (0 : Int) ≤ i ∧ (0 : Int) ≤ 0 ∧ (i : Int) + 0 ≤ b.length; omega
  have kr : chk b.length ((b.length : Int), (1 : Int), x) = false := by
    rw [← Bool.not_eq_true, chk_iff]
    show ¬ ((0 : Int) ≤ (b.length : Int) ∧ (0 : Int) ≤ 1 ∧ (b.length : Int) + 1 ≤ b.length)
    omega
  have gp : chg b ((i : Int), (k : Int), P) = true := chg_long b HC.out.2.2 _ (by have := HP.out; show ((k : Int)).toNat < P.size; omega)
  have gq : chg b ((s : Int), (1 : Int), Q) = true := chg_long b HC.out.2.2 _ (by have := HQ.out; show (1 : Nat) < Q.size; omega)
  have gz : chg b ((i : Int), (0 : Int), Z) = true := chg_long b HC.out.2.2 _ (by have := HZ.out; show (0 : Nat) < Z.size; omega)
  have lpq : ltE ((i : Int), (k : Int), P) ((s : Int), (1 : Int), Q) = true := by rw [ltE_iff]; exact .inl (show (i : Int) < s by omega)
  have lzp : ltE ((i : Int), (0 : Int), Z) ((i : Int), (k : Int), P) = true := by rw [ltE_iff]; exact .inr ⟨rfl, show (0 : Int) < k by omega⟩
  have opq : okP ((i : Int), (k : Int), P) ((s : Int), (1 : Int), Q) = false := by
    rw [← Bool.not_eq_true, okP_iff]
    show ¬ ((i : Int) + k ≤ s ∧ _)
    omega
  have ozp : okP ((i : Int), (0 : Int), Z) ((i : Int), (k : Int), P) = true := by
    rw [okP_iff]
    show (i : Int) + 0 ≤ i ∧ ¬ ((i : Int) = i ∧ (0 : Int) = k)
    omega
  have tpq := tidy_two b HC.out.2.2 _ _ kp kq gp gq lpq
  have tzp := tidy_two b HC.out.2.2 _ _ kz kp gz gp lzp
  rw [opq] at tpq
  rw [ozp] at tzp
  have HT1 := Lib.hid tpq.1
  have HT2 := Lib.hid tpq.2
  have HT3 := Lib.hid (tidy_out b ((i : Int), (k : Int), P) _ kr)
  have HT4 := Lib.hid (tidy_same b _ kz gz)
  have HT5 := Lib.hid tzp.1
  clear kp kq kz kr gp gq gz lpq lzp opq ozp tpq tzp HP HQ HZ HL1 HL2 hls1 hls2 hq1 hq2 hq3 hq4 hq5 hZ
  have c000 : W0.cell? ⟨a1, 0, none⟩ = some (.int .i64 (i : Int)) := (blk_cell HX0.out.f1 0).trans rfl
  have c001 : W0.cell? ⟨a1, 1, none⟩ = some (.int .i64 (k : Int)) := (blk_cell HX0.out.f1 1).trans rfl
  have c002 : W0.cell? ⟨a1, 2, none⟩ = some (.string P) := (blk_cell HX0.out.f1 2).trans rfl
  have c010 : W0.cell? ⟨a2, 0, none⟩ = some (.int .i64 (s : Int)) := (blk_cell HX0.out.f2 0).trans rfl
  have c011 : W0.cell? ⟨a2, 1, none⟩ = some (.int .i64 1) := (blk_cell HX0.out.f2 1).trans rfl
  have c012 : W0.cell? ⟨a2, 2, none⟩ = some (.string Q) := (blk_cell HX0.out.f2 2).trans rfl
  have c020 : W0.cell? ⟨a3, 0, none⟩ = some (.int .i64 (b.length : Int)) := (blk_cell HX0.out.f3 0).trans rfl
  have c021 : W0.cell? ⟨a3, 1, none⟩ = some (.int .i64 1) := (blk_cell HX0.out.f3 1).trans rfl
  have c022 : W0.cell? ⟨a3, 2, none⟩ = some (.string x) := (blk_cell HX0.out.f3 2).trans rfl
  have c030 : W0.cell? ⟨a4, 0, none⟩ = some (.int .i64 (i : Int)) := (blk_cell HX0.out.f4 0).trans rfl
  have c031 : W0.cell? ⟨a4, 1, none⟩ = some (.int .i64 0) := (blk_cell HX0.out.f4 1).trans rfl
  have c032 : W0.cell? ⟨a4, 2, none⟩ = some (.string Z) := (blk_cell HX0.out.f4 2).trans rfl
  go_wp2_with fail
  clear c000 c001 c002 c010 c011 c012 c020 c021 c022 c030 c031 c032
  refine (apply_two A c b (i : Int) (k : Int) (s : Int) 1 P Q _ HC0.out HC.out.2.1 (by omega) hPs hQs).mono ?_
  rintro e W1 ⟨⟨v1, rfl⟩, hb⟩
  rw [HT1.out]
  have HX1 := Lib.hid (HX0.out.below hb)
  have HC1 := Lib.hid (Kd.C_below HC0.out hb)
  have HB1 := Lib.hid (below_step HB0.out hb)
  clear hb HX0 HC0 HB0 HT1
  have c100 : W1.cell? ⟨a1, 0, none⟩ = some (.int .i64 (i : Int)) := (blk_cell HX1.out.f1 0).trans rfl
  have c101 : W1.cell? ⟨a1, 1, none⟩ = some (.int .i64 (k : Int)) := (blk_cell HX1.out.f1 1).trans rfl
  have c102 : W1.cell? ⟨a1, 2, none⟩ = some (.string P) := (blk_cell HX1.out.f1 2).trans rfl
  have c110 : W1.cell? ⟨a2, 0, none⟩ = some (.int .i64 (s : Int)) := (blk_cell HX1.out.f2 0).trans rfl
  have c111 : W1.cell? ⟨a2, 1, none⟩ = some (.int .i64 1) := (blk_cell HX1.out.f2 1).trans rfl
  have c112 : W1.cell? ⟨a2, 2, none⟩ = some (.string Q) := (blk_cell HX1.out.f2 2).trans rfl
  have c120 : W1.cell? ⟨a3, 0, none⟩ = some (.int .i64 (b.length : Int)) := (blk_cell HX1.out.f3 0).trans rfl
  have c121 : W1.cell? ⟨a3, 1, none⟩ = some (.int .i64 1) := (blk_cell HX1.out.f3 1).trans rfl
  have c122 : W1.cell? ⟨a3, 2, none⟩ = some (.string x) := (blk_cell HX1.out.f3 2).trans rfl
  have c130 : W1.cell? ⟨a4, 0, none⟩ = some (.int .i64 (i : Int)) := (blk_cell HX1.out.f4 0).trans rfl
  have c131 : W1.cell? ⟨a4, 1, none⟩ = some (.int .i64 0) := (blk_cell HX1.out.f4 1).trans rfl
  have c132 : W1.cell? ⟨a4, 2, none⟩ = some (.string Z) := (blk_cell HX1.out.f4 2).trans rfl
  go_wp2_with fail
  clear c100 c101 c102 c110 c111 c112 c120 c121 c122 c130 c131 c132
  refine (apply_two A c b (s : Int) 1 (i : Int) (k : Int) Q P _ HC1.out HC.out.2.1 (by omega) hQs hPs).mono ?_
  rintro e W2 ⟨⟨v2, rfl⟩, hb⟩
  rw [HT2.out]
  have HX2 := Lib.hid (HX1.out.below hb)
  have HC2 := Lib.hid (Kd.C_below HC1.out hb)
  have HB2 := Lib.hid (below_step HB1.out hb)
  clear hb HX1 HC1 HB1 HT2
  have c200 : W2.cell? ⟨a1, 0, none⟩ = some (.int .i64 (i : Int)) := (blk_cell HX2.out.f1 0).trans rfl
  have c201 : W2.cell? ⟨a1, 1, none⟩ = some (.int .i64 (k : Int)) := (blk_cell HX2.out.f1 1).trans rfl
  have c202 : W2.cell? ⟨a1, 2, none⟩ = some (.string P) := (blk_cell HX2.out.f1 2).trans rfl
  have c210 : W2.cell? ⟨a2, 0, none⟩ = some (.int .i64 (s : Int)) := (blk_cell HX2.out.f2 0).trans rfl
  have c211 : W2.cell? ⟨a2, 1, none⟩ = some (.int .i64 1) := (blk_cell HX2.out.f2 1).trans rfl
  have c212 : W2.cell? ⟨a2, 2, none⟩ = some (.string Q) := (blk_cell HX2.out.f2 2).trans rfl
  have c220 : W2.cell? ⟨a3, 0, none⟩ = some (.int .i64 (b.length : Int)) := (blk_cell HX2.out.f3 0).trans rfl
  have c221 : W2.cell? ⟨a3, 1, none⟩ = some (.int .i64 1) := (blk_cell HX2.out.f3 1).trans rfl
  have c222 : W2.cell? ⟨a3, 2, none⟩ = some (.string x) := (blk_cell HX2.out.f3 2).trans rfl
  have c230 : W2.cell? ⟨a4, 0, none⟩ = some (.int .i64 (i : Int)) := (blk_cell HX2.out.f4 0).trans rfl
  have c231 : W2.cell? ⟨a4, 1, none⟩ = some (.int .i64 0) := (blk_cell HX2.out.f4 1).trans rfl
  have c232 : W2.cell? ⟨a4, 2, none⟩ = some (.string Z) := (blk_cell HX2.out.f4 2).trans rfl
  go_wp2_with fail
  clear c200 c201 c202 c210 c211 c212 c220 c221 c222 c230 c231 c232
  refine (apply_two A c b (i : Int) (k : Int) (b.length : Int) 1 P x _ HC2.out HC.out.2.1 (by omega) hPs hxs).mono ?_
  rintro e W3 ⟨⟨v3, rfl⟩, hb⟩
  rw [HT3.out]
  have HX3 := Lib.hid (HX2.out.below hb)
  have HC3 := Lib.hid (Kd.C_below HC2.out hb)
  have HB3 := Lib.hid (below_step HB2.out hb)
  clear hb HX2 HC2 HB2 HT3
  have c300 : W3.cell? ⟨a1, 0, none⟩ = some (.int .i64 (i : Int)) := (blk_cell HX3.out.f1 0).trans rfl
  have c301 : W3.cell? ⟨a1, 1, none⟩ = some (.int .i64 (k : Int)) := (blk_cell HX3.out.f1 1).trans rfl
  have c302 : W3.cell? ⟨a1, 2, none⟩ = some (.string P) := (blk_cell HX3.out.f1 2).trans rfl
  have c310 : W3.cell? ⟨a2, 0, none⟩ = some (.int .i64 (s : Int)) := (blk_cell HX3.out.f2 0).trans rfl
  have c311 : W3.cell? ⟨a2, 1, none⟩ = some (.int .i64 1) := (blk_cell HX3.out.f2 1).trans rfl
  have c312 : W3.cell? ⟨a2, 2, none⟩ = some (.string Q) := (blk_cell HX3.out.f2 2).trans rfl
  have c320 : W3.cell? ⟨a3, 0, none⟩ = some (.int .i64 (b.length : Int)) := (blk_cell HX3.out.f3 0).trans rfl
  have c321 : W3.cell? ⟨a3, 1, none⟩ = some (.int .i64 1) := (blk_cell HX3.out.f3 1).trans rfl
  have c322 : W3.cell? ⟨a3, 2, none⟩ = some (.string x) := (blk_cell HX3.out.f3 2).trans rfl
  have c330 : W3.cell? ⟨a4, 0, none⟩ = some (.int .i64 (i : Int)) := (blk_cell HX3.out.f4 0).trans rfl
  have c331 : W3.cell? ⟨a4, 1, none⟩ = some (.int .i64 0) := (blk_cell HX3.out.f4 1).trans rfl
  have c332 : W3.cell? ⟨a4, 2, none⟩ = some (.string Z) := (blk_cell HX3.out.f4 2).trans rfl
  go_wp2_with fail
  clear c300 c301 c302 c310 c311 c312 c320 c321 c322 c330 c331 c332
  refine (apply_two A c b (i : Int) 0 (i : Int) 0 Z Z _ HC3.out HC.out.2.1 (by omega) hZs hZs).mono ?_
  rintro e W4 ⟨⟨v4, rfl⟩, hb⟩
  rw [HT4.out]
  have HX4 := Lib.hid (HX3.out.below hb)
  have HC4 := Lib.hid (Kd.C_below HC3.out hb)
  have HB4 := Lib.hid (below_step HB3.out hb)
  clear hb HX3 HC3 HB3 HT4
  have c400 : W4.cell? ⟨a1, 0, none⟩ = some (.int .i64 (i : Int)) := (blk_cell HX4.out.f1 0).trans rfl
  have c401 : W4.cell? ⟨a1, 1, none⟩ = some (.int .i64 (k : Int)) := (blk_cell HX4.out.f1 1).trans rfl
  have c402 : W4.cell? ⟨a1, 2, none⟩ = some (.string P) := (blk_cell HX4.out.f1 2).trans rfl
  have c410 : W4.cell? ⟨a2, 0, none⟩ = some (.int .i64 (s : Int)) := (blk_cell HX4.out.f2 0).trans rfl
  have c411 : W4.cell? ⟨a2, 1, none⟩ = some (.int .i64 1) := (blk_cell HX4.out.f2 1).trans rfl
  have c412 : W4.cell? ⟨a2, 2, none⟩ = some (.string Q) := (blk_cell HX4.out.f2 2).trans rfl
  have c420 : W4.cell? ⟨a3, 0, none⟩ = some (.int .i64 (b.length : Int)) := (blk_cell HX4.out.f3 0).trans rfl
  have c421 : W4.cell? ⟨a3, 1, none⟩ = some (.int .i64 1) := (blk_cell HX4.out.f3 1).trans rfl
  have c422 : W4.cell? ⟨a3, 2, none⟩ = some (.string x) := (blk_cell HX4.out.f3 2).trans rfl
  have c430 : W4.cell? ⟨a4, 0, none⟩ = some (.int .i64 (i : Int)) := (blk_cell HX4.out.f4 0).trans rfl
  have c431 : W4.cell? ⟨a4, 1, none⟩ = some (.int .i64 0) := (blk_cell HX4.out.f4 1).trans rfl
  have c432 : W4.cell? ⟨a4, 2, none⟩ = some (.string Z) := (blk_cell HX4.out.f4 2).trans rfl
  go_wp2_with fail
  clear c400 c401 c402 c410 c411 c412 c420 c421 c422 c430 c431 c432
  refine (apply_two A c b (i : Int) 0 (i : Int) (k : Int) Z P _ HC4.out HC.out.2.1 (by omega) hZs hPs).mono ?_
  rintro e W5 ⟨⟨v5, rfl⟩, hb⟩
  rw [HT5.out]
  have HX5 := Lib.hid (HX4.out.below hb)
  have HC5 := Lib.hid (Kd.C_below HC4.out hb)
  have HB5 := Lib.hid (below_step HB4.out hb)
  clear hb HX4 HC4 HB4 HT5
  go_wp2_with fail
  go_ret
  exact ⟨rfl, HB5.out⟩
end Go.Proofs.Ytgcjkijndibejaa.Srt
namespace Go.Proofs.Ytgcjkijndibejaa.Wk.EditsRefuse
open Go.RowKit Go.Proofs.YtgcjkijndibejaaW.PrintWords Go.Proofs.Ytgcjkijndibejaa.Srt
theorem walk (A : Option Addr) (c : Nat) (b : List Int) (a n : Int) (x y : ByteArray) (w : World) (hC : Kd.C (Kd.int .u8) w A b.length b) (hc : b.length ≤ c) (hg : Bys b ∧ b.length ≤ 140737488351232) (ha : (Lit.int .u8 a).wf = true) (hn : (Lit.int .u8 n).wf = true) (hx : x.size ≤ 140737488351232) (hy : y.size ≤ 140737488351232) :
    Calls Try.prog 8 #[.slice A b.length c, .int .u8 a, .int .u8 n, .string x, .string y] w fun e w' => e = .returned (.bool true) ∧ Below w.heap.size w w' := by
  obtain ⟨a, rfl, ha2⟩ := u8_of ha
  obtain ⟨n, rfl, hn2⟩ := u8_of hn
  exact editsRefuse_any A c b a n x y w hC hc hg.1 hg.2 hx hy ha2 hn2
end Go.Proofs.Ytgcjkijndibejaa.Wk.EditsRefuse
