/- The law EditsOne, walked: it answers true. Conditions: none. -/
import Derived.Test.YtgcjkijndibejaaEAw
set_option linter.unusedVariables false
set_option linter.unusedSimpArgs false
namespace Go.Proofs.Ytgcjkijndibejaa.Srt
open Go.Lib hiding bytesOf bytesOf_length
open Go.Shelf Go.RowKit Go.Proofs.YtgcjkijndibejaaW.PrintWords Go.Proofs.YtgcjkijndibejaaW.PrintLast

theorem umod (a : Int) (n : Nat) : ∃ p : Nat, (IntKind.u64.wrap a).tmod ((n : Int) + 1) = (p : Int) ∧ p ≤ n := by
  have h0 : 0 ≤ IntKind.u64.wrap a := (wrap_within .u64 a).1
  have h1 := Int.tmod_nonneg ((n : Int) + 1) h0
  have h2 := Int.tmod_lt_of_pos (IntKind.u64.wrap a) (show (0 : Int) < (n : Int) + 1 by omega)
  exact ⟨((IntKind.u64.wrap a).tmod ((n : Int) + 1)).toNat, by omega, by omega⟩
theorem cut_to_b (A : Option Addr) (n c p : Nat) (hp : p ≤ n) (hc : n ≤ c) : ∀ W : World, (Instr.slice 22 (.slice A n c) none (some (.int .i64 p)) none).run Try.prog W = .ok (.slice A p c) W := by
  obtain ⟨i0, hi0, _, hsz, _⟩ := info_parts info_u8
  have := cut_to (P := Try.prog) 22 5 .i64 Try.underlying22 hi0 A n c (p : Int) (by omega) (by omega) hc
  simpa using this
/-- The bytes of cuts, as strings, in a world and behind draws. -/
theorem conv_cut {w : World} {A : Option Addr} {c : Nat} {b : List Int} (h : Kd.C (Kd.int .u8) w A b.length b) (hc : b.length ≤ c) (p q : Nat) (hp : p ≤ q) (hq : q ≤ b.length) (k : Nat) {w' : World} (hb : Below w.heap.size w w') : (convert 22 9 (.slice (if c = p then A else A.map (·.add (p * 1))) (q - p) k)).run Try.prog w' = .ok (.string (strOfNums ((b.drop p).take (q - p)))) w' := conv_C (C_mid (Kd.C_below h hb) hc p q hp hq)
theorem conv_to {w : World} {A : Option Addr} {b : List Int} (h : Kd.C (Kd.int .u8) w A b.length b) (p : Nat) (hp : p ≤ b.length) (k : Nat) {w' : World} (hb : Below w.heap.size w w') : (convert 22 9 (.slice A p k)).run Try.prog w' = .ok (.string (strOfNums (b.take p))) w' := conv_C (C_take (Kd.C_below h hb) p hp)
theorem conv_from {w : World} {A : Option Addr} {c : Nat} {b : List Int} (h : Kd.C (Kd.int .u8) w A b.length b) (hc : b.length ≤ c) (p : Nat) (hp : p ≤ b.length) (k : Nat) {w' : World} (hb : Below w.heap.size w w') : (convert 22 9 (.slice (if c = p then A else A.map (·.add (p * 1))) (b.length - p) k)).run Try.prog w' = .ok (.string (strOfNums (b.drop p))) w' := by
  have h1 := Kd.C_drop (Kd.C_below h hb) hp hc
  rw [List.length_drop] at h1
  exact conv_C h1
set_option maxRecDepth 100000 in
set_option maxHeartbeats 4000000 in
theorem editsOne_any (A : Option Addr) (c : Nat) (b : List Int) (a0 l0 : Int) (tx : ByteArray) (sm : Bool) (w : World) (hC : Kd.C (Kd.int .u8) w A b.length b) (hc : b.length ≤ c) (hB : Bys b) (hm : b.length ≤ 140737488351232) (ht : tx.size ≤ 140737488351232) (ha : -9223372036854775808 ≤ a0 ∧ a0 ≤ 9223372036854775807) (hl : -9223372036854775808 ≤ l0 ∧ l0 ≤ 9223372036854775807) :
    Calls Try.prog 7 #[.slice A b.length c, .agg #[.int .i64 a0, .int .i64 l0], .string tx, .bool sm] w fun e w' => e = .returned (.bool true) ∧ Below w.heap.size w w' := by
  have HC := Lib.hid (And.intro hC (And.intro hc hB))
  clear hC hc hB
  go_enter Try.func7, Try.ntmps7
  go_wp2_with fail
  have hx0 := blk_new w (.cells #[.int .i64 a0, .int .i64 l0] 44)
  have hb0 := below_alloc (Below.refl w.heap.size w) (.cells #[.int .i64 a0, .int .i64 l0] 44)
  refine (awake_any _).mono ?_
  rintro e w1 ⟨rfl, hb1⟩
  have HX := Lib.hid (blk_below hx0 hb1)
  have HW := Lib.hid (below_step hb0 hb1)
  clear hx0 hb0 hb1
  generalize hbs0 : w.heap.size = bs at *
  have HBS := Lib.hid hbs0
  clear hbs0
  by_cases hbig : 500 < b.length
  · have h3 : decide ((500 : Int) < (b.length : Int)) = true := by simp; omega
    go_wp2_with fail
    go_ret
    exact ⟨rfl, by rw [HBS.out]; exact HW.out⟩
  have h3 : decide ((500 : Int) < (b.length : Int)) = false := by simp; omega
  by_cases hbig2 : 100 < tx.size
  · have h4 : decide ((100 : Int) < (tx.size : Int)) = true := by simp; omega
    go_wp2_with fail
    go_ret
    exact ⟨rfl, by rw [HBS.out]; exact HW.out⟩
  have h4 : decide ((100 : Int) < (tx.size : Int)) = false := by simp; omega
  have c0 : w1.cell? ⟨bs, 0, none⟩ = some (.int .i64 a0) := (blk_cell HX.out 0).trans rfl
  have c1 : w1.cell? ⟨bs, 1, none⟩ = some (.int .i64 l0) := (blk_cell HX.out 1).trans rfl
  have f0 := blk_frozen HX.out 0
  have f1 := blk_frozen HX.out 1
  obtain ⟨p, hp, hpn⟩ : ∃ p : Nat, (IntKind.u64.wrap a0).tmod ((b.length : Int) + 1) = (p : Int) ∧ p ≤ b.length := umod a0 b.length
  obtain ⟨q, hq, hqn⟩ : ∃ q : Nat, (IntKind.u64.wrap l0).tmod ((b.length : Int) - (p : Int) + 1) = (q : Int) ∧ p + q ≤ b.length := by
    obtain ⟨q, h1, h2⟩ := umod l0 (b.length - p)
    refine ⟨q, ?_, by omega⟩
    rw [← h1]
    congr 1
    omega
  go_upto_if 47 with fail
  have hx2 := blk_put (blk_put HX.out 0 (.int .i64 (p : Int)) rfl) 1 (.int .i64 (q : Int)) rfl
  have hb2 : Below bs w ((w1.setCell ⟨bs, 0, none⟩ (.int .i64 (p : Int))).setCell ⟨bs, 1, none⟩ (.int .i64 (q : Int))) := (HW.out.setCell (Nat.le_refl _) _).setCell (Nat.le_refl _) _
  have HX2 := Lib.hid hx2
  have HB2 := Lib.hid hb2
  have HC2 := Lib.hid (Kd.C_below HC.out.1 (show Below w.heap.size w ((w1.setCell ⟨bs, 0, none⟩ (.int .i64 (p : Int))).setCell ⟨bs, 1, none⟩ (.int .i64 (q : Int))) from by rw [HBS.out]; exact hb2))
  clear hx2 hb2 c0 c1 f0 f1 HX HW hp hq ha hl
  generalize (w1.setCell ⟨bs, 0, none⟩ (.int .i64 (p : Int))).setCell ⟨bs, 1, none⟩ (.int .i64 (q : Int)) = w2 at *
  have c0 : w2.cell? ⟨bs, 0, none⟩ = some (.int .i64 p) := (blk_cell HX2.out 0).trans rfl
  have c1 : w2.cell? ⟨bs, 1, none⟩ = some (.int .i64 q) := (blk_cell HX2.out 1).trans rfl
  obtain ⟨r, hr⟩ : ∃ r : Nat, (p : Int) + (q : Int) = (r : Int) := ⟨p + q, by omega⟩
  have hrb : r ≤ b.length := by omega
  have hpr : p ≤ r := by omega
  have hct := cut_b A b.length c p r hpr hrb HC.out.2.1
  have HCm := Lib.hid (fun (w' : World) (hb' : Below w2.heap.size w2 w') => C_mid (Kd.C_below HC2.out hb') HC.out.2.1 p r hpr hrb)
  have hrq : r - p = q := by omega
  rw [hrq] at hct HCm
  obtain ⟨M, hM⟩ : ∃ M : ByteArray, M = strOfNums ((b.drop p).take q) := ⟨_, rfl⟩
  have HMb := Lib.hid (show bytesOf M = (b.drop p).take q from by rw [hM]; exact bytes_strOf _ ((HC.out.2.2.drop p).take q))
  have hMs : M.size ≤ 500 := by rw [hM, strOfNums_size', List.length_take]; omega
  generalize (if c = p then A else A.map (·.add (p * 1))) = A2 at *
  have HCv := Lib.hid (show ∀ w' : World, Below w2.heap.size w2 w' → (convert 22 9 (.slice A2 q (c - p))).run Try.prog w' = .ok (.string M) w' from fun w' h => by rw [hM]; exact conv_C (HCm.out w' h))
  have hcv := HCv.out w2 (Below.refl _ _)
  clear hM HCm
  obtain ⟨t, htd⟩ : ∃ t : ByteArray, t = if sm = true then M else tx := ⟨_, rfl⟩
  have htl : t.size ≤ 500 := by rw [htd]; split <;> omega
  have HT := Lib.hid htd
  clear htd
  go_cut [2] (fun v wc => v = .string t ∧ wc = w2)
  case first =>
    cases sm with
    | true =>
      go_wp2_with fail
      go_meet
      exact ⟨by rw [HT.out]; rfl, rfl⟩
    | false =>
      go_wp2_with fail
      go_meet
      exact ⟨by rw [HT.out]; rfl, rfl⟩
  case rest =>
  obtain ⟨rfl, hwc⟩ := hcut
  subst hwc
  clear HT hcv
  go_wp2_with fail
  have hx1 := blk_new wc (.cells #[.int .i64 p, .int .i64 q, .string t] 46)
  have hb1 := below_alloc (Below.refl wc.heap.size wc) (.cells #[.int .i64 p, .int .i64 q, .string t] 46)
  have hE := EdR.lit [((p : Int), (q : Int), t)] hx1
  have HCE := Lib.hid (And.intro (Kd.C_below HC2.out hb1) hE)
  have HB3 := Lib.hid hb1
  have hck : chk b.length ((p : Int), (q : Int), t) = true := by rw [chk_iff]; show (0 : Int) ≤ p ∧ (0 : Int) ≤ q ∧ (p : Int) + q ≤ b.length; omega
  have HCK := Lib.hid hck
  have HTD := Lib.hid (tidy_one b ((p : Int), (q : Int), t) hck)
  have HAP := Lib.hid (apply_one b HC.out.2.2 ((p : Int), (q : Int), t) hck)
  clear hx1 hb1 hE c0 c1 hck
  refine (apply_any A c b _ [((p : Int), (q : Int), t)] _ HCE.out.1 HC.out.2.1 HCE.out.2 (by omega) (by simp) (by intro e he; rcases List.mem_singleton.1 he with rfl; show t.size ≤ 1000; omega)).mono ?_
  rintro e w3 ⟨v3, rfl, ho3⟩
  rw [HTD.out]
  obtain ⟨U, hU⟩ : ∃ U : ByteArray, U = strOfNums (b.take p) := ⟨_, rfl⟩
  obtain ⟨V, hV⟩ : ∃ V : ByteArray, V = strOfNums (b.drop r) := ⟨_, rfl⟩
  have hUs : U.size ≤ 500 := by rw [hU, strOfNums_size', List.length_take]; omega
  have hVs : V.size ≤ 500 := by rw [hV, strOfNums_size', List.length_drop]; omega
  obtain ⟨X, hX, hXS⟩ : ∃ X : List Int, applyR b [((p : Int), (q : Int), t)] = X ∧ strOfNums X = U ++ t ++ V := by
    refine ⟨_, HAP.out, ?_⟩
    apply bytesOf_inj
    have e1 : ((p : Int)).toNat = p := by omega
    have e2 : ((p : Int)).toNat + ((q : Int)).toNat = r := by omega
    have hbb : Bys (b.take p ++ bytesOf t ++ b.drop r) := ((HC.out.2.2.take _).append (Bys.of _)).append (HC.out.2.2.drop _)
    show bytesOf (strOfNums (b.take ((p : Int)).toNat ++ bytesOf t ++ b.drop (((p : Int)).toNat + ((q : Int)).toNat))) = _
    rw [e2, e1, bytes_strOf _ hbb, bytesOf_append, bytesOf_append, hU, hV, bytes_strOf _ (HC.out.2.2.take _), bytes_strOf _ (HC.out.2.2.drop _)]
  rw [hX] at ho3
  obtain ⟨A3, c3, rfl, _, hC3⟩ := ho3.form
  have HO3 := Lib.hid (And.intro ho3.bel hC3)
  have HU := Lib.hid hU
  have HV := Lib.hid hV
  have HXS := Lib.hid hXS
  clear ho3 hC3 hU hV hX hXS HAP
  go_wp2_with fail
  refine (tidy_any A c b _ [((p : Int), (q : Int), t)] _ (Kd.C_below HCE.out.1 HO3.out.1) HC.out.2.1 (EdR.below HCE.out.2 HO3.out.1) (by omega)).mono ?_
  rintro e w5 ⟨v5, rfl, ho5, hb5⟩
  rw [HTD.out] at ho5
  rw [HTD.out]
  have HW5 := Lib.hid (below_step HB3.out (below_step HO3.out.1 hb5))
  have HF := Lib.hid (show Below w.heap.size w w5 from by rw [HBS.out]; exact below_then HB2.out (Nat.le_of_lt (blk_lt HX2.out)) HW5.out)
  have hx5 := blk_below HX2.out HW5.out
  have c0 : w5.cell? ⟨bs, 0, none⟩ = some (.int .i64 p) := (blk_cell hx5 0).trans rfl
  have c1 : w5.cell? ⟨bs, 1, none⟩ = some (.int .i64 q) := (blk_cell hx5 1).trans rfl
  have hct1 := cut_to_b A b.length c p hpn HC.out.2.1
  have hct2 := cut_from_b A b.length c r hrb HC.out.2.1
  have hcv1 := fun n => HCv.out (w5.drewN n) (pw_below_drewN HW5.out n)
  have hcv2 := fun n => conv_to HC2.out p hpn c (pw_below_drewN HW5.out n)
  have hcv3 := fun n => conv_from HC2.out HC.out.2.1 r hrb (c - r) (pw_below_drewN HW5.out n)
  have hcv4 := fun n => conv_C (c := c3) (Kd.C_below HO3.out.2 (pw_below_drewN hb5 n))
  rw [← HU.out] at hcv2
  rw [← HV.out] at hcv3
  rw [HXS.out] at hcv4
  generalize (if c = r then A else A.map (·.add (r * 1))) = A6 at *
  have hq1 : (9223372036854775807 < U.size + t.size) = False := by simp; omega
  have hq2 : (9223372036854775807 < U.size + t.size + V.size) = False := by simp; omega
  by_cases hMt : t = M
  · have hch : ¬ chg b ((p : Int), (q : Int), t) = true := by
      rw [chg_iff _ HC.out.2.2, Classical.not_not]
      show (b.drop ((p : Int)).toNat).take ((q : Int)).toNat = bytesOf t
      rw [hMt, HMb.out]
      rfl
    rw [if_neg hch] at ho5
    obtain ⟨A7, c7, rfl⟩ := own_form3 ho5
    subst hMt
    clear ho5 hb5 hch hx5 HTD HO3 HCE HB3 HX2 HB2 HC2 HCv HCK HW5 HMb HU HV HXS
    go_upto_region 12 with fail
    go_quiet (fail)
    go_wp2_with fail
    go_ret
    exact ⟨rfl, pw_below_drewN HF.out _⟩
  · have hch : chg b ((p : Int), (q : Int), t) = true := by
      rw [chg_iff _ HC.out.2.2]
      intro h
      have h : (b.drop p).take q = bytesOf t := h
      rw [← HMb.out] at h
      exact hMt (bytesOf_inj h).symm
    rw [if_pos hch] at ho5
    obtain ⟨A7, c7, rfl⟩ := own_form3 ho5
    have hne : (t.toList == M.toList) = false := by rw [beq_eq_false_iff_ne, ne_eq, toList_iff]; exact hMt
    have hl1 : [((p : Int), (q : Int), t)].length = 1 := rfl
    clear ho5 hb5 hch hx5 HTD HO3 HCE HB3 HX2 HB2 HC2 HCv HCK HW5 HMb HU HV HXS hMt
    go_upto_region 12 with fail
    go_quiet (fail)
    go_wp2_with fail
    go_ret
    exact ⟨rfl, pw_below_drewN HF.out _⟩
end Go.Proofs.Ytgcjkijndibejaa.Srt
namespace Go.Proofs.Ytgcjkijndibejaa.Wk.EditsOne
open Go.RowKit Go.Proofs.YtgcjkijndibejaaW.PrintWords Go.Proofs.Ytgcjkijndibejaa.Srt Go.Proofs.YtgcjkijndibejaaW.Opn Go.ChangeShapes Go.WideShapes
theorem opSpan : Opens Try.prog 44 kII (fun x => (Lit.int .i64 x.1).wf = true ∧ (Lit.int .i64 x.2).wf = true) :=
  kII_opens Try.underlying44 rfl rfl Try.underlying3 rfl rfl (by kernel_rfl) (by kernel_rfl)
theorem walk (A : Option Addr) (c : Nat) (b : List Int) (cs : List Value) (s : Int × Int) (tx : ByteArray) (sm : Bool) (w : World) (hC : Kd.C (Kd.int .u8) w A b.length b) (hc : b.length ≤ c) (hg : Bys b ∧ b.length ≤ 140737488351232) (hk : kII.K w s (Value.agg ⟨cs⟩).cells.toList) (hs : (Lit.int .i64 s.1).wf = true ∧ (Lit.int .i64 s.2).wf = true) (ht : tx.size ≤ 140737488351232) :
    Calls Try.prog 7 #[.slice A b.length c, .agg ⟨cs⟩, .string tx, .bool sm] w fun e w' => e = .returned (.bool true) ∧ Below w.heap.size w w' := by
  have hk : kII.K w s cs := hk
  obtain rfl := kII_open hk
  simp only [Lit.wf, Bool.and_eq_true, decide_eq_true_eq] at hs
  have e1 : IntKind.i64.min = -9223372036854775808 := rfl
  have e2 : IntKind.i64.max = 9223372036854775807 := rfl
  exact editsOne_any A c b s.1 s.2 tx sm w hC hc hg.1 hg.2 ht (by omega) (by omega)
end Go.Proofs.Ytgcjkijndibejaa.Wk.EditsOne
