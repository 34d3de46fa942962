/- The law FaultWhere, walked: it answers true. Conditions: none. -/
import Derived.Test.YtcflljjfhnifjaaDoorFPl
set_option linter.unusedVariables false
set_option linter.unusedSimpArgs false
namespace Go.Proofs.YtcflljjfhnifjaaDoor.F
open Go.RowKit Go.Extern.Stop Go.Stop Go.Extern Go.Proofs.YtcflljjfhnifjaaDoorW.PrintWords Go.Proofs.YtcflljjfhnifjaaDoorW.Opn

theorem where_eq (code : Int) (ps : List Pl) : whereV (outE (madeE code ps)) = .tuple #[.string ((fst code ps).getD zPl).l, .int .i64 ((fst code ps).getD zPl).k, .bool (fst code ps).isSome] := by
  by_cases hc : code = 0
  · subst hc
    rw [made_zero, show fst 0 ps = none from if_pos rfl]
    rfl
  · obtain ⟨h1, h2⟩ := outer_made code hc ps
    cases hf : fst code ps with
    | none => rw [h1 hf]; rfl
    | some p =>
      obtain ⟨e1, h, _⟩ := h2 p hf
      rw [h]
      rfl
theorem inner_some (e : Er) : ∃ e1, innerE (some e) = some e1 := by
  unfold innerE
  cases outE (some e) with
  | none => exact ⟨e, rfl⟩
  | some x => exact ⟨_, rfl⟩
theorem inner_code (code : Int) (ps : List Pl) : codeE (innerE (madeE code ps)) = codeE (madeE code ps) := by
  by_cases hc : code = 0
  · subst hc
    rw [made_zero]
    rfl
  · obtain ⟨h1, h2⟩ := outer_made code hc ps
    obtain ⟨e, he, hco⟩ := made_some code hc ps
    unfold innerE
    cases hf : fst code ps with
    | none => rw [h1 hf]
    | some p =>
      obtain ⟨e1, h, hc1⟩ := h2 p hf
      rw [h, he]
      show (codeOf e1).getD 11 = (codeOf e).getD 11
      rw [hc1, hco]
/-- What stands in memory when the answer is put together. -/
def Sw (W0 : World) (wg : Nat) (q : Pl) (o o1 : Option Er) (v v1 : Value) (W : World) : Prop :=
  W.heap[wg]? = some (plC q) ∧ Hx W ∧ EV W o v ∧ EV W o1 v1 ∧ Below W0.heap.size W0 W
theorem Sw.below {W0 W W' : World} {wg : Nat} {q : Pl} {o o1 : Option Er} {v v1 : Value} (h : Sw W0 wg q o o1 v v1 W) (hb : Below W.heap.size W W') : Sw W0 wg q o o1 v v1 W' :=
  ⟨blk_below h.1 hb, h.2.1.below (n := 0) hb, h.2.2.1.below hb, h.2.2.2.1.below hb, below_step h.2.2.2.2 hb⟩
set_option maxHeartbeats 4000000 in
theorem faultWhere_any (code : Int) (A : Option Addr) (c : Nat) (ps : List Pl) (W : World) (hg : Hx W) (hC : Kd.C kPl W A ps.length ps) :
    Calls Tryd.prog 3 #[.int .i64 code, .slice A ps.length c] W fun e w' => e = .returned (.bool true) ∧ Below W.heap.size W w' := by
  have HC := Lib.hid (And.intro hC hg)
  clear hC hg
  go_enter Tryd.func3, Tryd.ntmps3
  go_wp2_with fail
  refine (awake_any _ HC.out.2).mono ?_
  rintro e w1 ⟨rfl, hb1⟩
  have H1 := Lib.hid hb1
  clear hb1
  by_cases h40 : 40 < ps.length
  · have h3 : decide (40 < (ps.length : Int)) = true := by simp; omega
    go_wp2_with fail
    go_ret
    exact ⟨rfl, H1.out⟩
  have h3 : decide (40 < (ps.length : Int)) = false := by simp; omega
  go_wp2_with fail
  refine (made_any code A c ps _ (Kd.C_below HC.out.1 H1.out) (by omega)).mono ?_
  rintro e w2 ⟨v, rfl, hv, hb2⟩
  have H2 := Lib.hid (And.intro (HC.out.2.below (n := 0) (below_step H1.out hb2)) (And.intro hv (below_step H1.out hb2)))
  clear hv hb2
  go_wp2_with fail
  refine (where_any _ v _ H2.out.1 H2.out.2.1).mono ?_
  rintro e w3 ⟨rfl, hb3⟩
  have H3 := Lib.hid (And.intro (H2.out.1.below (n := 0) hb3) (And.intro (H2.out.2.1.below hb3) (below_step H2.out.2.2 hb3)))
  clear hb3
  obtain ⟨wl, wk, wo, hwv⟩ : ∃ wl wk wo, whereV (outE (madeE code ps)) = .tuple #[.string wl, .int .i64 wk, .bool wo] := by
    cases outE (madeE code ps) with
    | none => exact ⟨_, _, _, rfl⟩
    | some x => exact ⟨_, _, _, rfl⟩
  have HWV := Lib.hid hwv
  rw [hwv]
  clear hwv
  go_upto_block 0 with fail
  have H4 := Lib.hid (show (w3.alloc (.cells #[.string ⟨#[]⟩, .int .i64 0, .bool false] 30 (0, 0))).heap[w3.heap.size]? = some (plC zPl) ∧ Hx (w3.alloc (.cells #[.string ⟨#[]⟩, .int .i64 0, .bool false] 30 (0, 0))) ∧ EV (w3.alloc (.cells #[.string ⟨#[]⟩, .int .i64 0, .bool false] 30 (0, 0))) (madeE code ps) v ∧ Below W.heap.size W (w3.alloc (.cells #[.string ⟨#[]⟩, .int .i64 0, .bool false] 30 (0, 0))) from
    ⟨heap_alloc_new w3 _, H3.out.1.below (n := 0) (below_alloc (Below.refl _ _) _), H3.out.2.1.below (below_alloc (Below.refl _ _) _), below_alloc H3.out.2.2 _⟩)
  have hk0 : W.heap.size ≤ w3.heap.size := H3.out.2.2.size
  clear H1 H2 H3
  generalize w3.alloc (.cells #[.string ⟨#[]⟩, .int .i64 0, .bool false] 30 (0, 0)) = w4 at *
  generalize w3.heap.size = wg at *
  go_wp2_with fail
  go_loopg [10, 31] ps.length (fun gn av iv wr => ∃ j : Nat, iv = .int .i64 j ∧ j ≤ ps.length ∧ av = .bool (fst code (ps.take j)).isSome ∧ Hid (wr.heap[wg]? = some (plC ((fst code (ps.take j)).getD zPl)) ∧ Hx wr ∧ EV wr (madeE code ps) v ∧ Below W.heap.size W wr ∧ gn = ps.length - j))
  case atStart =>
    have h0 : fst code (ps.take 0) = none := by unfold fst; split <;> rfl
    exact ⟨0, rfl, Nat.zero_le _, by rw [h0]; rfl, by rw [h0]; exact H4.out.1, H4.out.2.1, H4.out.2.2.1, H4.out.2.2.2, rfl⟩
  case round =>
    obtain ⟨j, rfl, hj, rfl, HQ⟩ := hrel
    clear H4
    by_cases hlt : j < ps.length
    · have hd : decide ((j : Int) < (ps.length : Int)) = true := by simp; omega
      obtain ⟨ad, p, rfl, hp, h0, h1, h2⟩ := pl_at (Kd.C_below HC.out.1 HQ.out.2.2.2.1) j hlt
      have hs := fst_step code ps j p hp
      have HS := Lib.hid hs
      have HQ1 := Lib.hid HQ.out.1
      have HQ2 := Lib.hid HQ.out.2
      clear HQ hs hp
      generalize fst code (ps.take j) = F at *
      obtain ⟨l, k, o⟩ := p
      simp only at h0 h1 h2
      go_upto_region 12 with fail
      have hbp := below_alloc (Below.refl wr.heap.size wr) (.cells #[.string l, .int .i64 k, .bool o] 30 (0, 0))
      have HBP := Lib.hid hbp
      have q0 : (wr.alloc (.cells #[.string l, .int .i64 k, .bool o] 30 (0, 0))).cell? ⟨wr.heap.size, 0, none⟩ = some (.string l) := by simp
      have q1 : (wr.alloc (.cells #[.string l, .int .i64 k, .bool o] 30 (0, 0))).cell? ⟨wr.heap.size, 1, none⟩ = some (.int .i64 k) := by simp
      have q2 : (wr.alloc (.cells #[.string l, .int .i64 k, .bool o] 30 (0, 0))).cell? ⟨wr.heap.size, 2, none⟩ = some (.bool o) := by simp
      have hbw := blk_below HQ1.out hbp
      have HW := Lib.hid (And.intro hbw (And.intro (HQ2.out.1.below (n := 0) hbp) (And.intro (HQ2.out.2.1.below hbp) (below_step HQ2.out.2.2.1 hbp))))
      have HG := Lib.hid HQ2.out.2.2.2
      have hw0 : 0 < wg := Nat.lt_of_lt_of_le HC.out.2.lt hk0
      obtain ⟨g0, g1, g2, gf⟩ := pl_cells hbw
      have f0 := gf 0
      have f1 := gf 1
      have f2 := gf 2
      have hne : wr.heap.size ≠ wg := by have := blk_lt HQ1.out; omega
      clear hbp hbw h0 h1 h2 HQ1 HQ2 gf
      generalize wr.alloc (.cells #[.string l, .int .i64 k, .bool o] 30 (0, 0)) = w5 at *
      generalize hpb : wr.heap.size = pb at *
      by_cases hc : code = 0
      · have hc1 : (code != 0) = false := by simp [hc]
        have HZ := Lib.hid hc
        clear hc
        cases F with
        | none =>
          go_wp2_with fail
          go_roundg (ps.length - (j + 1))
          case measure => rw [HG.out]; omega
          case rel => exact ⟨j + 1, by go_num, by omega, by rw [HS.out]; rw [if_neg (by simp), if_neg (by simp [HZ.out])]; rfl, by rw [HS.out]; rw [if_neg (by simp), if_neg (by simp [HZ.out])]; exact HW.out.1, HW.out.2.1, HW.out.2.2.1, HW.out.2.2.2, rfl⟩
        | some q =>
          go_wp2_with fail
          go_roundg (ps.length - (j + 1))
          case measure => rw [HG.out]; omega
          case rel => exact ⟨j + 1, by go_num, by omega, by rw [HS.out]; rw [if_pos (show (some q).isSome = true from rfl)]; rfl, by rw [HS.out]; rw [if_pos (show (some q).isSome = true from rfl)]; exact HW.out.1, HW.out.2.1, HW.out.2.2.1, HW.out.2.2.2, rfl⟩
      · have hc1 : (code != 0) = true := by simp [hc]
        have HZ := Lib.hid hc
        clear hc
        cases o with
        | true =>
          cases F with
          | none =>
            go_wp2_with fail
            go_roundg (ps.length - (j + 1))
            case measure => rw [HG.out]; omega
            case rel => exact ⟨j + 1, by go_num, by omega, by rw [HS.out]; rw [if_neg (by simp), if_neg (by simp)]; rfl, by rw [HS.out]; rw [if_neg (by simp), if_neg (by simp)]; exact HW.out.1, HW.out.2.1, HW.out.2.2.1, HW.out.2.2.2, rfl⟩
          | some q =>
            go_wp2_with fail
            go_roundg (ps.length - (j + 1))
            case measure => rw [HG.out]; omega
            case rel => exact ⟨j + 1, by go_num, by omega, by rw [HS.out]; rw [if_pos (show (some q).isSome = true from rfl)]; rfl, by rw [HS.out]; rw [if_pos (show (some q).isSome = true from rfl)]; exact HW.out.1, HW.out.2.1, HW.out.2.2.1, HW.out.2.2.2, rfl⟩
        | false =>
          cases F with
          | some q =>
            go_wp2_with fail
            go_roundg (ps.length - (j + 1))
            case measure => rw [HG.out]; omega
            case rel => exact ⟨j + 1, by go_num, by omega, by rw [HS.out]; rw [if_pos (show (some q).isSome = true from rfl)]; rfl, by rw [HS.out]; rw [if_pos (show (some q).isSome = true from rfl)]; exact HW.out.1, HW.out.2.1, HW.out.2.2.1, HW.out.2.2.2, rfl⟩
          | none =>
            have hkp := pl_keep (W0 := W) HW.out.1 hw0 hk0 ⟨l, k, false⟩ HW.out.2.1 HW.out.2.2.1 HW.out.2.2.2
            have HKp := Lib.hid hkp
            clear hkp
            go_wp2_with fail
            go_roundg (ps.length - (j + 1))
            case measure => rw [HG.out]; omega
            case rel => exact ⟨j + 1, by go_num, by omega, by rw [HS.out, if_neg (by simp), if_pos ⟨HZ.out, by trivial⟩]; rfl, by rw [HS.out, if_neg (by simp), if_pos ⟨HZ.out, by trivial⟩]; exact HKp.out.1, HKp.out.2.1, HKp.out.2.2.1, HKp.out.2.2.2, rfl⟩
    · obtain rfl : j = ps.length := by omega
      have hd : decide ((ps.length : Int) < (ps.length : Int)) = false := by simp
      rw [List.take_length] at HQ ⊢
      go_wp2_with fail
      refine (inner_any _ v _ HQ.out.2.1 HQ.out.2.2.1).mono ?_
      rintro e w6 ⟨v1, rfl, hv1, hb6⟩
      have hwe := HWV.out.symm.trans (where_eq code ps)
      have hne1 := inner_code code ps
      have HS := Lib.hid (show Sw W wg ((fst code ps).getD zPl) (madeE code ps) (innerE (madeE code ps)) v v1 w6 from
        ⟨blk_below HQ.out.1 hb6, HQ.out.2.1.below (n := 0) hb6, HQ.out.2.2.1.below hb6, hv1, below_step HQ.out.2.2.2.1 hb6⟩)
      clear HQ hv1 hb6 HWV
      injection hwe with hwe
      obtain ⟨rfl, rfl, rfl⟩ : wl = ((fst code ps).getD zPl).l ∧ wk = ((fst code ps).getD zPl).k ∧ wo = (fst code ps).isSome := by
        simp only [Array.mk.injEq, List.cons.injEq, Value.string.injEq, Value.int.injEq, Value.bool.injEq, and_true, true_and] at hwe
        exact hwe
      clear hwe
      generalize (fst code ps).getD zPl = q at *
      generalize (fst code ps).isSome = F at *
      obtain ⟨ql, qk, qo⟩ := q
      have HCd := Lib.hid (show ∀ (u : Value) (X : World), Sw W wg ⟨ql, qk, qo⟩ (madeE code ps) (innerE (madeE code ps)) v v1 X → (u = v ∨ u = v1) → Calls Tryd.prog 11 #[u] X fun e w' => e = .returned (.int .i64 (codeE (madeE code ps))) ∧ Below X.heap.size X w' from by
        rintro u X h (rfl | rfl)
        · exact code_any _ _ _ h.2.1 h.2.2.1
        · rw [← hne1]
          exact code_any _ _ _ h.2.1 h.2.2.2.1)
      clear hne1
      have HSw := Lib.hid (show ∀ X : World, Sw W wg ⟨ql, qk, qo⟩ (madeE code ps) (innerE (madeE code ps)) v v1 X → (X.cell? ⟨wg, 0, none⟩ = some (.string ql) ∧ X.cell? ⟨wg, 1, none⟩ = some (.int .i64 qk) ∧ Hid (Sw W wg ⟨ql, qk, qo⟩ (madeE code ps) (innerE (madeE code ps)) v v1 X)) from
        fun X h => ⟨(pl_cells h.1).1, (pl_cells h.1).2.1, Lib.hid h⟩)
      generalize codeE (madeE code ps) = cn at *
      have hvv : (∃ T x T1 x1, v = .iface T x ∧ v1 = .iface T1 x1) ∨ (v = .nilIface ∧ v1 = .nilIface) := by
        have e1 := HS.out.2.2.1
        have e2 := HS.out.2.2.2.1
        cases hm : madeE code ps with
        | none =>
          rw [hm] at e1 e2
          exact Or.inr ⟨e1, e2⟩
        | some er =>
          obtain ⟨er1, hi⟩ := inner_some er
          rw [hm] at e1
          rw [hm, hi] at e2
          obtain ⟨T, x, rfl⟩ := ErV.form e1
          obtain ⟨T1, x1, rfl⟩ := ErV.form e2
          exact Or.inl ⟨T, x, T1, x1, rfl, rfl⟩
      generalize madeE code ps = o at *
      generalize innerE o = o1 at *
      rcases hvv with ⟨T, x, T1, x1, rfl, rfl⟩ | ⟨rfl, rfl⟩
      · dsimp only
        have HSb := Lib.hid (show ∀ X Y : World, (X.cell? ⟨wg, 0, none⟩ = some (.string ql) ∧ X.cell? ⟨wg, 1, none⟩ = some (.int .i64 qk) ∧ Hid (Sw W wg ⟨ql, qk, qo⟩ o o1 (.iface T x) (.iface T1 x1) X)) → Below X.heap.size X Y → (Y.cell? ⟨wg, 0, none⟩ = some (.string ql) ∧ Y.cell? ⟨wg, 1, none⟩ = some (.int .i64 qk) ∧ Hid (Sw W wg ⟨ql, qk, qo⟩ o o1 (.iface T x) (.iface T1 x1) Y)) from fun X Y h hb => HSw.out Y (h.2.2.out.below hb))
        have HSn := Lib.hid (show ∀ (X : World) (p : Nat), (X.cell? ⟨wg, 0, none⟩ = some (.string ql) ∧ X.cell? ⟨wg, 1, none⟩ = some (.int .i64 qk) ∧ Hid (Sw W wg ⟨ql, qk, qo⟩ o o1 (.iface T x) (.iface T1 x1) X)) → ((X.drewN p).cell? ⟨wg, 0, none⟩ = some (.string ql) ∧ (X.drewN p).cell? ⟨wg, 1, none⟩ = some (.int .i64 qk) ∧ Hid (Sw W wg ⟨ql, qk, qo⟩ o o1 (.iface T x) (.iface T1 x1) (X.drewN p))) from fun X p h => HSw.out _ (h.2.2.out.below (pw_below_drewN (Below.refl _ _) p)))
        have HPl := Lib.hid (show ∀ X : World, (X.cell? ⟨wg, 0, none⟩ = some (.string ql) ∧ X.cell? ⟨wg, 1, none⟩ = some (.int .i64 qk) ∧ Hid (Sw W wg ⟨ql, qk, qo⟩ o o1 (.iface T x) (.iface T1 x1) X)) → Hid (Sw W wg ⟨ql, qk, qo⟩ o o1 (.iface T x) (.iface T1 x1) X) from fun X h => h.2.2)
        go_upto_region 16 with fail
        have HT0 := Lib.hid (HSw.out _ (HS.out.below (below_drew1 (Below.refl _ _))))
        go_region_held3 (fun X => (X.cell? ⟨wg, 0, none⟩ = some (.string ql) ∧ X.cell? ⟨wg, 1, none⟩ = some (.int .i64 qk) ∧ Hid (Sw W wg ⟨ql, qk, qo⟩ o o1 (.iface T x) (.iface T1 x1) X)))
          (first | exact HSb.out _ _ (by assumption) hb | exact HSn.out _ _ (by assumption) | exact HT0.out | go_keep)
          (first | (go_at_call 11; refine (HCd.out _ _ (HPl.out _ (by assumption)).out (by first | exact Or.inl rfl | exact Or.inr rfl)).mono ?_; rintro e8 w8 ⟨rfl, hb⟩))
        have HF := Lib.hid (HPl.out _ (by assumption)).out.2.2.2.2
        clear HSb HSn HSw HPl HT0 HCd
        go_wp2_with fail
        go_ret
        exact ⟨rfl, HF.out⟩
      · dsimp only
        have HSb := Lib.hid (show ∀ X Y : World, (X.cell? ⟨wg, 0, none⟩ = some (.string ql) ∧ X.cell? ⟨wg, 1, none⟩ = some (.int .i64 qk) ∧ Hid (Sw W wg ⟨ql, qk, qo⟩ o o1 .nilIface .nilIface X)) → Below X.heap.size X Y → (Y.cell? ⟨wg, 0, none⟩ = some (.string ql) ∧ Y.cell? ⟨wg, 1, none⟩ = some (.int .i64 qk) ∧ Hid (Sw W wg ⟨ql, qk, qo⟩ o o1 .nilIface .nilIface Y)) from fun X Y h hb => HSw.out Y (h.2.2.out.below hb))
        have HSn := Lib.hid (show ∀ (X : World) (p : Nat), (X.cell? ⟨wg, 0, none⟩ = some (.string ql) ∧ X.cell? ⟨wg, 1, none⟩ = some (.int .i64 qk) ∧ Hid (Sw W wg ⟨ql, qk, qo⟩ o o1 .nilIface .nilIface X)) → ((X.drewN p).cell? ⟨wg, 0, none⟩ = some (.string ql) ∧ (X.drewN p).cell? ⟨wg, 1, none⟩ = some (.int .i64 qk) ∧ Hid (Sw W wg ⟨ql, qk, qo⟩ o o1 .nilIface .nilIface (X.drewN p))) from fun X p h => HSw.out _ (h.2.2.out.below (pw_below_drewN (Below.refl _ _) p)))
        have HPl := Lib.hid (show ∀ X : World, (X.cell? ⟨wg, 0, none⟩ = some (.string ql) ∧ X.cell? ⟨wg, 1, none⟩ = some (.int .i64 qk) ∧ Hid (Sw W wg ⟨ql, qk, qo⟩ o o1 .nilIface .nilIface X)) → Hid (Sw W wg ⟨ql, qk, qo⟩ o o1 .nilIface .nilIface X) from fun X h => h.2.2)
        go_upto_region 16 with fail
        have HT0 := Lib.hid (HSw.out _ (HS.out.below (below_drew1 (Below.refl _ _))))
        go_region_held3 (fun X => (X.cell? ⟨wg, 0, none⟩ = some (.string ql) ∧ X.cell? ⟨wg, 1, none⟩ = some (.int .i64 qk) ∧ Hid (Sw W wg ⟨ql, qk, qo⟩ o o1 .nilIface .nilIface X)))
          (first | exact HSb.out _ _ (by assumption) hb | exact HSn.out _ _ (by assumption) | exact HT0.out | go_keep)
          (first | (go_at_call 11; refine (HCd.out _ _ (HPl.out _ (by assumption)).out (by first | exact Or.inl rfl | exact Or.inr rfl)).mono ?_; rintro e8 w8 ⟨rfl, hb⟩))
        have HF := Lib.hid (HPl.out _ (by assumption)).out.2.2.2.2
        clear HSb HSn HSw HPl HT0 HCd
        go_wp2_with fail
        go_ret
        exact ⟨rfl, HF.out⟩
end Go.Proofs.YtcflljjfhnifjaaDoor.F
namespace Go.Proofs.YtcflljjfhnifjaaDoor.Wk.FaultWhere
open Go.RowKit Go.Proofs.YtcflljjfhnifjaaDoorW.PrintWords Go.Proofs.YtcflljjfhnifjaaDoor.F Go.Proofs.YtcflljjfhnifjaaDoorW.Opn
theorem walk (a0 : Int) (A1 : Option Addr) (c1 : Nat) (l1 : List Pl) (w : World) (hg : Hx w) (h0 : (Lit.int .i64 a0).wf = true) (hr1 : Kd.C kPl w A1 l1.length l1) (hc1 : l1.length ≤ c1) (hg1 : True) :
    Calls Tryd.prog 3 #[.int .i64 a0, .slice A1 l1.length c1] w fun e w' => e = .returned (.bool true) ∧ Below w.heap.size w w' :=
  faultWhere_any a0 A1 c1 l1 w hg hr1
end Go.Proofs.YtcflljjfhnifjaaDoor.Wk.FaultWhere
