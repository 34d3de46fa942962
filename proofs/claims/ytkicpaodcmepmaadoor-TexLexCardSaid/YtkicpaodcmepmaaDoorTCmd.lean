/- command, walked. Conditions: as each lemma says. -/
import Derived.Test.YtkicpaodcmepmaaDoorTCont
import Derived.Test.YtkicpaodcmepmaaDoorTGrp
import Derived.Test.YtkicpaodcmepmaaDoorTVerb
import Derived.Test.YtkicpaodcmepmaaDoorTSgn
import Derived.Test.YtkicpaodcmepmaaDoorTMath
import Derived.Test.YtkicpaodcmepmaaDoorTexFnd
set_option linter.unusedVariables false
set_option linter.unusedSimpArgs false
namespace Go.Proofs.YtkicpaodcmepmaaDoor.T
open Go.RowKit Go.Proofs.YtkicpaodcmepmaaDoorW.PrintWords Go.Proofs.YtkicpaodcmepmaaDoor.L Go.Proofs.YtkicpaodcmepmaaDoor.S Go.Proofs.YtkicpaodcmepmaaDoor.Tex

theorem wrdN_step (b : List Int) (n k : Nat) (hk : k < b.length) (hl : ltr (b.getD k 0) = true) : wrdN b (n + 1) k = wrdN b n (k + 1) := by
  conv => lhs; unfold wrdN
  rw [if_pos ⟨hk, hl⟩]
theorem wrdN_stop (b : List Int) (n k : Nat) (hl : k < b.length → ltr (b.getD k 0) = false) : wrdN b n k = k := by
  cases n with
  | zero => rfl
  | succ n => unfold wrdN; rw [if_neg (by rintro ⟨h1, h2⟩; rw [hl h1] at h2; cases h2)]
theorem name_eq {nm : List Int} (hn : Bys nm) (l : List Int) (u : List UInt8) (hl : Bys l) (hu : (strOfNums l).toList = u) : ((strOfNums nm).toList == u) = (nm == l) := by
  rw [← hu]
  exact str_eq hn hl
theorem bys_bare : ∀ l ∈ bareN, Bys l := by
  intro l hl x hx
  have h : ∀ l ∈ bareN, ∀ x ∈ l, 0 ≤ x ∧ x < 256 := by decide
  exact h l hl x hx
theorem bys_whole : ∀ l ∈ wholeN, Bys l := by
  intro l hl x hx
  have h : ∀ l ∈ wholeN, ∀ x ∈ l, 0 ≤ x ∧ x < 256 := by decide
  exact h l hl x hx
theorem bytesOf_append (a b : ByteArray) : bytesOf (a ++ b) = bytesOf a ++ bytesOf b := by
  unfold bytesOf
  rw [← List.map_append]
  congr 1
theorem bytesOf_str (l : List Int) (h : Bys l) : bytesOf (strOfNums l) = l := by
  unfold bytesOf strOfNums
  simp only [List.map_map]
  conv => rhs; rw [← List.map_id l]
  refine List.map_congr_left fun x hx => ?_
  have := h x hx
  simp only [Function.comp, UInt8.toNat_ofNat', id]
  omega
theorem len_whole : ∀ l ∈ wholeN, l.length ≤ 10 := by decide
/-- The letters of a command. -/
def Wv (E : Env) (W : World) (L : List Int) (wx : World) : Prop := E.In wx L ∧ Below W.heap.size W wx
set_option maxRecDepth 100000 in
set_option maxHeartbeats 4000000 in
theorem command_any (E : Env) (W : World) (L : List Int) (p : Nat) (h : E.In W L) (hp : p < E.b.length) :
    Calls Tryd.prog 26 #[.pointer (some ⟨E.d, 0, none⟩), .int .i64 p] W fun e w' => e = .returned (.int .i64 ((cmd E.b p L).1 : Nat)) ∧ E.In w' (cmd E.b p L).2 := by
  have hmax := h.ok.max
  have hcap := h.ok.cap
  have HH := Lib.hid h
  have HY := Lib.hid h.ok.bys
  clear h
  go_enter Tryd.func26, Tryd.ntmps26
  go_upto_block 0 with fail
  go_cut [5] (fun v wx => v = .int .i64 (wrd E.b (p + 1) : Nat) ∧ Hid (E.In wx L))
  case first =>
    go_wp2_with fail
    go_loopg [5] E.b.length (fun gn kv wr => ∃ k : Nat, kv = .int .i64 k ∧ k ≤ E.b.length ∧ Hid (E.In wr L ∧ wrdN E.b gn k = wrd E.b (p + 1) ∧ E.b.length ≤ k + gn))
    case atStart => exact ⟨p + 1, by go_num, by omega, HH.out, rfl, by omega⟩
    case round =>
      obtain ⟨k, rfl, hk, HQ⟩ := hrel
      clear HH
      have c1 := HQ.out.1.c1
      by_cases hlt : k < E.b.length
      · have hd : decide ((k : Int) < (E.b.length : Int)) = true := by simp; omega
        obtain ⟨n, rfl⟩ : ∃ n, gk = n + 1 := ⟨gk - 1, by have := HQ.out.2.2; omega⟩
        have k0 := HQ.out.1.at_ k hlt
        have HS := Lib.hid (wrdN_step E.b n k hlt)
        have HT := Lib.hid (wrdN_stop E.b (n + 1) k)
        generalize E.b.getD k 0 = x at *
        go_wp2_with fail
        refine (letter_any x _).mono ?_
        rintro e w1 ⟨rfl, hb1⟩
        have H1 := Lib.hid (HQ.out.1.below hb1)
        clear hb1
        cases hl : ltr x with
        | true =>
          have HS2 := Lib.hid ((HS.out hl).symm.trans HQ.out.2.1)
          go_wp2_with fail
          go_roundg n
          case measure => omega
          case rel => exact ⟨k + 1, by go_num, by omega, H1.out, HS2.out, by have := HQ.out.2.2; omega⟩
        | false =>
          have HS2 := Lib.hid ((HT.out (fun _ => hl)).symm.trans HQ.out.2.1)
          go_wp2_with fail
          go_meet
          exact ⟨by rw [HS2.out], H1.out⟩
      · have hd : decide ((k : Int) < (E.b.length : Int)) = false := by simp; omega
        have HS2 := Lib.hid ((wrdN_stop E.b gk k (fun h => absurd h hlt)).symm.trans HQ.out.2.1)
        go_wp2_with fail
        go_meet
        exact ⟨by rw [HS2.out], HQ.out.1⟩
  case rest =>
  obtain ⟨rfl, HW⟩ := hcut
  have hw := wrd_le E.b (p + 1) (by omega)
  clear HH
  by_cases hk : wrd E.b (p + 1) = p + 1
  · have HE := Lib.hid (show cmd E.b p L = sgn E.b p L from by unfold cmd; rw [if_pos hk])
    rw [hk]
    clear hk hw
    have hd : ((p : Int) + 1 == (p : Int) + 1) = true := by simp
    go_wp2_with fail
    refine (sign_any E _ L p HW.out hp).mono ?_
    rintro e w2 ⟨rfl, h2⟩
    have H2 := Lib.hid h2
    clear h2
    go_wp2_with fail
    go_ret
    exact ⟨by rw [HE.out]; rfl, by rw [HE.out]; exact H2.out⟩
  have HE := Lib.hid (show cmd E.b p L = namS E.b ((E.b.take (wrd E.b (p + 1))).drop (p + 1)) (wrd E.b (p + 1)) (setL L 2 (p : Int) (wrd E.b (p + 1) : Int)) from by unfold cmd; rw [if_neg hk])
  generalize wrd E.b (p + 1) = k at *
  have hd : ((k : Int) == (p : Int) + 1) = false := by rw [beq_eq_false_iff_ne]; omega
  have hct := mid_run ⟨E.bl, E.of, none⟩ E.b.length E.c (p + 1) k (by omega) hw.2 hcap
  rw [show (((p + 1 : Nat)) : Int) = (p : Int) + 1 from by omega] at hct
  generalize hA2 : (if E.c = p + 1 then some (⟨E.bl, E.of, none⟩ : Addr) else some ((⟨E.bl, E.of, none⟩ : Addr).add ((p + 1) * 1))) = A2 at hct
  have HNm := Lib.hid ((HY.out.take k).drop (p + 1))
  have hcs := Kd.C_string (P := Tryd.prog) (A := A2) (c := E.c - (p + 1)) Tryd.underlying22 Tryd.underlying5 Tryd.underlying9 (HW.out.mid_ (p + 1) k (by omega) hw.2 A2 hA2)
  generalize (E.b.take k).drop (p + 1) = nm at *
  have e1 : ((strOfNums nm).toList == ([118, 101, 114, 98] : List UInt8)) = (nm == nVerb) := name_eq HNm.out nVerb [118, 101, 114, 98] (by intro x hx; simp [nVerb] at hx; omega) (by rw [ByteArray.toList_eq]; rfl)
  have e2 : ((strOfNums nm).toList == ([98, 101, 103, 105, 110] : List UInt8)) = (nm == nBegin) := name_eq HNm.out nBegin [98, 101, 103, 105, 110] (by intro x hx; simp [nBegin] at hx; omega) (by rw [ByteArray.toList_eq]; rfl)
  have HBare := Lib.hid (any_mem bareN bys_bare nm HNm.out)
  generalize strOfNums nm = N at *
  have c0 := HW.out.c0
  have c1 := HW.out.c1
  clear hA2 hk
  obtain ⟨L1, hL1⟩ : ∃ L1, setL L 2 (p : Int) (k : Int) = L1 := ⟨_, rfl⟩
  rw [hL1] at HE
  go_wp2_with fail
  refine (put_any E _ L 2 _ _ HW.out).mono ?_
  rw [hL1]
  rintro e w1 ⟨rfl, h1⟩
  have H1 := Lib.hid h1
  clear h1 hL1 HW c0 c1 hcs hct
  cases hv : (nm == nVerb) with
  | true =>
    have HE2 := Lib.hid (show cmd E.b p L = verbS E.b k L1 from by rw [HE.out]; unfold namS; rw [if_pos (eq_of_beq hv)])
    rw [hv] at e1
    clear HE hv HBare
    go_wp2_with fail
    refine (verb_any E _ L1 k H1.out hw.2).mono ?_
    rintro e w2 ⟨rfl, h2⟩
    have H2 := Lib.hid h2
    clear h2
    go_wp2_with fail
    go_ret
    exact ⟨by rw [HE2.out]; rfl, by rw [HE2.out]; exact H2.out⟩
  | false =>
    rw [hv] at e1
    have hv2 : nm ≠ nVerb := by simpa using hv
    have ct := H1.out.tb.t1
    obtain ⟨X, hX⟩ : ∃ X, decide (nm ∈ bareN) = X := ⟨_, rfl⟩
    rw [hX] at HBare
    have HE2 := Lib.hid (show cmd E.b p L = if X = true then argS E.b nm k (grps E.b k) ((grp E.b k).getD 0) (setL L1 2 (k : Int) (grps E.b k : Int)) else (k, L1) from by
      rw [HE.out]
      unfold namS
      rw [if_neg hv2]
      cases X with
      | true => rw [if_pos (of_decide_eq_true hX), if_pos rfl]
      | false => rw [if_neg (of_decide_eq_false hX), if_neg (by simp)])
    clear HE hv hv2 hX
    go_wp2_with fail
    refine (contains_any _ _ 13 _ N _ H1.out.tb.r1 (by omega)).mono ?_
    rw [HBare.out]
    rintro e w2 ⟨rfl, rfl⟩
    clear HBare ct
    cases X with
    | false =>
      have HE3 := Lib.hid (show cmd E.b p L = (k, L1) from HE2.out)
      clear HE2
      go_wp2_with fail
      go_ret
      exact ⟨by rw [HE3.out]; rfl, by rw [HE3.out]; exact H1.out⟩
    | true =>
      have HE3 := Lib.hid (show cmd E.b p L = argS E.b nm k (grps E.b k) ((grp E.b k).getD 0) (setL L1 2 (k : Int) (grps E.b k : Int)) from HE2.out)
      clear HE2
      go_upto_block 2 with fail
      go_cut [7] (fun v wx => v = .int .i64 (grps E.b k : Nat) ∧ Hid (E.In wx L1))
      case first =>
        go_wp2_with fail
        go_loopg [7] E.b.length (fun gn ev wr => ∃ e : Nat, ev = .int .i64 e ∧ e ≤ E.b.length ∧ Hid (E.In wr L1 ∧ grpsN E.b gn e = grps E.b k ∧ E.b.length ≤ e + gn))
        case atStart => exact ⟨k, rfl, hw.2, H1.out, rfl, by omega⟩
        case round =>
          obtain ⟨e, rfl, he, HQ⟩ := hrel
          clear H1
          cases hg : grp E.b e with
          | none =>
            have HS := Lib.hid (show e = grps E.b k from by
              rw [← HQ.out.2.1]
              cases gk with
              | zero => rfl
              | succ n => unfold grpsN; rw [hg])
            go_wp2_with fail
            refine (group_any E _ L1 e HQ.out.1 he).mono ?_
            rw [hg, show grpV none = .tuple #[.int .i64 0, .bool false] from rfl]
            rintro e9 w9 ⟨rfl, rfl⟩
            clear hg
            go_wp2_with fail
            go_meet
            exact ⟨by rw [← HS.out], HQ.out.1⟩
          | some g =>
            have hg2 := grp_le E.b e g hg
            obtain ⟨n, rfl⟩ : ∃ n, gk = n + 1 := ⟨gk - 1, by have := HQ.out.2.2; omega⟩
            have HS := Lib.hid (show grpsN E.b n g = grps E.b k from by
              rw [← HQ.out.2.1]
              conv => rhs; unfold grpsN
              rw [hg])
            go_wp2_with fail
            refine (group_any E _ L1 e HQ.out.1 he).mono ?_
            rw [hg, show grpV (some g) = .tuple #[.int .i64 g, .bool true] from rfl]
            rintro e9 w9 ⟨rfl, rfl⟩
            clear hg
            go_wp2_with fail
            go_roundg n
            case measure => omega
            case rel => exact ⟨g, rfl, hg2.2.1, HQ.out.1, HS.out, by have := HQ.out.2.2; omega⟩
      case rest =>
      obtain ⟨rfl, HW⟩ := hcut
      clear H1
      have hgr := grps_le E.b k hw.2
      have HGs := Lib.hid (grps_some E.b k)
      obtain ⟨L2, hL2⟩ : ∃ L2, setL L1 2 (k : Int) (grps E.b k : Int) = L2 := ⟨_, rfl⟩
      rw [hL2] at HE3
      have c0 := HW.out.c0
      generalize grps E.b k = e at *
      go_wp2_with fail
      refine (put_any E _ L1 2 _ _ HW.out).mono ?_
      rw [hL2]
      rintro e8 w3 ⟨rfl, h3⟩
      have H3 := Lib.hid h3
      clear h3 hL2 HW c0
      have c1 := H3.out.c1
      obtain ⟨X, hX⟩ : ∃ X, (nm == nBegin && decide (k + 2 < e) && (E.b.getD k 0 == 123)) = X := ⟨_, rfl⟩
      have HX := Lib.hid hX
      go_upto_region 17 with fail
      go_cut [103] (fun v wx => v = .bool X ∧ Hid (E.In wx L2))
      case first =>
        cases hb : (nm == nBegin) with
        | false =>
          rw [hb] at e2 hX
          have HX2 := Lib.hid (show false = X from hX)
          go_wp2_with fail
          go_meet
          exact ⟨by rw [← HX2.out], H3.out⟩
        | true =>
          rw [hb] at e2 hX
          by_cases hke : k + 2 < e
          · have hd2 : decide ((k : Int) + 2 < (e : Int)) = true := by simp; omega
            have k0 := H3.out.at_ k (by omega)
            rw [decide_eq_true hke] at hX
            generalize E.b.getD k 0 = x at *
            have HX2 := Lib.hid (show (x == 123) = X from hX)
            clear hX HX
            go_wp2_with fail
            go_meet
            exact ⟨by rw [← HX2.out], H3.out⟩
          · have hd2 : decide ((k : Int) + 2 < (e : Int)) = false := by simp; omega
            rw [decide_eq_false hke] at hX
            have HX2 := Lib.hid (show false = X from hX)
            clear hX HX
            go_wp2_with fail
            go_meet
            exact ⟨by rw [← HX2.out], H3.out⟩
      case rest =>
      obtain ⟨rfl, HW⟩ := hcut
      clear H3 c1 hX e1
      cases X with
      | false =>
        have HE4 := Lib.hid (show cmd E.b p L = (e, L2) from by
          rw [HE3.out]
          unfold argS
          rw [if_neg]
          rintro ⟨h1, h2, h3, _⟩
          have := HX.out
          rw [h1, decide_eq_true h2, h3] at this
          simp at this)
        clear HE3
        go_wp2_with fail
        go_ret
        exact ⟨by rw [HE4.out]; rfl, by rw [HE4.out]; exact HW.out⟩
      | true =>
        have hx3 := HX.out
        rw [Bool.and_eq_true, Bool.and_eq_true, beq_iff_eq, decide_eq_true_eq, beq_iff_eq] at hx3
        obtain ⟨⟨hx1, hke⟩, hx2⟩ := hx3
        obtain ⟨g, hg⟩ := HGs.out (by omega)
        have hg2 := grp_le E.b k g hg
        have HE4 := Lib.hid (show cmd E.b p L = if (E.b.take (g - 1)).drop (k + 1) ∈ wholeN then envS E.b ((E.b.take (g - 1)).drop (k + 1)) e L2 else (e, L2) from by
          rw [HE3.out, hg]
          unfold argS
          by_cases h : (E.b.take (g - 1)).drop (k + 1) ∈ wholeN
          · rw [if_pos ⟨hx1, hke, hx2, h⟩, if_pos h]; rfl
          · rw [if_neg (fun x => h x.2.2.2), if_neg h])
        have HG := Lib.hid hg
        have hct := mid_run ⟨E.bl, E.of, none⟩ E.b.length E.c (k + 1) (g - 1) (by omega) (by omega) hcap
        rw [show (((k + 1 : Nat)) : Int) = (k : Int) + 1 from by omega, show (((g - 1 : Nat)) : Int) = (g : Int) - 1 from by omega] at hct
        generalize hA2 : (if E.c = k + 1 then some (⟨E.bl, E.of, none⟩ : Addr) else some ((⟨E.bl, E.of, none⟩ : Addr).add ((k + 1) * 1))) = A4 at hct
        have HNe := Lib.hid ((HY.out.take (g - 1)).drop (k + 1))
        have hcs := Kd.C_string (P := Tryd.prog) (A := A4) (c := E.c - (k + 1)) Tryd.underlying22 Tryd.underlying5 Tryd.underlying9 (HW.out.mid_ (k + 1) (g - 1) (by omega) (by omega) A4 hA2)
        have hlenE : ((E.b.take (g - 1)).drop (k + 1)).length = (g - 1) - (k + 1) := by rw [List.length_drop, List.length_take]; omega
        generalize (E.b.take (g - 1)).drop (k + 1) = env at *
        have HWh := Lib.hid (any_mem wholeN bys_whole env HNe.out)
        have HMs := Lib.hid (show bytesOf (strOfNums env) = env from bytesOf_str env HNe.out)
        generalize strOfNums env = M at *
        have c1 := HW.out.c1
        clear hx1 hx2 hA2 HE3 HX HGs hg
        go_wp2_with fail
        refine (group_any E _ L2 k HW.out hw.2).mono ?_
        rw [HG.out, show grpV (some g) = .tuple #[.int .i64 g, .bool true] from rfl]
        rintro e9 w9 ⟨rfl, rfl⟩
        have ct := HW.out.tb.t2
        obtain ⟨Y, hY⟩ : ∃ Y, decide (env ∈ wholeN) = Y := ⟨_, rfl⟩
        rw [hY] at HWh
        have HYh := Lib.hid hY
        clear hY
        go_wp2_with fail
        refine (contains_any _ _ 6 _ M _ HW.out.tb.r2 (by omega)).mono ?_
        rw [HWh.out]
        rintro e9 w9 ⟨rfl, rfl⟩
        clear HWh ct hcs hct
        cases Y with
        | false =>
          have HE5 := Lib.hid (show cmd E.b p L = (e, L2) from by rw [HE4.out, if_neg (of_decide_eq_false HYh.out)])
          clear HE4
          go_wp2_with fail
          go_ret
          exact ⟨by rw [HE5.out]; rfl, by rw [HE5.out]; exact HW.out⟩
        | true =>
          have hmem := of_decide_eq_true HYh.out
          have HE5 := Lib.hid (show cmd E.b p L = envS E.b env e L2 from by rw [HE4.out, if_pos hmem])
          have hml := len_whole _ hmem
          have hMl : M.size ≤ 10 := by rw [← bytesOf_length, HMs.out]; exact hml
          have hz1 : (9223372036854775807 < 5 + M.size) = False := by simp; omega
          have hz2 : (9223372036854775807 < 5 + M.size + 1) = False := by simp; omega
          clear HE4 hmem hml
          go_wp2_with fail
          obtain ⟨S, hS⟩ : ∃ S, (⟨#[92, 101, 110, 100, 123]⟩ ++ M ++ ⟨#[125]⟩ : ByteArray) = S := ⟨_, rfl⟩
          have hSb : bytesOf S = shutT env := by
            rw [← hS, bytesOf_append, bytesOf_append, HMs.out]
            rfl
          have hSs : S.size = 5 + M.size + 1 := by rw [← hS, ByteArray.size_append, ByteArray.size_append]; rfl
          have hSl : (shutT env).length = S.size := by rw [← hSb, bytesOf_length]
          have hS6 : 6 ≤ S.size := by omega
          have hS16 : S.size ≤ 16 := by omega
          have HSl := Lib.hid hSl
          rw [hS]
          clear hS hz1 hz2 hSs hSl
          refine (until_any E _ L2 e S HW.out hgr.2 (by omega) (by omega)).mono ?_
          rw [hSb]
          have kc := fun W => print_bytes (P := Tryd.prog) 9 22 5 Tryd.underlying9 Tryd.underlying22 Tryd.underlying5 S W
          rintro e9 w10 ⟨rfl, hb10⟩
          have H10 := Lib.hid (HW.out.below hb10)
          have HSb := Lib.hid hSb
          have HBy2 := Lib.hid (Bys.of S)
          have hne := shutT_ne env
          clear hb10 HW hSb c1
          have c1 := H10.out.c1
          have c0 := H10.out.c0
          have HBB := Lib.hid (show Below w10.heap.size w10 (Lib.bytesWorld w10 5 S) from bytes_below (Below.refl _ _) (Nat.le_refl _) _ _)
          have HI := Lib.hid (H10.out.below HBB.out)
          have HZ := Lib.hid (show Kd.C (Kd.int .u8) (Lib.bytesWorld w10 5 S) (some ⟨w10.heap.size, 0, none⟩) S.size (bytesOf S) from Kd.C_of_reads (d := 0) (h1 := fun _ => rfl) (bytes_reads w10 5 S (by omega)))
          cases hf : fnd (shutT env) (E.b.drop e) with
          | some i =>
            have hil := fnd_le _ hne _ i hf
            rw [List.length_drop, HSl.out] at hil
            have hu : untl (shutT env) E.b e = e + i + S.size := by unfold untl; rw [hf, HSl.out]
            have HE6 := Lib.hid (show cmd E.b p L = (e + i + S.size, setL (setL L2 2 ((e + i : Nat) : Int) ((e + i + S.size : Nat) : Int)) 4 (e : Int) ((e + i : Nat) : Int)) from by rw [HE5.out]; unfold envS; rw [hf, HSl.out])
            have HSf := Lib.hid (show (bytesOf S).isSuffixOf ((E.b.take (e + i + S.size)).drop e) = true from by rw [HSb.out, ← HSl.out]; exact suf_yes _ _ hne e i hf)
            rw [hu]
            have hct := mid_run ⟨E.bl, E.of, none⟩ E.b.length E.c e (e + i + S.size) (by omega) (by omega) hcap
            generalize hA2 : (if E.c = e then some (⟨E.bl, E.of, none⟩ : Addr) else some ((⟨E.bl, E.of, none⟩ : Addr).add (e * 1))) = A5 at hct
            have HC := Lib.hid (HI.out.mid_ e (e + i + S.size) (by omega) (by omega) A5 hA2)
            have HB5 := Lib.hid ((HY.out.take (e + i + S.size)).drop e)
            have hnle : e + i + S.size - e ≤ E.c - e := by omega
            obtain ⟨q, hq⟩ : ∃ q, e + i + S.size = q := ⟨_, rfl⟩
            rw [hq] at hct HC HB5 hnle HSf HE6 ⊢
            have c1' := HI.out.c1
            have c0' := HI.out.c0
            have hqI : (q : Int) - (S.size : Int) = ((e + i : Nat) : Int) := by omega
            clear hf hu hA2 HE5
            go_wp2_with fail
            refine (suf_any _ _ _ _ _ _ ((E.b.take q).drop e) (bytesOf S) _ HC.out hnle HZ.out HB5.out HBy2.out).mono ?_
            rw [HSf.out]
            rintro e9 w11 ⟨rfl, rfl⟩
            go_wp2_with fail
            have hpp := fun (W : World) (L : List Int) (h : E.In W L) => put_any E W L 2 ((e + i : Nat) : Int) (q : Int) h
            refine (put_any E _ L2 2 _ _ HI.out).mono ?_
            rintro e9 w12 ⟨rfl, h12⟩
            have H12 := Lib.hid h12
            clear h12
            have c0'' := H12.out.c0
            go_wp2_with fail
            refine (put_any E _ _ 4 _ _ H12.out).mono ?_
            rintro e9 w13 ⟨rfl, h13⟩
            have H13 := Lib.hid h13
            clear h13
            go_wp2_with fail
            go_ret
            refine ⟨by rw [HE6.out]; rfl, ?_⟩
            rw [HE6.out]
            rw [show ((e + i : Nat) : Int) = (e : Int) + (i : Int) from by omega]
            exact H13.out
          | none =>
            have hu : untl (shutT env) E.b e = E.b.length := by unfold untl; rw [hf]
            have HE6 := Lib.hid (show cmd E.b p L = (E.b.length, setL L2 4 (e : Int) (E.b.length : Int)) from by rw [HE5.out]; unfold envS; rw [hf])
            have HSf := Lib.hid (show (bytesOf S).isSuffixOf ((E.b.take E.b.length).drop e) = false from by rw [HSb.out]; exact suf_no _ _ hne e hf)
            rw [hu]
            have hct := mid_run ⟨E.bl, E.of, none⟩ E.b.length E.c e E.b.length (by omega) (by omega) hcap
            generalize hA2 : (if E.c = e then some (⟨E.bl, E.of, none⟩ : Addr) else some ((⟨E.bl, E.of, none⟩ : Addr).add (e * 1))) = A5 at hct
            have HC := Lib.hid (HI.out.mid_ e E.b.length (by omega) (by omega) A5 hA2)
            have HB5 := Lib.hid ((HY.out.take E.b.length).drop e)
            have hnle : E.b.length - e ≤ E.c - e := by omega
            clear hf hu hA2 HE5
            go_wp2_with fail
            refine (suf_any _ _ _ _ _ _ ((E.b.take E.b.length).drop e) (bytesOf S) _ HC.out hnle HZ.out HB5.out HBy2.out).mono ?_
            rw [HSf.out]
            rintro e9 w11 ⟨rfl, rfl⟩
            go_wp2_with fail
            refine (dset_any E _ L2 4 _ _ HI.out).mono ?_
            rintro e9 w12 ⟨rfl, h12⟩
            have H12 := Lib.hid h12
            clear h12
            go_wp2_with fail
            go_ret
            exact ⟨by rw [HE6.out]; rfl, by rw [HE6.out]; exact H12.out⟩
end Go.Proofs.YtkicpaodcmepmaaDoor.T
