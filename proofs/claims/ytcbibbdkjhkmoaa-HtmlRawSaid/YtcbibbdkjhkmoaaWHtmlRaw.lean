/- The law HtmlRaw, walked: it answers true. Conditions: none. -/
import Derived.Test.YtcbibbdkjhkmoaaHMo
import Derived.Test.YtcbibbdkjhkmoaaHtmRawLaw
set_option linter.unusedVariables false
set_option linter.unusedSimpArgs false
namespace Go.Proofs.Ytcbibbdkjhkmoaa.H
open Go.RowKit Go.Proofs.YtcbibbdkjhkmoaaW.PrintWords Go.Proofs.YtcbibbdkjhkmoaaW.PrintLast Go.Proofs.Ytcbibbdkjhkmoaa.L Go.Proofs.Ytcbibbdkjhkmoaa.S Go.Proofs.Ytcbibbdkjhkmoaa.Htm

/-- append in a region in the text's order, by its run. -/
theorem appL_ {P : Program} {ops : Array Oper} {rest : List Oper} {Q : Exit → Act → World → Prop} {o : Oper} {a : Act} {w w1 : World} {v1 : Value} (hgd : o.guard = none) (s x : Operand) (t u : TypeId)
    (ho : o.op = .call { callee := .builtin .append, args := #[s, x], argTypes := #[t, u] }) (v0 u0 : Value) (hs : a.eval s = v0) (hx : a.eval x = u0)
    (hr : (Builtin.append_ #[t, u] o.type #[v0, u0]).run P w = .ok v1 w1) (h : wpList P ops Q rest (a.put o.dst v1) w1) : wpList P ops Q (o :: rest) a w :=
  wpList_plain hgd fun _ hK => by
    unfold Oper.wp execOp
    simp only [ho, resolve, invoke, builtin, Sem.run_bind, Sem.run_pure, Result.andThen_ok, List.map_toArray, List.map_cons, List.map_nil, hs, hx, hr]
    exact hK _ _ h
theorem bytes_app (a b : ByteArray) : bytesOf (a ++ b) = bytesOf a ++ bytesOf b := by
  unfold bytesOf
  rw [← List.map_append]
  congr 1
theorem lexN_length (b : List Int) : ∀ (n p : Nat) (L : List Int), L.length = b.length → (lexN b n p L).length = b.length := by
  intro n
  induction n with
  | zero => intro p L h; exact h
  | succ n ih =>
    intro p L h
    unfold lexN
    split
    · rename_i hp
      exact ih _ _ (step_ok b p L hp h).2.2
    · exact h
theorem lexL_length (b : List Int) : (lexL b).length = b.length := lexN_length b _ 0 _ (by simp)
def nmS (r : Nat) : ByteArray := [(⟨#[115, 99, 114, 105, 112, 116]⟩ : ByteArray), ⟨#[115, 116, 121, 108, 101]⟩, ⟨#[116, 105, 116, 108, 101]⟩, ⟨#[116, 101, 120, 116, 97, 114, 101, 97]⟩].getD r ByteArray.empty
theorem nmS_ok (r : Nat) (h : r < 4) : Nam (bytesOf (nmS r)) ∧ (bytesOf (nmS r) == nScript || bytesOf (nmS r) == nStyle) = decide (r < 2) ∧ (bytesOf (nmS r) == nArea || bytesOf (nmS r) == nTitle) = !decide (r < 2) ∧ (nmS r).size ≤ 8 := by
  match r, h with
  | 0, _ => exact ⟨⟨by decide, by decide⟩, by decide, by decide, by decide⟩
  | 1, _ => exact ⟨⟨by decide, by decide⟩, by decide, by decide, by decide⟩
  | 2, _ => exact ⟨⟨by decide, by decide⟩, by decide, by decide, by decide⟩
  | 3, _ => exact ⟨⟨by decide, by decide⟩, by decide, by decide, by decide⟩

set_option maxRecDepth 100000 in
set_option maxHeartbeats 4000000 in
theorem htmlRaw_any (A0 : Option Addr) (c0 : Nat) (l0 : List Int) (f : Nat) (A2 : Option Addr) (c2 : Nat) (l2 : List Int) (w : World) (hM : Mx w) (hf : f < 256)
    (hC0 : Kd.C (Kd.int .u8) w A0 l0.length l0) (hB0 : Bys l0) (hm0 : l0.length ≤ 140737488351232) (hC2 : Kd.C (Kd.int .u8) w A2 l2.length l2) (hB2 : Bys l2) (hm2 : l2.length ≤ 140737488351232) :
    Calls Try.prog 7 #[.slice A0 l0.length c0, .int .u8 f, .slice A2 l2.length c2] w fun e w' => e = .returned (.bool true) ∧ Below w.heap.size w w' := by
  have HH := Lib.hid (And.intro hM (And.intro hC0 (And.intro hB0 (And.intro hC2 hB2))))
  clear hM hC0 hB0 hC2 hB2
  go_enter Try.func7, Try.ntmps7
  go_wp2_with fail
  refine (awake_any _ HH.out.1).mono ?_
  rintro e w1 ⟨rfl, hb1⟩
  have HW := Lib.hid hb1
  clear hb1
  by_cases hbig : 500 < l0.length
  · have h3 : decide ((500 : Int) < (l0.length : Int)) = true := by simp; omega
    go_wp2_with fail
    go_ret
    exact ⟨rfl, HW.out⟩
  have h3 : decide ((500 : Int) < (l0.length : Int)) = false := by simp; omega
  by_cases hbig2 : 100 < l2.length
  · have h4 : decide ((100 : Int) < (l2.length : Int)) = true := by simp; omega
    go_wp2_with fail
    go_ret
    exact ⟨rfl, HW.out⟩
  have h4 : decide ((100 : Int) < (l2.length : Int)) = false := by simp; omega
  go_wp2_with fail
  go_loopg [7, 32] l0.length (fun gn v iv wr => ∃ j : Nat, iv = .int .i64 j ∧ j ≤ l0.length ∧ Hid (Ob w wr v (butM 47 (l0.take j)) ∧ gn = l0.length - j))
  case atStart => exact ⟨0, rfl, Nat.zero_le _, ⟨World.ownsRow_nil _ _ _ _, HW.out⟩, rfl⟩
  case round =>
    obtain ⟨j, rfl, hj, HQ⟩ := hrel
    clear HW
    obtain ⟨A1, c1, rfl, hcc, _⟩ := HQ.out.1.form
    by_cases hlt : j < l0.length
    · have hd : decide ((j : Int) < (l0.length : Int)) = true := by simp; omega
      have hsn := butM_snoc 47 l0 j hlt
      obtain ⟨ad, rfl, hcell0⟩ := Kd.at_int (Kd.C_below HH.out.2.1 HQ.out.1.bel) (j : Int) (by omega) (by omega)
      have hcell : wr.cell? (ad.add j) = some (.int .u8 (l0.getD j 0)) := hcell0
      clear hcell0
      have hle := butM_le 47 (l0.take j)
      rw [List.length_take] at hle
      generalize l0.getD j 0 = x at *
      have HSn := Lib.hid hsn
      clear hsn
      by_cases hx : x = 47
      · have hx1 : (x != 47) = false := by simp [hx]
        go_wp2_with fail
        go_roundg (l0.length - (j + 1))
        case measure => have := HQ.out.2; omega
        case rel => exact ⟨j + 1, by go_num, by omega, by rw [HSn.out, if_pos hx]; exact HQ.out.1, rfl⟩
      · have hx1 : (x != 47) = true := by simp [hx]
        go_wp2_with (at_builtin; refine print_append_num (w0 := w) w.heap.size rfl _ _ 22 5 .u8 1 rfl Try.underlying22 info_u8 (by decide) (.slice A1 (butM 47 (l0.take j)).length c1) (butM 47 (l0.take j)) x rfl rfl HQ.out.1.own HQ.out.1.bel HQ.out.1.bel.size (by omega) ?_; intro v1 w1 ho hb1 _ _; have HI := Lib.hid (And.intro ho hb1); clear ho hb1)
        go_roundg (l0.length - (j + 1))
        case measure => have := HQ.out.2; omega
        case rel => exact ⟨j + 1, by go_num, by omega, by rw [HSn.out, if_neg hx]; exact ⟨HI.out.1, HI.out.2⟩, rfl⟩
    · obtain rfl : j = l0.length := by omega
      have hd : decide ((l0.length : Int) < (l0.length : Int)) = false := by simp
      have hq := HQ.out.1
      rw [List.take_length] at hq hcc ⊢
      have hcl := butM_le 47 l0
      have HCl := Lib.hid (And.intro (butM_not 47 l0) (butM_bys 47 l0 HH.out.2.2.1))
      generalize butM 47 l0 = cl at *
      have HO := Lib.hid hq
      clear hq HQ
      go_upto_region 12 with fail
      obtain ⟨r, hr⟩ : ∃ r : Nat, (f : Int) % 4 = (r : Int) := ⟨f % 4, by omega⟩
      have hr4 : r < 4 := by omega
      have HR := Lib.hid hr
      clear hr
      go_cut [10] (fun kv wx => kv = .string (nmS r) ∧ Hid (Ob w wx (.slice A1 cl.length c1) cl))
      case first =>
        have hr := HR.out
        have hcell : (wr.alloc (.cells #[.string ⟨#[115, 99, 114, 105, 112, 116]⟩, .string ⟨#[115, 116, 121, 108, 101]⟩, .string ⟨#[116, 105, 116, 108, 101]⟩, .string ⟨#[116, 101, 120, 116, 97, 114, 101, 97]⟩] 9 (0, 0))).cell? ⟨wr.heap.size, r, none⟩ = some (.string (nmS r)) := by
          rw [blk_cell (blk_new wr _)]
          exact at_strsM [(⟨#[115, 99, 114, 105, 112, 116]⟩ : ByteArray), ⟨#[115, 116, 121, 108, 101]⟩, ⟨#[116, 105, 116, 108, 101]⟩, ⟨#[116, 101, 120, 116, 97, 114, 101, 97]⟩] r hr4
        go_wp2_with fail
        go_meet
        exact ⟨rfl, HO.out.alloc _⟩
      case rest =>
        obtain ⟨rfl, HO2⟩ := hcut
        clear HO
        obtain ⟨hn1, hn2, hn3, hn4⟩ := nmS_ok r hr4
        have HNm := Lib.hid (And.intro hn1 (And.intro hn2 hn3))
        clear hn1 hn2 hn3
        generalize nmS r = N at *
        have hq1 : (9223372036854775807 < 1 + N.size) = False := by simp; omega
        have hq2 : (9223372036854775807 < 1 + N.size + 1) = False := by simp; omega
        have hq3 : (9223372036854775807 < 2 + N.size) = False := by simp; omega
        have hq4 : (9223372036854775807 < 2 + N.size + 1) = False := by simp; omega
        have kc1 := conv_run ((⟨#[60]⟩ : ByteArray) ++ N ++ (⟨#[62]⟩ : ByteArray))
        have hs1 : ((⟨#[60]⟩ : ByteArray) ++ N ++ (⟨#[62]⟩ : ByteArray)).size = 1 + N.size + 1 := by rw [ByteArray.size_append, ByteArray.size_append]; rfl
        have hs2 : ((⟨#[60, 47]⟩ : ByteArray) ++ N ++ (⟨#[62]⟩ : ByteArray)).size = 2 + N.size + 1 := by rw [ByteArray.size_append, ByteArray.size_append]; rfl
        have hb1 : bytesOf ((⟨#[60]⟩ : ByteArray) ++ N ++ (⟨#[62]⟩ : ByteArray)) = 60 :: (bytesOf N ++ [62]) := by rw [bytes_app, bytes_app]; rfl
        have hb2 : bytesOf ((⟨#[60, 47]⟩ : ByteArray) ++ N ++ (⟨#[62]⟩ : ByteArray)) = 60 :: 47 :: (bytesOf N ++ [62]) := by rw [bytes_app, bytes_app]; rfl
        have hnl := bytesOf_length N
        have m1 := Mo.conv w wc ((⟨#[60]⟩ : ByteArray) ++ N ++ (⟨#[62]⟩ : ByteArray)) HO2.out.bel (by omega)
        rw [hb1, hs1] at m1
        have hbw := bytes_below (Below.refl wc.heap.size wc) (Nat.le_refl _) 5 ((⟨#[60]⟩ : ByteArray) ++ N ++ (⟨#[62]⟩ : ByteArray))
        obtain ⟨A1', c1', e1', _, hCl⟩ := (HO2.out.below hbw).form
        injection e1' with e1' _ e2'
        subst e1'
        subst e2'
        have hy1 : (60 :: (bytesOf N ++ [(62 : Int)])).length = 1 + N.size + 1 := by simp only [List.length_cons, List.length_append, List.length_nil]; omega
        obtain ⟨v2, w2, hr2, m2⟩ := Mo.append m1 A1 cl.length c1 cl (C_reads hCl) (by omega) 22
        obtain ⟨A2', c2', rfl, _, _⟩ := m2.reads
        obtain ⟨v3, w3, hr3, m3⟩ := Mo.appendS m2 ((⟨#[60, 47]⟩ : ByteArray) ++ N ++ (⟨#[62]⟩ : ByteArray)) (by rw [List.length_append]; omega) 22
        obtain ⟨A3', c3', rfl, _, _⟩ := m3.reads
        obtain ⟨v4, w4, hr4', m4⟩ := Mo.append m3 A2 l2.length c2 l2 (C_reads (Kd.C_below HH.out.2.2.2.1 m3.bel)) (by simp only [List.length_append, bytesOf_length, hs2]; omega) 22
        obtain ⟨A4', c4', rfl, hc4, hC4⟩ := m4.reads
        rw [hb2] at hr3 hr4' m3 m4 hc4 hC4
        obtain ⟨y2, hy2⟩ : ∃ y2, y2 = 60 :: (bytesOf N ++ [(62 : Int)]) ++ cl := ⟨_, rfl⟩
        obtain ⟨y3, hy3⟩ : ∃ y3, y3 = y2 ++ (60 :: 47 :: (bytesOf N ++ [(62 : Int)])) := ⟨_, rfl⟩
        obtain ⟨x, hx⟩ : ∃ x, x = y3 ++ l2 := ⟨_, rfl⟩
        rw [← hy2, ← hy3, ← hx] at hr4' hc4 hC4
        rw [← hy2] at hr2
        rw [← hy2, ← hy3] at hr3
        have hl2 : y2.length = N.size + 2 + cl.length := by rw [hy2, List.length_append]; omega
        have hl3 : y3.length = N.size + 2 + cl.length + (N.size + 3) := by rw [hy3, List.length_append, hl2]; simp only [List.length_append, List.length_cons, List.length_nil]; omega
        have hlx : x.length = y3.length + l2.length := by rw [hx, List.length_append]
        have hxb : Bys x := by
          have hbn : Bys (bytesOf N) := Bys.of N
          rw [hx, hy3, hy2]
          intro z hz
          simp only [List.mem_append, List.mem_cons, List.not_mem_nil, or_false] at hz
          rcases hz with (((h | (h | h)) | h) | (h | (h | (h | h)))) | h
          · omega
          · exact hbn z h
          · omega
          · exact HCl.out.2 z h
          · omega
          · omega
          · exact hbn z h
          · omega
          · exact HH.out.2.2.2.2 z h
        have HGet := Lib.hid (fun i hi => raw_get (bytesOf N) cl l2 HNm.out.1 HCl.out.1 (decide (r < 2)) HNm.out.2.1 HNm.out.2.2 x (by rw [hx, hy3, hy2]; simp) i hi)
        rw [hnl] at HGet
        have HX := Lib.hid (And.intro hC4 (And.intro hxb (And.intro hc4 m4.bel)))
        have HL := Lib.hid (And.intro hl2 (And.intro hl3 hlx))
        have hx1 : x.length ≤ 10000 := by omega
        clear hl2 hl3 hlx hy2 hy3 hx hxb hC4 hc4 m1 m2 m3 m4 hCl hbw hb1 hb2 hy1 hs1 hs2 hnl HO2 HCl HNm
        go_upto_region 18 with (first | (at_builtin; refine appL_ rfl _ _ 22 22 rfl (.slice (some ⟨wc.heap.size, 0, none⟩) (1 + N.size + 1) (grownCap wc (1 + N.size + 1) 0 5)) (.slice A1 cl.length c1) rfl rfl hr2 ?_) | (at_builtin; refine appL_ rfl _ _ 22 9 rfl (.slice A2' y2.length c2') (.string ((⟨#[60, 47]⟩ : ByteArray) ++ N ++ (⟨#[62]⟩ : ByteArray))) rfl rfl hr3 ?_) | (at_builtin; refine appL_ rfl _ _ 22 22 rfl (.slice A3' y3.length c3') (.slice A2 l2.length c2) rfl rfl hr4' ?_))
        clear hr2 hr3 hr4' kc1 hq1 hq2 hq3 hq4
        go_wp2_with fail
        refine (lex_any A4' x.length c4' x _ HX.out.1 HX.out.2.2.1 HX.out.2.1 (by omega) (HH.out.1.below HX.out.2.2.2)).mono ?_
        rintro e w8 ⟨g, k, rfl, hs8, hb8, _, _⟩
        have HS8 := Lib.hid (And.intro hs8 (below_step HX.out.2.2.2 hb8))
        clear hs8 hb8 HX
        go_upto_region 20 with fail
        have hr := HR.out
        go_upto_if 76 with fail
        clear hr
        obtain ⟨W, hW⟩ : ∃ W : Int, W = if decide (r < 2) = true then 4 else 1 := ⟨_, rfl⟩
        rw [← hW] at HGet
        go_cut [17] (fun v wx => v = .int .u8 W ∧ Hid (Sheet wx g k (lexL x) ∧ Below w.heap.size w wx))
        case first =>
          by_cases hr2 : r < 2
          · have hd : decide ((1 : Int) < (r : Int)) = false := by simp; omega
            obtain rfl : W = 4 := by rw [hW, if_pos (by simp [hr2])]
            clear hW
            go_wp2_with fail
            go_meet
            exact ⟨rfl, HS8.out⟩
          · have hd : decide ((1 : Int) < (r : Int)) = true := by simp; omega
            obtain rfl : W = 1 := by rw [hW, if_neg (by simp [hr2])]
            clear hW
            go_wp2_with fail
            go_meet
            exact ⟨rfl, HS8.out⟩
        case rest =>
          obtain ⟨rfl, HS9⟩ := hcut
          clear HS8 hW
          have hy3x : y3.length ≤ x.length := by have := HL.out.2.2; omega
          go_wp2_with fail
          go_loopg [78] y3.length (fun gn iv wr => ∃ i : Nat, iv = .int .i64 i ∧ i ≤ y3.length ∧ Hid (Sheet wr g k (lexL x) ∧ Below w.heap.size w wr ∧ gn = y3.length - i))
          case atStart => exact ⟨0, rfl, Nat.zero_le _, HS9.out.1, HS9.out.2, rfl⟩
          case round =>
            obtain ⟨i, rfl, hi, HQ⟩ := hrel
            clear HS9
            by_cases hlt : i < y3.length
            · have hd : decide ((i : Int) < (y3.length : Int)) = true := by simp; omega
              have hget := HGet.out i (by have := HL.out.2.1; omega)
              by_cases h1 : N.size + 2 ≤ i
              · have hI : (N.size : Int) + 2 ≤ (i : Int) := by omega
                by_cases h2 : i < y2.length
                · rw [if_pos ⟨h1, by have := HL.out.1; omega⟩] at hget
                  have HGt := Lib.hid hget
                  have hI2 : (i : Int) < (y2.length : Int) := by omega
                  clear hget
                  go_wp2_with (go_at_call 23; refine (at_in g k _ i W _ HQ.out.1 HGt.out).mono ?_; rintro e w' ⟨rfl, rfl⟩)
                  go_roundg (y3.length - (i + 1))
                  case measure => have := HQ.out.2.2; omega
                  case rel => exact ⟨i + 1, by go_num, by omega, HQ.out.1, HQ.out.2.1, rfl⟩
                · rw [if_neg (fun h => h2 (by have := HL.out.1; omega))] at hget
                  have HGt := Lib.hid hget
                  have hI2 : (y2.length : Int) ≤ (i : Int) := by omega
                  clear hget
                  go_wp2_with (go_at_call 23; refine (at_in g k _ i 2 _ HQ.out.1 HGt.out).mono ?_; rintro e w' ⟨rfl, rfl⟩)
                  go_roundg (y3.length - (i + 1))
                  case measure => have := HQ.out.2.2; omega
                  case rel => exact ⟨i + 1, by go_num, by omega, HQ.out.1, HQ.out.2.1, rfl⟩
              · rw [if_neg (fun h => h1 h.1)] at hget
                have hI : (i : Int) < (N.size : Int) + 2 := by omega
                have HGt := Lib.hid hget
                clear hget
                go_wp2_with (go_at_call 23; refine (at_in g k _ i 2 _ HQ.out.1 HGt.out).mono ?_; rintro e w' ⟨rfl, rfl⟩)
                go_roundg (y3.length - (i + 1))
                case measure => have := HQ.out.2.2; omega
                case rel => exact ⟨i + 1, by go_num, by omega, HQ.out.1, HQ.out.2.1, rfl⟩
            · have hd : decide ((i : Int) < (y3.length : Int)) = false := by simp; omega
              have HLl := Lib.hid (lexL_length x)
              go_wp2_with (go_at_call 25; refine (len_any g k _ _ HQ.out.1).mono ?_; rintro e w' ⟨rfl, rfl⟩; rw [HLl.out])
              go_ret
              exact ⟨rfl, HQ.out.2.1⟩
end Go.Proofs.Ytcbibbdkjhkmoaa.H
namespace Go.Proofs.Ytcbibbdkjhkmoaa.Wk.HtmlRaw
open Go.RowKit Go.Proofs.YtcbibbdkjhkmoaaW.PrintWords Go.Proofs.Ytcbibbdkjhkmoaa.S Go.Proofs.Ytcbibbdkjhkmoaa.H
theorem walk (A0 : Option Addr) (c0 : Nat) (l0 : List Int) (a1 : Int) (A2 : Option Addr) (c2 : Nat) (l2 : List Int) (w : World) (hM : Mx w) (hr0 : Kd.C (Kd.int .u8) w A0 l0.length l0) (hc0 : l0.length ≤ c0) (hg0 : Bys l0 ∧ l0.length ≤ 140737488351232) (h1 : (Lit.int .u8 a1).wf = true) (hr2 : Kd.C (Kd.int .u8) w A2 l2.length l2) (hc2 : l2.length ≤ c2) (hg2 : Bys l2 ∧ l2.length ≤ 140737488351232) :
    Calls Try.prog 7 #[.slice A0 l0.length c0, .int .u8 a1, .slice A2 l2.length c2] w fun e w' => e = .returned (.bool true) ∧ Below w.heap.size w w' := by
  obtain ⟨n, rfl, hn⟩ := u8_of h1
  exact htmlRaw_any A0 c0 l0 n A2 c2 l2 w hM hn hr0 hg0.1 hg0.2 hr2 hg2.1 hg2.2
end Go.Proofs.Ytcbibbdkjhkmoaa.Wk.HtmlRaw
