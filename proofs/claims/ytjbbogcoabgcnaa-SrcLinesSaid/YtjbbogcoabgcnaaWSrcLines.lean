/- The law SrcLines, walked: it answers true. Conditions: none. -/
import Derived.Test.YtjbbogcoabgcnaaSMo
set_option linter.unusedVariables false
set_option linter.unusedSimpArgs false
namespace Go.Proofs.Ytjbbogcoabgcnaa.S
open Go.RowKit Go.Proofs.YtjbbogcoabgcnaaW.PrintWords Go.Proofs.Ytjbbogcoabgcnaa.L Go.Proofs.Ytjbbogcoabgcnaa.Src

def lnF (r : Nat) : Int := [4, 5, 6, 7, 8].getD r 0
def lnM (r : Nat) : ByteArray := [(⟨#[47, 47]⟩ : ByteArray), ⟨#[47, 47]⟩, ⟨#[35]⟩, ⟨#[35]⟩, ⟨#[45, 45]⟩].getD r ByteArray.empty
structure LineOk (F : Fam) (m : List Int) : Prop where
  hl : F.line = [m]
  hm : m ≠ []
  h10 : some (10 : Int) ∉ firsts F
  le : m.length ≤ 2
theorem line_of (r : Nat) (h : r < 5) : ∃ F, famOf (lnF r) = some F ∧ LineOk F (bytesOf (lnM r)) := by
  match r, h with
  | 0, _ => exact ⟨famC, rfl, rfl, by decide, by decide, by decide⟩
  | 1, _ => exact ⟨famG, rfl, rfl, by decide, by decide, by decide⟩
  | 2, _ => exact ⟨famP, rfl, rfl, by decide, by decide, by decide⟩
  | 3, _ => exact ⟨famS, rfl, rfl, by decide, by decide, by decide⟩
  | 4, _ => exact ⟨famQ, rfl, rfl, by decide, by decide, by decide⟩
theorem line_get (F : Fam) (m : List Int) (h : LineOk F m) (a r : List Int) (ha : (10 : Int) ∉ a) (i : Nat) (hi : i < (m ++ a ++ 10 :: r).length) :
    (lexF F (-1) (m ++ a ++ 10 :: r))[i]? = if i < m.length then some 3 else if (m ++ a).length ≤ i then (lexF F (-1) (10 :: r))[i - (m ++ a).length]? else some 1 := by
  obtain ⟨q, hq⟩ := lexF_line (F := F) (p := -1) (r := r) h.hl h.hm (.inr rfl) ha
  rw [hq, lexF_nl h.h10 q (-1)]
  rw [List.length_append] at hi
  by_cases h1 : i < m.length
  · rw [if_pos h1, List.append_assoc, List.getElem?_append_left (by simpa using h1), List.getElem?_replicate, if_pos h1]
  · rw [if_neg h1]
    by_cases h2 : (m ++ a).length ≤ i
    · rw [if_pos h2, List.getElem?_append_right (by simpa using h2)]
      simp
    · rw [if_neg h2]
      rw [List.length_append] at h2
      rw [List.getElem?_append_left (by simp only [List.length_append, List.length_replicate]; omega), List.getElem?_append_right (by simp only [List.length_replicate]; omega), List.getElem?_replicate, if_pos (by simp only [List.length_replicate]; omega)]

set_option maxRecDepth 100000 in
set_option maxHeartbeats 4000000 in
theorem srcLines_any (f : Nat) (A : Option Addr) (c : Nat) (l : List Int) (A2 : Option Addr) (c2 : Nat) (l2 : List Int) (w : World) (hf : f < 256) (hA : Kd.C (Kd.int .u8) w A l.length l) (hb : Bys l) (hm : l.length ≤ 140737488351232) (hA2 : Kd.C (Kd.int .u8) w A2 l2.length l2) (hb2 : Bys l2) (hm2 : l2.length ≤ 140737488351232) :
    Calls Try.prog 7 #[.int .u8 f, .slice A l.length c, .slice A2 l2.length c2] w fun e w' => e = .returned (.bool true) ∧ Below w.heap.size w w' := by
  have HA := Lib.hid hA
  have HBy := Lib.hid hb
  have HA2 := Lib.hid hA2
  have HBy2 := Lib.hid hb2
  clear hA hb hA2 hb2
  go_enter Try.func7, Try.ntmps7
  go_wp2_with fail
  refine (awake_any _).mono ?_
  rintro e w1 ⟨rfl, hbw⟩
  have HW := Lib.hid hbw
  clear hbw
  by_cases h300 : 300 < l.length
  · have h3 : decide (300 < (l.length : Int)) = true := by simp; omega
    go_wp2_with fail
    go_ret
    exact ⟨rfl, HW.out⟩
  by_cases h300b : 300 < l2.length
  · have h3 : decide (300 < (l.length : Int)) = false := by simp; omega
    have h4 : decide (300 < (l2.length : Int)) = true := by simp; omega
    go_wp2_with fail
    go_ret
    exact ⟨rfl, HW.out⟩
  have h3 : decide (300 < (l.length : Int)) = false := by simp; omega
  have h4 : decide (300 < (l2.length : Int)) = false := by simp; omega
  go_upto_region 5 with fail
  obtain ⟨r, hr⟩ : ∃ r : Nat, (f : Int) % 5 = (r : Int) := ⟨f % 5, by omega⟩
  have hr5 : r < 5 := by omega
  have HR := Lib.hid hr
  clear hr
  go_cut [7] (fun kv wx => kv = .int .u8 (lnF r) ∧ Hid (Below w.heap.size w wx))
  case first =>
    have hr := HR.out
    have hcell : (w1.alloc (.cells #[.int .u8 4, .int .u8 5, .int .u8 6, .int .u8 7, .int .u8 8] 28 (0, 0))).cell? ⟨w1.heap.size, r, none⟩ = some (.int .u8 (lnF r)) := by
      rw [blk_cell (blk_new w1 _)]
      exact at_intsM [4, 5, 6, 7, 8] r hr5
    go_wp2_with fail
    go_meet
    exact ⟨rfl, below_alloc HW.out _⟩
  case rest =>
    obtain ⟨rfl, HW2⟩ := hcut
    clear HW
    rename_i wc
    go_upto_region 6 with fail
    go_cut [8] (fun kv wx => kv = .string (lnM r) ∧ Hid (Below w.heap.size w wx))
    case first =>
      have hr := HR.out
      have hcell : (wc.alloc (.cells #[.string ⟨#[47, 47]⟩, .string ⟨#[47, 47]⟩, .string ⟨#[35]⟩, .string ⟨#[35]⟩, .string ⟨#[45, 45]⟩] 9 (0, 0))).cell? ⟨wc.heap.size, r, none⟩ = some (.string (lnM r)) := by
        rw [blk_cell (blk_new wc _)]
        exact at_strsM [(⟨#[47, 47]⟩ : ByteArray), ⟨#[47, 47]⟩, ⟨#[35]⟩, ⟨#[35]⟩, ⟨#[45, 45]⟩] r hr5
      go_wp2_with fail
      go_meet
      exact ⟨rfl, below_alloc HW2.out _⟩
    case rest =>
      obtain ⟨rfl, HW3⟩ := hcut
      clear HW2
      obtain ⟨F, hFL⟩ := line_of r hr5
      have HFL := Lib.hid hFL
      clear hFL
      generalize lnF r = fm at *
      generalize lnM r = M at *
      have hMs : M.size ≤ 2 := by rw [← bytesOf_length]; exact HFL.out.2.le
      obtain ⟨m, hmM⟩ : ∃ m, m = bytesOf M := ⟨_, rfl⟩
      rw [← hmM] at HFL
      have HM := Lib.hid hmM
      have hml : m.length = M.size := by rw [hmM, bytesOf_length]
      have HMl := Lib.hid hml
      have kc := conv_run M
      have HO := Lib.hid (Mo.conv w wc M HW3.out (by omega))
      clear hmM hml
      go_upto_block 0 with fail
      clear kc
      rw [← HM.out] at HO
      go_cut [9] (fun v wx => Hid (Mo w wx v (m ++ butM 10 l)))
      case first =>
        go_wp2_with fail
        go_loopg [9, 43] l.length (fun gn v iv wr => ∃ j : Nat, iv = .int .i64 j ∧ j ≤ l.length ∧ Hid (Mo w wr v (m ++ butM 10 (l.take j)) ∧ gn = l.length - j))
        case atStart => exact ⟨0, rfl, Nat.zero_le _, by simpa [butM] using HO.out, rfl⟩
        case round =>
          obtain ⟨j, rfl, hj, HQ⟩ := hrel
          clear HO
          have HV := Lib.hid HQ.out.1
          have HG := Lib.hid HQ.out.2
          clear HQ
          by_cases hlt : j < l.length
          · obtain ⟨ad, rfl, hcell⟩ := Kd.at_int (Kd.C_below HA.out HV.out.bel) (j : Int) (by omega) (by omega)
            rw [Int.toNat_natCast] at hcell
            obtain ⟨x, hx⟩ : ∃ x, x = l.getD j 0 := ⟨_, rfl⟩
            have hx2 : rd l (j : Int) = x := hx.symm
            rw [hx2] at hcell
            have HX := Lib.hid hx
            clear hx hx2
            have hs := butM_snoc 10 l j hlt
            rw [← HX.out] at hs
            by_cases hxm : x = 10
            · rw [if_pos hxm] at hs
              have HS := Lib.hid hs
              have e1 : (x == 10) = true := by simp [hxm]
              have e2 : (x != 10) = false := by simp [hxm]
              have HXm := Lib.hid hxm
              clear hs hxm
              go_wp2_with fail
              go_roundg (l.length - (j + 1))
              case measure => have := HG.out; omega
              case rel => exact ⟨j + 1, by go_num, by omega, by rw [HS.out]; exact HV.out, rfl⟩
            · rw [if_neg hxm] at hs
              have HS := Lib.hid hs
              have e1 : (x == 10) = false := by simp [hxm]
              have e2 : (x != 10) = true := by simp [hxm]
              have HXm := Lib.hid hxm
              have HR2 := Kd.reads_of_C (enc := Value.int .u8) (d := (0 : Int)) (h1 := fun _ => rfl) (lit_C wr 5 (0, 0) [x] (by simp))
              have hle : (m ++ butM 10 (l.take j)).length + 1 ≤ 1000000 := by
                have h1 := butM_le 10 (l.take j)
                have h2 := HMl.out
                rw [List.length_take] at h1
                simp only [List.length_append]
                omega
              obtain ⟨v1, w4, hrun, hmo⟩ := (HV.out.alloc (.cells #[.int .u8 x] 5 (0, 0))).append (some ⟨wr.heap.size, 0, none⟩) 1 1 [x] HR2 hle 22
              have HRun := Lib.hid hrun
              have HMo := Lib.hid hmo
              clear hs hxm HR2 hrun hmo
              go_wp2_with (at_builtin; refine Lib.wpList_append_run_sl _ rfl _ _ 22 rfl _ _ rfl rfl HRun.out ?_)
              go_roundg (l.length - (j + 1))
              case measure => have := HG.out; omega
              case rel => exact ⟨j + 1, by go_num, by omega, by rw [HS.out, ← List.append_assoc]; exact HMo.out, rfl⟩
          · obtain rfl : j = l.length := by omega
            have HV2 := Lib.hid (show Mo w wr u9 (m ++ butM 10 l) from by
              have := HV.out
              rw [List.take_length] at this
              exact this)
            go_wp2_with fail
            go_meet
            exact HV2
      case rest =>
        have HV := hcut
        clear hcut HO
        obtain ⟨A9, c9, rfl, hc9, _⟩ := HV.out.reads
        have hN : (m ++ butM 10 l).length ≤ 302 := by
          have h1 := butM_le 10 l
          have h2 := HMl.out
          simp only [List.length_append]
          omega
        have h10 : (10 : Int) ∉ butM 10 l := butM_not 10 l
        have HBa := Lib.hid (butM_bys 10 l HBy.out)
        have HGet := Lib.hid (fun i => line_get F m HFL.out.2 (butM 10 l) l2 h10 i)
        clear h10
        obtain ⟨a, ha⟩ : ∃ a, a = butM 10 l := ⟨_, rfl⟩
        rw [← ha] at HV hc9 hN HGet HBa ⊢
        clear ha
        obtain ⟨N, hNe⟩ : ∃ N, N = (m ++ a).length := ⟨_, rfl⟩
        have HN := Lib.hid hNe
        have hmN : M.size ≤ N := by rw [hNe, List.length_append, HMl.out]; omega
        have HVN := Lib.hid (show Mo w wc (.slice A9 N c9) (m ++ a) from by rw [hNe]; exact HV.out)
        rw [← hNe] at hc9 hN ⊢
        have HR1 := Kd.reads_of_C (enc := Value.int .u8) (d := (0 : Int)) (h1 := fun _ => rfl) (lit_C wc 5 (0, 0) [10] (by simp))
        obtain ⟨v1, w4, hrun1, hmo1⟩ := (HVN.out.alloc (.cells #[.int .u8 10] 5 (0, 0))).append (some ⟨wc.heap.size, 0, none⟩) 1 1 [10] HR1 (by rw [← hNe]; omega) 22
        obtain ⟨v2, w5, hrun2, hmo2⟩ := hmo1.append A2 l2.length c2 l2 (Kd.reads_of_C (enc := Value.int .u8) (d := (0 : Int)) (h1 := fun _ => rfl) (Kd.C_below HA2.out hmo1.bel)) (by simp only [List.length_append, List.length_cons, List.length_nil] at hNe ⊢; omega) 22
        have HRun1 := Lib.hid hrun1
        have HRun2 := Lib.hid hrun2
        have hB : m ++ a ++ [10] ++ l2 = m ++ a ++ 10 :: l2 := by simp
        rw [hB] at hmo2
        have HMo := Lib.hid hmo2
        clear HR1 hrun1 hrun2 hmo1 hmo2 hNe hB HV
        go_wp2_with (first
          | (at_builtin; refine Lib.wpList_append_run_sl _ rfl (.tmp 56) (.tmp 57) 22 rfl _ _ rfl rfl HRun1.out ?_)
          | (at_builtin; refine Lib.wpList_append_run_sl _ rfl (.tmp 58) (.tmp 59) 22 rfl _ _ rfl rfl HRun2.out ?_))
        obtain ⟨A5, c5, rfl, hc5, hC5⟩ := HMo.out.reads
        have HBb := Lib.hid (show Bys (m ++ a ++ 10 :: l2) from by
          intro x hx
          rcases List.mem_append.1 hx with h | h
          · rcases List.mem_append.1 h with h | h
            · rw [HM.out] at h; exact Bys.of M x h
            · exact HBa.out x h
          · rcases List.mem_cons.1 h with rfl | h
            · omega
            · exact HBy2.out x h)
        have hBl : (m ++ a ++ 10 :: l2).length ≤ 700 := by
          have := HN.out
          rw [List.length_append, ← this]
          simp only [List.length_cons]
          omega
        obtain ⟨B, hBe⟩ : ∃ B, B = m ++ a ++ 10 :: l2 := ⟨_, rfl⟩
        rw [← hBe] at hC5 hc5 HBb hBl HGet HMo ⊢
        rw [← HN.out] at HGet
        have hNB : N + 1 + l2.length = B.length := by
          rw [hBe, List.length_append, ← HN.out]
          simp only [List.length_cons]
          omega
        have HNB := Lib.hid hNB
        clear hBe hNB
        refine (lex_any fm F A5 c5 _ B _ HFL.out.1 hC5 hc5 HBb.out (by omega)).mono ?_
        rintro e w6 ⟨g, k, rfl, hs, hb6, _, _⟩
        have HS := Lib.hid (And.intro hs (below_step HMo.out.bel hb6))
        clear hs hb6 hC5 HMo HRun1 HRun2 HVN
        have HR3 := Kd.reads_of_C (enc := Value.int .u8) (d := (0 : Int)) (h1 := fun _ => rfl) (Kd.C_below HA2.out (below_alloc HS.out.2 (.cells #[.int .u8 10] 5 (0, 0))))
        obtain ⟨v3, w7, hrun3, hmo3⟩ := (Mo.of_own (Ob.lit w6 w6 [10] (Below.refl _ _) (by simp)) (by simp)).append A2 l2.length c2 l2 HR3 (by simp only [List.length_cons, List.length_nil]; omega) 22
        have HRun3 := Lib.hid hrun3
        have HMo3 := Lib.hid hmo3
        clear HR3 hrun3 hmo3
        go_wp2_with (at_builtin; refine Lib.wpList_append_run_sl _ rfl (.tmp 69) (.tmp 70) 22 rfl _ _ rfl rfl HRun3.out ?_)
        obtain ⟨A7, c7, rfl, hc7, hC7⟩ := HMo3.out.reads
        have HB3 := Lib.hid (show Bys ([10] ++ l2) from by
          intro x hx
          rcases List.mem_append.1 hx with h | h
          · simp at h; omega
          · exact HBy2.out x h)
        obtain ⟨R, hRe⟩ : ∃ R, R = [10] ++ l2 := ⟨_, rfl⟩
        rw [← hRe] at hC7 hc7 HB3 HMo3 ⊢
        have hRl : R.length = 1 + l2.length := by rw [hRe]; simp; omega
        have HRl := Lib.hid hRl
        have HGet2 := Lib.hid (show ∀ i, i < B.length → (lexF F (-1) B)[i]? = if i < m.length then some 3 else if N ≤ i then (lexF F (-1) R)[i - N]? else some 1 from by
          intro i hi
          rw [hRe]
          exact HGet.out i hi)
        clear hRe HGet
        refine (lex_any fm F A7 c7 _ R _ HFL.out.1 hC7 hc7 HB3.out (by omega)).mono ?_
        rintro e w8 ⟨g2, k2, rfl, hs2, hb8, _, _⟩
        have HS2 := Lib.hid (show Sheet w8 g k (lexF F (-1) B) ∧ Sheet w8 g2 k2 (lexF F (-1) R) ∧ Below w.heap.size w w8 from ⟨HS.out.1.below (below_step HMo3.out.bel hb8), hs2, below_step HS.out.2 (below_step HMo3.out.bel hb8)⟩)
        have HLn := Lib.hid (And.intro (lexF_len F (-1) B) (lexF_len F (-1) R))
        clear hs2 hb8 hC7 HMo3 HRun3 HS hRl
        go_wp2_with fail
        go_loopg [77] B.length (fun gn iv wr => ∃ j : Nat, iv = .int .i64 j ∧ j ≤ B.length ∧ Hid (Sheet wr g k (lexF F (-1) B) ∧ Sheet wr g2 k2 (lexF F (-1) R) ∧ Below w.heap.size w wr ∧ gn = B.length - j))
        case atStart => exact ⟨0, rfl, Nat.zero_le _, HS2.out.1, HS2.out.2.1, HS2.out.2.2, rfl⟩
        case round =>
          obtain ⟨j, rfl, hj, HQ⟩ := hrel
          have HS3 := Lib.hid (And.intro HQ.out.1 (And.intro HQ.out.2.1 HQ.out.2.2.1))
          have HG := Lib.hid HQ.out.2.2.2
          clear HQ HS2
          by_cases hlt : j < B.length
          · have hget := HGet2.out j hlt
            rw [HMl.out] at hget
            by_cases h3 : j < M.size
            · rw [if_pos h3] at hget
              have HGt := Lib.hid hget
              clear hget
              go_wp2_with (go_at_call 17; refine (at_in g k _ j 3 _ HS3.out.1 HGt.out).mono ?_; rintro e w' ⟨rfl, rfl⟩)
              go_roundg (B.length - (j + 1))
              case measure => have := HG.out; omega
              case rel => exact ⟨j + 1, by go_num, by omega, HS3.out.1, HS3.out.2.1, HS3.out.2.2, rfl⟩
            · rw [if_neg h3] at hget
              by_cases hN2 : N ≤ j
              · rw [if_pos hN2] at hget
                have hjr : j - N < (lexF F (-1) R).length := by rw [HLn.out.2, HRl.out]; have := HNB.out; omega
                obtain ⟨x, hx⟩ : ∃ x, (lexF F (-1) R)[j - N]? = some x := ⟨_, List.getElem?_eq_getElem hjr⟩
                rw [hx] at hget
                have HGt := Lib.hid hget
                have HGx := Lib.hid hx
                obtain ⟨d, hd⟩ : ∃ d : Nat, (j : Int) - (N : Int) = (d : Int) := ⟨j - N, by omega⟩
                have hd2 : j - N = d := by omega
                rw [hd2] at HGx
                have hNI : (N : Int) ≤ (j : Int) := by omega
                clear hget hx hjr hd2
                go_wp2_with fail
                refine (at_in g2 k2 _ d x _ HS3.out.2.1 HGx.out).mono ?_
                rintro e w' ⟨rfl, rfl⟩
                clear hd
                go_wp2_with fail
                refine (at_in g k _ j x _ HS3.out.1 HGt.out).mono ?_
                rintro e w' ⟨rfl, rfl⟩
                go_wp2_with fail
                go_roundg (B.length - (j + 1))
                case measure => have := HG.out; omega
                case rel => exact ⟨j + 1, by go_num, by omega, HS3.out.1, HS3.out.2.1, HS3.out.2.2, rfl⟩
              · rw [if_neg hN2] at hget
                have HGt := Lib.hid hget
                clear hget
                go_wp2_with (go_at_call 17; refine (at_in g k _ j 1 _ HS3.out.1 HGt.out).mono ?_; rintro e w' ⟨rfl, rfl⟩)
                go_roundg (B.length - (j + 1))
                case measure => have := HG.out; omega
                case rel => exact ⟨j + 1, by go_num, by omega, HS3.out.1, HS3.out.2.1, HS3.out.2.2, rfl⟩
          · obtain rfl : j = B.length := by omega
            go_wp2_with fail
            go_ret
            exact ⟨rfl, HS3.out.2.2⟩
end Go.Proofs.Ytjbbogcoabgcnaa.S
namespace Go.Proofs.Ytjbbogcoabgcnaa.Wk.SrcLines
open Go.RowKit Go.Proofs.YtjbbogcoabgcnaaW.PrintWords Go.Proofs.Ytjbbogcoabgcnaa.S
theorem walk (a0 : Int) (A1 : Option Addr) (c1 : Nat) (l1 : List Int) (A2 : Option Addr) (c2 : Nat) (l2 : List Int) (w : World) (h0 : (Lit.int .u8 a0).wf = true) (hr : Kd.C (Kd.int .u8) w A1 l1.length l1) (hc : l1.length ≤ c1) (hg : Bys l1 ∧ l1.length ≤ 140737488351232) (hr2 : Kd.C (Kd.int .u8) w A2 l2.length l2) (hc2 : l2.length ≤ c2) (hg2 : Bys l2 ∧ l2.length ≤ 140737488351232) :
    Calls Try.prog 7 #[.int .u8 a0, .slice A1 l1.length c1, .slice A2 l2.length c2] w fun e w' => e = .returned (.bool true) ∧ Below w.heap.size w w' := by
  obtain ⟨n, rfl, hn⟩ := u8_of h0
  exact srcLines_any n A1 c1 l1 A2 c2 l2 w hn hr hg.1 hg.2 hr2 hg2.1 hg2.2
end Go.Proofs.Ytjbbogcoabgcnaa.Wk.SrcLines
