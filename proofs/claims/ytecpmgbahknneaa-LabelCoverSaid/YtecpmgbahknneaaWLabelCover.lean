/- The law LabelCover, walked: it answers true. Conditions: none. -/
import Derived.Test.YtecpmgbahknneaaLAw
import Derived.Test.YtecpmgbahknneaaLCov
import Derived.Test.YtecpmgbahknneaaLAct
import Derived.Test.YtecpmgbahknneaaOpn
import Derived.Outline
import Derived.IntWalk
import Derived.Test.YtecpmgbahknneaaLCovF
namespace Go.Proofs.Ytecpmgbahknneaa.L
open Go.RowKit Go.Proofs.YtecpmgbahknneaaW.PrintWords Go.Proofs.YtecpmgbahknneaaW.PrintMore

theorem cover_anyL (A : Option Addr) (c : Nat) (S : List Sg) (n : Int) (w : World) (h : Kd.C LC.k33 w A (S.map toP).length (S.map toP)) (hc : (S.map toP).length ≤ c) (hS : chain 0 S = some n) (hb : ∀ s ∈ S, 0 ≤ s.2.1 ∧ 1 ≤ s.2.2 ∧ s.2.1 + s.2.2 ≤ 65536) (hl : S.length ≤ 1000000) :
    Calls Try.prog 19 #[.slice A S.length c, .int .i64 n] w fun e w' => e = .returned (.bool true) ∧ Below w.heap.size w w' := by
  have := cover_any A c S n w h hc hS hb hl
  rw [List.length_map] at this
  exact this
theorem info33 : (Try.prog.info? 33).map (fun i => (i.zero, i.size, i.bytes)) = some (some (.agg #[.int .i64 0, .int .i64 0]), 2, 16) := by kernel_rfl
theorem at_act {w : World} {A : Option Addr} {acts : List Ac} (h : Kd.C kAct w A acts.length acts) (j : Nat) (hj : j < acts.length) : ∃ ad : Addr, A = some ad ∧
    w.cell? (ad.add (j * 5)) = some (.int .u8 (acts.getD j (0, 0, 0, 0, 0)).1) ∧
    w.cell? ⟨(ad.add (j * 5)).block, (ad.add (j * 5)).off + 1, none⟩ = some (.int .u8 (acts.getD j (0, 0, 0, 0, 0)).2.1) ∧
    w.cell? ⟨(ad.add (j * 5)).block, (ad.add (j * 5)).off + 2, none⟩ = some (.int .i64 (acts.getD j (0, 0, 0, 0, 0)).2.2.1) ∧
    w.cell? ⟨(ad.add (j * 5)).block, (ad.add (j * 5)).off + 3, none⟩ = some (.int .i64 (acts.getD j (0, 0, 0, 0, 0)).2.2.2.1) ∧
    w.cell? ⟨(ad.add (j * 5)).block, (ad.add (j * 5)).off + 4, none⟩ = some (.int .u8 (acts.getD j (0, 0, 0, 0, 0)).2.2.2.2) := by
  obtain ⟨ad, c, e, _, hK, hc0⟩ := Kd.C_get h (0, 0, 0, 0, 0) (j : Int) (by omega) (by omega)
  rw [Int.toNat_natCast] at hK hc0
  have hc : ∀ q u, c[q]? = some u → w.cell? (ad.add (j * 5 + q)) = some u := hc0
  obtain rfl := kAct_open hK
  exact ⟨ad, e, hc 0 _ rfl, by rw [← add_field _ _ 1 (by omega)]; exact hc 1 _ rfl, by rw [← add_field _ _ 2 (by omega)]; exact hc 2 _ rfl, by rw [← add_field _ _ 3 (by omega)]; exact hc 3 _ rfl, by rw [← add_field _ _ 4 (by omega)]; exact hc 4 _ rfl⟩

set_option maxHeartbeats 2000000 in
theorem labelCover_any (n : Nat) (A : Option Addr) (c : Nat) (acts : List Ac) (w : World) (hn : n < 256) (hA : Kd.C kAct w A acts.length acts) (hok : ∀ x ∈ acts, AcOk x) (hlen : acts.length ≤ 9223372036854775807) :
    Calls Try.prog 7 #[.int .u8 n, .slice A acts.length c] w fun e w' => e = .returned (.bool true) ∧ Below w.heap.size w w' := by
  have HA := Lib.hid hA
  have HOK := Lib.hid hok
  clear hA hok
  go_enter Try.func7, Try.ntmps7
  go_wp2_with fail
  refine (awake_any _).mono ?_
  rintro e w1 ⟨rfl, hb⟩
  have HW := Lib.hid hb
  clear hb
  go_wp2_with fail
  refine (new_yes n _ (by omega)).mono ?_
  rintro e w2 ⟨g, k, rfl, hs, hb, hg, hk⟩
  have HS := Lib.hid hs
  have HW2 := Lib.hid (below_step HW.out hb)
  have hk0 : w.heap.size ≤ k := by have := HW.out.size; omega
  have hg0 : w.heap.size ≤ g := by have := HW.out.size; omega
  clear hs hb HW hg hk
  go_wp2_with fail
  go_loopw [24] (fun i wr => ∃ (j : Nat) (L : List Int), j ≤ acts.length ∧ i = .int .i64 j ∧ L.length = n ∧ Hid ((∀ x ∈ L, x ≠ 0) ∧ Sheet wr g k L ∧ Below w.heap.size w wr)) (fun i _ => acts.length - (intOf i).toNat)
  case atStart => exact ⟨0, _, Nat.zero_le _, rfl, List.length_replicate, fun x hx => by rw [(List.mem_replicate.1 hx).2]; decide, HS.out, HW2.out⟩
  case round =>
    obtain ⟨j, L, hj, rfl, hL, HI⟩ := hrel
    by_cases hlt : j < acts.length
    · obtain ⟨ad, rfl, h0, h1, h2, h3, h4⟩ := at_act (Kd.C_below HA.out HI.out.2.2) j hlt
      have hb1 := (HOK.out _ (show acts.getD j (0, 0, 0, 0, 0) ∈ acts from by rw [List.getD_eq_getElem?_getD, List.getElem?_eq_getElem hlt]; exact List.getElem_mem _)).2.1
      generalize acts.getD j (0, 0, 0, 0, 0) = a at *
      obtain ⟨a0, a1, a2, a3, a4⟩ := a
      simp only at h0 h1 h2 h3 h4 hb1
      have hu46 := Try.underlying46
      go_wp2_with fail
      · refine (set_any g k L _ _ _ _ (HI.out.2.1.alloc _)).mono ?_
        rintro e w3 ⟨rfl, hs3, hg3⟩
        have HN := Lib.hid (And.intro hs3 (below_grown (below_alloc HI.out.2.2 _) hk0 hg3))
        clear hs3 hg3
        have HX := Lib.hid (show ∀ x ∈ setL L ((1 + a1.tmod 7) % 256) (a2.tmod 300) (a3.tmod 300), x ≠ 0 from by
          obtain ⟨m, rfl, hm⟩ := u8_of hb1
          intro x hx
          obtain ⟨q, hq⟩ := List.getElem?_of_mem hx
          rw [setL_get] at hq
          cases e : L[q]? with
          | none => rw [e] at hq; simp at hq
          | some y =>
            rw [e] at hq
            simp only [Option.map_some, Option.some.injEq] at hq
            split at hq
            · rw [← hq, Int.tmod_eq_emod_of_nonneg (by omega)]
              omega
            · rw [← hq]
              exact HI.out.1 y (List.mem_of_getElem? e))
        go_wp2_with fail
        go_roundw
        case rel => exact ⟨j + 1, _, by omega, by go_num, (setL_length _ _ _ _).trans hL, HX.out, HN.out.1, HN.out.2⟩
        case measure => simp [intOf]; omega
      · have HN := Lib.hid (And.intro (HI.out.2.1.alloc (.cells #[.int .u8 a0, .int .u8 a1, .int .i64 a2, .int .i64 a3, .int .u8 a4] 46)) (below_alloc HI.out.2.2 (.cells #[.int .u8 a0, .int .u8 a1, .int .i64 a2, .int .i64 a3, .int .u8 a4] 46)))
        refine ⟨⟨j + 1, L, by omega, by go_num, hL, HI.out.1, HN.out.1, HN.out.2⟩, ?_⟩
        simp [intOf]; omega
    · have : j = acts.length := by omega
      subst this
      go_wp2_with fail
      refine (segs_any g k L _ HI.out.2.1).mono ?_
      rintro e w4 ⟨v, rfl, hown, hb⟩
      obtain ⟨A4, c4, rfl⟩ := own_form hown
      have HV := Lib.hid (And.intro hown (below_step HI.out.2.2 hb))
      have HS4 := Lib.hid (HI.out.2.1.below hb)
      have HC := Lib.hid (segsOf_cover L HI.out.1)
      have hsz := hb.size
      have hok : (segsOf L).length ≤ L.length ∧ ∀ s ∈ segsOf L, 0 ≤ s.2.1 ∧ 1 ≤ s.2.2 ∧ s.2.1 + s.2.2 ≤ (L.length : Int) := segsTo_ok L L.length
      have hSn : (segsOf L).length ≤ 255 := by omega
      have HO := Lib.hid hok.2
      clear hown hb hok
      generalize segsOf L = S at *
      go_wp2_with fail
      go_loopw [9, 10, 47] (fun v la i w5 => ∃ q : Nat, q ≤ S.length ∧ i = .int .i64 q ∧ la = .int .u8 (lastOf 0 (S.take q)) ∧ Hid (w5.ownsRow w4.heap.size 33 2 v q (spC (S.take q)) ∧ Below w4.heap.size w4 w5)) (fun _ _ i _ => S.length - (intOf i).toNat)
      case atStart => exact ⟨0, Nat.zero_le _, rfl, rfl, World.ownsRow_nil _ _ _ _, Below.refl _ _⟩
      case round =>
        obtain ⟨q, hq, rfl, rfl, HQ⟩ := hrel
        by_cases hlq : q < S.length
        · obtain ⟨s, hs⟩ : ∃ s, S[q]? = some s := ⟨_, List.getElem?_eq_getElem hlq⟩
          obtain ⟨g4, cap4, e4, _, _⟩ := HV.out.1.form (by omega)
          cases e4
          have HSEG := Lib.hid (seg_cells HV.out.1 q s hs)
          have hu := unlike_take S 0 HC.out.2.1 q s hs
          have hlab := HC.out.2.2 s (List.mem_of_getElem? hs)
          have hbs := HO.out s (List.mem_of_getElem? hs)
          obtain ⟨s0, s1, s2⟩ := s
          simp only at hu hlab hbs
          obtain ⟨t1, rfl⟩ : ∃ t : Nat, s1 = t := ⟨s1.toNat, by omega⟩
          obtain ⟨t2, rfl⟩ : ∃ t : Nat, s2 = t := ⟨s2.toNat, by omega⟩
          obtain ⟨A9, c9, rfl⟩ := own_form HQ.out.1
          have HU := Lib.hid hu
          have HL := Lib.hid hlab
          clear hu hlab
          obtain ⟨h0, h1, h2⟩ := HSEG.out
          have h0' := (HQ.out.2.cell (World.block_lt_of_cell? _ _ h0)).trans h0
          have h1' := (HQ.out.2.cell (World.block_lt_of_cell? _ _ h1)).trans h1
          have h2' := (HQ.out.2.cell (World.block_lt_of_cell? _ _ h2)).trans h2
          clear h0 h1 h2
          have HIN := Lib.hid (show ((wr.alloc (.cells #[.int .u8 s0, .int .i64 t1, .int .i64 t2] 35)).heap[wr.heap.size]? = some (.cells #[.int .u8 s0, .int .i64 t1, .int .i64 t2] 35 (0, 0))) ∧ (wr.alloc (.cells #[.int .u8 s0, .int .i64 t1, .int .i64 t2] 35)).ownsRow w4.heap.size 33 2 (.slice A9 q c9) q (spC (S.take q)) ∧ Below w4.heap.size w4 (wr.alloc (.cells #[.int .u8 s0, .int .i64 t1, .int .i64 t2] 35)) from ⟨blk_new _ _, HQ.out.1.alloc _, below_alloc HQ.out.2 _⟩)
          have hnl : (s0 == lastOf 0 (S.take q)) = false := beq_eq_false_iff_ne.2 HU.out.1
          have HNL := Lib.hid hnl
          clear hnl
          have hq1 := HQ.out.2.size
          go_wp2_with fail
          go_loopw [13] (fun i w6 => ∃ x : Nat, t1 ≤ x ∧ x ≤ t1 + t2 ∧ i = .int .i64 x ∧ Hid ((w6.heap[wr.heap.size]? = some (.cells #[.int .u8 s0, .int .i64 t1, .int .i64 t2] 35 (0, 0))) ∧ w6.ownsRow w4.heap.size 33 2 (.slice A9 q c9) q (spC (S.take q)) ∧ Below w4.heap.size w4 w6)) (fun i _ => t1 + t2 - (intOf i).toNat)
          case atStart => exact ⟨t1, by omega, by omega, rfl, HIN.out⟩
          case round =>
            obtain ⟨x, hx1, hx2, rfl, HX⟩ := hrel
            have d0 := (blk_cell HX.out.1 0).trans (show _ = some (Value.int .u8 s0) from rfl)
            have d1 := (blk_cell HX.out.1 1).trans (show _ = some (Value.int .i64 t1) from rfl)
            have d2 := (blk_cell HX.out.1 2).trans (show _ = some (Value.int .i64 t2) from rfl)
            have HS6 := Lib.hid (HS4.out.below HX.out.2.2)
            by_cases hxl : x < t1 + t2
            · have HLX := Lib.hid (HL.out x (by omega) (by omega))
              go_wp2_with fail
              go_quiet (first | (refine ⟨rfl, ?_⟩; refine (at_in g k L x s0 _ (HS6.out.drewN _) HLX.out).mono ?_; rintro e w' ⟨rfl, rfl⟩; exact ⟨rfl, _, rfl⟩) | (refine (at_in g k L x s0 _ (HS6.out.drewN _) HLX.out).mono ?_; rintro e w' ⟨rfl, rfl⟩; exact ⟨rfl, _, rfl⟩))
              go_wp2_with fail
              go_roundw
              case rel => exact ⟨x + 1, by omega, by omega, by go_num, HX.out.1, HX.out.2.1, pw_below_drewN HX.out.2.2 _⟩
              case measure => simp [intOf]; omega
            · have : x = t1 + t2 := by omega
              subst this
              have hB := HX.out.2.2.size
              have hnl := HNL.out
              go_wp2_with (at_builtin; refine print_append_cells (w0 := w4) w4.heap.size rfl _ _ 52 33 (.agg #[.int .i64 0, .int .i64 0]) 2 16 rfl Try.underlying52 info33 rfl (by decide) (by decide) (.slice A9 q c9) q (spC (S.take q)) [.int .i64 t1, .int .i64 t2] rfl rfl rfl (by simp [Value.oneCell']) HX.out.2.1 HX.out.2.2 hB (by omega) ?_; intro v1 w1 hown1 hb1 _ _; have HOW := Lib.hid hown1; have HBW := Lib.hid hb1; clear hown1 hb1)
              have e2 : S.take (q + 1) = S.take q ++ [(s0, (t1 : Int), (t2 : Int))] := by rw [List.take_add_one, hs]; rfl
              go_roundw
              case rel => exact ⟨q + 1, by omega, by go_num, by rw [HU.out.2], by rw [e2, spC_snoc]; exact HOW.out, HBW.out⟩
              case measure => simp [intOf]; omega
        · have : q = S.length := by omega
          subst this
          have HQ2 := HQ.out
          rw [List.take_length] at HQ2
          obtain ⟨A5, c5, rfl, hc5, hC5⟩ := own_P HQ2.1
          have HB5 := Lib.hid (below_step HV.out.2 HQ2.2)
          have HP := Lib.hid (And.intro hC5 hc5)
          clear HQ2 hC5 hc5 HQ
          go_wp2_with fail
          have hcn : chain 0 S = some (n : Int) := by rw [← hL]; exact HC.out.1
          refine (cover_anyL A5 c5 S n _ HP.out.1 HP.out.2 hcn (fun s hs => by have := HO.out s hs; omega) (by omega)).mono ?_
          rintro e w7 ⟨rfl, hb⟩
          have HB7 := Lib.hid (below_step HB5.out hb)
          clear hb
          go_wp2
          go_ret
          exact ⟨rfl, HB7.out⟩
end Go.Proofs.Ytecpmgbahknneaa.L
namespace Go.Proofs.Ytecpmgbahknneaa.Wk.LabelCover
open Go.RowKit Go.Proofs.YtecpmgbahknneaaW.PrintWords Go.Proofs.Ytecpmgbahknneaa.L
theorem walk (a0 : Int) (A1 : Option Addr) (c1 : Nat) (acts : List Ac) (w : World) (h0 : (Lit.int .u8 a0).wf = true) (hr : Kd.C kAct w A1 acts.length acts) (_ : acts.length ≤ c1) (hg : ∀ x ∈ acts, AcOk x) :
    Calls Try.prog 7 #[.int .u8 a0, .slice A1 acts.length c1] w fun e w' => e = .returned (.bool true) ∧ Below w.heap.size w w' := by
  obtain ⟨n, rfl, hn⟩ := u8_of h0
  exact labelCover_any n A1 c1 acts w hn hr hg hr.2.1
end Go.Proofs.Ytecpmgbahknneaa.Wk.LabelCover
