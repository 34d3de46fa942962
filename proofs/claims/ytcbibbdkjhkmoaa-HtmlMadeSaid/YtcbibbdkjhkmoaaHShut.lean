/- Where a name's closing tag begins, walked. Conditions: as each lemma says. -/
import Derived.Test.YtcbibbdkjhkmoaaHUntil
import Derived.Test.YtcbibbdkjhkmoaaHSmall
set_option linter.unusedVariables false
set_option linter.unusedSimpArgs false
namespace Go.Proofs.Ytcbibbdkjhkmoaa.H
open Go.RowKit Go.Proofs.YtcbibbdkjhkmoaaW.PrintWords Go.Proofs.Ytcbibbdkjhkmoaa.L Go.Proofs.Ytcbibbdkjhkmoaa.S Go.Proofs.Ytcbibbdkjhkmoaa.Htm

theorem getD_some (b : List Int) (j : Nat) (h : j < b.length) : b[j]? = some (b.getD j 0) := by
  rw [List.getD_eq_getElem?_getD, List.getElem?_eq_getElem h]; rfl
theorem isShut_x (b nm : List Int) (j : Nat) (h : j < b.length) (hx : b.getD j 0 ≠ 60) : isShut b nm j = false := by
  unfold isShut
  rw [getD_some b j h]
  have : (some (b.getD j 0) == some (60 : Int)) = false := by simpa using hx
  rw [this]; rfl
theorem isShut_k (b nm : List Int) (j : Nat) (h : b.length < j + 2 + nm.length) : isShut b nm j = false := by
  unfold isShut
  rw [decide_eq_false (by omega)]
  simp
theorem isShut_in (b nm : List Int) (j : Nat) (h : j + 2 + nm.length ≤ b.length) (hx : b.getD j 0 = 60) : isShut b nm j = ((b.getD (j + 1) 0 == 47) && (((b.drop (j + 2)).take nm.length).map sm == nm) && endB b (j + 2 + nm.length)) := by
  unfold isShut
  rw [getD_some b j (by omega), getD_some b (j + 1) (by omega), decide_eq_true h, hx]
  simp
theorem endB_in (b : List Int) (k : Nat) (h : k < b.length) : endB b k = (blankB (b.getD k 0) || b.getD k 0 == 47 || b.getD k 0 == 62) := by
  unfold endB
  rw [getD_some b k h]
  rfl
theorem endB_out (b : List Int) (k : Nat) (h : b.length ≤ k) : endB b k = true := by
  unfold endB
  rw [List.getElem?_eq_none h]
theorem strOfNums_size' (l : List Int) : (strOfNums l).size = l.length := by
  simp [strOfNums, ByteArray.size]

theorem bys_sm' {l : List Int} (h : Bys l) : Bys (l.map sm) := by
  intro x hx
  obtain ⟨z, hz, rfl⟩ := List.mem_map.1 hx
  have := h z hz
  unfold sm
  split <;> omega
set_option maxRecDepth 100000 in
set_option maxHeartbeats 2000000 in
theorem shut_any (bl of : Nat) (c : Nat) (b : List Int) (p : Nat) (nm : List Int) (W : World) (hC : Kd.C (Kd.int .u8) W (some ⟨bl, of, none⟩) b.length b) (hc : b.length ≤ c) (hb : Bys b) (hm : b.length ≤ 65536) (hp : p ≤ b.length) (hn : Bys nm) (hnl : nm.length ≤ 65536) :
    Calls Try.prog 30 #[.slice (some ⟨bl, of, none⟩) b.length c, .int .i64 p, .string (strOfNums nm)] W fun e w' => e = .returned (.int .i64 (shutP b nm p)) ∧ Below W.heap.size W w' := by
  have HB := Lib.hid (And.intro hC (And.intro hb hn))
  have hsz := strOfNums_size' nm
  have HAt := Lib.hid (show ∀ (w' : World) (i : Nat), Below W.heap.size W w' → i < b.length → w'.cell? ⟨bl, of + i, none⟩ = some (.int .u8 (b.getD i 0)) from by
    intro w' i hw hi
    obtain ⟨ad', e, hx⟩ := Kd.at_int (Kd.C_below HB.out.1 hw) (i : Int) (by omega) (by omega)
    injection e with e
    subst e
    rw [Int.toNat_natCast, Lib.add_plain'] at hx
    exact hx)
  obtain ⟨m, hml⟩ : ∃ m, nm.length = m := ⟨_, rfl⟩
  rw [hml] at hsz hnl
  clear hC hb hn
  go_enter Try.func30, Try.ntmps30
  go_wp2_with fail
  go_loopg [7] (b.length - p) (fun gn pv wr => ∃ j : Nat, pv = .int .i64 j ∧ j ≤ b.length ∧ Hid (Below W.heap.size W wr ∧ shutP b nm j = shutP b nm p ∧ gn = b.length - j))
  case atStart => exact ⟨p, rfl, hp, Below.refl _ _, rfl, rfl⟩
  case round =>
    obtain ⟨j, rfl, hj, HQ⟩ := hrel
    by_cases hlt : j < b.length
    · have hd : decide ((j : Int) < (b.length : Int)) = true := by simp; omega
      go_upto_region 5 with fail
      obtain ⟨X, hX⟩ : ∃ X, X = isShut b nm j := ⟨_, rfl⟩
      have HX := Lib.hid hX
      clear hX
      go_cut [76] (fun v wx => v = .bool X ∧ Hid (Below W.heap.size W wx))
      case first =>
        have c0 := HAt.out wr j HQ.out.1 hlt
        generalize hx : b.getD j 0 = x at *
        by_cases hx6 : x = 60
        · subst hx6
          by_cases hk : j + 2 + m ≤ b.length
          · have hdk : decide ((j : Int) + 2 + (m : Int) ≤ (b.length : Int)) = true := by simp; omega
            have c1 := HAt.out wr (j + 1) HQ.out.1 (by omega)
            have HI := Lib.hid (isShut_in b nm j (by rw [hml]; exact hk) hx)
            generalize hy : b.getD (j + 1) 0 = y at *
            by_cases hy4 : y = 47
            · subst hy4
              have hct := cut_b (some ⟨bl, of, none⟩) b.length c (j + 2) (j + 2 + m) (by omega) hk hc
              rw [Nat.add_sub_cancel_left] at hct
              have HCm := Lib.hid (C_mid HB.out.1 hc (j + 2) (j + 2 + m) (by omega) hk)
              rw [Nat.add_sub_cancel_left] at HCm
              generalize (if c = j + 2 then some (⟨bl, of, none⟩ : Addr) else Option.map (fun (x : Addr) => x.add ((j + 2) * 1)) (some (⟨bl, of, none⟩ : Addr))) = A2 at *
              have hct2 : ∀ W : World, (Instr.slice 22 (.slice (some ⟨bl, of, none⟩) b.length c) (some (.int .i64 ((j : Int) + 2))) (some (.int .i64 ((j : Int) + 2 + (m : Int)))) none).run Try.prog W = .ok (.slice A2 m (c - (j + 2))) W := by
                intro W'
                have := hct W'
                simpa only [Int.natCast_add, Int.cast_ofNat_Int] using this
              clear hct
              rw [hml] at HI
              have HBy := Lib.hid ((HB.out.2.1.drop (j + 2)).take m)
              have hkk : (((strOfNums (((b.drop (j + 2)).take m).map sm)).toList == (strOfNums nm).toList)) = (((b.drop (j + 2)).take m).map sm == nm) := str_eq (bys_sm' HBy.out) HB.out.2.2
              generalize hq : (b.drop (j + 2)).take m = kk at *
              generalize hqq : kk.map sm = ks at *
              clear hq
              have hcm : m ≤ c - (j + 2) := by omega
              cases hs : (ks == nm) with
              | false =>
                rw [hs] at hkk HI
                obtain rfl : X = false := by rw [HX.out, HI.out]; simp
                clear hs
                go_wp2_with (go_at_call 39; refine (small_any A2 m (c - (j + 2)) kk _ (Kd.C_below HCm.out HQ.out.1) hcm HBy.out (by omega)).mono ?_; rintro e w2 ⟨rfl, hb2⟩; have HB2 := Lib.hid (below_step HQ.out.1 hb2); clear hb2; rw [hqq])
                go_meet
                exact ⟨rfl, HB2.out⟩
              | true =>
                rw [hs] at hkk HI
                clear hs
                by_cases hke : j + 2 + m = b.length
                · have hke1 : ((j : Int) + 2 + (m : Int) == (b.length : Int)) = true := by simp; omega
                  obtain rfl : X = true := by rw [HX.out, HI.out, endB_out b _ (by omega)]; rfl
                  clear hke
                  go_wp2_with (go_at_call 39; refine (small_any A2 m (c - (j + 2)) kk _ (Kd.C_below HCm.out HQ.out.1) hcm HBy.out (by omega)).mono ?_; rintro e w2 ⟨rfl, hb2⟩; have HB2 := Lib.hid (below_step HQ.out.1 hb2); clear hb2; rw [hqq])
                  go_meet
                  exact ⟨rfl, HB2.out⟩
                · have hke1 : ((j : Int) + 2 + (m : Int) == (b.length : Int)) = false := by simp; omega
                  have hkl : j + 2 + m < b.length := by omega
                  have hE := endB_in b (j + 2 + m) hkl
                  have HAk := Lib.hid (show ∀ w' : World, Below W.heap.size W w' → w'.cell? ⟨bl, of + (j + 2 + m), none⟩ = some (.int .u8 (b.getD (j + 2 + m) 0)) from fun w' hw => HAt.out w' _ hw hkl)
                  generalize b.getD (j + 2 + m) 0 = z at *
                  rw [hE] at HI
                  clear hE hke
                  cases hz : blankB z with
                  | true =>
                    obtain rfl : X = true := by rw [HX.out, HI.out, hz]; rfl
                    go_wp2_with (first | (go_at_call 39; refine (small_any A2 m (c - (j + 2)) kk _ (Kd.C_below HCm.out HQ.out.1) hcm HBy.out (by omega)).mono ?_; rintro e w2 ⟨rfl, hb2⟩; have HB2 := Lib.hid (below_step HQ.out.1 hb2); have hck := HAk.out _ HB2.out; clear hb2; rw [hqq]) | (go_at_call 43; refine (blank_any z _).mono ?_; rintro e w3 ⟨rfl, n3, rfl⟩; rw [hz]))
                    go_meet
                    exact ⟨rfl, pw_below_drewN HB2.out _⟩
                  | false =>
                    cases hz7 : (z == 47) with
                    | true =>
                      obtain rfl : X = true := by rw [HX.out, HI.out, hz7]; simp
                      go_wp2_with (first | (go_at_call 39; refine (small_any A2 m (c - (j + 2)) kk _ (Kd.C_below HCm.out HQ.out.1) hcm HBy.out (by omega)).mono ?_; rintro e w2 ⟨rfl, hb2⟩; have HB2 := Lib.hid (below_step HQ.out.1 hb2); have hck := HAk.out _ HB2.out; clear hb2; rw [hqq]) | (go_at_call 43; refine (blank_any z _).mono ?_; rintro e w3 ⟨rfl, n3, rfl⟩; rw [hz]))
                      go_meet
                      exact ⟨rfl, pw_below_drewN HB2.out _⟩
                    | false =>
                      obtain rfl : X = (z == 62) := by rw [HX.out, HI.out, hz, hz7]; simp
                      go_wp2_with (first | (go_at_call 39; refine (small_any A2 m (c - (j + 2)) kk _ (Kd.C_below HCm.out HQ.out.1) hcm HBy.out (by omega)).mono ?_; rintro e w2 ⟨rfl, hb2⟩; have HB2 := Lib.hid (below_step HQ.out.1 hb2); have hck := HAk.out _ HB2.out; clear hb2; rw [hqq]) | (go_at_call 43; refine (blank_any z _).mono ?_; rintro e w3 ⟨rfl, n3, rfl⟩; rw [hz]))
                      go_meet
                      exact ⟨rfl, pw_below_drewN HB2.out _⟩
            · have hy1 : (y == 47) = false := by simp [hy4]
              obtain rfl : X = false := by rw [HX.out, HI.out, hy1]; rfl
              go_wp2_with fail
              go_meet
              exact ⟨rfl, HQ.out.1⟩
          · have hdk : decide ((j : Int) + 2 + (m : Int) ≤ (b.length : Int)) = false := by simp; omega
            obtain rfl : X = false := by rw [HX.out, isShut_k b nm j (by omega)]
            go_wp2_with fail
            go_meet
            exact ⟨rfl, HQ.out.1⟩
        · have hx1 : (x == 60) = false := by simp [hx6]
          obtain rfl : X = false := by rw [HX.out, isShut_x b nm j hlt (by rw [hx]; exact hx6)]
          go_wp2_with fail
          go_meet
          exact ⟨rfl, HQ.out.1⟩
      case rest =>
        obtain ⟨rfl, HW⟩ := hcut
        cases X with
        | true =>
          have hX := HX.out.symm
          have HR := Lib.hid (HQ.out.2.1.symm.trans (shutP_yes b nm j hX hlt))
          clear hX HX
          go_wp2_with fail
          go_ret
          exact ⟨by rw [HR.out]; rfl, HW.out⟩
        | false =>
          have hX := HX.out.symm
          have HR := Lib.hid ((shutP_no b nm j hX hlt).symm.trans HQ.out.2.1)
          clear hX HX
          go_wp2_with fail
          go_roundg (b.length - (j + 1))
          case measure => have := HQ.out.2.2; omega
          case rel => exact ⟨j + 1, by go_num, by omega, HW.out, HR.out, rfl⟩
    · have hd : decide ((j : Int) < (b.length : Int)) = false := by simp; omega
      obtain rfl : j = b.length := by omega
      have HR := Lib.hid (HQ.out.2.1.symm.trans (shutP_end b nm))
      go_wp2_with fail
      go_ret
      exact ⟨by rw [HR.out]; rfl, HQ.out.1⟩
end Go.Proofs.Ytcbibbdkjhkmoaa.H
