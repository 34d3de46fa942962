/- What the bytes of HTML are, walked. Conditions: as each lemma says. -/
import Derived.Test.YtcbibbdkjhkmoaaHLay
import Derived.Test.YtcbibbdkjhkmoaaHShut
import Derived.Test.YtcbibbdkjhkmoaaHtmTag
set_option linter.unusedVariables false
set_option linter.unusedSimpArgs false
namespace Go.Proofs.Ytcbibbdkjhkmoaa.H
open Go.RowKit Go.Proofs.YtcbibbdkjhkmoaaW.PrintWords Go.Proofs.Ytcbibbdkjhkmoaa.L Go.Proofs.Ytcbibbdkjhkmoaa.S Go.Proofs.Ytcbibbdkjhkmoaa.Htm

theorem read_tag (A : Option Addr) (c : Nat) (b : List Int) (p : Nat) (W : World) (hC : Kd.C (Kd.int .u8) W A b.length b) (hc : b.length ≤ c) (hb : Bys b) (hm : b.length ≤ 65536) (hp : p < b.length) :
    Calls Try.prog 17 #[.slice A b.length c, .int .i64 p] W fun e w' => ∃ (T : Tg) (A1 : Option Addr) (c1 : Nat) (ok : Bool), e = .returned (.tuple #[.agg #[.int .i64 T.fin, .string (strOfNums T.name), .bool T.closes, .slice A1 T.prose.length c1], .bool ok]) ∧ Htm.read b p = (if ok then some T else none) ∧ w'.ownsRow W.heap.size 54 2 (.slice A1 T.prose.length c1) T.prose.length (spC T.prose) ∧ Below W.heap.size W w' := by
  refine (read_in A c b p W hC hc hb hm hp).mono ?_
  rintro e w' ⟨hbel, ⟨h1, rfl⟩ | ⟨T, v, h1, rfl, ho⟩⟩
  · exact ⟨⟨0, [], false, []⟩, none, 0, false, rfl, h1, World.ownsRow_nil _ _ _ _, hbel⟩
  · obtain ⟨A1, c1, rfl⟩ := own_form ho
    exact ⟨T, A1, c1, true, rfl, h1, ho, hbel⟩
theorem lexN_step (b : List Int) (m p : Nat) (L : List Int) (q : Nat) (L' : List Int) (h : lexN b (m + 1) p L = lexL b) (hp : p < b.length) (hs : Htm.step b p L = (q, L')) : lexN b m q L' = lexL b := by
  rw [← h]
  conv => rhs; unfold lexN
  rw [if_pos hp, hs]
theorem lexN_end (b : List Int) (m : Nat) (L : List Int) (h : lexN b m b.length L = lexL b) : L = lexL b := by
  rw [← h]
  cases m with
  | zero => rfl
  | succ m => unfold lexN; rw [if_neg (by omega)]
section
variable (b : List Int) (p : Nat) (L : List Int)
theorem step_txt (h : b[p]? ≠ some 60) : Htm.step b p L = (p + 1, L) := by unfold Htm.step; rw [if_pos h]
theorem step_rem (h : b[p]? = some 60) (h1 : begs b p [60, 33, 45, 45] = true) : Htm.step b p L = (untl [45, 45, 62] b (p + 4), setL L 3 (p : Int) (untl [45, 45, 62] b (p + 4) : Int)) := by
  unfold Htm.step; rw [if_neg (by simp [h]), if_pos h1]
theorem step_opq (h : b[p]? = some 60) (h1 : begs b p [60, 33, 45, 45] = false) (h2 : begs b p [60, 33, 91, 67, 68, 65, 84, 65, 91] = true) : Htm.step b p L = (untl [93, 93, 62] b (p + 9), setL L 6 (p : Int) (untl [93, 93, 62] b (p + 9) : Int)) := by
  unfold Htm.step; rw [if_neg (by simp [h]), if_neg (by simp [h1]), if_pos h2]
theorem step_mk (h : b[p]? = some 60) (h1 : begs b p [60, 33, 45, 45] = false) (h2 : begs b p [60, 33, 91, 67, 68, 65, 84, 65, 91] = false) (h3 : (begs b p [60, 33] || begs b p [60, 63]) = true) : Htm.step b p L = (untl [62] b (p + 2), setL L 2 (p : Int) (untl [62] b (p + 2) : Int)) := by
  unfold Htm.step; rw [if_neg (by simp [h]), if_neg (by simp [h1]), if_neg (by simp [h2]), if_pos h3]
theorem step_tag (h : b[p]? = some 60) (h1 : begs b p [60, 33, 45, 45] = false) (h2 : begs b p [60, 33, 91, 67, 68, 65, 84, 65, 91] = false) (h3 : (begs b p [60, 33] || begs b p [60, 63]) = false) (T : Tg) (hr : Htm.read b p = some T) : Htm.step b p L = past b p T L := by
  unfold Htm.step; rw [if_neg (by simp [h]), if_neg (by simp [h1]), if_neg (by simp [h2]), if_neg (by simp [h3]), hr]
theorem step_none (h : b[p]? = some 60) (h1 : begs b p [60, 33, 45, 45] = false) (h2 : begs b p [60, 33, 91, 67, 68, 65, 84, 65, 91] = false) (h3 : (begs b p [60, 33] || begs b p [60, 63]) = false) (hr : Htm.read b p = none) : Htm.step b p L = if isLetter b (opens b p) then (b.length, setL L 2 (p : Int) (b.length : Int)) else (p + 1, L) := by
  unfold Htm.step; rw [if_neg (by simp [h]), if_neg (by simp [h1]), if_neg (by simp [h2]), if_neg (by simp [h3]), hr]
end

theorem or_ne {nm x y : List Int} (h : (nm == x || nm == y) = false) : ¬ (nm = x ∨ nm = y) := by
  rw [Bool.or_eq_false_iff, beq_eq_false_iff_ne, beq_eq_false_iff_ne] at h
  rintro (e | e)
  · exact h.1 e
  · exact h.2 e
theorem or_is {nm x y : List Int} (h : (nm == x || nm == y) = true) : nm = x ∨ nm = y := by
  rw [Bool.or_eq_true_iff, beq_iff_eq, beq_iff_eq] at h
  exact h
section
variable (b : List Int) (p : Nat) (L : List Int) (fin : Nat) (nm : List Int) (S : List (Nat × Nat))
theorem past_c : past b p ⟨fin, nm, true, S⟩ L = (fin, tagL p ⟨fin, nm, true, S⟩ L) := rfl
theorem past_code (h : (nm == nScript || nm == nStyle) = true) : past b p ⟨fin, nm, false, S⟩ L = (shutP b nm fin, setL (tagL p ⟨fin, nm, false, S⟩ L) 4 (fin : Int) (shutP b nm fin : Int)) := by
  unfold past
  rw [if_neg (by simp)]
  exact if_pos (or_is h)
theorem past_text (h : (nm == nScript || nm == nStyle) = false) (h2 : (nm == nArea || nm == nTitle) = true) : past b p ⟨fin, nm, false, S⟩ L = (shutP b nm fin, tagL p ⟨fin, nm, false, S⟩ L) := by
  unfold past
  rw [if_neg (by simp)]
  exact (if_neg (or_ne h)).trans (if_pos (or_is h2))
theorem past_else (h : (nm == nScript || nm == nStyle) = false) (h2 : (nm == nArea || nm == nTitle) = false) : past b p ⟨fin, nm, false, S⟩ L = (fin, tagL p ⟨fin, nm, false, S⟩ L) := by
  unfold past
  rw [if_neg (by simp)]
  exact (if_neg (or_ne h)).trans (if_neg (or_ne h2))
end
theorem name_eq {nm : List Int} (hn : Bys nm) (l : List Int) (u : List UInt8) (hl : Bys l) (hu : (strOfNums l).toList = u) : ((strOfNums nm).toList == u) = (nm == l) := by
  rw [← hu]
  exact str_eq hn hl
/-- What stands in memory behind the reading of a tag. -/
def Ts (W wx : World) (g k : Nat) (L : List Int) (base : Nat) (v : Value) (S : List (Nat × Nat)) (tb fin : Nat) (nm : List Int) (cl : Bool) : Prop :=
  Sheet wx g k L ∧ Below W.heap.size W wx ∧ wx.ownsRow base 54 2 v S.length (spC S) ∧ wx.heap[tb]? = some (tgC fin (strOfNums nm) cl v)
theorem Ts.drewN {W wx : World} {g k : Nat} {L : List Int} {base : Nat} {v : Value} {S : List (Nat × Nat)} {tb fin : Nat} {nm : List Int} {cl : Bool} (h : Ts W wx g k L base v S tb fin nm cl) (n : Nat) : Ts W (wx.drewN n) g k L base v S tb fin nm cl :=
  ⟨h.1, pw_below_drewN h.2.1 n, h.2.2.1, h.2.2.2⟩
set_option maxRecDepth 100000 in
set_option maxHeartbeats 4000000 in
theorem lex_any (A : Option Addr) (n c : Nat) (b : List Int) (W : World) (hC : Kd.C (Kd.int .u8) W A n b) (hc : n ≤ c) (hb : Bys b) (hm : n ≤ 65536) (hM : Mx W) :
    Calls Try.prog 12 #[.slice A n c] W fun e w' => ∃ g k, e = .returned (.tuple #[.pointer (some ⟨g, 0, none⟩), .int .i64 0]) ∧ Sheet w' g k (lexL b) ∧ Below W.heap.size W w' ∧ W.heap.size ≤ g ∧ W.heap.size ≤ k := by
  obtain rfl := hC.1
  have HC := Lib.hid (And.intro hC (And.intro hb hM))
  clear hC hb hM
  go_enter Try.func12, Try.ntmps12
  go_wp2_with fail
  refine (new_yes b.length _ hm).mono ?_
  rintro e w1 ⟨g, k, rfl, hs, hb1, hg, hk⟩
  have HS := Lib.hid (And.intro hs hb1)
  clear hs hb1
  go_wp2_with fail
  go_loopg [6] b.length (fun gn pv wr => ∃ (p : Nat) (L : List Int), pv = .int .i64 p ∧ p ≤ b.length ∧ Hid (Sheet wr g k L ∧ Below W.heap.size W wr ∧ L.length = b.length ∧ lexN b gn p L = lexL b ∧ b.length ≤ p + gn))
  case atStart => exact ⟨0, List.replicate b.length 1, rfl, Nat.zero_le _, HS.out.1, HS.out.2, by simp, rfl, by omega⟩
  case round =>
    obtain ⟨p, L, rfl, hp, HQ⟩ := hrel
    clear HS
    by_cases hlt : p < b.length
    · have hd : decide ((p : Int) < (b.length : Int)) = true := by simp; omega
      obtain ⟨ad, rfl, h0⟩ := Kd.at_int HC.out.1 0 (by omega) (by omega)
      obtain ⟨bl, of, sp⟩ := ad
      obtain rfl : sp = none := by
        have := Lib.plain_of_cell (show W.cell? ⟨bl, of, sp⟩ = _ from by simpa [Addr.add] using h0)
        injection this
      clear h0
      have HAt := Lib.hid (show ∀ (w' : World) (i : Nat), Below W.heap.size W w' → i < b.length → w'.cell? ⟨bl, of + i, none⟩ = some (.int .u8 (b.getD i 0)) from by
        intro w' i hw hi
        obtain ⟨ad', e, hx⟩ := Kd.at_int (Kd.C_below HC.out.1 hw) (i : Int) (by omega) (by omega)
        injection e with e
        subst e
        rw [Int.toNat_natCast, Lib.add_plain'] at hx
        exact hx)
      obtain ⟨m, rfl⟩ : ∃ m, gk = m + 1 := ⟨gk - 1, by have := HQ.out.2.2.2.2; omega⟩
      have HN := Lib.hid (fun q L' hs => lexN_step b m p L q L' HQ.out.2.2.2.1 hlt hs)
      have HL := Lib.hid HQ.out.2.2
      have HW := Lib.hid (And.intro HQ.out.1 HQ.out.2.1)
      have c0 := HAt.out wr p HQ.out.2.1 hlt
      have hbp := getD_some b p hlt
      have HOk := Lib.hid (step_ok b p L hlt HQ.out.2.2.1)
      clear HQ
      generalize b.getD p 0 = x at *
      by_cases hx : x = 60
      · subst hx
        have HBp := Lib.hid hbp
        clear hbp
        go_upto_region 29 with fail
        clear c0
        cases hb1 : begs b p [60, 33, 45, 45] with
        | true =>
          go_wp2_with fail
          refine (begins_any _ c b p ⟨#[60, 33, 45, 45]⟩ _ (Kd.C_below HC.out.1 HW.out.2) hc HC.out.2.1 hm (by omega) (by decide) (by decide)).mono ?_
          rintro e w3 ⟨rfl, hb3⟩
          rw [show begs b p (bytesOf ⟨#[60, 33, 45, 45]⟩) = true from hb1]
          have HW3 := Lib.hid (And.intro (HW.out.1.below hb3) (below_step HW.out.2 hb3))
          clear hb3
          clear HW
          have hbl := begs_le hb1 (Nat.le_of_lt hlt)
          simp only [List.length_cons, List.length_nil] at hbl
          have HSt := Lib.hid (step_rem b p L HBp.out hb1)
          clear hb1
          go_wp2_with fail
          refine (until_any _ c b (p + 4) ⟨#[45, 45, 62]⟩ _ (Kd.C_below HC.out.1 HW3.out.2) hc HC.out.2.1 hm hbl (by decide) (by decide) (HC.out.2.2.below HW3.out.2)).mono ?_
          rintro e w9 ⟨rfl, hb9⟩
          rw [show bytesOf ⟨#[45, 45, 62]⟩ = [45, 45, 62] from rfl]
          have HW9 := Lib.hid (And.intro (HW3.out.1.below hb9) (below_step HW3.out.2 hb9))
          clear hb9 HW3
          rw [HSt.out] at HOk
          generalize untl [45, 45, 62] b (p + 4) = q at *
          go_wp2_with fail
          refine (set_any g k L 3 p q _ HW9.out.1).mono ?_
          rintro e w10 ⟨rfl, hs10, hg10⟩
          have HW10 := Lib.hid (And.intro hs10 (below_grown HW9.out.2 hk hg10))
          clear hs10 hg10 HW9
          go_wp2_with fail
          go_roundg m
          case measure => omega
          case rel => exact ⟨q, _, by go_num, HOk.out.2.1, HW10.out.1, HW10.out.2, HOk.out.2.2, HN.out _ _ HSt.out, by have := HL.out.2.2; have h0 : p < q := HOk.out.1; omega⟩
        | false =>
          go_wp2_with fail
          refine (begins_any _ c b p ⟨#[60, 33, 45, 45]⟩ _ (Kd.C_below HC.out.1 HW.out.2) hc HC.out.2.1 hm (by omega) (by decide) (by decide)).mono ?_
          rintro e w3 ⟨rfl, hb3⟩
          rw [show begs b p (bytesOf ⟨#[60, 33, 45, 45]⟩) = false from hb1]
          have HW3 := Lib.hid (And.intro (HW.out.1.below hb3) (below_step HW.out.2 hb3))
          clear hb3
          clear HW
          cases hb2 : begs b p [60, 33, 91, 67, 68, 65, 84, 65, 91] with
          | true =>
            go_wp2_with fail
            refine (begins_any _ c b p ⟨#[60, 33, 91, 67, 68, 65, 84, 65, 91]⟩ _ (Kd.C_below HC.out.1 HW3.out.2) hc HC.out.2.1 hm (by omega) (by decide) (by decide)).mono ?_
            rintro e w4 ⟨rfl, hb3⟩
            rw [show begs b p (bytesOf ⟨#[60, 33, 91, 67, 68, 65, 84, 65, 91]⟩) = true from hb2]
            have HW4 := Lib.hid (And.intro (HW3.out.1.below hb3) (below_step HW3.out.2 hb3))
            clear hb3
            clear HW3
            have hbl := begs_le hb2 (Nat.le_of_lt hlt)
            simp only [List.length_cons, List.length_nil] at hbl
            have HSt := Lib.hid (step_opq b p L HBp.out hb1 hb2)
            clear hb2
            go_wp2_with fail
            refine (until_any _ c b (p + 9) ⟨#[93, 93, 62]⟩ _ (Kd.C_below HC.out.1 HW4.out.2) hc HC.out.2.1 hm hbl (by decide) (by decide) (HC.out.2.2.below HW4.out.2)).mono ?_
            rintro e w9 ⟨rfl, hb9⟩
            rw [show bytesOf ⟨#[93, 93, 62]⟩ = [93, 93, 62] from rfl]
            have HW9 := Lib.hid (And.intro (HW4.out.1.below hb9) (below_step HW4.out.2 hb9))
            clear hb9 HW4
            rw [HSt.out] at HOk
            generalize untl [93, 93, 62] b (p + 9) = q at *
            go_wp2_with fail
            refine (set_any g k L 6 p q _ HW9.out.1).mono ?_
            rintro e w10 ⟨rfl, hs10, hg10⟩
            have HW10 := Lib.hid (And.intro hs10 (below_grown HW9.out.2 hk hg10))
            clear hs10 hg10 HW9
            go_wp2_with fail
            go_roundg m
            case measure => omega
            case rel => exact ⟨q, _, by go_num, HOk.out.2.1, HW10.out.1, HW10.out.2, HOk.out.2.2, HN.out _ _ HSt.out, by have := HL.out.2.2; have h0 : p < q := HOk.out.1; omega⟩
          | false =>
            go_upto_region 33 with (go_at_call 27; refine (begins_any _ c b p ⟨#[60, 33, 91, 67, 68, 65, 84, 65, 91]⟩ _ (Kd.C_below HC.out.1 HW3.out.2) hc HC.out.2.1 hm (by omega) (by decide) (by decide)).mono ?_; rintro e w4 ⟨rfl, hb3⟩; rw [show begs b p (bytesOf ⟨#[60, 33, 91, 67, 68, 65, 84, 65, 91]⟩) = false from hb2]; have HW4 := Lib.hid (And.intro (HW3.out.1.below hb3) (below_step HW3.out.2 hb3)); clear hb3)
            clear HW3
            go_upto_if 124 with (go_at_call 27; refine (begins_any _ c b p ⟨#[60, 33]⟩ _ (Kd.C_below HC.out.1 HW4.out.2) hc HC.out.2.1 hm (by omega) (by decide) (by decide)).mono ?_; rintro e w5 ⟨rfl, hb3⟩; rw [show begs b p (bytesOf ⟨#[60, 33]⟩) = begs b p [60, 33] from rfl]; have HW5 := Lib.hid (And.intro (HW4.out.1.below hb3) (below_step HW4.out.2 hb3)); clear hb3)
            clear HW4
            obtain ⟨B, hB⟩ : ∃ B : Bool, B = (begs b p [60, 33] || begs b p [60, 63]) := ⟨_, rfl⟩
            have HB := Lib.hid hB
            clear hB
            go_cut [124] (fun v wx => v = .bool B ∧ Hid (Sheet wx g k L ∧ Below W.heap.size W wx))
            case first =>
              cases hb3 : begs b p [60, 33] with
              | true =>
                obtain rfl : B = true := by rw [HB.out, hb3]; rfl
                go_wp2_with fail
                go_meet
                exact ⟨rfl, HW5.out⟩
              | false =>
                obtain rfl : B = begs b p [60, 63] := by rw [HB.out, hb3]; rfl
                go_wp2_with (go_at_call 27; refine (begins_any _ c b p ⟨#[60, 63]⟩ _ (Kd.C_below HC.out.1 HW5.out.2) hc HC.out.2.1 hm (by omega) (by decide) (by decide)).mono ?_; rintro e w6 ⟨rfl, hb3⟩; rw [show begs b p (bytesOf ⟨#[60, 63]⟩) = begs b p [60, 63] from rfl]; have HW6 := Lib.hid (And.intro (HW5.out.1.below hb3) (below_step HW5.out.2 hb3)); clear hb3)
                go_meet
                exact ⟨rfl, HW6.out⟩
            case rest =>
              obtain ⟨rfl, HW6⟩ := hcut
              clear HW5
              cases B with
              | true =>
                have hB := HB.out.symm
                clear HB
                have hbl : p + 2 ≤ b.length := by
                  rcases (Bool.or_eq_true_iff.1 hB) with h | h
                  · exact begs_le h (Nat.le_of_lt hlt)
                  · exact begs_le h (Nat.le_of_lt hlt)
                have HSt := Lib.hid (step_mk b p L HBp.out hb1 hb2 hB)
                clear hB
                go_wp2_with fail
                refine (until_any _ c b (p + 2) ⟨#[62]⟩ _ (Kd.C_below HC.out.1 HW6.out.2) hc HC.out.2.1 hm hbl (by decide) (by decide) (HC.out.2.2.below HW6.out.2)).mono ?_
                rintro e w9 ⟨rfl, hb9⟩
                rw [show bytesOf ⟨#[62]⟩ = [62] from rfl]
                have HW9 := Lib.hid (And.intro (HW6.out.1.below hb9) (below_step HW6.out.2 hb9))
                clear hb9 HW6
                rw [HSt.out] at HOk
                generalize untl [62] b (p + 2) = q at *
                go_wp2_with fail
                refine (set_any g k L 2 p q _ HW9.out.1).mono ?_
                rintro e w10 ⟨rfl, hs10, hg10⟩
                have HW10 := Lib.hid (And.intro hs10 (below_grown HW9.out.2 hk hg10))
                clear hs10 hg10 HW9
                go_wp2_with fail
                go_roundg m
                case measure => omega
                case rel => exact ⟨q, _, by go_num, HOk.out.2.1, HW10.out.1, HW10.out.2, HOk.out.2.2, HN.out _ _ HSt.out, by have := HL.out.2.2; have h0 : p < q := HOk.out.1; omega⟩
              | false =>
                have hB := HB.out.symm
                have HBB := Lib.hid hB
                clear HB hB
                go_wp2_with fail
                refine (read_tag _ c b p _ (Kd.C_below HC.out.1 HW6.out.2) hc HC.out.2.1 hm hlt).mono ?_
                rintro e w7 ⟨T, A1, c1, ok, rfl, hr, ho, hb7⟩
                obtain ⟨fin, nm, cl, S⟩ := T
                have HW7 := Lib.hid (And.intro (HW6.out.1.below hb7) (And.intro (below_step HW6.out.2 hb7) (And.intro ho hr)))
                have hbase : W.heap.size ≤ wc.heap.size := HW6.out.2.size
                clear hr ho hb7 HW6
                go_upto_region 10 with fail
                have HT := Lib.hid (show Ts W (w7.alloc (tgC fin (strOfNums nm) cl (.slice A1 S.length c1))) g k L wc.heap.size (.slice A1 S.length c1) S w7.heap.size fin nm cl from ⟨HW7.out.1.alloc _, below_alloc HW7.out.2.1 _, HW7.out.2.2.1.alloc _, blk_new w7 _⟩)
                have HRd := Lib.hid HW7.out.2.2.2
                clear HW7
                generalize hw8 : w7.alloc (tgC fin (strOfNums nm) cl (.slice A1 S.length c1)) = w8 at *
                generalize htb : w7.heap.size = tb at *
                generalize hbs : wc.heap.size = base at *
                clear hw8 htb
                go_cut [44] (fun v wx => v = .bool (isAt b (p + 1) 47) ∧ Hid (Ts W wx g k L base (.slice A1 S.length c1) S tb fin nm cl))
                case first =>
                  by_cases hp1 : p + 1 < b.length
                  · have hd1 : decide ((p : Int) + 1 < (b.length : Int)) = true := by simp; omega
                    have c1' := HAt.out w8 (p + 1) HT.out.2.1 hp1
                    have hin := isAt_in b (p + 1) 47 hp1
                    generalize b.getD (p + 1) 0 = y at *
                    have HIn := Lib.hid hin
                    clear hin
                    go_wp2_with fail
                    go_meet
                    exact ⟨by rw [HIn.out], HT.out⟩
                  · have hd1 : decide ((p : Int) + 1 < (b.length : Int)) = false := by simp; omega
                    have HIn := Lib.hid (isAt_out b (p + 1) 47 (by omega))
                    go_wp2_with fail
                    go_meet
                    exact ⟨by rw [HIn.out], HT.out⟩
                case rest =>
                  obtain ⟨rfl, HT2⟩ := hcut
                  clear HT
                  go_upto_if 44 with fail
                  go_cut [11] (fun v wx => v = .int .i64 (opens b p) ∧ Hid (Ts W wx g k L base (.slice A1 S.length c1) S tb fin nm cl))
                  case first =>
                    have ho := opens_in b p
                    cases h47 : isAt b (p + 1) 47 with
                    | true =>
                      rw [h47] at ho
                      have HO := Lib.hid ho
                      clear ho h47
                      go_wp2_with fail
                      go_meet
                      refine ⟨?_, HT2.out⟩
                      rw [HO.out]
                      go_num
                    | false =>
                      rw [h47] at ho
                      have HO := Lib.hid ho
                      clear ho h47
                      go_wp2_with fail
                      go_meet
                      refine ⟨?_, HT2.out⟩
                      rw [HO.out]
                      go_num
                  case rest =>
                    obtain ⟨rfl, HT3⟩ := hcut
                    clear HT2
                    cases ok with
                    | false =>
                      have HSt := Lib.hid (step_none b p L HBp.out hb1 hb2 HBB.out HRd.out)
                      generalize hop : opens b p = q0 at *
                      by_cases hq0 : q0 < b.length
                      · have hd1 : decide ((b.length : Int) ≤ (q0 : Int)) = false := by simp; omega
                        have hnq : ¬ b.length ≤ q0 := by omega
                        have cq := HAt.out wc q0 HT3.out.2.1 hq0
                        have hil := isLetter_in b q0 hq0
                        generalize b.getD q0 0 = z at *
                        rw [hil] at HSt
                        clear hil
                        cases hz : letterB z with
                        | false =>
                          have HSt2 := Lib.hid (HSt.out.trans (if_neg (by rw [hz]; simp)))
                          clear HSt
                          go_upto_if 62 with (go_at_call 29; refine (letter_any z _).mono ?_; rintro e w9 ⟨rfl, n9, rfl⟩; rw [hz])
                          have HT3 := Lib.hid (HT3.out.drewN n9)
                          go_wp2_with fail
                          go_roundg m
                          case measure => omega
                          case rel => exact ⟨p + 1, L, by go_num, by omega, HT3.out.1, HT3.out.2.1, HL.out.1, HN.out _ _ HSt2.out, by have := HL.out.2.2; omega⟩
                        | true =>
                          have HSt2 := Lib.hid (HSt.out.trans (if_pos (by rw [hz])))
                          clear HSt
                          go_upto_if 62 with (go_at_call 29; refine (letter_any z _).mono ?_; rintro e w9 ⟨rfl, n9, rfl⟩; rw [hz])
                          have HT3 := Lib.hid (HT3.out.drewN n9)
                          go_wp2_with fail
                          refine (set_any g k L 2 p b.length _ HT3.out.1).mono ?_
                          rintro e w10 ⟨rfl, hs10, hg10⟩
                          have HW10 := Lib.hid (And.intro hs10 (below_grown HT3.out.2.1 hk hg10))
                          clear hs10 hg10 HT3
                          go_wp2_with fail
                          go_roundg m
                          case measure => omega
                          case rel => exact ⟨b.length, _, by go_num, Nat.le_refl _, HW10.out.1, HW10.out.2, by rw [setL_length]; exact HL.out.1, HN.out _ _ HSt2.out, by omega⟩
                      · have hd1 : decide ((b.length : Int) ≤ (q0 : Int)) = true := by simp; omega
                        have HSt2 := Lib.hid (HSt.out.trans (if_neg (by rw [isLetter_out b q0 (by omega)]; simp)))
                        clear HSt
                        go_wp2_with fail
                        go_roundg m
                        case measure => omega
                        case rel => exact ⟨p + 1, L, by go_num, by omega, HT3.out.1, HT3.out.2.1, HL.out.1, HN.out _ _ HSt2.out, by have := HL.out.2.2; omega⟩
                    | true =>
                      have hrd : Htm.read b p = some ⟨fin, nm, cl, S⟩ := HRd.out
                      obtain ⟨r1, r2, r3, r4, r5, q1, m1, r6⟩ := read_ok b p _ hrd
                      simp only at r1 r2 r3 r4 r5 r6
                      have HNm := Lib.hid (show Bys nm from by rw [r6]; exact bys_sm' ((HC.out.2.1.drop q1).take m1))
                      have HSt := Lib.hid (step_tag b p L HBp.out hb1 hb2 HBB.out _ hrd)
                      have HR4 := Lib.hid r4
                      clear hrd r4 r6 HRd
                      obtain ⟨k0, k1, k2, k3⟩ := tg_cells HT3.out.2.2.2
                      go_upto_region 16 with fail
                      go_wp2_with fail
                      refine (lay_any g k L _ base _ S fin nm cl p HT3.out.1 HT3.out.2.2.1 (by omega) (fun u z h => Nat.le_trans (HR4.out u z h) hm) (by omega)).mono ?_
                      rintro e w9 ⟨rfl, hs9, hg9⟩
                      have htk : tb ≠ k := blk_ne HT3.out.2.2.2 HT3.out.1.2.1 (by decide)
                      have HW9 := Lib.hid (And.intro hs9 (And.intro (below_grown HT3.out.2.1 hk hg9) (blk_grown HT3.out.2.2.2 hg9 (by intro e; injection e with e; exact htk e))))
                      clear hs9 hg9 HT3 k0 k1 k2 k3
                      obtain ⟨k0, k1, k2, k3⟩ := tg_cells HW9.out.2.2
                      cases cl with
                      | true =>
                        rw [past_c] at HSt
                        go_wp2_with fail
                        go_roundg m
                        case measure => omega
                        case rel => exact ⟨fin, _, by go_num, r2, HW9.out.1, HW9.out.2.1, by rw [tagL_length]; exact HL.out.1, HN.out _ _ HSt.out, by have := HL.out.2.2; omega⟩
                      | false =>
                        obtain ⟨SC, hSC⟩ : ∃ x : Bool, x = (nm == nScript || nm == nStyle) := ⟨_, rfl⟩
                        obtain ⟨TX, hTX⟩ : ∃ x : Bool, x = (nm == nArea || nm == nTitle) := ⟨_, rfl⟩
                        have HSC := Lib.hid hSC
                        have HTX := Lib.hid hTX
                        clear hSC hTX
                        have e1 : ((strOfNums nm).toList == ([115, 99, 114, 105, 112, 116] : List UInt8)) = (nm == nScript) := name_eq HNm.out nScript [115, 99, 114, 105, 112, 116] (by intro x hx; simp [nScript] at hx; omega) (by rw [ByteArray.toList_eq]; rfl)
                        have e2 : ((strOfNums nm).toList == ([115, 116, 121, 108, 101] : List UInt8)) = (nm == nStyle) := name_eq HNm.out nStyle [115, 116, 121, 108, 101] (by intro x hx; simp [nStyle] at hx; omega) (by rw [ByteArray.toList_eq]; rfl)
                        have e3 : ((strOfNums nm).toList == ([116, 101, 120, 116, 97, 114, 101, 97] : List UInt8)) = (nm == nArea) := name_eq HNm.out nArea [116, 101, 120, 116, 97, 114, 101, 97] (by intro x hx; simp [nArea] at hx; omega) (by rw [ByteArray.toList_eq]; rfl)
                        have e4 : ((strOfNums nm).toList == ([116, 105, 116, 108, 101] : List UInt8)) = (nm == nTitle) := name_eq HNm.out nTitle [116, 105, 116, 108, 101] (by intro x hx; simp [nTitle] at hx; omega) (by rw [ByteArray.toList_eq]; rfl)
                        have HE12 := Lib.hid (And.intro e1 e2)
                        have HE34 := Lib.hid (And.intro e3 e4)
                        clear e1 e2 e3 e4
                        go_upto_region 20 with fail
                        clear k0 k1 k2 k3
                        have e1 := HE12.out.1
                        go_upto_if 79 with fail
                        go_cut [79] (fun v wx => v = .bool SC ∧ Hid (Sheet wx g k (tagL p ⟨fin, nm, false, S⟩ L) ∧ Below W.heap.size W wx ∧ wx.heap[tb]? = some (tgC fin (strOfNums nm) false (.slice A1 S.length c1))))
                        case first =>
                          have e2 := HE12.out.2
                          clear e1
                          cases h1 : (nm == nScript) with
                          | true =>
                            obtain rfl : SC = true := by rw [HSC.out, h1]; rfl
                            go_wp2_with fail
                            go_meet
                            exact ⟨rfl, HW9.out⟩
                          | false =>
                            obtain rfl : SC = (nm == nStyle) := by rw [HSC.out, h1]; rfl
                            go_wp2_with fail
                            go_meet
                            exact ⟨rfl, HW9.out⟩
                        case rest =>
                          obtain ⟨rfl, HW10⟩ := hcut
                          clear HW9 e1
                          cases SC with
                          | true =>
                            have HP := Lib.hid (past_code b p L fin nm S HSC.out.symm)
                            obtain ⟨k0, k1, k2, k3⟩ := tg_cells HW10.out.2.2
                            go_wp2_with fail
                            refine (shut_any bl of c b fin nm _ (Kd.C_below HC.out.1 HW10.out.2.1) hc HC.out.2.1 hm r2 HNm.out (by omega)).mono ?_
                            rintro e w11 ⟨rfl, hb11⟩
                            have HW11 := Lib.hid (And.intro (HW10.out.1.below hb11) (below_step HW10.out.2.1 hb11))
                            clear hb11 HW10 k0 k1 k2 k3
                            have hsh := shutP_le b nm fin r2
                            generalize shutP b nm fin = q at *
                            go_wp2_with fail
                            refine (set_any g k _ 4 fin q _ HW11.out.1).mono ?_
                            rintro e w12 ⟨rfl, hs12, hg12⟩
                            have HW12 := Lib.hid (And.intro hs12 (below_grown HW11.out.2 hk hg12))
                            clear hs12 hg12 HW11
                            go_wp2_with fail
                            go_roundg m
                            case measure => omega
                            case rel => exact ⟨q, _, by go_num, hsh.2, HW12.out.1, HW12.out.2, by rw [setL_length, tagL_length]; exact HL.out.1, HN.out _ _ (HSt.out.trans HP.out), by have := HL.out.2.2; omega⟩
                          | false =>
                            have e3 := HE34.out.1
                            go_upto_if 92 with fail
                            go_cut [92] (fun v wx => v = .bool TX ∧ Hid (Sheet wx g k (tagL p ⟨fin, nm, false, S⟩ L) ∧ Below W.heap.size W wx ∧ wx.heap[tb]? = some (tgC fin (strOfNums nm) false (.slice A1 S.length c1))))
                            case first =>
                              have e4 := HE34.out.2
                              clear e3
                              cases h1 : (nm == nArea) with
                              | true =>
                                obtain rfl : TX = true := by rw [HTX.out, h1]; rfl
                                go_wp2_with fail
                                go_meet
                                exact ⟨rfl, HW10.out⟩
                              | false =>
                                obtain rfl : TX = (nm == nTitle) := by rw [HTX.out, h1]; rfl
                                go_wp2_with fail
                                go_meet
                                exact ⟨rfl, HW10.out⟩
                            case rest =>
                              obtain ⟨rfl, HW11⟩ := hcut
                              clear HW10 e3
                              cases TX with
                              | true =>
                                have HP := Lib.hid (past_text b p L fin nm S HSC.out.symm HTX.out.symm)
                                obtain ⟨k0, k1, k2, k3⟩ := tg_cells HW11.out.2.2
                                go_wp2_with fail
                                refine (shut_any bl of c b fin nm _ (Kd.C_below HC.out.1 HW11.out.2.1) hc HC.out.2.1 hm r2 HNm.out (by omega)).mono ?_
                                rintro e w12 ⟨rfl, hb12⟩
                                have HW12 := Lib.hid (And.intro (HW11.out.1.below hb12) (below_step HW11.out.2.1 hb12))
                                clear hb12 HW11 k0 k1 k2 k3
                                have hsh := shutP_le b nm fin r2
                                generalize shutP b nm fin = q at *
                                go_wp2_with fail
                                go_roundg m
                                case measure => omega
                                case rel => exact ⟨q, _, by go_num, hsh.2, HW12.out.1, HW12.out.2, by rw [tagL_length]; exact HL.out.1, HN.out _ _ (HSt.out.trans HP.out), by have := HL.out.2.2; omega⟩
                              | false =>
                                have HP := Lib.hid (past_else b p L fin nm S HSC.out.symm HTX.out.symm)
                                go_wp2_with fail
                                go_roundg m
                                case measure => omega
                                case rel => exact ⟨fin, _, by go_num, r2, HW11.out.1, HW11.out.2.1, by rw [tagL_length]; exact HL.out.1, HN.out _ _ (HSt.out.trans HP.out), by have := HL.out.2.2; omega⟩

      · have hx1 : (x != 60) = true := by simp [hx]
        have HSt := Lib.hid (step_txt b p L (by rw [hbp]; simp [hx]))
        clear hbp
        go_wp2_with fail
        go_roundg m
        case measure => omega
        case rel => exact ⟨p + 1, L, by go_num, by omega, HW.out.1, HW.out.2, HL.out.1, HN.out _ _ HSt.out, by have := HL.out.2.2; omega⟩
    · obtain rfl : p = b.length := by omega
      have hd : decide ((b.length : Int) < (b.length : Int)) = false := by simp
      have HE := Lib.hid (lexN_end b gk L HQ.out.2.2.2.1)
      go_wp2_with fail
      go_ret2
      exact ⟨g, k, rfl, HE.out ▸ HQ.out.1, HQ.out.2.1, hg, hk⟩
end Go.Proofs.Ytcbibbdkjhkmoaa.H
