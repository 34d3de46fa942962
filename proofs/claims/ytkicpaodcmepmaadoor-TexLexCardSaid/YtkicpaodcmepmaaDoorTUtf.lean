/- utf.Next, walked: how many bytes a sign has. Conditions: as each lemma says. -/
import Derived.Test.YtkicpaodcmepmaaDoorTDoc
import Derived.Test.YtkicpaodcmepmaaDoorUFirst
import Derived.Laws.BitsLemmas
set_option linter.unusedVariables false
set_option linter.unusedSimpArgs false
namespace Go.Proofs.YtkicpaodcmepmaaDoor.T
open Go.RowKit Go.Proofs.YtkicpaodcmepmaaDoorW.PrintWords Go.Proofs.YtkicpaodcmepmaaDoor.L Go.Proofs.YtkicpaodcmepmaaDoor.S Go.Proofs.YtkicpaodcmepmaaDoor.Tex Go.Proofs.YtkicpaodcmepmaaDoor.UN

/-- What a first byte says. -/
def fstB (c : Int) : Option (Int × Nat × Int) :=
  if c < 128 then some (c, 0, 0)
  else if 194 ≤ c ∧ c < 224 then some (c % 32, 1, 128)
  else if 224 ≤ c ∧ c < 240 then some (c % 16, 2, 2048)
  else if 240 ≤ c ∧ c < 245 then some (c % 8, 3, 65536)
  else none
/-- The bytes that follow. -/
def nxB (r : Int) : List Int → Option Int
  | [] => some r
  | x :: xs => if tailB x = true then nxB (r * 64 + x % 64) xs else none
def okR (least r : Int) : Bool := !(decide (r < least) || (decide (1114111 < r) || (decide (55296 ≤ r) && decide (r < 57344))))
def nwB : List Int → Nat
  | [] => 0
  | c :: rest => match fstB c with
    | none => 1
    | some (r0, more, least) => if rest.length < more then 1 else match nxB r0 (rest.take more) with
      | none => 1
      | some r => if okR least r = true then 1 + more else 1
theorem first_f (c : Int) (h0 : 0 ≤ c) (h1 : c < 256) : utf_first.f 5 c = match fstB c with | some (r0, more, least) => some (r0, (more : Int), least, true) | none => some (0, 0, 0, false) := by
  unfold utf_first.f fstB
  by_cases a1 : c < 128
  · rw [if_pos a1, if_pos a1]
    rw [show wrap32 c = c from by unfold wrap32; omega]
    rfl
  rw [if_neg a1, if_neg a1]
  have e31 : wrap32 (Go.bits .and .u8 c 31) = c % 32 := by rw [u8_and31 _ h0 h1]; unfold wrap32; omega
  have e15 : wrap32 (Go.bits .and .u8 c 15) = c % 16 := by rw [u8_and15 _ h0 h1]; unfold wrap32; omega
  have e7 : wrap32 (Go.bits .and .u8 c 7) = c % 8 := by rw [u8_and7 _ h0 h1]; unfold wrap32; omega
  have j1 : ∀ k x, utf_first.j1 (k + 1) c x = if x = true then (some (wrap32 (Go.bits .and .u8 c 15), 2, 2048, true)) else (if c ≥ 240 then (if c < 245 then (some (wrap32 (Go.bits .and .u8 c 7), 3, 65536, true)) else (some (0, 0, 0, false))) else (some (0, 0, 0, false))) := fun k x => by rw [utf_first.j1]
  have j0 : ∀ k x, utf_first.j0 (k + 1) c x = if x = true then (some (wrap32 (Go.bits .and .u8 c 31), 1, 128, true)) else (if c ≥ 224 then (utf_first.j1 k c (decide (c < 240))) else (utf_first.j1 k c false)) := fun k x => by rw [utf_first.j0]
  rw [j0, j0, j1, j1, e31, e15, e7]
  by_cases a2 : 194 ≤ c ∧ c < 224
  · rw [if_pos a2, if_pos (show c ≥ 194 from a2.1), if_pos (by simpa using a2.2)]
    rfl
  rw [if_neg a2]
  have l2 : (if c ≥ 194 then (if decide (c < 224) = true then some (c % 32, (1 : Int), (128 : Int), true) else (if c ≥ 224 then (if decide (c < 240) = true then (some (c % 16, 2, 2048, true)) else (if c ≥ 240 then (if c < 245 then (some (c % 8, 3, 65536, true)) else (some (0, 0, 0, false))) else (some (0, 0, 0, false)))) else (if false = true then (some (c % 16, 2, 2048, true)) else (if c ≥ 240 then (if c < 245 then (some (c % 8, 3, 65536, true)) else (some (0, 0, 0, false))) else (some (0, 0, 0, false)))))) else (if false = true then some (c % 32, (1 : Int), (128 : Int), true) else (if c ≥ 224 then (if decide (c < 240) = true then (some (c % 16, 2, 2048, true)) else (if c ≥ 240 then (if c < 245 then (some (c % 8, 3, 65536, true)) else (some (0, 0, 0, false))) else (some (0, 0, 0, false)))) else (if false = true then (some (c % 16, 2, 2048, true)) else (if c ≥ 240 then (if c < 245 then (some (c % 8, 3, 65536, true)) else (some (0, 0, 0, false))) else (some (0, 0, 0, false))))))) = (if 224 ≤ c ∧ c < 240 then some (c % 16, (2 : Int), (2048 : Int), true) else if 240 ≤ c ∧ c < 245 then some (c % 8, 3, 65536, true) else some (0, 0, 0, false)) := by
    simp only [decide_eq_true_eq, Bool.false_eq_true, if_false]
    by_cases b1 : 224 ≤ c
    · by_cases b2 : c < 240
      · have b3 : c ≥ 194 := by omega
        have b4 : ¬ c < 224 := by omega
        simp [b1, b2, b3, b4]
      · have b3 : c ≥ 194 := by omega
        have b4 : ¬ c < 224 := by omega
        have b5 : 240 ≤ c := by omega
        simp [b1, b2, b3, b4, b5]
    · have b5 : ¬ 240 ≤ c := by omega
      by_cases b3 : 194 ≤ c
      · omega
      · simp [b1, b3, b5]
  refine Eq.trans l2 ?_
  by_cases a3 : 224 ≤ c ∧ c < 240
  · rw [if_pos a3, if_pos a3]; rfl
  rw [if_neg a3, if_neg a3]
  by_cases a4 : 240 ≤ c ∧ c < 245
  · rw [if_pos a4, if_pos a4]; rfl
  rw [if_neg a4, if_neg a4]
theorem nxB_nil (r : Int) : nxB r [] = some r := rfl
theorem nxB_cons (r x : Int) (xs : List Int) : nxB r (x :: xs) = if tailB x = true then nxB (r * 64 + x % 64) xs else none := rfl
/-- The width, in plain words. -/
theorem nwB_wid (l : List Int) (hl : Bys l) : nwB l = wid l := by
  rcases l with _ | ⟨c, r⟩
  · rfl
  have hc := hl c (by simp)
  have tb : ∀ x, tailB x = true → 128 ≤ x ∧ x < 192 := fun x h => by
    unfold tailB at h
    simpa using h
  rw [wid_cons]
  have e0 : nwB (c :: r) = match fstB c with
    | none => 1
    | some (r0, more, least) => if r.length < more then 1 else match nxB r0 (r.take more) with
      | none => 1
      | some r => if okR least r = true then 1 + more else 1 := rfl
  rw [e0]
  unfold fstB
  by_cases a1 : c < 128
  · rw [if_pos a1, if_pos a1]
    simp only []
    rw [if_neg (by omega), List.take_zero, nxB_nil]
    simp only []
    split <;> rfl
  rw [if_neg a1, if_neg a1]
  by_cases a2 : 194 ≤ c ∧ c < 224
  · rw [if_pos a2, if_pos a2]
    simp only []
    rcases r with _ | ⟨x, r⟩
    · rfl
    rw [if_neg (by simp), show (x :: r).take 1 = [x] from rfl, nxB_cons, nxB_nil]
    have e : w2 (x :: r) = if tailB x = true then 2 else 1 := rfl
    rw [e]
    by_cases h : tailB x = true
    · rw [if_pos h, if_pos h]
      have := tb x h
      simp only []
      rw [if_pos]
      unfold okR
      simp
      omega
    · rw [if_neg h, if_neg h]
  rw [if_neg a2, if_neg a2]
  by_cases a3 : 224 ≤ c ∧ c < 240
  · rw [if_pos a3, if_pos a3]
    simp only []
    rcases r with _ | ⟨x, _ | ⟨y, r⟩⟩
    · rfl
    · rfl
    rw [if_neg (by simp), show (x :: y :: r).take 2 = [x, y] from rfl, nxB_cons, nxB_cons, nxB_nil]
    have e : w3 c (x :: y :: r) = if tailB x = true ∧ tailB y = true ∧ 2048 ≤ r3 c x y ∧ (r3 c x y < 55296 ∨ 57344 ≤ r3 c x y) then 3 else 1 := rfl
    rw [e]
    by_cases hx : tailB x = true
    · rw [if_pos hx]
      by_cases hy : tailB y = true
      · rw [if_pos hy]
        simp only []
        have h1 := tb x hx
        have h2 := tb y hy
        have e3 : (c % 16 * 64 + x % 64) * 64 + y % 64 = r3 c x y := by unfold r3; omega
        rw [e3]
        have hb : r3 c x y ≤ 1114111 := by unfold r3; omega
        generalize r3 c x y = v at *
        by_cases hv : 2048 ≤ v ∧ (v < 55296 ∨ 57344 ≤ v)
        · rw [if_pos, if_pos ⟨hx, hy, hv⟩]
          unfold okR
          simp
          omega
        · rw [if_neg, if_neg (fun h => hv h.2.2)]
          unfold okR
          simp
          omega
      · rw [if_neg hy, if_neg (fun h => hy h.2.1)]
    · rw [if_neg hx, if_neg (fun h => hx h.1)]
  rw [if_neg a3, if_neg a3]
  by_cases a4 : 240 ≤ c ∧ c < 245
  · rw [if_pos a4, if_pos a4]
    simp only []
    rcases r with _ | ⟨x, _ | ⟨y, _ | ⟨z, r⟩⟩⟩
    · rfl
    · rfl
    · rfl
    rw [if_neg (by simp), show (x :: y :: z :: r).take 3 = [x, y, z] from rfl, nxB_cons, nxB_cons, nxB_cons, nxB_nil]
    have e : w4 c (x :: y :: z :: r) = if tailB x = true ∧ tailB y = true ∧ tailB z = true ∧ 65536 ≤ r4 c x y z ∧ r4 c x y z ≤ 1114111 then 4 else 1 := rfl
    rw [e]
    by_cases hx : tailB x = true
    · rw [if_pos hx]
      by_cases hy : tailB y = true
      · rw [if_pos hy]
        by_cases hz : tailB z = true
        · rw [if_pos hz]
          simp only []
          have h1 := tb x hx
          have h2 := tb y hy
          have h3 := tb z hz
          have e3 : ((c % 8 * 64 + x % 64) * 64 + y % 64) * 64 + z % 64 = r4 c x y z := by unfold r4; omega
          rw [e3]
          generalize r4 c x y z = v at *
          by_cases hv : 65536 ≤ v ∧ v ≤ 1114111
          · rw [if_pos, if_pos ⟨hx, hy, hz, hv⟩]
            unfold okR
            simp
            omega
          · rw [if_neg, if_neg (fun h => hv h.2.2.2)]
            unfold okR
            simp
            omega
        · rw [if_neg hz, if_neg (fun h => hz h.2.2.1)]
      · rw [if_neg hy, if_neg (fun h => hy h.2.1)]
    · rw [if_neg hx, if_neg (fun h => hx h.1)]
  rw [if_neg a4, if_neg a4]
set_option maxRecDepth 100000 in
theorem and192 : ∀ n : Nat, n < 256 → (Go.bits .and .u8 (n : Int) 192 != 128) = !tailB (n : Int) := by decide
theorem and192' (x : Int) (h0 : 0 ≤ x) (h1 : x < 256) : (Go.bits .and .u8 x 192 != 128) = !tailB x := by
  obtain ⟨n, rfl⟩ : ∃ n : Nat, x = n := ⟨x.toNat, by omega⟩
  exact and192 n (by omega)
theorem fst_ok (c : Int) (h0 : 0 ≤ c) (r0 : Int) (more : Nat) (least : Int) (h : fstB c = some (r0, more, least)) : more ≤ 3 ∧ 0 ≤ r0 ∧ (r0 < 32 ∨ more = 0) ∧ 0 ≤ least ∧ least < 2147483648 ∧ r0 < 2147483648 := by
  unfold fstB at h
  split at h
  · cases h; omega
  · split at h
    · cases h; omega
    · split at h
      · cases h; omega
      · split at h
        · cases h; omega
        · cases h
set_option maxHeartbeats 2000000 in
theorem unext_any (A : Option Addr) (c : Nat) (l : List Int) (w : World) (hC : Kd.C (Kd.int .u8) w A l.length l) (hc : l.length ≤ c) (hl : Bys l) (hm : l.length ≤ 65536) :
    Calls Tryd.prog 49 #[.slice A l.length c] w fun e w' => (∃ r : Int, e = .returned (.tuple #[.int .i32 r, .int .i64 (wid l : Nat)])) ∧ Below w.heap.size w w' := by
  rw [← nwB_wid l hl]
  by_cases h0 : l.length = 0
  · obtain rfl := List.eq_nil_of_length_eq_zero h0
    go_enter Tryd.func49, Tryd.ntmps49
    go_wp2_with fail
    go_ret2
    exact ⟨⟨_, rfl⟩, Below.refl _ _⟩
  obtain ⟨ad, rfl, hcell⟩ := Kd.at_int hC 0 (by omega) (by omega)
  obtain ⟨bl, of, sp⟩ := ad
  obtain rfl : sp = none := by
    have := Lib.plain_of_cell (show w.cell? ⟨bl, of, sp⟩ = _ from by simpa [Addr.add] using hcell)
    injection this
  have HAt := Lib.hid (show ∀ (w' : World) (i : Nat), Below w.heap.size w w' → i < l.length → w'.cell? ⟨bl, of + i, none⟩ = some (.int .u8 (l.getD i 0)) from by
    intro w' i hw hi
    obtain ⟨ad', e, hx⟩ := Kd.at_int (Kd.C_below hC hw) (i : Int) (by omega) (by omega)
    injection e with e
    subst e
    rw [Int.toNat_natCast, Lib.add_plain'] at hx
    exact hx)
  have k0 : w.cell? ⟨bl, of, none⟩ = some (.int .u8 (l.getD 0 0)) := by
    have := HAt.out w 0 (Below.refl _ _) (by omega)
    simpa using this
  have hl0 : l.getD 0 0 ∈ l := by
    rw [List.getD_eq_getElem?_getD, List.getElem?_eq_getElem (by omega)]
    exact List.getElem_mem _
  have hx := hl _ hl0
  have HNW := Lib.hid (show nwB l = match fstB (l.getD 0 0) with
    | none => 1
    | some (r0, more, least) => if l.length - 1 < more then 1 else match nxB r0 ((l.drop 1).take more) with
      | none => 1
      | some r => if okR least r = true then 1 + more else 1 from by
    rcases l with _ | ⟨x, rest⟩
    · simp at h0
    · rfl)
  have HC := Lib.hid hC
  have HB := Lib.hid hl
  clear hC hl hl0 hcell
  have HFo := Lib.hid (show ∀ r0 more least, fstB (l.getD 0 0) = some (r0, more, least) → more ≤ 3 ∧ 0 ≤ r0 ∧ (r0 < 32 ∨ more = 0) ∧ 0 ≤ least ∧ least < 2147483648 ∧ r0 < 2147483648 from fun r0 more least => fst_ok (l.getD 0 0) hx.1 r0 more least)
  have HFf := Lib.hid (first_f (l.getD 0 0) hx.1 hx.2)
  generalize l.getD 0 0 = x at *
  go_enter Tryd.func49, Tryd.ntmps49
  have hz0 : ((l.length : Int) == 0) = false := by rw [beq_eq_false_iff_ne]; omega
  cases hf : fstB x with
  | none =>
    have hff := HFf.out
    have hnw := HNW.out
    rw [hf] at hff hnw
    have HN := Lib.hid hnw
    have HF := Lib.hid hff
    clear hff hnw HNW HFf HFo
    go_wp2_with fail
    refine (utf_first.calls 5 x 0 0 0 false _ HF.out).mono ?_
    rintro e w1 ⟨rfl, hd⟩
    have H1 := Lib.hid hd.below
    clear hd
    go_wp2_with fail
    go_ret2
    exact ⟨⟨_, by rw [HN.out]; rfl⟩, H1.out⟩
  | some t =>
    obtain ⟨r0, more, least⟩ := t
    have hff := HFf.out
    have hnw := HNW.out
    rw [hf] at hff hnw
    obtain ⟨o1, o2, o3, o4, o5, o6⟩ := HFo.out _ _ _ hf
    have HN := Lib.hid hnw
    have HF := Lib.hid hff
    clear hff hnw HNW HFf HFo hf
    go_wp2_with fail
    refine (utf_first.calls 5 x r0 more least true _ HF.out).mono ?_
    rintro e w1 ⟨rfl, hd⟩
    have H1 := Lib.hid hd.below
    clear hd
    by_cases hmr : l.length ≤ more
    · have hd1 : decide ((l.length : Int) ≤ (more : Int)) = true := by simp; omega
      have hd2 : decide (l.length ≤ more) = true := by simp; omega
      have HN2 := Lib.hid (show nwB l = 1 from by
        have := HN.out
        rwa [if_pos (by omega)] at this)
      go_wp2_with fail
      go_ret2
      exact ⟨⟨_, by rw [HN2.out]; rfl⟩, H1.out⟩
    · have hd1 : decide ((l.length : Int) ≤ (more : Int)) = false := by simp; omega
      have hd2 : decide (l.length ≤ more) = false := by simp; omega
      have HN2 := Lib.hid (show nwB l = (match nxB r0 ((l.drop 1).take more) with
        | none => 1
        | some r => if okR least r = true then 1 + more else 1) from by
        have := HN.out
        rwa [if_neg (by omega)] at this)
      obtain ⟨i0, hi0, _, hsz, _⟩ := info_parts S.info5
      have hct := cut_mid (P := Tryd.prog) 22 5 .i64 .i64 Tryd.underlying22 hi0 1 hsz (some ⟨bl, of, none⟩) l.length c (1 : Int) (1 + (more : Int)) (by omega) (by omega) (by omega) hc
      rw [show (1 + (more : Int)).toNat - Int.toNat 1 = more by omega, show c - Int.toNat 1 = c - 1 from rfl] at hct
      simp only [Option.map_some] at hct
      generalize hA2 : (if c = Int.toNat 1 then some (⟨bl, of, none⟩ : Addr) else some ((⟨bl, of, none⟩ : Addr).add (Int.toNat 1 * 1))) = A2 at hct
      have hA3 : 0 < more → A2 = some ⟨bl, of + 1, none⟩ := fun h => by
        rw [← hA2, if_neg (show ¬ c = Int.toNat 1 by rw [show Int.toNat 1 = 1 from rfl]; omega)]
        rfl
      obtain ⟨tl, htl⟩ : ∃ tl, tl = (l.drop 1).take more := ⟨_, rfl⟩
      have htn : tl.length = more := by rw [htl, List.length_take, List.length_drop]; omega
      have htg : ∀ j, j < more → tl.drop j = l.getD (1 + j) 0 :: tl.drop (j + 1) := fun j hj => by
        rw [List.drop_eq_getElem_cons (by omega)]
        congr 1
        subst htl
        rw [List.getElem_take, List.getElem_drop, List.getD_eq_getElem?_getD, List.getElem?_eq_getElem (by omega)]
        rfl
      rw [← htl] at HN2
      have HT := Lib.hid (And.intro hA3 (And.intro htn htg))
      clear HN hi0 hsz hA2 hA3 htl htn htg k0
      go_wp2_with fail
      go_loopg [4, 35] more (fun gn rv iv wr => ∃ (j : Nat) (r : Int), iv = .int .i64 j ∧ rv = .int .i32 r ∧ j ≤ more ∧ 0 ≤ r ∧ (r < 32 ∨ (1 ≤ j ∧ r < 2048) ∨ (2 ≤ j ∧ r < 131072) ∨ (3 ≤ j ∧ r < 8388608) ∨ more = 0) ∧ r < 2147483648 ∧ Hid (Below w.heap.size w wr ∧ nxB r (tl.drop j) = nxB r0 tl ∧ gn = more - j))
      case atStart => exact ⟨0, r0, rfl, rfl, Nat.zero_le _, o2, by omega, o6, H1.out, rfl, rfl⟩
      case round =>
        obtain ⟨j, r, rfl, rfl, hj, q1, q2, q3, HQ⟩ := hrel
        clear H1
        by_cases hlt : j < more
        · have hdl : decide ((j : Int) < (more : Int)) = true := by simp; omega
          obtain rfl := HT.out.1 (by omega)
          have ky := HAt.out wr (1 + j) HQ.out.1 (by omega)
          rw [← Nat.add_assoc] at ky
          have hgy := HT.out.2.2 j hlt
          have hy0 : l.getD (1 + j) 0 ∈ l := by
            rw [List.getD_eq_getElem?_getD, List.getElem?_eq_getElem (by omega)]
            exact List.getElem_mem _
          have hy := HB.out _ hy0
          have hn := HQ.out.2.1
          rw [hgy, nxB_cons] at hn
          have HN3 := Lib.hid hn
          have HG := Lib.hid HQ.out.2.2
          have HBw := Lib.hid HQ.out.1
          clear hy0 hgy hn HQ
          generalize l.getD (1 + j) 0 = y at *
          have e192 := and192' y hy.1 hy.2
          have e63 : Go.bits .and .u8 y 63 = y % 64 := u8_and63 _ hy.1 hy.2
          cases ht : tailB y with
          | false =>
            have hn := HN3.out
            rw [ht, if_neg (by simp)] at hn
            have HN4 := Lib.hid (show nwB l = 1 from by have := HN2.out; rwa [← hn] at this)
            rw [ht] at e192
            have e192' : (Go.bits .and .u8 y 192 != 128) = true := e192
            clear hn HN3 e192
            go_wp2_with fail
            go_ret2
            exact ⟨⟨_, by rw [HN4.out]; rfl⟩, HBw.out⟩
          | true =>
            have hn := HN3.out
            rw [ht, if_pos rfl] at hn
            have HN4 := Lib.hid hn
            rw [ht] at e192
            have e192' : (Go.bits .and .u8 y 192 != 128) = false := e192
            have eor : Go.bits .or .i32 (r * 64) (y % 64) = r * 64 + y % 64 := i32_or6 _ _ (by omega) (by omega) (by omega) (by omega) (by omega)
            clear hn HN3 e192
            go_wp2_with fail
            go_roundg (more - (j + 1))
            case measure => rw [HG.out]; omega
            case rel => exact ⟨j + 1, r * 64 + y % 64, by go_num, rfl, by omega, by omega, by omega, by omega, HBw.out, HN4.out, rfl⟩
        · obtain rfl : j = more := by omega
          have hdl : decide ((j : Int) < (j : Int)) = false := by simp
          have hn := HQ.out.2.1
          rw [List.drop_eq_nil_of_le (by rw [HT.out.2.1]; omega), nxB_nil] at hn
          have HN3 := Lib.hid (show nwB l = (if okR least r = true then 1 + j else 1) from by have := HN2.out; rwa [← hn] at this)
          have HBw := Lib.hid HQ.out.1
          clear hn HQ
          by_cases b1 : r < least
          · have d1 : decide (r < least) = true := by simpa using b1
            have HN4 := Lib.hid (show nwB l = 1 from by have := HN3.out; rw [if_neg (by unfold okR; simp [b1])] at this; exact this)
            go_wp2_with fail
            go_ret2
            exact ⟨⟨_, by rw [HN4.out]; first | rfl | (simp; done)⟩, HBw.out⟩
          have d1 : decide (r < least) = false := by simpa using b1
          by_cases b2 : 1114111 < r
          · have d2 : decide (1114111 < r) = true := by simpa using b2
            have HN4 := Lib.hid (show nwB l = 1 from by have := HN3.out; rw [if_neg (by unfold okR; simp [b2])] at this; exact this)
            go_wp2_with fail
            go_ret2
            exact ⟨⟨_, by rw [HN4.out]; first | rfl | (simp; done)⟩, HBw.out⟩
          have d2 : decide (1114111 < r) = false := by simpa using b2
          by_cases b3 : 55296 ≤ r
          · have d3 : decide (55296 ≤ r) = true := by simpa using b3
            by_cases b4 : r < 57344
            · have d4 : decide (r < 57344) = true := by simpa using b4
              have HN4 := Lib.hid (show nwB l = 1 from by have := HN3.out; rw [if_neg (by unfold okR; simp [b3, b4])] at this; exact this)
              go_wp2_with fail
              go_ret2
              exact ⟨⟨_, by rw [HN4.out]; first | rfl | (simp; done)⟩, HBw.out⟩
            · have d4 : decide (r < 57344) = false := by simpa using b4
              have HN4 := Lib.hid (show nwB l = 1 + j from by have := HN3.out; rw [if_pos (by unfold okR; simp [b1, b2, b3, b4])] at this; exact this)
              go_wp2_with fail
              go_ret2
              exact ⟨⟨_, by rw [HN4.out]; first | rfl | (simp; done)⟩, HBw.out⟩
          · have d3 : decide (55296 ≤ r) = false := by simpa using b3
            have HN4 := Lib.hid (show nwB l = 1 + j from by have := HN3.out; rw [if_pos (by unfold okR; simp [b1, b2, b3])] at this; exact this)
            go_wp2_with fail
            go_ret2
            exact ⟨⟨_, by rw [HN4.out]; first | rfl | (simp; done)⟩, HBw.out⟩
end Go.Proofs.YtkicpaodcmepmaaDoor.T
