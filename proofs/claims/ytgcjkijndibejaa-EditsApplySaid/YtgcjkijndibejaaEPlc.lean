/- edits.Place, walked. Conditions: as each lemma says. -/
import Derived.Test.YtgcjkijndibejaaEApp
set_option linter.unusedVariables false
set_option linter.unusedSimpArgs false
namespace Go.Proofs.Ytgcjkijndibejaa.Srt
open Go.Lib hiding bytesOf bytesOf_length
open Go.Shelf Go.RowKit Go.Proofs.YtgcjkijndibejaaW.PrintWords Go.Proofs.YtgcjkijndibejaaW.PrintLast

/-- Where a place stands behind edits that are ahead of it. -/
def plc (t : Int) : List Ed → Int → Int
  | [], m => t + m
  | x :: r, m => if t < x.1 ∨ (t = x.1 ∧ 0 < x.2.1) then t + m else if t < x.1 + x.2.1 then x.1 + m else plc t r (m + ((x.2.2.size : Int) - x.2.1))
def place (b : List Int) (es : List Ed) (t : Int) : Int × Int :=
  if (tidy b es).1 = 0 then (if t < 0 ∨ (b.length : Int) < t then (0, 2) else (plc t (tidy b es).2 0, 0)) else (0, (tidy b es).1)
theorem drop_getD (S : List Ed) (i : Nat) (h : i < S.length) : S.drop i = S.getD i dE :: S.drop (i + 1) := by
  rw [List.drop_eq_getElem_cons h, List.getD_eq_getElem?_getD, List.getElem?_eq_getElem h]
  rfl
set_option maxRecDepth 100000 in
set_option maxHeartbeats 8000000 in
theorem place_any (A : Option Addr) (c : Nat) (b : List Int) (v : Value) (es : List Ed) (t : Int) (W : World) (hC : Kd.C (Kd.int .u8) W A b.length b) (hc : b.length ≤ c) (hE : EdR W v es) (hb : b.length ≤ 100000) (hn : es.length ≤ 500) (ht : ∀ e ∈ es, e.2.2.size ≤ 1000) :
    Calls Try.prog 16 #[.slice A b.length c, v, .int .i64 t] W fun e w' => e = .returned (.tuple #[.int .i64 (place b es t).1, .int .i64 (place b es t).2]) ∧ Below W.heap.size W w' := by
  have HC := Lib.hid (And.intro hC hc)
  have HT := Lib.hid (fun h => tidy_ok (b := b) (es := es) h)
  have HA := Lib.hid (show place b es t = if (tidy b es).1 = 0 then (if t < 0 ∨ (b.length : Int) < t then (0, 2) else (plc t (tidy b es).2 0, 0)) else (0, (tidy b es).1) from rfl)
  have HE := Lib.hid hE
  have Ht := Lib.hid ht
  clear hC hc hE ht
  go_enter Try.func16, Try.ntmps16
  go_wp2_with fail
  refine (tidy_any A c b v es W HC.out.1 HC.out.2 HE.out hb).mono ?_
  rintro e w1 ⟨v1, rfl, ho1, hb1⟩
  have HO1 := Lib.hid (And.intro ho1 hb1)
  clear ho1 hb1
  generalize (tidy b es).2 = S at *
  generalize hkk : (tidy b es).1 = k at *
  have HK := Lib.hid hkk
  clear hkk
  by_cases hk : k = 0
  · subst hk
    obtain ⟨hS, hS1, _, _⟩ := HT.out rfl
    have HS := Lib.hid hS
    have hkl := kept_len b es
    have hsl := srtE_length (kept b es)
    have hmem : ∀ e ∈ S, e.2.2.size ≤ 1000 := fun e he => Ht.out e (List.mem_filter.1 (srtE_mem _ _ (hS1 ▸ he))).1
    rw [← hS1] at hsl
    have hS5 : S.length ≤ 500 := by omega
    have HM := Lib.hid hmem
    have HA2 := Lib.hid (show place b es t = if t < 0 ∨ (b.length : Int) < t then (0, 2) else (plc t S 0, 0) from by rw [HA.out, if_pos rfl])
    clear HT HA hS hS1 hmem HE Ht hkl hsl
    obtain ⟨A1, c1, rfl, hc1, hR⟩ := (EdR.own HO1.out.1).form
    have HR := Lib.hid hR
    clear hR
    by_cases g0 : t < 0
    · have hd0 : decide (t < 0) = true := decide_eq_true g0
      have HP := Lib.hid (show place b es t = (0, 2) from by rw [HA2.out, if_pos (.inl g0)])
      go_wp2_with fail
      go_ret2
      exact ⟨by rw [HP.out]; rfl, HO1.out.2⟩
    have hd0 : decide (t < 0) = false := decide_eq_false g0
    by_cases g1 : (b.length : Int) < t
    · have hd1 : decide ((b.length : Int) < t) = true := decide_eq_true g1
      have HP := Lib.hid (show place b es t = (0, 2) from by rw [HA2.out, if_pos (.inr g1)])
      go_wp2_with fail
      go_ret2
      exact ⟨by rw [HP.out]; rfl, HO1.out.2⟩
    have hd1 : decide ((b.length : Int) < t) = false := decide_eq_false g1
    have HP := Lib.hid (show place b es t = (plc t S 0, 0) from by rw [HA2.out, if_neg (by omega)])
    clear HA2
    go_upto_block 1 with fail
    go_wp2_with fail
    go_loopg [9, 33] S.length (fun gn mv iv wr => ∃ (i : Nat) (m : Int), iv = .int .i64 i ∧ mv = .int .i64 m ∧ i ≤ S.length ∧ -(100000 * (i : Int)) ≤ m ∧ m ≤ 1000 * (i : Int) ∧ Hid (Below w1.heap.size w1 wr ∧ plc t S 0 = plc t (S.drop i) m ∧ gn = S.length - i))
    case atStart => exact ⟨0, 0, rfl, rfl, Nat.zero_le _, by omega, by omega, Below.refl _ _, rfl, rfl⟩
    case round =>
    obtain ⟨i, m, rfl, rfl, hi, hm1, hm2, HQ⟩ := hrel
    by_cases hlt : i < S.length
    · have hdl : decide ((i : Int) < (S.length : Int)) = true := by simp; omega
      obtain ⟨gs, os, rfl, hgs, hcell⟩ := HR.out (by omega)
      have kp : ∀ j, j < 3 → wr.cell? ⟨gs, os + (i * 3 + j), none⟩ = (encE (S.getD i dE))[j]? := fun j hj => (HQ.out.1.cell (p := ⟨gs, os + (i * 3 + j), none⟩) hgs).trans (hcell i j hlt hj)
      have k0 := kp 0 (by omega)
      have k1 := kp 1 (by omega)
      have k2 := kp 2 (by omega)
      have q2 := (chk_iff _ _).1 (HS.out.rng i hlt)
      have q3 := HM.out _ (getD_memE S i hlt)
      have HD := Lib.hid (drop_getD S i hlt)
      have hx : ∃ x, S.getD i dE = x := ⟨_, rfl⟩
      obtain ⟨x, hx⟩ := hx
      rw [hx] at k0 k1 k2 q2 q3 HD
      obtain ⟨p, q, t0⟩ := x
      obtain ⟨q5, q6, q7⟩ := q2
      have q5 : 0 ≤ p := q5
      have q6 : 0 ≤ q := q6
      have q7 : p + q ≤ (b.length : Int) := q7
      have q3 : t0.size ≤ 1000 := q3
      have k0 : wr.cell? ⟨gs, os + i * 3, none⟩ = some (.int .i64 p) := k0
      have k1 : wr.cell? ⟨gs, os + i * 3 + 1, none⟩ = some (.int .i64 q) := k1
      have k2 : wr.cell? ⟨gs, os + i * 3 + 2, none⟩ = some (.string t0) := k2
      have HPc := Lib.hid (show plc t S 0 = if t < p ∨ (t = p ∧ 0 < q) then t + m else if t < p + q then p + m else plc t (S.drop (i + 1)) (m + ((t0.size : Int) - q)) from by rw [HQ.out.2.1, HD.out]; rfl)
      have HB := Lib.hid (below_alloc HQ.out.1 (.cells #[.int .i64 p, .int .i64 q, .string t0] 46))
      have HQn := Lib.hid HQ.out.2.2
      clear kp hcell hx HD HQ hgs
      by_cases g2 : t < p
      · have hd2 : decide (t < p) = true := decide_eq_true g2
        have HF := Lib.hid (show place b es t = (t + m, 0) from by rw [HP.out, HPc.out, if_pos (.inl g2)])
        go_wp2_with fail
        go_ret2
        exact ⟨by rw [HF.out]; go_num, below_step HO1.out.2 HB.out⟩
      have hd2 : decide (t < p) = false := decide_eq_false g2
      by_cases g3 : t = p
      · have hd3 : (t == p) = true := by rw [g3]; exact beq_self_eq_true p
        by_cases g4 : 0 < q
        · have hd4 : decide (0 < q) = true := decide_eq_true g4
          have HF := Lib.hid (show place b es t = (t + m, 0) from by rw [HP.out, HPc.out, if_pos (.inr ⟨g3, g4⟩)])
          clear g3
          go_wp2_with fail
          go_ret2
          exact ⟨by rw [HF.out]; go_num, below_step HO1.out.2 HB.out⟩
        · have hd4 : decide (0 < q) = false := decide_eq_false g4
          have hd5 : decide (t < p + q) = false := decide_eq_false (by omega)
          have HF := Lib.hid (show plc t S 0 = plc t (S.drop (i + 1)) (m + ((t0.size : Int) - q)) from by rw [HPc.out, if_neg (by omega), if_neg (by omega)])
          clear g3
          go_wp2_with fail
          go_roundg (S.length - (i + 1))
          case measure => have := HQn.out; omega
          case rel => exact ⟨i + 1, m + ((t0.size : Int) - q), by go_num, by go_num, by omega, by omega, by omega, HB.out, HF.out, rfl⟩
      · have hd3 : (t == p) = false := by rw [beq_eq_false_iff_ne]; exact g3
        by_cases g4 : t < p + q
        · have hd4 : decide (t < p + q) = true := decide_eq_true g4
          have HF := Lib.hid (show place b es t = (p + m, 0) from by rw [HP.out, HPc.out, if_neg (by omega), if_pos g4])
          go_wp2_with fail
          go_ret2
          exact ⟨by rw [HF.out]; go_num, below_step HO1.out.2 HB.out⟩
        · have hd4 : decide (t < p + q) = false := decide_eq_false g4
          have HF := Lib.hid (show plc t S 0 = plc t (S.drop (i + 1)) (m + ((t0.size : Int) - q)) from by rw [HPc.out, if_neg (by omega), if_neg (by omega)])
          go_wp2_with fail
          go_roundg (S.length - (i + 1))
          case measure => have := HQn.out; omega
          case rel => exact ⟨i + 1, m + ((t0.size : Int) - q), by go_num, by go_num, by omega, by omega, by omega, HB.out, HF.out, rfl⟩
    · obtain rfl : i = S.length := by omega
      have hdl : decide ((S.length : Int) < (S.length : Int)) = false := by simp
      have HF := Lib.hid (show place b es t = (t + m, 0) from by rw [HP.out, HQ.out.2.1, List.drop_length]; rfl)
      go_wp2_with fail
      go_ret2
      exact ⟨by rw [HF.out]; go_num, below_step HO1.out.2 HQ.out.1⟩
  · have hk0 : (k != 0) = true := by simp [hk]
    have HF := Lib.hid (show place b es t = (0, k) from by rw [HA.out, if_neg hk])
    go_wp2_with fail
    go_ret2
    exact ⟨by rw [HF.out]; rfl, HO1.out.2⟩
end Go.Proofs.Ytgcjkijndibejaa.Srt
