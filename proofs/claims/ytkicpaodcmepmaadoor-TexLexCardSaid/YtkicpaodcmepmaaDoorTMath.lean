/- math, walked. Conditions: as each lemma says. -/
import Derived.Test.YtkicpaodcmepmaaDoorTDoc
import Derived.Test.YtkicpaodcmepmaaDoorPletterx1
set_option linter.unusedVariables false
set_option linter.unusedSimpArgs false
namespace Go.Proofs.YtkicpaodcmepmaaDoor.T
open Go.RowKit Go.Proofs.YtkicpaodcmepmaaDoorW.PrintWords Go.Proofs.YtkicpaodcmepmaaDoor.L Go.Proofs.YtkicpaodcmepmaaDoor.S Go.Proofs.YtkicpaodcmepmaaDoor.Tex Go.Proofs.YtkicpaodcmepmaaDoor.Pletter

theorem letter_f (x : Int) : tex_letter.f x = some (ltr x) := by
  unfold tex_letter.f ltr
  by_cases h1 : 97 ≤ x
  · rw [if_pos h1]
    by_cases h2 : x ≤ 122
    · rw [if_pos h2]; simp [h1, h2]
    · rw [if_neg h2]
      by_cases h3 : 65 ≤ x
      · rw [if_pos h3]; simp [h1, h2, h3]
      · omega
  · rw [if_neg h1]
    by_cases h3 : 65 ≤ x
    · rw [if_pos h3]; simp [h1, h3]
    · rw [if_neg h3]; simp [h1, h3]
theorem letter_any (x : Int) (w : World) :
    Calls Tryd.prog 38 #[.int .u8 x] w fun e w' => e = .returned (.bool (ltr x)) ∧ Below w.heap.size w w' :=
  (tex_letter.calls x _ w (letter_f x)).mono fun _ _ h => ⟨h.1, h.2.below⟩
theorem mathN_step (b m : List Int) (n k : Nat) (hk : k < b.length) : mathN b m (n + 1) k = if b.getD k 0 = 92 then mathN b m n (k + 2) else if begs b k m then k + m.length else mathN b m n (k + 1) := by
  conv => lhs; unfold mathN
  rw [if_pos hk]
theorem mathN_out (b m : List Int) (n k : Nat) (hk : b.length ≤ k) : mathN b m n k = b.length := by
  cases n with
  | zero => rfl
  | succ n => unfold mathN; rw [if_neg (by omega)]
theorem math_mark (b : List Int) (p : Nat) : ∃ M : ByteArray, bytesOf M = mathM b p ∧ M.size = (mathM b p).length ∧ ((b[p + 1]? = some 36 → M = ⟨#[36, 36]⟩) ∧ (b[p + 1]? ≠ some 36 → M = ⟨#[36]⟩)) := by
  unfold mathM
  split
  · exact ⟨⟨#[36, 36]⟩, by decide, rfl, fun _ => rfl, fun h => by contradiction⟩
  · exact ⟨⟨#[36]⟩, by decide, rfl, fun h => by contradiction, fun _ => rfl⟩
set_option maxHeartbeats 2000000 in
theorem math_any (E : Env) (W : World) (L : List Int) (p : Nat) (h : E.In W L) (hp : p < E.b.length) :
    Calls Tryd.prog 27 #[.pointer (some ⟨E.d, 0, none⟩), .int .i64 p] W fun e w' => e = .returned (.int .i64 (mathE E.b p : Nat)) ∧ E.In w' L ∧ Below W.heap.size W w' := by
  obtain ⟨M, hM, hMs, hM1, hM2⟩ := math_mark E.b p
  obtain ⟨g1, g2, g3, g4⟩ := mathM_len E.b p
  have g4 := g4 hp
  have hcap := h.ok.cap
  have hmax := h.ok.max
  have HM := Lib.hid (And.intro hM (And.intro hM1 hM2))
  have HE : Hid (mathN E.b (mathM E.b p) E.b.length (p + (mathM E.b p).length) = mathE E.b p) := Lib.hid rfl
  have HH := Lib.hid h
  have c1 := h.c1
  have HN : E.b[p + 1]? = some 36 ∨ E.b[p + 1]? ≠ some 36 := Classical.em _
  generalize hm : mathM E.b p = m at *
  rw [← hMs] at g1 g2 g4
  have kc := fun W => print_bytes (P := Tryd.prog) 9 22 5 Tryd.underlying9 Tryd.underlying22 Tryd.underlying5 M W
  have HS := Lib.hid hMs
  clear hM hM1 hM2 h hMs hm g3
  go_enter Tryd.func27, Tryd.ntmps27
  go_upto_region 2 with fail
  go_cut [24] (fun v wx => v = .bool (E.b[p + 1]? == some 36) ∧ Hid (E.In wx L ∧ Below W.heap.size W wx))
  case first =>
    by_cases hlt : p + 1 < E.b.length
    · have hd : decide ((p : Int) + 1 < (E.b.length : Int)) = true := by simp; omega
      have k0 := HH.out.at_ (p + 1) hlt
      have hx : E.b[p + 1]? = some (E.b.getD (p + 1) 0) := by rw [List.getD_eq_getElem?_getD, List.getElem?_eq_getElem hlt]; rfl
      rw [hx] at HN
      have HX := Lib.hid hx
      clear hx HN
      generalize E.b.getD (p + 1) 0 = x at *
      have HX2 := Lib.hid (show (E.b[p + 1]? == some 36) = (x == 36) from by rw [HX.out]; rfl)
      go_wp2_with fail
      go_meet
      exact ⟨by rw [HX2.out], HH.out, Below.refl _ _⟩
    · have hd : decide ((p : Int) + 1 < (E.b.length : Int)) = false := by simp; omega
      have HX2 := Lib.hid (show (E.b[p + 1]? == some 36) = false from by rw [List.getElem?_eq_none (by omega)]; rfl)
      clear HN
      go_wp2_with fail
      go_meet
      exact ⟨by rw [HX2.out], HH.out, Below.refl _ _⟩
  case rest =>
  obtain ⟨rfl, HW0⟩ := hcut
  clear c1 HH
  have HBd : Hid ((E.b[p + 1]? == some 36) = true → M = ⟨#[36, 36]⟩) := Lib.hid (fun h => HM.out.2.1 (eq_of_beq h))
  have HBe : Hid ((E.b[p + 1]? == some 36) = false → M = ⟨#[36]⟩) := Lib.hid (fun h => HM.out.2.2 (by simpa using h))
  generalize (E.b[p + 1]? == some 36) = B at *
  go_upto_if 24 with fail
  go_cut [5] (fun v wx => v = .string M ∧ Hid (E.In wx L ∧ Below W.heap.size W wx))
  case first =>
    cases B with
    | true =>
      have HE2 := Lib.hid (HBd.out rfl)
      go_wp2_with fail
      go_meet
      exact ⟨by rw [HE2.out], HW0.out.1, HW0.out.2⟩
    | false =>
      have HE2 := Lib.hid (HBe.out rfl)
      go_wp2_with fail
      go_meet
      exact ⟨by rw [HE2.out], HW0.out.1, HW0.out.2⟩
  case rest =>
    obtain ⟨rfl, HW⟩ := hcut
    clear HN HW0 HBd HBe
    have c1 := HW.out.1.c1
    go_upto_block 0 with fail
    go_wp2_with fail
    go_loopg [1] E.b.length (fun gn pv wr => ∃ k : Nat, pv = .int .i64 k ∧ k ≤ E.b.length + 1 ∧ Hid (E.In wr L ∧ Below W.heap.size W wr ∧ mathN E.b m gn k = mathE E.b p ∧ E.b.length ≤ k + gn))
    case atStart => exact ⟨p + M.size, by go_num, by omega, HW.out.1, HW.out.2, by rw [HS.out]; exact HE.out, by omega⟩
    case round =>
      obtain ⟨k, rfl, hk, HQ⟩ := hrel
      clear HW c1 HE
      by_cases hlt : k < E.b.length
      · have hd : decide ((k : Int) < (E.b.length : Int)) = true := by simp; omega
        obtain ⟨n, rfl⟩ : ∃ n, gk = n + 1 := ⟨gk - 1, by have := HQ.out.2.2.2; omega⟩
        have c1 := HQ.out.1.c1
        have k0 := HQ.out.1.at_ k hlt
        have HT := Lib.hid ((mathN_step E.b m n k hlt).symm.trans HQ.out.2.2.1)
        generalize hx : E.b.getD k 0 = x at *
        by_cases h92 : x = 92
        · subst h92
          have HT2 := Lib.hid (show mathN E.b m n (k + 2) = mathE E.b p from by have := HT.out; rwa [if_pos rfl] at this)
          go_wp2_with fail
          go_roundg n
          case measure => omega
          case rel => exact ⟨k + 2, by go_num, by omega, HQ.out.1, HQ.out.2.1, HT2.out, by have := HQ.out.2.2.2; omega⟩
        · have hb : (x == 92) = false := by simp [h92]
          have HT2 := Lib.hid (show (if begs E.b k m = true then k + m.length else mathN E.b m n (k + 1)) = mathE E.b p from by have := HT.out; rwa [if_neg h92] at this)
          obtain ⟨i0, hi0, _, hsz, _⟩ := info_parts info5
          have hct := cut_from (P := Tryd.prog) 22 5 .i64 Tryd.underlying22 hi0 1 hsz (some (⟨E.bl, E.of, none⟩ : Addr)) E.b.length E.c (k : Int) (by omega) (by omega)
          simp only [Int.toNat_natCast, Option.map_some] at hct
          generalize hA2 : (if E.c = k then some (⟨E.bl, E.of, none⟩ : Addr) else some ((⟨E.bl, E.of, none⟩ : Addr).add (k * 1))) = A2 at hct
          have HBB := Lib.hid (show Below wr.heap.size wr (Lib.bytesWorld wr 5 M) from bytes_below (Below.refl _ _) (Nat.le_refl _) _ _)
          have HC := Lib.hid ((HQ.out.1.below HBB.out).from_ k (by omega) A2 hA2)
          have HZ := Lib.hid (show Kd.C (Kd.int .u8) (Lib.bytesWorld wr 5 M) (some ⟨wr.heap.size, 0, none⟩) M.size (bytesOf M) from Kd.C_of_reads (d := 0) (h1 := fun _ => rfl) (bytes_reads wr 5 M (by omega)))
          have HY := Lib.hid (And.intro (HQ.out.1.ok.bys.drop k) (Bys.of M))
          have HP := Lib.hid (show (bytesOf M).isPrefixOf (E.b.drop k) = begs E.b k m from by rw [HM.out.1]; rfl)
          have hnle : E.b.length - k ≤ E.c - k := by omega
          clear hA2 hi0 hsz hx HT h92
          go_wp2_with fail
          refine (has_any _ _ _ _ _ _ (E.b.drop k) (bytesOf M) _ HC.out hnle HZ.out HY.out.1 HY.out.2).mono ?_
          rintro e w' ⟨rfl, rfl⟩
          rw [HP.out]
          have HW2 := Lib.hid (And.intro (HQ.out.1.below HBB.out) (below_step HQ.out.2.1 HBB.out))
          have HG := Lib.hid HQ.out.2.2.2
          clear HQ HC HZ HBB HP kc
          cases hbg : begs E.b k m with
          | true =>
            have HT3 := Lib.hid (show k + m.length = mathE E.b p from by have := HT2.out; rwa [if_pos hbg] at this)
            clear HT2 hbg
            go_wp2_with fail
            go_ret
            refine ⟨?_, HW2.out.1, HW2.out.2⟩
            rw [← HT3.out, ← HS.out]
            first | rfl | (simp; done)
          | false =>
            have HT3 := Lib.hid (show mathN E.b m n (k + 1) = mathE E.b p from by have := HT2.out; rwa [if_neg (by rw [hbg]; simp)] at this)
            clear HT2 hbg
            go_wp2_with fail
            go_roundg n
            case measure => omega
            case rel => exact ⟨k + 1, by go_num, by omega, HW2.out.1, HW2.out.2, HT3.out, by have := HG.out; omega⟩
      · have hd : decide ((k : Int) < (E.b.length : Int)) = false := by simp; omega
        have c1 := HQ.out.1.c1
        have HT := Lib.hid ((mathN_out E.b m gk k (by omega)).symm.trans HQ.out.2.2.1)
        go_wp2_with fail
        go_ret
        exact ⟨by rw [← HT.out]; rfl, HQ.out.1, HQ.out.2.1⟩
end Go.Proofs.YtkicpaodcmepmaaDoor.T
