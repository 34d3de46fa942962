/- next, Lex, walked: what the bytes of TeX are. Conditions: as each lemma says. -/
import Derived.Test.YtkicpaodcmepmaaDoorTCmd
set_option linter.unusedVariables false
set_option linter.unusedSimpArgs false
namespace Go.Proofs.YtkicpaodcmepmaaDoor.T
open Go.RowKit Go.Proofs.YtkicpaodcmepmaaDoorW.PrintWords Go.Proofs.YtkicpaodcmepmaaDoor.L Go.Proofs.YtkicpaodcmepmaaDoor.S Go.Proofs.YtkicpaodcmepmaaDoor.Tex

section
variable (b : List Int) (p : Nat) (L : List Int)
theorem step_rem (h : b.getD p 0 = 37) : Tex.step b p L = (lineE b p, setL L 3 (p : Int) (lineE b p : Int)) := by unfold Tex.step; rw [if_pos h]
theorem step_cmd (h : b.getD p 0 = 92) : Tex.step b p L = cmd b p L := by unfold Tex.step; rw [if_neg (by omega), if_pos h]
theorem step_mth (h : b.getD p 0 = 36) : Tex.step b p L = (mathE b p, setL L 4 (p : Int) (mathE b p : Int)) := by unfold Tex.step; rw [if_neg (by omega), if_neg (by omega), if_pos h]
theorem step_mrk (h1 : b.getD p 0 ≠ 37) (h2 : b.getD p 0 ≠ 92) (h3 : b.getD p 0 ≠ 36) (h : isMk (b.getD p 0) = true) : Tex.step b p L = (p + 1, setL L 2 (p : Int) ((p + 1 : Nat) : Int)) := by unfold Tex.step; rw [if_neg h1, if_neg h2, if_neg h3, if_pos h]
theorem step_txt (h1 : b.getD p 0 ≠ 37) (h2 : b.getD p 0 ≠ 92) (h3 : b.getD p 0 ≠ 36) (h : isMk (b.getD p 0) = false) : Tex.step b p L = (p + 1, L) := by unfold Tex.step; rw [if_neg h1, if_neg h2, if_neg h3, if_neg (by rw [h]; simp)]
end
set_option maxHeartbeats 2000000 in
theorem next_any (E : Env) (W : World) (L : List Int) (p : Nat) (h : E.In W L) (hp : p < E.b.length) :
    Calls Tryd.prog 19 #[.pointer (some ⟨E.d, 0, none⟩), .int .i64 p] W fun e w' => e = .returned (.int .i64 ((Tex.step E.b p L).1 : Nat)) ∧ E.In w' (Tex.step E.b p L).2 := by
  have hmax := h.ok.max
  have hcap := h.ok.cap
  have c1 := h.c1
  have HH := Lib.hid h
  have k0 := h.at_ p hp
  have HE1 := Lib.hid (step_rem E.b p L)
  have HE2 := Lib.hid (step_cmd E.b p L)
  have HE3 := Lib.hid (step_mth E.b p L)
  have HE4 := Lib.hid (step_mrk E.b p L)
  have HE5 := Lib.hid (step_txt E.b p L)
  clear h
  generalize E.b.getD p 0 = x at *
  go_enter Tryd.func19, Tryd.ntmps19
  by_cases h37 : x = 37
  · subst h37
    have HE := Lib.hid (HE1.out rfl)
    clear HE1 HE2 HE3 HE4 HE5
    go_wp2_with fail
    refine (line_any E _ L p HH.out (by omega)).mono ?_
    rintro e w1 ⟨rfl, rfl⟩
    go_wp2_with fail
    refine (dset_any E _ L 3 _ _ HH.out).mono ?_
    rintro e w2 ⟨rfl, h2⟩
    have H2 := Lib.hid h2
    clear h2
    go_wp2_with fail
    go_ret
    exact ⟨by rw [HE.out]; rfl, by rw [HE.out]; exact H2.out⟩
  have hb1 : (x == 37) = false := by simp [h37]
  by_cases h92 : x = 92
  · subst h92
    have HE := Lib.hid (HE2.out rfl)
    clear HE1 HE2 HE3 HE4 HE5 h37
    go_wp2_with fail
    refine (command_any E _ L p HH.out hp).mono ?_
    rintro e w2 ⟨rfl, h2⟩
    have H2 := Lib.hid h2
    clear h2
    go_wp2_with fail
    go_ret
    exact ⟨by rw [HE.out]; rfl, by rw [HE.out]; exact H2.out⟩
  have hb2 : (x == 92) = false := by simp [h92]
  by_cases h36 : x = 36
  · subst h36
    have HE := Lib.hid (HE3.out rfl)
    clear HE1 HE2 HE3 HE4 HE5 h37 h92
    go_wp2_with fail
    refine (math_any E _ L p HH.out hp).mono ?_
    rintro e w1 ⟨rfl, h1, _⟩
    have H1 := Lib.hid h1
    clear h1
    go_wp2_with fail
    refine (dset_any E _ L 4 _ _ H1.out).mono ?_
    rintro e w2 ⟨rfl, h2⟩
    have H2 := Lib.hid h2
    clear h2
    go_wp2_with fail
    go_ret
    exact ⟨by rw [HE.out]; rfl, by rw [HE.out]; exact H2.out⟩
  have hb3 : (x == 36) = false := by simp [h36]
  cases hm : isMk x with
  | true =>
    have HE := Lib.hid (HE4.out h37 h92 h36 hm)
    have hmm : x = 123 ∨ x = 125 ∨ x = 126 ∨ x = 38 ∨ x = 35 ∨ x = 94 ∨ x = 95 := by simpa [isMk] using hm
    clear HE1 HE2 HE3 HE4 HE5 h37 h92 h36 hm
    rcases hmm with rfl | rfl | rfl | rfl | rfl | rfl | rfl
    all_goals
      go_wp2_with fail
      refine (dset_any E _ L 2 _ _ HH.out).mono ?_
      rintro e w2 ⟨rfl, h2⟩
      have H2 := Lib.hid h2
      clear h2
      go_wp2_with fail
      go_ret
      exact ⟨by rw [HE.out]; rfl, by rw [HE.out]; exact H2.out⟩
  | false =>
    have HE := Lib.hid (HE5.out h37 h92 h36 hm)
    have hmm : (x == 123) = false ∧ (x == 125) = false ∧ (x == 126) = false ∧ (x == 38) = false ∧ (x == 35) = false ∧ (x == 94) = false ∧ (x == 95) = false := by simpa [isMk] using hm
    obtain ⟨m1, m2, m3, m4, m5, m6, m7⟩ := hmm
    clear HE1 HE2 HE3 HE4 HE5 h37 h92 h36 hm
    go_wp2_with fail
    go_ret
    exact ⟨by rw [HE.out]; rfl, by rw [HE.out]; exact HH.out⟩
set_option maxHeartbeats 2000000 in
theorem lex_any (A : Option Addr) (n c : Nat) (b : List Int) (W : World) (a1 a2 : Option Addr) (c1 c2 : Nat) (hT : Tb W a1 a2 c1 c2) (hC : Kd.C (Kd.int .u8) W A n b) (hc : n ≤ c) (hb : Bys b) (hm : n ≤ 65536) :
    Calls Tryd.prog 10 #[.slice A n c] W fun e w' => ∃ g k, e = .returned (.tuple #[.pointer (some ⟨g, 0, none⟩), .int .i64 0]) ∧ Sheet w' g k (lexL b) ∧ Below W.heap.size W w' ∧ W.heap.size ≤ g ∧ W.heap.size ≤ k := by
  obtain rfl := hC.1
  have HC := Lib.hid (And.intro hC (And.intro hb hT))
  clear hC hb hT
  go_enter Tryd.func10, Tryd.ntmps10
  go_wp2_with fail
  refine (new_yes b.length _ hm).mono ?_
  rintro e w1 ⟨g, k, rfl, hs, hb1, hg, hk⟩
  have HS := Lib.hid (And.intro hs hb1)
  clear hs hb1
  by_cases hz : b.length = 0
  · have HL := Lib.hid (show lexL b = List.replicate b.length 1 from by unfold lexL; rw [hz]; rfl)
    have hd : decide (((0 : Nat) : Int) < (b.length : Int)) = false := decide_eq_false (by omega)
    have hd2 : decide ((0 : Int) < (b.length : Int)) = false := decide_eq_false (by omega)
    have hd3 : decide (0 < b.length) = false := decide_eq_false (by omega)
    clear hz
    go_upto_block 0 with fail
    have HS2 := Lib.hid (show Sheet (w1.alloc (Obj.cells #[Value.pointer (some ⟨g, 0, none⟩), Value.slice A b.length c] 48 (0, 0))) g k (lexL b) ∧ Below W.heap.size W (w1.alloc (Obj.cells #[Value.pointer (some ⟨g, 0, none⟩), Value.slice A b.length c] 48 (0, 0))) from ⟨by rw [HL.out]; exact HS.out.1.alloc _, below_alloc HS.out.2 _⟩)
    clear HS HL
    generalize w1.alloc (Obj.cells #[Value.pointer (some ⟨g, 0, none⟩), Value.slice A b.length c] 48 (0, 0)) = w2 at *
    go_wp2_with fail
    go_loopg [8] 0 (fun gn pv wr => pv = .int .i64 (0 : Nat) ∧ Hid (wr = w2))
    case atStart => exact ⟨rfl, rfl⟩
    case round =>
      obtain ⟨rfl, HQ⟩ := hrel
      obtain rfl := HQ.out
      clear HQ
      go_wp2_with fail
      go_ret2
      exact ⟨g, k, rfl, HS2.out.1, HS2.out.2, hg, hk⟩
  obtain ⟨ad, rfl, h0⟩ := Kd.at_int HC.out.1 0 (by omega) (by omega)
  obtain ⟨bl, of, sp⟩ := ad
  obtain rfl : sp = none := by
    have := Lib.plain_of_cell (show W.cell? ⟨bl, of, sp⟩ = _ from by simpa [Addr.add] using h0)
    injection this
  clear h0
  go_upto_block 0 with fail
  have hgd : W.heap.size ≤ w1.heap.size := HS.out.2.size
  have HI := Lib.hid (show (Env.mk bl of a1 a2 c c1 c2 b w1.heap.size g k W).In (w1.alloc (Obj.cells #[Value.pointer (some ⟨g, 0, none⟩), Value.slice (some ⟨bl, of, none⟩) b.length c] 48 (0, 0))) (List.replicate b.length 1) from
    ⟨⟨HC.out.1, hc, hm, HC.out.2.1, hk, hg, hgd, HC.out.2.2⟩, heap_alloc_new w1 _, HS.out.1.alloc _, below_alloc HS.out.2 _, by simp⟩)
  clear HS HC hgd
  generalize w1.alloc (Obj.cells #[Value.pointer (some ⟨g, 0, none⟩), Value.slice (some ⟨bl, of, none⟩) b.length c] 48 (0, 0)) = w2 at *
  generalize w1.heap.size = d at *
  go_wp2_with fail
  go_loopg [8] b.length (fun gn pv wr => ∃ (p : Nat) (L : List Int), pv = .int .i64 p ∧ p ≤ b.length ∧ Hid ((Env.mk bl of a1 a2 c c1 c2 b d g k W).In wr L ∧ lexN b gn p L = lexL b ∧ b.length ≤ p + gn))
  case atStart => exact ⟨0, _, rfl, Nat.zero_le _, HI.out, rfl, by omega⟩
  case round =>
    obtain ⟨p, L, rfl, hp, HQ⟩ := hrel
    clear HI
    by_cases hlt : p < b.length
    · have hd : decide ((p : Int) < (b.length : Int)) = true := by simp; omega
      obtain ⟨m, rfl⟩ : ∃ m, gk = m + 1 := ⟨gk - 1, by have := HQ.out.2.2; omega⟩
      have HN := Lib.hid (lexN_step b m p L HQ.out.2.1 hlt)
      have hok := step_ok b p L hlt HQ.out.1.len
      go_wp2_with fail
      refine (next_any (Env.mk bl of a1 a2 c c1 c2 b d g k W) _ L p HQ.out.1 hlt).mono ?_
      rintro e w3 ⟨rfl, h3⟩
      have H3 := Lib.hid h3
      have HG := Lib.hid HQ.out.2.2
      clear h3 HQ
      go_wp2_with fail
      go_roundg m
      case measure => omega
      case rel => exact ⟨_, _, rfl, hok.2.1, H3.out, HN.out, by have := HG.out; omega⟩
    · obtain rfl : p = b.length := by omega
      have hd : decide ((b.length : Int) < (b.length : Int)) = false := by simp
      have HL := Lib.hid (lexN_end b gk L HQ.out.2.1)
      go_wp2_with fail
      go_ret2
      exact ⟨g, k, rfl, by rw [← HL.out]; exact HQ.out.1.sheet, HQ.out.1.bel, hg, hk⟩
end Go.Proofs.YtkicpaodcmepmaaDoor.T
