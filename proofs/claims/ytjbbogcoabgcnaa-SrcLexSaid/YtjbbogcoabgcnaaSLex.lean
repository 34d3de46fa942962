/- src.Lex, walked: a sheet of the labels that the plain law tells. Conditions: none but those that stand there. -/
import Derived.Test.YtjbbogcoabgcnaaSNextW
import Derived.Test.YtjbbogcoabgcnaaPofx1
set_option linter.unusedVariables false
set_option linter.unusedSimpArgs false
namespace Go.Proofs.Ytjbbogcoabgcnaa.S
open Go.RowKit Go.Proofs.YtjbbogcoabgcnaaW.PrintWords Go.Proofs.Ytjbbogcoabgcnaa.L Go.Proofs.Ytjbbogcoabgcnaa.Src

structure Fb.Ok (F : Fb) : Prop where
  mo : F.opn.size ≤ 3
  ms : F.shut.size ≤ 3
  ml : ∀ m ∈ F.line, m.size ≤ 3
  mt : ∀ t ∈ F.texts, t.f0.size ≤ 3
  ln : 0 < F.line.length
  tn : 0 < F.texts.length
  mxl : F.line.length ≤ 9
  mxt : F.texts.length ≤ 9

/-- How far a program is read. -/
structure LX (E : Env) (W : World) (X : List Int) : Prop where
  le : X.length ≤ E.b.length
  eq : X ++ lexF E.F.fam (prv E.b X.length) (E.b.drop X.length) = lexF E.F.fam (-1) E.b
  i : E.In W (X ++ List.replicate (E.b.length - X.length) 4)
theorem M_len (E : Env) (at_ : Nat) (h : at_ < E.b.length) : 1 ≤ (M_ E at_).length ∧ at_ + (M_ E at_).length ≤ E.b.length := by
  unfold M_
  rw [drop_at _ _ h]
  have h1 := stp_pos E.F.fam (prv E.b at_) (E.b.getD at_ 0) (E.b.drop (at_ + 1))
  have h2 := stp_le E.F.fam (prv E.b at_) (E.b.getD at_ 0) (E.b.drop (at_ + 1))
  rw [List.length_drop] at h2
  omega
theorem LX.code {E : Env} {W : World} {X : List Int} (h : LX E W X) : ∀ i, X.length ≤ i → i < E.b.length → (X ++ List.replicate (E.b.length - X.length) (4 : Int))[i]? = some 4 := by
  intro i h1 h2
  rw [List.getElem?_append_right h1, List.getElem?_replicate, if_pos (by omega)]
theorem LX.step {E : Env} {W W' : World} {X : List Int} (h : LX E W X) (hlt : X.length < E.b.length) (h' : E.In W' (ov (X ++ List.replicate (E.b.length - X.length) 4) X.length (M_ E X.length))) : LX E W' (X ++ M_ E X.length) := by
  have hM := M_len E X.length hlt
  rw [ov_code _ _ _ (by omega)] at h'
  refine ⟨by rw [List.length_append]; omega, ?_, ?_⟩
  · have e := h.eq
    rw [drop_at _ _ hlt, lexF_cons, ← drop_at _ _ hlt, List.drop_drop] at e
    rw [← e, List.append_assoc]
    have e1 : stp E.F.fam (prv E.b X.length) (E.b.drop X.length) = M_ E X.length := rfl
    rw [e1, List.length_append]
    congr 3
    unfold prv
    rw [if_neg (by omega)]
    rw [List.getD_eq_getElem?_getD, List.getD_eq_getElem?_getD, List.getElem?_drop]
    congr 2
    omega
  · have e : E.b.length - (X ++ M_ E X.length).length = E.b.length - X.length - (M_ E X.length).length := by rw [List.length_append]; omega
    rw [e]
    exact h'
theorem LX.end_ {E : Env} {W : World} {X : List Int} (h : LX E W X) (hl : X.length = E.b.length) : Sheet W E.g E.k (lexF E.F.fam (-1) E.b) ∧ Below E.w0.heap.size E.w0 W := by
  have e := h.eq
  have hi := h.i
  rw [hl, List.drop_length, lexF_nil, List.append_nil] at e
  rw [hl, Nat.sub_self, List.replicate_zero, List.append_nil, e] at hi
  exact ⟨hi.sheet, hi.bel⟩

theorem lex_no (f : Int) (A : Option Addr) (n c : Nat) (w : World) (hf : f < 4 ∨ 8 < f) :
    Calls Try.prog 12 #[.int .u8 f, .slice A n c] w fun e w' => e = .returned (.tuple #[.pointer none, .int .i64 2]) ∧ Below w.heap.size w w' := by
  have hof : Pof.src_of.f f = some (([] : List ByteArray), (⟨#[]⟩ : ByteArray), (⟨#[]⟩ : ByteArray), false, false, ([] : List Tb), false) := by
    unfold Pof.src_of.f
    rw [if_neg (by omega), if_neg (by omega), if_neg (by omega), if_neg (by omega), if_neg (by omega)]
  have HC := Lib.hid (Pof.src_of.calls f _ _ _ _ _ _ _ w hof)
  clear hof
  go_enter Try.func12, Try.ntmps12
  go_wp2_with fail
  refine HC.out.mono ?_
  rintro e w1 ⟨v0, v5, rfl, h0, h5, hb⟩
  obtain ⟨A1, c1, rfl, _, _⟩ := Kd.R_reads h0
  obtain ⟨A6, c6, rfl, _, _⟩ := Kd.R_reads h5
  have HB := Lib.hid hb
  clear hb HC h0 h5
  go_wp2_with fail
  go_ret2
  exact ⟨rfl, below_alloc HB.out _⟩

set_option maxRecDepth 100000 in
set_option maxHeartbeats 2000000 in
theorem lex_yes (f : Int) (F : Fb) (A : Option Addr) (c : Nat) (b : List Int) (w : World) (hof : Pof.src_of.f f = some (F.line, F.opn, F.shut, F.nest, F.apart, F.texts, true)) (hF : F.Ok) (hC : Kd.C (Kd.int .u8) w A b.length b) (hc : b.length ≤ c) (hb : Bys b) (hm : b.length ≤ 65536) :
    Calls Try.prog 12 #[.int .u8 f, .slice A b.length c] w fun e w' => ∃ g k, e = .returned (.tuple #[.pointer (some ⟨g, 0, none⟩), .int .i64 0]) ∧ Sheet w' g k (lexF F.fam (-1) b) ∧ Below w.heap.size w w' ∧ w.heap.size ≤ g ∧ w.heap.size ≤ k := by
  have HC := Lib.hid (Pof.src_of.calls f _ _ _ _ _ _ _ w hof)
  have HBy := Lib.hid (And.intro hC hb)
  have HF := Lib.hid hF
  clear hof hC hb hF
  go_enter Try.func12, Try.ntmps12
  go_wp2_with fail
  refine HC.out.mono ?_
  rintro e w1 ⟨v0, v5, rfl, h0, h5, hb1⟩
  obtain ⟨A1, c1, rfl, _, hC1⟩ := Kd.R_reads h0
  obtain ⟨A6, c6, rfl, _, hC6⟩ := Kd.R_reads h5
  have H1 := Lib.hid (And.intro hC1 (And.intro hC6 hb1))
  clear h0 h5 hC1 hC6 hb1 HC
  have HW1 := Lib.hid (blk_new w1 (.cells #[.slice A1 F.line.length c1, .string F.opn, .string F.shut, .bool F.nest, .bool F.apart, .slice A6 F.texts.length c6] 53 (0, 0)))
  go_wp2_with fail
  refine (new_yes b.length _ hm).mono ?_
  rintro e w2 ⟨g, k, rfl, hs, hb2, hg, hk⟩
  have HS := Lib.hid hs
  have HB2 := Lib.hid (below_step (below_alloc (Below.refl w1.heap.size w1) (.cells #[.slice A1 F.line.length c1, .string F.opn, .string F.shut, .bool F.nest, .bool F.apart, .slice A6 F.texts.length c6] 53 (0, 0))) hb2)
  have HF2 := Lib.hid (blk_below HW1.out hb2)
  have hz : (w1.alloc (.cells #[.slice A1 F.line.length c1, .string F.opn, .string F.shut, .bool F.nest, .bool F.apart, .slice A6 F.texts.length c6] 53 (0, 0))).heap.size = w1.heap.size + 1 := by simp
  rw [hz] at hg hk
  have hkf : k ≠ w1.heap.size := by omega
  have hk1 : w1.heap.size ≤ k := by omega
  have hg1 : w1.heap.size ≤ g := by omega
  clear hs hb2 hz hg hk HW1
  go_wp2_with fail
  refine (set_any g k (List.replicate b.length 1) 4 0 b.length _ HS.out).mono ?_
  rintro e w3 ⟨rfl, hs3, hg3⟩
  have e1 : setL (List.replicate b.length 1) 4 0 (b.length : Int) = List.replicate b.length 4 := by
    apply List.ext_getElem?
    intro i
    rw [setL_get, List.getElem?_replicate, List.getElem?_replicate]
    by_cases h : i < b.length
    · simp [h]
    · simp [h]
  rw [e1] at hs3
  have HS3 := Lib.hid hs3
  have HF3 := Lib.hid (blk_grown HF2.out hg3 (by intro e; injection e with e; exact hkf e.symm))
  have HB3 := Lib.hid (below_grown HB2.out hk1 hg3)
  have f0 := (blk_cell HF3.out 0).trans (show _ = some (Value.slice A1 F.line.length c1) from rfl)
  have f1 := (blk_cell HF3.out 1).trans (show _ = some (Value.string F.opn) from rfl)
  have f2 := (blk_cell HF3.out 2).trans (show _ = some (Value.string F.shut) from rfl)
  have f3 := (blk_cell HF3.out 3).trans (show _ = some (Value.bool F.nest) from rfl)
  have f4 := (blk_cell HF3.out 4).trans (show _ = some (Value.bool F.apart) from rfl)
  have f5 := (blk_cell HF3.out 5).trans (show _ = some (Value.slice A6 F.texts.length c6) from rfl)
  clear hs3 hg3 e1 HS HF2 HB2
  go_wp2_with fail
  clear f0 f1 f2 f3 f4 f5
  obtain ⟨E, hE⟩ : ∃ E : Env, E = ⟨F, A1, A6, A, c1, c6, c, b, w3.heap.size, g, k, w1⟩ := ⟨_, rfl⟩
  have hw3 : w1.heap.size ≤ w3.heap.size := HB3.out.size
  have hEok : E.Ok := by
    subst hE
    exact ⟨H1.out.1, H1.out.2.1, Kd.C_below HBy.out.1 H1.out.2.2, hc, hm, HBy.out.2, hk1, hg1, hw3, HF.out.mo, HF.out.ms, HF.out.ml, HF.out.mt, HF.out.ln, HF.out.tn, HF.out.mxl, HF.out.mxt⟩
  have HI := Lib.hid (show LX E (w3.alloc (.cells #[.pointer (some ⟨g, 0, none⟩), .slice A1 F.line.length c1, .string F.opn, .string F.shut, .bool F.nest, .bool F.apart, .slice A6 F.texts.length c6, .slice A b.length c] 60 (0, 0))) [] from by
    subst hE
    exact ⟨Nat.zero_le _, rfl, hEok, blk_new w3 _, by simpa using HS3.out.alloc _, below_alloc HB3.out _, by simp⟩)
  have HEE := Lib.hid (show E.b = b ∧ E.F = F ∧ E.g = g ∧ E.k = k ∧ E.w0 = w1 ∧ E.d = w3.heap.size from by subst hE; exact ⟨rfl, rfl, rfl, rfl, rfl, rfl⟩)
  have HOk := Lib.hid hEok
  clear hE hEok
  go_loopg [11] b.length (fun gn pv wr => ∃ X : List Int, pv = .int .i64 X.length ∧ X.length ≤ b.length ∧ Hid (LX E wr X ∧ gn = b.length - X.length))
  case atStart => exact ⟨[], rfl, Nat.zero_le _, HI.out, by simp⟩
  case round =>
    obtain ⟨X, rfl, hX, HR⟩ := hrel
    clear HI
    have HN := Lib.hid HR.out.1
    have HG := Lib.hid HR.out.2
    clear HR
    by_cases hlt : X.length < b.length
    · have hlt2 : X.length < E.b.length := by rw [HEE.out.1]; exact hlt
      have hnx := next_any E wr _ X.length HN.out.i hlt2 HN.out.code
      rw [HEE.out.2.2.2.2.2] at hnx
      have HNx := Lib.hid hnx
      have hml := M_len E X.length hlt2
      rw [HEE.out.1] at hml
      have HML := Lib.hid hml
      clear hnx hml
      go_wp2_with fail
      refine HNx.out.mono ?_
      rintro e w5 ⟨rfl, h5⟩
      have HN5 := Lib.hid (HN.out.step hlt2 h5)
      clear h5 HNx
      go_wp2_with fail
      go_roundg (b.length - (X.length + (M_ E X.length).length))
      case measure => have := HG.out; have := HML.out; omega
      case rel =>
        refine ⟨X ++ M_ E X.length, by rw [List.length_append, Int.natCast_add], by have := HML.out; rw [List.length_append]; omega, HN5.out, by rw [List.length_append]⟩
    · have hl : X.length = E.b.length := by rw [HEE.out.1]; omega
      have hend := HN.out.end_ hl
      rw [HEE.out.1, HEE.out.2.1, HEE.out.2.2.1, HEE.out.2.2.2.1, HEE.out.2.2.2.2.1] at hend
      have HEnd := Lib.hid hend
      have HX := Lib.hid hl
      have hz := H1.out.2.2.size
      clear hend hl
      go_wp2_with fail
      go_ret2
      exact ⟨g, k, rfl, HEnd.out.1, below_step H1.out.2.2 HEnd.out.2, by omega, by omega⟩

/-! ### the formats -/
def fbC : Fb := ⟨[⟨#[47, 47]⟩], ⟨#[47, 42]⟩, ⟨#[42, 47]⟩, false, false, [⟨⟨#[34]⟩, true, false, false, 5⟩, ⟨⟨#[39]⟩, true, false, false, 5⟩]⟩
def fbG : Fb := ⟨[⟨#[47, 47]⟩], ⟨#[47, 42]⟩, ⟨#[42, 47]⟩, false, false, [⟨⟨#[34]⟩, true, false, false, 5⟩, ⟨⟨#[39]⟩, true, false, false, 5⟩, ⟨⟨#[96]⟩, false, false, true, 7⟩]⟩
def fbP : Fb := ⟨[⟨#[35]⟩], ⟨#[]⟩, ⟨#[]⟩, false, false, [⟨⟨#[34, 34, 34]⟩, true, false, true, 5⟩, ⟨⟨#[39, 39, 39]⟩, true, false, true, 5⟩, ⟨⟨#[34]⟩, true, false, false, 5⟩, ⟨⟨#[39]⟩, true, false, false, 5⟩]⟩
def fbS : Fb := ⟨[⟨#[35]⟩], ⟨#[]⟩, ⟨#[]⟩, false, true, [⟨⟨#[34]⟩, true, false, true, 5⟩, ⟨⟨#[39]⟩, false, false, true, 7⟩]⟩
def fbQ : Fb := ⟨[⟨#[45, 45]⟩], ⟨#[47, 42]⟩, ⟨#[42, 47]⟩, true, false, [⟨⟨#[39]⟩, false, true, true, 5⟩, ⟨⟨#[34]⟩, false, true, true, 7⟩]⟩
theorem fbC_fam : fbC.fam = famC := by rfl
theorem fbG_fam : fbG.fam = famG := by rfl
theorem fbP_fam : fbP.fam = famP := by rfl
theorem fbS_fam : fbS.fam = famS := by rfl
theorem fbQ_fam : fbQ.fam = famQ := by rfl
theorem fb_ok (F : Fb) (h : F = fbC ∨ F = fbG ∨ F = fbP ∨ F = fbS ∨ F = fbQ) : F.Ok := by
  rcases h with rfl | rfl | rfl | rfl | rfl <;> exact ⟨by decide, by decide, by decide, by decide, by decide, by decide, by decide, by decide⟩
/-- What Lex answers for a format of programs. -/
theorem lex_any (f : Int) (F : Fam) (A : Option Addr) (c n : Nat) (b : List Int) (w : World) (hf : famOf f = some F) (hC : Kd.C (Kd.int .u8) w A n b) (hc : n ≤ c) (hb : Bys b) (hm : n ≤ 65536) :
    Calls Try.prog 12 #[.int .u8 f, .slice A n c] w fun e w' => ∃ g k, e = .returned (.tuple #[.pointer (some ⟨g, 0, none⟩), .int .i64 0]) ∧ Sheet w' g k (lexF F (-1) b) ∧ Below w.heap.size w w' ∧ w.heap.size ≤ g ∧ w.heap.size ≤ k := by
  obtain rfl := hC.1
  unfold famOf at hf
  split at hf
  · rename_i h; cases hf; subst h
    exact fbC_fam ▸ lex_yes 4 fbC A c b w rfl (fb_ok _ (by simp)) hC hc hb hm
  split at hf
  · rename_i h; cases hf; subst h
    exact fbG_fam ▸ lex_yes 5 fbG A c b w rfl (fb_ok _ (by simp)) hC hc hb hm
  split at hf
  · rename_i h; cases hf; subst h
    exact fbP_fam ▸ lex_yes 6 fbP A c b w rfl (fb_ok _ (by simp)) hC hc hb hm
  split at hf
  · rename_i h; cases hf; subst h
    exact fbS_fam ▸ lex_yes 7 fbS A c b w rfl (fb_ok _ (by simp)) hC hc hb hm
  split at hf
  · rename_i h; cases hf; subst h
    exact fbQ_fam ▸ lex_yes 8 fbQ A c b w rfl (fb_ok _ (by simp)) hC hc hb hm
  · cases hf
end Go.Proofs.Ytjbbogcoabgcnaa.S
