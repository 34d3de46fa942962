/- A string, walked. Conditions: none but those that stand there. -/
import Derived.Test.YtjbbogcoabgcnaaSBlk
set_option linter.unusedVariables false
set_option linter.unusedSimpArgs false
namespace Go.Proofs.Ytjbbogcoabgcnaa.S
open Go.RowKit Go.Proofs.YtjbbogcoabgcnaaW.PrintWords Go.Proofs.Ytjbbogcoabgcnaa.L Go.Proofs.Ytjbbogcoabgcnaa.Src

theorem put_ovg (E : Env) (W : World) (L : List Int) (at_ : Nat) (X : List Int) (p : Nat) (l : Int) (m : Nat) (h : E.In W (ov L at_ X)) (hL : L.length = E.b.length) (hp : p = at_ + X.length) (hm : p + m ≤ E.b.length) (q : Int) (hq : q = p + m) :
    Calls Try.prog 20 #[.pointer (some ⟨E.g, 0, none⟩), .int .u8 l, .int .i64 p, .int .i64 q] W fun e w' => e = .returned (.tuple #[]) ∧ E.In w' (ov L at_ (X ++ List.replicate m l)) ∧ W.grownBy w' (some E.k) := by
  subst hq
  subst hp
  refine (set_any E.g E.k (ov L at_ X) l _ _ W h.sheet).mono ?_
  rintro e w' ⟨rfl, hs, hg⟩
  rw [ov_set L at_ X l m (by omega) _ rfl] at hs
  exact ⟨rfl, h.set hs hg (by rw [ov_length _ _ _ (by simp; omega), ov_length _ _ _ (by omega)]), hg⟩
theorem bytesOf_append (a b : ByteArray) : bytesOf (a ++ b) = bytesOf a ++ bytesOf b := by
  unfold bytesOf
  rw [← List.map_append]
  congr 1

theorem add_pos (ad : Addr) (j : Nat) (h : 0 < j) : ad.add j = ⟨ad.block, ad.off + j, none⟩ := by
  unfold Addr.add
  split
  · omega
  · rfl
/-- How far a string is read. -/
structure TX (E : Env) (T : Tx) (a0 p : Nat) (X : List Int) : Prop where
  pos : p = a0 + X.length
  le : p ≤ E.b.length
  eq : X ++ txtW T (E.b.drop p) = txtW T (E.b.drop a0)
section
variable {E : Env} {T : Tx} {a0 p : Nat} {X : List Int}
theorem TX.end_ (h : TX E T a0 E.b.length X) : X = txtW T (E.b.drop a0) := by
  have := h.eq
  rw [List.drop_length, txtW_end, List.append_nil] at this
  exact this
theorem TX.nl (h : TX E T a0 p X) (hp : p < E.b.length) (hc : E.b.getD p 0 = 10) (hl : T.long = false) : X = txtW T (E.b.drop a0) := by
  have := h.eq
  rw [drop_at _ _ hp, hc, txtW_nl T _ hl, List.append_nil] at this
  exact this
theorem TX.esc (h : TX E T a0 p X) (hp : p + 1 < E.b.length) (hc : E.b.getD p 0 = 92) (he : T.escape = true) (hl : T.long = true ∨ E.b.getD (p + 1) 0 ≠ 10) : TX E T a0 (p + 2) (X ++ List.replicate 2 T.what) := by
  refine ⟨by rw [h.pos]; simp; omega, by omega, ?_⟩
  have e := h.eq
  rw [drop_at _ _ (show p < E.b.length by omega), drop_at _ _ hp, hc, txtW_esc T _ _ he hl] at e
  rw [← e, List.append_assoc]
  rfl
theorem noesc_of (hp : p < E.b.length) (h1 : ¬ (T.escape = true ∧ E.b.getD p 0 = 92 ∧ p + 1 < E.b.length ∧ (T.long = true ∨ E.b.getD (p + 1) 0 ≠ 10))) : noesc T (E.b.getD p 0) (E.b.drop (p + 1)) := by
  rintro ⟨a, b, c, d⟩
  refine h1 ⟨a, b, ?_, ?_⟩
  · rcases Nat.lt_or_ge (p + 1) E.b.length with h | h
    · exact h
    · exact absurd (List.drop_eq_nil_of_le h) c
  · rcases d with d | d
    · exact .inl d
    · refine .inr fun e => d ?_
      rcases Nat.lt_or_ge (p + 1) E.b.length with h | h
      · rw [drop_at _ _ h, e]; rfl
      · exact absurd (List.drop_eq_nil_of_le h) c
theorem TX.twice (h : TX E T a0 p X) (hp : p < E.b.length) (h0 : ¬ (E.b.getD p 0 = 10 ∧ T.long = false)) (h1 : ¬ (T.escape = true ∧ E.b.getD p 0 = 92 ∧ p + 1 < E.b.length ∧ (T.long = true ∨ E.b.getD (p + 1) 0 ≠ 10))) (ht : T.twice = true) (h2 : beg (T.mark ++ T.mark) (E.b.drop p) = true) :
    TX E T a0 (p + 2 * T.mark.length) (X ++ List.replicate (2 * T.mark.length) T.what) := by
  have hl := beg_length h2
  rw [List.length_append, List.length_drop] at hl
  refine ⟨by rw [h.pos]; simp; omega, by omega, ?_⟩
  have e := h.eq
  rw [drop_at _ _ hp] at e h2
  rw [txtW_twice T _ _ h0 (noesc_of hp h1) ht h2, ← drop_at _ _ hp, List.drop_drop] at e
  rw [← e, List.append_assoc]
theorem TX.mark (h : TX E T a0 p X) (hp : p < E.b.length) (h0 : ¬ (E.b.getD p 0 = 10 ∧ T.long = false)) (h1 : ¬ (T.escape = true ∧ E.b.getD p 0 = 92 ∧ p + 1 < E.b.length ∧ (T.long = true ∨ E.b.getD (p + 1) 0 ≠ 10))) (ht : ¬ (T.twice = true ∧ beg (T.mark ++ T.mark) (E.b.drop p) = true)) (h2 : beg T.mark (E.b.drop p) = true) :
    X ++ List.replicate T.mark.length 4 = txtW T (E.b.drop a0) := by
  have e := h.eq
  rw [drop_at _ _ hp] at e h2 ht
  rw [txtW_mark T _ _ h0 (noesc_of hp h1) ht h2] at e
  exact e
theorem TX.one (h : TX E T a0 p X) (hp : p < E.b.length) (h0 : ¬ (E.b.getD p 0 = 10 ∧ T.long = false)) (h1 : ¬ (T.escape = true ∧ E.b.getD p 0 = 92 ∧ p + 1 < E.b.length ∧ (T.long = true ∨ E.b.getD (p + 1) 0 ≠ 10))) (ht : ¬ (T.twice = true ∧ beg (T.mark ++ T.mark) (E.b.drop p) = true)) (h2 : beg T.mark (E.b.drop p) = false) :
    TX E T a0 (p + 1) (X ++ List.replicate 1 T.what) := by
  refine ⟨by rw [h.pos]; simp; omega, by omega, ?_⟩
  have e := h.eq
  rw [drop_at _ _ hp] at e h2 ht
  rw [txtW_one T _ _ h0 (noesc_of hp h1) ht h2] at e
  rw [← e, List.append_assoc]
  rfl
end
/-- The string's kind in its box. -/
def Bt (W : World) (bx : Nat) (t : Tb) : Prop := W.heap[bx]? = some (.cells #[.string t.f0, .bool t.f1, .bool t.f2, .bool t.f3, .int .u8 t.f4] 75 (0, 0))
/-- The document, and the box. -/
structure RT (E : Env) (W : World) (M : List Int) (bx : Nat) (t : Tb) : Prop where
  i : E.In W M
  b : Bt W bx t
section
variable {E : Env} {W W' : World} {M : List Int} {bx : Nat} {t : Tb}
theorem RT.below (h : RT E W M bx t) (hb : Below W.heap.size W W') : RT E W' M bx t := ⟨h.i.below hb, blk_below h.b hb⟩
theorem RT.b0 (h : RT E W M bx t) : W.cell? ⟨bx, 0, none⟩ = some (.string t.f0) := (blk_cell h.b 0).trans rfl
theorem RT.b1 (h : RT E W M bx t) : W.cell? ⟨bx, 1, none⟩ = some (.bool t.f1) := (blk_cell h.b 1).trans rfl
theorem RT.b2 (h : RT E W M bx t) : W.cell? ⟨bx, 2, none⟩ = some (.bool t.f2) := (blk_cell h.b 2).trans rfl
theorem RT.b3 (h : RT E W M bx t) : W.cell? ⟨bx, 3, none⟩ = some (.bool t.f3) := (blk_cell h.b 3).trans rfl
theorem RT.b4 (h : RT E W M bx t) : W.cell? ⟨bx, 4, none⟩ = some (.int .u8 t.f4) := (blk_cell h.b 4).trans rfl
theorem RT.set (h : RT E W M bx t) {M' : List Int} (hi : E.In W' M') (hg : W.grownBy W' (some E.k)) : RT E W' M' bx t :=
  ⟨hi, blk_grown h.b hg (by intro e; injection e with e; exact blk_ne h.b h.i.sheet.2.1 (by decide) e)⟩
theorem RT.drew (h : RT E W M bx t) : RT E W.drew M bx t := ⟨h.i.drew, h.b⟩
end

set_option maxRecDepth 100000 in
set_option maxHeartbeats 4000000 in
theorem text_any (E : Env) (W : World) (L : List Int) (at_ : Nat) (t : Tb) (h : E.In W L) (hat : at_ + t.f0.size ≤ E.b.length) (ht3 : t.f0.size ≤ 3) (hcode : ∀ i, at_ + t.f0.size ≤ i → i < E.b.length → L[i]? = some 4) :
    Calls Try.prog 35 #[.pointer (some ⟨E.d, 0, none⟩), .int .i64 at_, .agg #[.string t.f0, .bool t.f1, .bool t.f2, .bool t.f3, .int .u8 t.f4]] W fun e w' => e = .returned (.int .i64 ((at_ + t.f0.size + (txtW (txOf t) (E.b.drop (at_ + t.f0.size))).length : Nat) : Int)) ∧ E.In w' (ov L (at_ + t.f0.size) (txtW (txOf t) (E.b.drop (at_ + t.f0.size)))) := by
  obtain ⟨tm, te, tt, tl, tw⟩ := t
  simp only at hat ht3 hcode ⊢
  have HL := Lib.hid h.len
  have hmax := h.ok.max
  have HCode := Lib.hid hcode
  have HI := Lib.hid (show TX E (txOf ⟨tm, te, tt, tl, tw⟩) (at_ + tm.size) (at_ + tm.size) [] ∧ RT E (W.alloc (.cells #[.string tm, .bool te, .bool tt, .bool tl, .int .u8 tw] 75 (0, 0))) (ov L (at_ + tm.size) []) W.heap.size ⟨tm, te, tt, tl, tw⟩ from ⟨⟨by simp, hat, by simp⟩, by rw [ov_nil]; exact h.alloc _, blk_new _ _⟩)
  have c0 : (W.alloc (.cells #[.string tm, .bool te, .bool tt, .bool tl, .int .u8 tw] 75 (0, 0))).cell? ⟨W.heap.size, 0, none⟩ = some (.string tm) := HI.out.2.b0
  have hmk : (txOf ⟨tm, te, tt, tl, tw⟩).mark.length = tm.size := bytesOf_length _
  have HMk := Lib.hid hmk
  clear h hcode hmk
  have hu75 := Try.underlying75
  obtain ⟨a0, ha0⟩ : ∃ a0 : Nat, a0 = at_ + tm.size := ⟨_, rfl⟩
  have ha0I : (at_ : Int) + (tm.size : Int) = (a0 : Int) := by omega
  have HAI := Lib.hid ha0I
  rw [← ha0] at HI HCode hat ⊢
  have hb1 : (at_ : Int) + (tm.size : Int) ≤ 65536 := by omega
  have HA0' := Lib.hid ha0
  clear ha0I ha0
  go_enter Try.func35, Try.ntmps35
  go_wp2_with fail
  clear c0 hb1
  rw [HAI.out]
  generalize W.heap.size = bx at *
  go_loopg [1] (E.b.length - a0) (fun gn pv wr => ∃ (p : Nat) (X : List Int), pv = .int .i64 p ∧ p ≤ E.b.length ∧ Hid (TX E (txOf ⟨tm, te, tt, tl, tw⟩) a0 p X ∧ RT E wr (ov L a0 X) bx ⟨tm, te, tt, tl, tw⟩ ∧ gn = E.b.length - p))
  case atStart => exact ⟨a0, [], rfl, hat, HI.out.1, HI.out.2, rfl⟩
  case round =>
    obtain ⟨p, X, rfl, hpl, HR⟩ := hrel
    clear HI
    have HG := Lib.hid HR.out.2.2
    have HX := Lib.hid HR.out.1
    have HN := Lib.hid HR.out.2.1
    clear HR
    have c7 := HN.out.i.c7
    by_cases hlt : p < E.b.length
    · obtain ⟨ad, hA, hcell⟩ := HN.out.i.at_ p hlt
      go_upto_block 2 with fail
      clear c7
      obtain ⟨c, hc⟩ : ∃ c, c = E.b.getD p 0 := ⟨_, rfl⟩
      rw [← hc] at hcell
      have HCc := Lib.hid hc
      clear hc
      go_cut [7] (fun v wx => ∃ n : Nat, v = .int .i64 n ∧ p + n ≤ E.b.length ∧ 1 ≤ n ∧ Hid (TX E (txOf ⟨tm, te, tt, tl, tw⟩) a0 (p + n) (X ++ List.replicate n tw) ∧ RT E wx (ov L a0 X) bx ⟨tm, te, tt, tl, tw⟩))
      case first =>
        go_upto_region 4 with fail
        obtain ⟨B0, hB0⟩ : ∃ B : Bool, B = decide (c = 10 ∧ tl = false) := ⟨_, rfl⟩
        have HB0 := Lib.hid hB0
        clear hB0
        go_cut [20] (fun v wx => v = .bool B0 ∧ Hid (RT E wx (ov L a0 X) bx ⟨tm, te, tt, tl, tw⟩))
        case first =>
          have c7 := HN.out.i.c7
          rw [hA] at c7
          have b3 : wr.cell? ⟨bx, 3, none⟩ = some (.bool tl) := HN.out.b3
          by_cases h10 : c = 10
          · have e1 : (c == 10) = true := by simp [h10]
            have e2 : B0 = !tl := by rw [HB0.out]; cases tl <;> simp [h10]
            subst e2
            have HH := Lib.hid h10
            clear h10
            go_wp2_with fail
            go_meet
            exact ⟨rfl, HN⟩
          · have e1 : (c == 10) = false := by simp [h10]
            obtain rfl : B0 = false := by rw [HB0.out]; simp [h10]
            have HH := Lib.hid h10
            clear h10
            go_wp2_with fail
            go_meet
            exact ⟨rfl, HN⟩
        case rest =>
          obtain ⟨rfl, HN4⟩ := hcut
          clear HN hcell
          rename_i wc
          cases B0 with
          | true =>
            have h0 := of_decide_eq_true HB0.out.symm
            have HE := Lib.hid (HX.out.nl hlt (HCc.out.symm.trans h0.1) h0.2)
            clear h0
            go_wp2_with fail
            go_ret
            have hp := HX.out.pos
            have h4 := HN4.out.i
            rw [HE.out] at hp h4
            exact ⟨congrArg (fun z : Nat => Ending.returned (Value.int .i64 (z : Int))) hp, h4⟩
          | false =>
            have h0 := of_decide_eq_false HB0.out.symm
            rw [HCc.out] at h0
            have H0 := Lib.hid (show ¬ (E.b.getD p 0 = 10 ∧ (txOf ⟨tm, te, tt, tl, tw⟩).long = false) from h0)
            clear h0 HB0
            go_upto_region 6 with fail
            obtain ⟨B1, hB1⟩ : ∃ B : Bool, B = decide (te = true ∧ c = 92 ∧ p + 1 < E.b.length ∧ (tl = true ∨ E.b.getD (p + 1) 0 ≠ 10)) := ⟨_, rfl⟩
            have HB1 := Lib.hid hB1
            clear hB1
            have HN := HN4
            clear HN4
            go_cut [35] (fun v wx => v = .bool B1 ∧ Hid (RT E wx (ov L a0 X) bx ⟨tm, te, tt, tl, tw⟩))
            case first =>
              obtain ⟨ad1, hA1, hcell⟩ := HN.out.i.at_ p hlt
              obtain rfl : ad1 = ad := by rw [hA] at hA1; injection hA1 with e; exact e.symm
              rw [← HCc.out] at hcell
              have c7 := HN.out.i.c7
              rw [hA] at c7
              have b1 : wc.cell? ⟨bx, 1, none⟩ = some (.bool te) := HN.out.b1
              have b3 : wc.cell? ⟨bx, 3, none⟩ = some (.bool tl) := HN.out.b3
              cases te with
              | false =>
                obtain rfl : B1 = false := by rw [HB1.out]; simp
                go_wp2_with fail
                go_meet
                exact ⟨rfl, HN⟩
              | true =>
                by_cases h92 : c = 92
                · have e1 : (c == 92) = true := by simp [h92]
                  by_cases hp1 : p + 1 < E.b.length
                  · obtain ⟨ad2, hA2, hcell2⟩ := HN.out.i.at_ (p + 1) hp1
                    rw [add_pos _ _ (by omega)] at hcell2
                    obtain rfl : ad2 = ad1 := by rw [hA] at hA2; injection hA2 with e; exact e.symm
                    cases tl with
                    | true =>
                      obtain rfl : B1 = true := by rw [HB1.out]; simp [h92, hp1]
                      have HH := Lib.hid h92
                      clear h92 hcell2
                      go_wp2_with fail
                      go_meet
                      exact ⟨rfl, HN⟩
                    | false =>
                      obtain ⟨c2, hc2⟩ : ∃ c2, c2 = E.b.getD (p + 1) 0 := ⟨_, rfl⟩
                      rw [← hc2] at hcell2
                      by_cases hc10 : c2 = 10
                      · obtain rfl : B1 = false := by rw [HB1.out, ← hc2]; simp [hc10]
                        have e2 : (c2 == 10) = true := by simp [hc10]
                        have e3 : (c2 != 10) = false := by simp [hc10]
                        have HH := Lib.hid (And.intro h92 (And.intro hc2 hc10))
                        clear h92 hc2 hc10
                        go_wp2_with fail
                        go_meet
                        exact ⟨rfl, HN⟩
                      · obtain rfl : B1 = true := by rw [HB1.out, ← hc2]; simp [h92, hp1, hc10]
                        have e2 : (c2 == 10) = false := by simp [hc10]
                        have e3 : (c2 != 10) = true := by simp [hc10]
                        have HH := Lib.hid (And.intro h92 (And.intro hc2 hc10))
                        clear h92 hc2 hc10
                        go_wp2_with fail
                        go_meet
                        exact ⟨rfl, HN⟩
                  · obtain rfl : B1 = false := by rw [HB1.out]; simp [hp1]
                    have HH := Lib.hid h92
                    have hp2 : (E.b.length : Int) ≤ (p : Int) + 1 := by omega
                    clear h92
                    go_wp2_with fail
                    go_meet
                    exact ⟨rfl, HN⟩
                · have e1 : (c == 92) = false := by simp [h92]
                  obtain rfl : B1 = false := by rw [HB1.out]; simp [h92]
                  have HH := Lib.hid h92
                  clear h92
                  go_wp2_with fail
                  go_meet
                  exact ⟨rfl, HN⟩
            case rest =>
              obtain ⟨rfl, HN6⟩ := hcut
              clear HN
              cases B1 with
              | true =>
                have h1 := of_decide_eq_true HB1.out.symm
                have HE := Lib.hid (HX.out.esc h1.2.2.1 (HCc.out.symm.trans h1.2.1) h1.1 h1.2.2.2)
                have hp1 := h1.2.2.1
                clear h1
                go_wp2_with fail
                go_meet
                exact ⟨2, rfl, by omega, by omega, HE.out, HN6.out⟩
              | false =>
                have h1 := of_decide_eq_false HB1.out.symm
                rw [HCc.out] at h1
                have H1 := Lib.hid (show ¬ ((txOf ⟨tm, te, tt, tl, tw⟩).escape = true ∧ E.b.getD p 0 = 92 ∧ p + 1 < E.b.length ∧ ((txOf ⟨tm, te, tt, tl, tw⟩).long = true ∨ E.b.getD (p + 1) 0 ≠ 10)) from h1)
                clear h1 HB1
                go_upto_region 8 with fail
                obtain ⟨B2, hB2⟩ : ∃ B : Bool, B = decide (tt = true ∧ beg (bytesOf (tm ++ tm)) (E.b.drop p) = true) := ⟨_, rfl⟩
                have HB2 := Lib.hid hB2
                clear hB2
                go_cut [73] (fun v wx => v = .bool B2 ∧ Hid (RT E wx (ov L a0 X) bx ⟨tm, te, tt, tl, tw⟩))
                case first =>
                  have b0 : wc.cell? ⟨bx, 0, none⟩ = some (.string tm) := HN6.out.b0
                  have b2 : wc.cell? ⟨bx, 2, none⟩ = some (.bool tt) := HN6.out.b2
                  cases tt with
                  | false =>
                    obtain rfl : B2 = false := by rw [HB2.out]; simp
                    go_wp2_with fail
                    go_meet
                    exact ⟨rfl, HN6⟩
                  | true =>
                    have HBB := Lib.hid (show beg (bytesOf (tm ++ tm)) (E.b.drop p) = B2 from by rw [HB2.out]; simp)
                    go_wp2_with fail
                    refine (begins_is E _ _ p (tm ++ tm) B2 HN6.out.i hpl (by rw [ByteArray.size_append]; omega) HBB.out).mono ?_
                    rintro e w1 ⟨rfl, h1, hb1⟩
                    have HN8 := Lib.hid (HN6.out.below hb1)
                    clear h1 hb1
                    go_wp2_with fail
                    go_meet
                    exact ⟨rfl, HN8⟩
                case rest =>
                  obtain ⟨rfl, HN8⟩ := hcut
                  clear HN6
                  have hl2 : (txOf ⟨tm, te, tt, tl, tw⟩).mark.length = tm.size := HMk.out
                  cases B2 with
                  | true =>
                    have h2 := of_decide_eq_true HB2.out.symm
                    rw [bytesOf_append] at h2
                    have hE := HX.out.twice hlt H0.out H1.out h2.1 h2.2
                    rw [hl2] at hE
                    have hle := beg_length h2.2
                    rw [← bytesOf_append, bytesOf_length, ByteArray.size_append, List.length_drop] at hle
                    have HE := Lib.hid hE
                    have b0 := (show _ = some (Value.string tm) from HN8.out.b0)
                    have hn2 : p + 2 * tm.size ≤ E.b.length := by omega
                    have hn3 : 1 ≤ 2 * tm.size := by omega
                    clear h2 hE hle hl2
                    go_wp2_with fail
                    go_meet
                    exact ⟨2 * tm.size, by go_num, hn2, hn3, HE.out, HN8.out⟩
                  | false =>
                    have h2 := of_decide_eq_false HB2.out.symm
                    rw [bytesOf_append] at h2
                    have H2 := Lib.hid (show ¬ ((txOf ⟨tm, te, tt, tl, tw⟩).twice = true ∧ beg ((txOf ⟨tm, te, tt, tl, tw⟩).mark ++ (txOf ⟨tm, te, tt, tl, tw⟩).mark) (E.b.drop p) = true) from h2)
                    clear h2 HB2
                    have b0 := (show _ = some (Value.string tm) from HN8.out.b0)
                    cases h3 : beg (bytesOf tm) (E.b.drop p) with
                    | true =>
                      have hE := HX.out.mark hlt H0.out H1.out H2.out h3
                      rw [hl2] at hE
                      have HE := Lib.hid hE
                      have hsz := (beg_size h3).1
                      have H3 := Lib.hid h3
                      clear h3 hE hl2
                      go_wp2_with fail
                      refine (begins_is E _ _ p tm true HN8.out.i hpl (by omega) H3.out).mono ?_
                      rintro e w1 ⟨rfl, h1, hb1⟩
                      have HN10 := Lib.hid (HN8.out.below hb1)
                      have b0' : w1.cell? ⟨bx, 0, none⟩ = some (.string tm) := HN10.out.b0
                      clear h1 hb1 b0
                      go_wp2_with fail
                      go_ret
                      have hp := HX.out.pos
                      have h4 := HN10.out.i
                      have hLl := HL.out
                      rw [← ov_same L a0 X 4 tm.size (by omega) (fun i hi1 hi2 => HCode.out i (by omega) (by omega)), HE.out] at h4
                      refine ⟨congrArg (fun z : Nat => Ending.returned (Value.int .i64 (z : Int))) ?_, h4⟩
                      rw [← HE.out]
                      simp
                      omega
                    | false =>
                      have HE := Lib.hid (HX.out.one hlt H0.out H1.out H2.out h3)
                      have H3 := Lib.hid h3
                      clear h3 hl2
                      go_wp2_with fail
                      refine (begins_is E _ _ p tm false HN8.out.i hpl (by omega) H3.out).mono ?_
                      rintro e w1 ⟨rfl, h1, hb1⟩
                      have HN10 := Lib.hid (HN8.out.below hb1)
                      clear h1 hb1 b0
                      go_wp2_with fail
                      go_meet
                      exact ⟨1, rfl, by omega, by omega, HE.out, HN10.out⟩
      case rest =>
        obtain ⟨n, rfl, hpn, hn1, HS⟩ := hcut
        clear HN hcell HX
        have hw : IntKind.i64.wrap ((p : Int) + (n : Int)) = (p : Int) + (n : Int) := IntWalk.i64_in _ (by omega)
        have HP := Lib.hid (show p = a0 + X.length from by
          have := HS.out.1.pos
          simp only [List.length_append, List.length_replicate] at this
          omega)
        go_wp2_with fail
        go_region_held3 (fun w' => w'.cell? ⟨E.d, 0, none⟩ = some (.pointer (some ⟨E.g, 0, none⟩)) ∧ w'.cell? ⟨bx, 4, none⟩ = some (.int .u8 tw))
          (first | exact ⟨h2.i.c0, h2.b4⟩ | exact ⟨HS.out.2.drew.i.c0, HS.out.2.drew.b4⟩ | go_keep)
          (first | (go_at_call 20; refine (put_ovg E _ L a0 X p tw n HS.out.2.drew.i HL.out HP.out hpn _ rfl).mono ?_; rintro e w2 ⟨rfl, h20, hg⟩; have h2 := HS.out.2.drew.set h20 hg; clear h20 hg))
        clear hw
        have H2 := Lib.hid h2
        clear h2
        go_wp2_with fail
        go_roundg (E.b.length - (p + n))
        case measure => have := HG.out; omega
        case rel => exact ⟨p + n, X ++ List.replicate n tw, by go_num, by omega, HS.out.1, H2.out, rfl⟩
    · obtain rfl : p = E.b.length := by omega
      have HE := Lib.hid HX.out.end_
      go_wp2_with fail
      go_ret
      have hp := HX.out.pos
      rw [← HE.out]
      exact ⟨congrArg (fun z : Nat => Ending.returned (Value.int .i64 (z : Int))) hp, HN.out.i⟩
end Go.Proofs.Ytjbbogcoabgcnaa.S
