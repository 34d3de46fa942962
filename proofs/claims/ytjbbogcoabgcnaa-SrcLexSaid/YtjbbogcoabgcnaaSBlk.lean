/- A remark between marks, walked. Conditions: none but those that stand there. -/
import Derived.Test.YtjbbogcoabgcnaaSRem
set_option linter.unusedVariables false
set_option linter.unusedSimpArgs false
namespace Go.Proofs.Ytjbbogcoabgcnaa.S
open Go.RowKit Go.Proofs.YtjbbogcoabgcnaaW.PrintWords Go.Proofs.Ytjbbogcoabgcnaa.L Go.Proofs.Ytjbbogcoabgcnaa.Src

theorem begins_is (E : Env) (W : World) (L : List Int) (at_ : Nat) (s : ByteArray) (v : Bool) (h : E.In W L) (hat : at_ ≤ E.b.length) (hs : s.size ≤ 6) (hv : Src.beg (bytesOf s) (E.b.drop at_) = v) :
    Calls Try.prog 31 #[.pointer (some ⟨E.d, 0, none⟩), .int .i64 at_, .string s] W fun e w' => e = .returned (.bool v) ∧ E.In w' L ∧ Below W.heap.size W w' :=
  (begins_any E W L at_ s h hat hs).mono fun e w' hh => ⟨by rw [hh.1, hv], h.below hh.2, hh.2⟩

/-- How far a remark is read. -/
structure BX (E : Env) (at_ p deep : Nat) (X : List Int) : Prop where
  pos : p = at_ + X.length
  le : p ≤ E.b.length
  eq : X ++ blkW E.F.fam deep (E.b.drop p) = blkW E.F.fam 0 (E.b.drop at_)
  d : deep ≤ 32
  z : deep = 0 → X = []
def Blk (E : Env) (L : List Int) (at_ : Nat) (W : World) (p deep : Nat) : Prop := ∃ X : List Int, BX E at_ p deep X ∧ E.In W (ov L at_ X)
section
variable {E : Env} {at_ p deep : Nat} {X : List Int}
theorem beg_size {E : Env} {p : Nat} {s : ByteArray} (h : beg (bytesOf s) (E.b.drop p) = true) : p + s.size ≤ E.b.length ∧ 0 < s.size := by
  have := beg_length h
  rw [bytesOf_length, List.length_drop] at this
  omega
theorem BX.o (h : BX E at_ p deep X) (hb : beg (bytesOf E.F.opn) (E.b.drop p) = true) (hn : deep = 0 ∨ E.F.nest = true) (hd : deep < 32) : BX E at_ (p + E.F.opn.size) (deep + 1) (X ++ List.replicate E.F.opn.size 3) := by
  have hs := beg_size hb
  refine ⟨by rw [h.pos]; simp; omega, by omega, ?_, by omega, fun e => by omega⟩
  have e := blkW_o E.F.fam deep _ hb hn hd
  rw [← h.eq, e, List.append_assoc]
  have hl : E.F.fam.opn.length = E.F.opn.size := bytesOf_length _
  rw [hl, List.drop_drop]
theorem BX.oo (h : BX E at_ p deep X) (hb : beg (bytesOf E.F.opn) (E.b.drop p) = true) (hn : deep = 0 ∨ E.F.nest = true) (hd : 32 ≤ deep) : X ++ List.replicate (E.b.length - p) 6 = blkW E.F.fam 0 (E.b.drop at_) := by
  rw [← h.eq, blkW_oo E.F.fam deep _ hb hn hd, List.length_drop]
theorem BX.s (h : BX E at_ p deep X) (hb : ¬ (beg (bytesOf E.F.opn) (E.b.drop p) = true ∧ (deep = 0 ∨ E.F.nest = true))) (h2 : beg (bytesOf E.F.shut) (E.b.drop p) = true) (hd : 1 < deep) : BX E at_ (p + E.F.shut.size) (deep - 1) (X ++ List.replicate E.F.shut.size 3) := by
  have hs := beg_size h2
  have hd32 := h.d
  refine ⟨by rw [h.pos]; simp; omega, by omega, ?_, by omega, fun e => by omega⟩
  have e := blkW_s E.F.fam deep _ hb h2 hd
  rw [← h.eq, e, List.append_assoc]
  have hl : E.F.fam.shut.length = E.F.shut.size := bytesOf_length _
  rw [hl, List.drop_drop]
theorem BX.ss (h : BX E at_ p 1 X) (hb : ¬ (beg (bytesOf E.F.opn) (E.b.drop p) = true ∧ ((1 : Nat) = 0 ∨ E.F.nest = true))) (h2 : beg (bytesOf E.F.shut) (E.b.drop p) = true) : X ++ List.replicate E.F.shut.size 3 = blkW E.F.fam 0 (E.b.drop at_) := by
  rw [← h.eq, blkW_ss E.F.fam _ hb h2]
  have hl : E.F.fam.shut.length = E.F.shut.size := bytesOf_length _
  rw [hl]
theorem drop_at (b : List Int) (p : Nat) (h : p < b.length) : b.drop p = b.getD p 0 :: b.drop (p + 1) := by
  rw [List.drop_eq_getElem_cons h, List.getD_eq_getElem?_getD, List.getElem?_eq_getElem h]
  rfl
theorem BX.one (h : BX E at_ p deep X) (hp : p < E.b.length) (hb : ¬ (beg (bytesOf E.F.opn) (E.b.drop p) = true ∧ (deep = 0 ∨ E.F.nest = true))) (h2 : beg (bytesOf E.F.shut) (E.b.drop p) = false) (hd : deep ≠ 0) : BX E at_ (p + 1) deep (X ++ List.replicate 1 1) := by
  refine ⟨by rw [h.pos]; simp; omega, by omega, ?_, h.d, fun e => absurd e hd⟩
  rw [drop_at E.b p hp] at hb h2
  rw [← h.eq, drop_at E.b p hp, blkW_p E.F.fam deep _ _ hb h2, List.append_assoc]
  rfl
theorem BX.end_ (h : BX E at_ E.b.length deep X) : X = blkW E.F.fam 0 (E.b.drop at_) := by
  have := h.eq
  rw [List.drop_length, blkW_end, List.append_nil] at this
  exact this
theorem BX.zero (h : BX E at_ p 0 X) (hb : beg (bytesOf E.F.opn) (E.b.drop at_) = true) : beg (bytesOf E.F.opn) (E.b.drop p) = true := by
  have e := h.z rfl
  have hp := h.pos
  subst e
  have : p = at_ := by simpa using hp
  rw [this]
  exact hb
end

set_option maxRecDepth 100000 in
set_option maxHeartbeats 4000000 in
theorem block_any (E : Env) (W : World) (L : List Int) (at_ : Nat) (h : E.In W L) (hat : at_ ≤ E.b.length) (hb : beg (bytesOf E.F.opn) (E.b.drop at_) = true) :
    Calls Try.prog 34 #[.pointer (some ⟨E.d, 0, none⟩), .int .i64 at_] W fun e w' => e = .returned (.int .i64 ((at_ + (blkW E.F.fam 0 (E.b.drop at_)).length : Nat) : Int)) ∧ E.In w' (ov L at_ (blkW E.F.fam 0 (E.b.drop at_))) := by
  have HL := Lib.hid h.len
  have hmax := h.ok.max
  have hmo := h.ok.mo
  have hms := h.ok.ms
  have HB := Lib.hid hb
  have HI := Lib.hid (show Blk E L at_ W at_ 0 from ⟨[], ⟨by simp, hat, by simp, by omega, fun _ => rfl⟩, by rw [ov_nil]; exact h⟩)
  clear h hb
  go_enter Try.func34, Try.ntmps34
  go_wp2_with fail
  go_loopg [1, 5] (E.b.length - at_) (fun gn pv dv wr => ∃ p deep : Nat, pv = .int .i64 p ∧ dv = .int .i64 deep ∧ Hid (Blk E L at_ wr p deep ∧ gn = E.b.length - p))
  case atStart => exact ⟨at_, 0, rfl, rfl, HI.out, rfl⟩
  case round =>
    obtain ⟨p, deep, rfl, rfl, HR⟩ := hrel
    clear HI
    obtain ⟨X, hX, hIn⟩ := HR.out.1
    have HG := Lib.hid HR.out.2
    have HX := Lib.hid hX
    have HN := Lib.hid hIn
    have hpl := hX.le
    have hd32 := hX.d
    have c7 := hIn.c7
    clear hX hIn HR
    by_cases hlt : p < E.b.length
    · go_upto_region 5 with fail
      clear c7
      obtain ⟨A, hA⟩ : ∃ A : Bool, A = decide (beg (bytesOf E.F.opn) (E.b.drop p) = true ∧ (deep = 0 ∨ E.F.nest = true)) := ⟨_, rfl⟩
      have HA := Lib.hid hA
      clear hA
      go_cut [23] (fun v wx => v = .bool A ∧ Hid (E.In wx (ov L at_ X)))
      case first =>
        have c2 := HN.out.c2
        cases ho : beg (bytesOf E.F.opn) (E.b.drop p) with
        | false =>
          have hA : A = false := by rw [HA.out, ho]; simp
          subst hA
          have HO := Lib.hid ho
          clear ho
          go_wp2_with (go_at_call 31; refine (begins_is E _ _ p E.F.opn false HN.out hpl (by omega) HO.out).mono ?_; rintro e w1 ⟨rfl, h1, _⟩; have H1 := Lib.hid h1; clear h1)
          go_meet
          exact ⟨rfl, H1⟩
        | true =>
          have HO := Lib.hid ho
          by_cases hz : deep = 0
          · have hA : A = true := by rw [HA.out, ho]; simp [hz]
            subst hA
            have hz1 : ((deep : Int) == 0) = true := by simp [hz]
            clear ho hz
            go_wp2_with (go_at_call 31; refine (begins_is E _ _ p E.F.opn true HN.out hpl (by omega) HO.out).mono ?_; rintro e w1 ⟨rfl, h1, _⟩; have H1 := Lib.hid h1; clear h1)
            go_meet
            exact ⟨rfl, H1⟩
          · have hA : A = E.F.nest := by rw [HA.out, ho]; cases E.F.nest <;> simp [hz]
            subst hA
            have hz1 : ((deep : Int) == 0) = false := by simp [hz]
            clear ho hz
            go_wp2_with (go_at_call 31; refine (begins_is E _ _ p E.F.opn true HN.out hpl (by omega) HO.out).mono ?_; rintro e w1 ⟨rfl, h1, _⟩; have H1 := Lib.hid h1; have c4 := h1.c4; clear h1)
            go_meet
            exact ⟨rfl, H1⟩
      case rest =>
        obtain ⟨rfl, H1⟩ := hcut
        clear HN
        rename_i wc
        cases A with
        | true =>
          have hT := HA.out
          have hT2 := of_decide_eq_true hT.symm
          have HT := Lib.hid hT2
          have hs := beg_size hT2.1
          have hsz := hs.1
          clear hT hT2 HA hs
          by_cases hd : deep = 32
          · subst hd
            have HF := Lib.hid (HX.out.oo HT.out.1 HT.out.2 (by omega))
            go_wp2_with fail
            go_region_held3 (fun w' => w'.cell? ⟨E.d, 0, none⟩ = some (.pointer (some ⟨E.g, 0, none⟩)) ∧ w'.cell? ⟨E.d, 7, none⟩ = some (.slice E.A E.b.length E.c))
              (first | exact ⟨h2.c0, h2.c7⟩ | exact ⟨H1.out.drew.c0, H1.out.drew.c7⟩ | go_keep)
              (first | (go_at_call 20; refine (put_ov E _ L at_ X p 6 (E.b.length - p) H1.out.drew HL.out HX.out.pos (by omega) _ (by omega)).mono ?_; rintro e w2 ⟨rfl, h2⟩))
            have H2 := Lib.hid h2
            have c7 := h2.c7
            clear h2
            go_wp2_with fail
            go_ret
            have h2 := H2.out
            rw [HF.out] at h2
            refine ⟨congrArg (fun z : Nat => Ending.returned (Value.int .i64 (z : Int))) ?_, h2⟩
            have hp := HX.out.pos
            rw [← HF.out]
            simp
            omega
          · have hd1 : ¬ (32 < deep + 1) := by omega
            have hd2 : (deep : Int) + 1 ≤ 32 := by omega
            have HX2 := Lib.hid (HX.out.o HT.out.1 HT.out.2 (by omega))
            have hw : IntKind.i64.wrap ((p : Int) + (E.F.opn.size : Int)) = (p : Int) + (E.F.opn.size : Int) := IntWalk.i64_in _ (by omega)
            go_wp2_with fail
            go_region_held3 (fun w' => w'.cell? ⟨E.d, 0, none⟩ = some (.pointer (some ⟨E.g, 0, none⟩)) ∧ w'.cell? ⟨E.d, 2, none⟩ = some (.string E.F.opn))
              (first | exact ⟨h2.c0, h2.c2⟩ | exact ⟨H1.out.drew.c0, H1.out.drew.c2⟩ | go_keep)
              (first | (go_at_call 20; refine (put_ov E _ L at_ X p 3 E.F.opn.size H1.out.drew HL.out HX.out.pos hsz _ rfl).mono ?_; rintro e w2 ⟨rfl, h2⟩))
            clear hw
            have H2 := Lib.hid h2
            have c2 := h2.c2
            clear h2
            go_wp2_with fail
            go_roundg (E.b.length - (p + E.F.opn.size))
            case measure => have := HG.out; have := (beg_size HT.out.1).2; omega
            case rel => exact ⟨p + E.F.opn.size, deep + 1, by go_num, by go_num, ⟨_, HX2.out, H2.out⟩, rfl⟩
        | false =>
          have hT := HA.out
          have hT2 := of_decide_eq_false hT.symm
          have HT := Lib.hid hT2
          clear hT hT2 HA
          have hdz : deep ≠ 0 := by
            intro e
            subst e
            exact HT.out ⟨HX.out.zero HB.out, .inl rfl⟩
          have c3 := H1.out.c3
          cases hs : beg (bytesOf E.F.shut) (E.b.drop p) with
          | true =>
            have HS := Lib.hid hs
            have hsz := (beg_size hs).1
            clear hs
            have hw : IntKind.i64.wrap ((p : Int) + (E.F.shut.size : Int)) = (p : Int) + (E.F.shut.size : Int) := IntWalk.i64_in _ (by omega)
            go_wp2_with fail
            refine (begins_is E _ _ p E.F.shut true H1.out hpl (by omega) HS.out).mono ?_
            rintro e w1 ⟨rfl, h1, _⟩
            have H3 := Lib.hid h1
            clear h1 c3 H1
            go_wp2_with fail
            go_region_held3 (fun w' => w'.cell? ⟨E.d, 0, none⟩ = some (.pointer (some ⟨E.g, 0, none⟩)) ∧ w'.cell? ⟨E.d, 3, none⟩ = some (.string E.F.shut))
              (first | exact ⟨h2.c0, h2.c3⟩ | exact ⟨H3.out.drew.c0, H3.out.drew.c3⟩ | go_keep)
              (first | (go_at_call 20; refine (put_ov E _ L at_ X p 3 E.F.shut.size H3.out.drew HL.out HX.out.pos hsz _ rfl).mono ?_; rintro e w2 ⟨rfl, h2⟩))
            clear hw
            have H2 := Lib.hid h2
            have c3 := h2.c3
            clear h2
            by_cases hd1 : deep = 1
            · subst hd1
              have HF := Lib.hid (HX.out.ss HT.out HS.out)
              go_wp2_with fail
              go_ret
              have h2 := H2.out
              rw [HF.out] at h2
              refine ⟨congrArg (fun z : Nat => Ending.returned (Value.int .i64 (z : Int))) ?_, h2⟩
              have hp := HX.out.pos
              rw [← HF.out]
              simp
              omega
            · have HX2 := Lib.hid (HX.out.s HT.out HS.out (by omega))
              have hd3 : (1 : Int) ≤ (deep : Int) := by omega
              have hd2 : (((deep : Int) - 1) == 0) = false := by simp; omega
              go_wp2_with fail
              go_roundg (E.b.length - (p + E.F.shut.size))
              case measure => have := HG.out; have := (beg_size HS.out).2; omega
              case rel => exact ⟨p + E.F.shut.size, deep - 1, by go_num, by go_num, ⟨_, HX2.out, H2.out⟩, rfl⟩
          | false =>
            have HS := Lib.hid hs
            clear hs
            have HX2 := Lib.hid (HX.out.one hlt HT.out HS.out hdz)
            go_wp2_with fail
            refine (begins_is E _ _ p E.F.shut false H1.out hpl (by omega) HS.out).mono ?_
            rintro e w1 ⟨rfl, h1, _⟩
            have H3 := Lib.hid h1
            have c0 := h1.c0
            clear h1 c3 H1
            go_wp2_with fail
            refine (put_ov E _ L at_ X p 1 1 H3.out HL.out HX.out.pos (by omega) _ rfl).mono ?_
            rintro e w2 ⟨rfl, h2⟩
            have H2 := Lib.hid h2
            clear h2 c0 H3
            go_wp2_with fail
            go_roundg (E.b.length - (p + 1))
            case measure => have := HG.out; omega
            case rel => exact ⟨p + 1, deep, by go_num, rfl, ⟨_, HX2.out, H2.out⟩, rfl⟩
    · obtain rfl : p = E.b.length := by omega
      have hend := HX.out.end_
      have HE := Lib.hid hend
      clear hend
      go_wp2_with fail
      go_ret
      have hp := HX.out.pos
      rw [← HE.out]
      exact ⟨congrArg (fun z : Nat => Ending.returned (Value.int .i64 (z : Int))) hp, HN.out⟩
end Go.Proofs.Ytjbbogcoabgcnaa.S
