/- A remark to the line's end, walked. Conditions: none but those that stand there. -/
import Derived.Test.YtjbbogcoabgcnaaSDoc
import Derived.Test.YtjbbogcoabgcnaaSOv
set_option linter.unusedVariables false
set_option linter.unusedSimpArgs false
namespace Go.Proofs.Ytjbbogcoabgcnaa.S
open Go.RowKit Go.Proofs.YtjbbogcoabgcnaaW.PrintWords Go.Proofs.Ytjbbogcoabgcnaa.L Go.Proofs.Ytjbbogcoabgcnaa.Src

/-- A label set behind what is laid. -/
theorem put_ov (E : Env) (W : World) (L : List Int) (at_ : Nat) (X : List Int) (p : Nat) (l : Int) (m : Nat) (h : E.In W (ov L at_ X)) (hL : L.length = E.b.length) (hp : p = at_ + X.length) (hm : p + m ≤ E.b.length) (q : Int) (hq : q = p + m) :
    Calls Try.prog 20 #[.pointer (some ⟨E.g, 0, none⟩), .int .u8 l, .int .i64 p, .int .i64 q] W fun e w' => e = .returned (.tuple #[]) ∧ E.In w' (ov L at_ (X ++ List.replicate m l)) := by
  subst hq
  subst hp
  refine (set_any E.g E.k (ov L at_ X) l _ _ W h.sheet).mono ?_
  rintro e w' ⟨rfl, hs, hg⟩
  rw [ov_set L at_ X l m (by omega) _ rfl] at hs
  exact ⟨rfl, h.set hs hg (by rw [ov_length _ _ _ (by simp; omega), ov_length _ _ _ (by omega)])⟩

set_option maxHeartbeats 1000000 in
theorem remark_any (E : Env) (W : World) (L : List Int) (at_ m : Nat) (h : E.In W L) (hat : at_ + m ≤ E.b.length) :
    Calls Try.prog 33 #[.pointer (some ⟨E.d, 0, none⟩), .int .i64 at_, .int .i64 (at_ + m)] W fun e w' => e = .returned (.int .i64 ((at_ + m + (E.b.drop (at_ + m)).findIdx (· == 10) : Nat) : Int)) ∧
      E.In w' (ov L at_ (List.replicate m 3 ++ List.replicate ((E.b.drop (at_ + m)).findIdx (· == 10)) 1)) := by
  have hL := h.len
  have hcap := h.ok.cap
  have hmax := h.ok.max
  obtain ⟨p, hp⟩ : ∃ p : Nat, p = at_ + m := ⟨_, rfl⟩
  have hpI : (at_ : Int) + m = (p : Int) := by omega
  rw [hpI, ← hp]
  have hfl := List.findIdx_le_length (p := fun x : Int => x == 10) (xs := E.b.drop p)
  rw [List.length_drop] at hfl
  have hidx : idx (E.b.drop p) 10 = if (E.b.drop p).findIdx (· == 10) < E.b.length - p then ((E.b.drop p).findIdx (· == 10) : Int) else -1 := by unfold idx; rw [List.length_drop]
  have HBy := Lib.hid (h.ok.bys.drop p)
  obtain ⟨i0, hi0, _, hsz, _⟩ := info_parts info5
  have hct := cut_from (P := Try.prog) 22 5 .i64 Try.underlying22 hi0 1 hsz E.A E.b.length E.c (p : Int) (by omega) (by omega)
  simp only [Int.toNat_natCast] at hct
  generalize hA2 : (if E.c = p then E.A else Option.map (fun x => x.add (p * 1)) E.A) = A2 at hct
  have HC := Lib.hid (show ∀ W' : World, Kd.C (Kd.int .u8) W' E.A E.b.length E.b → Kd.C (Kd.int .u8) W' A2 (E.b.length - p) (E.b.drop p) from by
    intro W' hC
    have := Kd.C_drop hC (show p ≤ E.b.length by omega) hcap
    rw [List.length_drop] at this
    rw [← hA2]
    exact this)
  have HI := Lib.hid hidx
  have HL := Lib.hid hL
  have HX := Lib.hid (show E.In W (ov L at_ []) from by rw [ov_nil]; exact h)
  clear hA2 hi0 hsz hidx hL
  have c0 := h.c0
  have HP := Lib.hid hp
  have hp1 : at_ ≤ p := by omega
  have hp2 : p ≤ E.b.length := by omega
  have HM := Lib.hid (show (p : Int) = (at_ : Int) + m by omega)
  clear hp hpI
  generalize (E.b.drop p).findIdx (· == 10) = f at *
  go_enter Try.func33, Try.ntmps33
  go_wp2_with fail
  refine (put_ov E _ L at_ [] at_ 3 m HX.out HL.out (by simp) hat _ HM.out).mono ?_
  rintro e w1 ⟨rfl, h1⟩
  rw [List.nil_append] at h1
  have H1 := Lib.hid h1
  clear h1
  clear c0
  have c7 := H1.out.c7
  have c0 := H1.out.c0
  by_cases hf : f < E.b.length - p
  · have hi : idx (E.b.drop p) 10 = f := by rw [HI.out, if_pos hf]
    have HIF := Lib.hid hi
    clear hi
    go_wp2_with (first
      | (go_at_call 32; refine (index_any A2 _ _ (E.b.drop p) 10 _ (HC.out _ H1.out.bytes) HBy.out (by omega)).mono ?_; rw [HIF.out]; rintro e w' ⟨rfl, rfl⟩)
      | (go_at_call 20; refine (put_ov E _ L at_ (List.replicate m 3) p 1 f H1.out HL.out (by have := HP.out; simpa using this) (by omega) _ rfl).mono ?_; rintro e w2 ⟨rfl, h2⟩; have H2 := Lib.hid h2; clear h2))
    go_ret
    exact ⟨by simp, H2.out⟩
  · obtain rfl : f = E.b.length - p := by omega
    have hi : idx (E.b.drop p) 10 = -1 := by rw [HI.out, if_neg hf]
    have HIF := Lib.hid hi
    clear hi
    go_wp2_with (first
      | (go_at_call 32; refine (index_any A2 _ _ (E.b.drop p) 10 _ (HC.out _ H1.out.bytes) HBy.out (by omega)).mono ?_; rw [HIF.out]; rintro e w' ⟨rfl, rfl⟩)
      | (go_at_call 20; refine (put_ov E _ L at_ (List.replicate m 3) p 1 (E.b.length - p) H1.out HL.out (by have := HP.out; simpa using this) (by omega) _ (by omega)).mono ?_; rintro e w2 ⟨rfl, h2⟩; have H2 := Lib.hid h2; clear h2))
    go_ret
    exact ⟨congrArg (fun z : Int => Ending.returned (Value.int .i64 z)) (by omega), H2.out⟩
end Go.Proofs.Ytjbbogcoabgcnaa.S
