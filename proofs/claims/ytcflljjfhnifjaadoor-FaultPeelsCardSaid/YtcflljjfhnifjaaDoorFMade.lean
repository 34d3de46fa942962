/- Errors in places: how they are made, walked; the laws' fixed fact. Conditions: as each lemma says. -/
import Derived.Test.YtcflljjfhnifjaaDoorFWh
import Derived.Test.YtcflljjfhnifjaaDoorOpn
set_option linter.unusedVariables false
set_option linter.unusedSimpArgs false
namespace Go.Proofs.YtcflljjfhnifjaaDoor.F
open Go.RowKit Go.Extern.Stop Go.Stop Go.Extern Go.Proofs.YtcflljjfhnifjaaDoorW.PrintWords Go.Proofs.YtcflljjfhnifjaaDoorW.Opn

structure Pl where
  l : ByteArray
  k : Int
  o : Bool
def kPl : Kd Pl := Kd.iso (Kd.pair Kd.string (Kd.pair (Kd.int .i64) Kd.bool)) (fun x : Pl => (x.l, (x.k, x.o)))
theorem kPl_open {w : World} {x : Pl} {cs : List Value} (h : kPl.K w x cs) : cs = [.string x.l, .int .i64 x.k, .bool x.o] := by
  obtain ⟨_, _, rfl, rfl, _, _, rfl, rfl, rfl⟩ := h
  exact rfl
def stepE (p : Pl) (o : Option Er) : Option Er := if p.o = true ∧ o.isSome = true then o.map .other else newE p.l p.k o
def madeE (n : Int) (ps : List Pl) : Option Er := ps.foldr stepE (ofE n)
theorem pl_at {w : World} {A : Option Addr} {n : Nat} {xs : List Pl} (h : Kd.C kPl w A n xs) (i : Nat) (hi : i < n) :
    ∃ ad p, A = some ad ∧ xs[i]? = some p ∧ w.cell? (ad.add (i * 3)) = some (.string p.l) ∧ w.cell? ⟨(ad.add (i * 3)).block, (ad.add (i * 3)).off + 1, none⟩ = some (.int .i64 p.k) ∧ w.cell? ⟨(ad.add (i * 3)).block, (ad.add (i * 3)).off + 2, none⟩ = some (.bool p.o) := by
  obtain ⟨ad, c, e, _, hK, hcell⟩ := Kd.C_get h ⟨⟨#[]⟩, 0, false⟩ (i : Int) (by omega) (by omega)
  have hn := h.1
  have hx : xs[i]? = some (xs.getD i ⟨⟨#[]⟩, 0, false⟩) := by
    rw [List.getD_eq_getElem?_getD, List.getElem?_eq_getElem (by omega)]
    rfl
  rw [Int.toNat_natCast] at hK hcell
  obtain rfl := kPl_open hK
  refine ⟨ad, _, e, hx, hcell 0 _ rfl, ?_, ?_⟩
  · rw [← add_field _ _ 1 (by omega)]
    exact hcell 1 _ rfl
  · rw [← add_field _ _ 2 (by omega)]
    exact hcell 2 _ rfl
theorem made_drop (n : Int) (ps : List Pl) (i : Nat) (p : Pl) (h : ps[i]? = some p) : madeE n (ps.drop i) = stepE p (madeE n (ps.drop (i + 1))) := by
  have hi := (List.getElem?_eq_some_iff.1 h).1
  have e : ps.drop i = p :: ps.drop (i + 1) := by
    rw [List.drop_eq_getElem_cons hi]
    congr 1
    exact Option.some.inj ((List.getElem?_eq_getElem hi).symm.trans h)
  rw [e]
  rfl
set_option maxHeartbeats 2000000 in
theorem made_any (n : Int) (A : Option Addr) (c : Nat) (ps : List Pl) (W : World) (hC : Kd.C kPl W A ps.length ps) (hm : ps.length ≤ 1000000) :
    Calls Tryd.prog 8 #[.int .i64 n, .slice A ps.length c] W fun e w' => ∃ v, e = .returned v ∧ EV w' (madeE n ps) v ∧ Below W.heap.size W w' := by
  have HC := Lib.hid hC
  clear hC
  go_enter Tryd.func8, Tryd.ntmps8
  go_wp2_with fail
  refine (of_any n _).mono ?_
  rintro e w1 ⟨v1, rfl, hv1, rfl⟩
  have HV1 := Lib.hid hv1
  clear hv1
  go_wp2_with fail
  go_loopg [5, 6] ps.length (fun gn v iv wr => ∃ (j : Nat) (x : Int), iv = .int .i64 x ∧ x + 1 = (j : Int) ∧ j ≤ ps.length ∧ Hid (EV wr (madeE n (ps.drop j)) v ∧ Below w1.heap.size w1 wr ∧ gn = j))
  case atStart => exact ⟨ps.length, (ps.length : Int) - 1, by go_num, by omega, Nat.le_refl _, by rw [List.drop_length]; exact HV1.out, Below.refl _ _, rfl⟩
  case round =>
    obtain ⟨j, x, rfl, hx, hj, HQ⟩ := hrel
    clear HV1
    cases j with
    | zero =>
      obtain rfl : x = -1 := by omega
      have HF := Lib.hid HQ.out
      clear HQ hx
      go_wp2_with fail
      go_ret
      exact ⟨_, rfl, HF.out.1, HF.out.2.1⟩
    | succ i =>
      obtain rfl : x = (i : Int) := by omega
      obtain ⟨ad, p, rfl, hp, h0, h1, h2⟩ := pl_at (Kd.C_below HC.out HQ.out.2.1) i (by omega)
      have hd := made_drop n ps i p hp
      have HP := Lib.hid hd
      have HE := Lib.hid HQ.out.1
      have HB := Lib.hid HQ.out.2
      clear HQ hd hp hx
      obtain ⟨l, k, o⟩ := p
      simp only at h0 h1 h2
      go_upto_region 6 with fail
      have hbp := below_alloc (Below.refl wr.heap.size wr) (.cells #[.string l, .int .i64 k, .bool o] 30 (0, 0))
      have HBP := Lib.hid hbp
      have q0 : (wr.alloc (.cells #[.string l, .int .i64 k, .bool o] 30 (0, 0))).cell? ⟨wr.heap.size, 0, none⟩ = some (.string l) := by simp
      have q1 : (wr.alloc (.cells #[.string l, .int .i64 k, .bool o] 30 (0, 0))).cell? ⟨wr.heap.size, 1, none⟩ = some (.int .i64 k) := by simp
      have q2 : (wr.alloc (.cells #[.string l, .int .i64 k, .bool o] 30 (0, 0))).cell? ⟨wr.heap.size, 2, none⟩ = some (.bool o) := by simp
      have HE2 := Lib.hid (HE.out.below hbp)
      clear hbp h0 h1 h2 HE
      generalize wr.alloc (.cells #[.string l, .int .i64 k, .bool o] 30 (0, 0)) = w2 at *
      generalize hpp : wr.heap.size = pp at *
      generalize madeE n (ps.drop (i + 1)) = E at *
      cases E with
      | none =>
        obtain rfl : _ = Value.nilIface := HE2.out
        cases o with
        | true =>
          go_wp2_with (go_at_call 12; refine (new_any l k _ _ _ HE2.out).mono ?_; rintro e9 w9 ⟨v9, rfl, hv9, hb9⟩; have HN := Lib.hid (And.intro hv9 hb9); clear hv9 hb9)
          go_roundg i
          case measure => rw [HB.out.2]; exact Nat.lt_succ_self _
          case rel =>
            subst hpp
            exact ⟨i, (i : Int) - 1, by go_num, by omega, by omega, by rw [HP.out]; exact HN.out.1, below_step HB.out.1 (below_step HBP.out HN.out.2), rfl⟩
        | false =>
          go_wp2_with (go_at_call 12; refine (new_any l k _ _ _ HE2.out).mono ?_; rintro e9 w9 ⟨v9, rfl, hv9, hb9⟩; have HN := Lib.hid (And.intro hv9 hb9); clear hv9 hb9)
          go_roundg i
          case measure => rw [HB.out.2]; exact Nat.lt_succ_self _
          case rel =>
            subst hpp
            exact ⟨i, (i : Int) - 1, by go_num, by omega, by omega, by rw [HP.out]; exact HN.out.1, below_step HB.out.1 (below_step HBP.out HN.out.2), rfl⟩
      | some e =>
        have he : ErV w2 e _ := HE2.out
        obtain ⟨T, x, rfl⟩ := he.form
        clear he
        cases o with
        | true =>
          go_wp2_with fail
          go_roundg i
          case measure => rw [HB.out.2]; exact Nat.lt_succ_self _
          case rel =>
            subst hpp
            exact ⟨i, (i : Int) - 1, by go_num, by omega, by omega, by rw [HP.out]; exact ⟨_, rfl, HE2.out⟩, below_step HB.out.1 HBP.out, rfl⟩
        | false =>
          go_wp2_with (go_at_call 12; refine (new_any l k _ _ _ HE2.out).mono ?_; rintro e9 w9 ⟨v9, rfl, hv9, hb9⟩; have HN := Lib.hid (And.intro hv9 hb9); clear hv9 hb9)
          go_roundg i
          case measure => rw [HB.out.2]; exact Nat.lt_succ_self _
          case rel =>
            subst hpp
            exact ⟨i, (i : Int) - 1, by go_num, by omega, by omega, by rw [HP.out]; exact HN.out.1, below_step HB.out.1 (below_step HBP.out HN.out.2), rfl⟩
theorem awake_any (W : World) (hg : Hx W) :
    Calls Tryd.prog 7 #[] W fun e w' => e = .returned (.bool true) ∧ Below W.heap.size W w' := by
  have HG := Lib.hid hg
  clear hg
  go_enter Tryd.func7, Tryd.ntmps7
  go_wp2_with fail
  refine (new_any ⟨#[119, 111, 114, 100, 115]⟩ 3 (some (.code 3)) _ _ rfl).mono ?_
  rintro e w1 ⟨v1, rfl, hv1, hb1⟩
  have H1 := Lib.hid (And.intro (HG.out.below (n := 0) hb1) (And.intro hv1 hb1))
  clear hv1 hb1
  go_wp2_with fail
  refine (where_any _ _ _ H1.out.1 H1.out.2.1).mono ?_
  rintro e w2 ⟨rfl, hb2⟩
  have H2 := Lib.hid (And.intro (H1.out.1.below (n := 0) hb2) (And.intro (H1.out.2.1.below hb2) (below_step H1.out.2.2 hb2)))
  clear hb2
  rw [show whereV (outE (newE ⟨#[119, 111, 114, 100, 115]⟩ 3 (some (.code 3)))) = .tuple #[.string ⟨#[119, 111, 114, 100, 115]⟩, .int .i64 3, .bool true] from rfl]
  go_wp2_with fail
  refine (code_any _ _ _ H2.out.1 H2.out.2.1).mono ?_
  rintro e w3 ⟨rfl, hb3⟩
  have H3 := Lib.hid (below_step H2.out.2.2 hb3)
  clear hb3
  rw [show codeE (newE ⟨#[119, 111, 114, 100, 115]⟩ 3 (some (.code 3))) = 3 from rfl]
  go_wp2_with fail
  go_ret
  exact ⟨rfl, H3.out⟩
end Go.Proofs.YtcflljjfhnifjaaDoor.F
