/- slices.Contains of texts, walked. Conditions: as each lemma says. -/
import Derived.Test.YtkicpaodcmepmaaDoorTDoc
set_option linter.unusedVariables false
set_option linter.unusedSimpArgs false
namespace Go.Proofs.YtkicpaodcmepmaaDoor.T
open Go.RowKit Go.Proofs.YtkicpaodcmepmaaDoorW.PrintWords Go.Proofs.YtkicpaodcmepmaaDoor.L Go.Proofs.YtkicpaodcmepmaaDoor.S Go.Proofs.YtkicpaodcmepmaaDoor.Tex

theorem any_step (l : List ByteArray) (s : ByteArray) (j : Nat) (h : j < l.length) : (l.take (j + 1)).any (fun t => s.toList == t.toList) = ((l.take j).any (fun t => s.toList == t.toList) || (s.toList == (rdOf ByteArray.empty l (j : Int)).toList)) := by
  rw [List.take_add_one, List.getElem?_eq_getElem h, Option.toList_some, List.any_append]
  have e : rdOf ByteArray.empty l (j : Int) = l[j] := by
    show l.getD j ByteArray.empty = l[j]
    rw [List.getD_eq_getElem?_getD, List.getElem?_eq_getElem h]
    rfl
  rw [e]
  simp
theorem any_all (l : List ByteArray) (s : ByteArray) (j : Nat) (h : j < l.length) (ht : (s.toList == (rdOf ByteArray.empty l (j : Int)).toList) = true) : l.any (fun t => s.toList == t.toList) = true := by
  have h1 := any_step l s j h
  rw [ht, Bool.or_true] at h1
  have h2 : l = l.take (j + 1) ++ l.drop (j + 1) := (List.take_append_drop _ _).symm
  rw [h2, List.any_append, h1]
  rfl
theorem sindex_any (A : Option Addr) (c n : Nat) (l : List ByteArray) (s : ByteArray) (w : World) (h : Kd.C Kd.string w A n l) (hm : n ≤ 1000) :
    Calls Tryd.prog 50 #[.slice A n c, .string s] w fun e w' => (∃ r : Int, e = .returned (.int .i64 r) ∧ decide (0 ≤ r) = l.any (fun t => s.toList == t.toList)) ∧ w' = w := by
  obtain rfl := h.1
  have HC := Lib.hid h
  clear h
  go_enter Tryd.func50, Tryd.ntmps50
  go_wp2_with fail
  go_loopg [8] l.length (fun gn iv wr => ∃ j : Nat, iv = .int .i64 j ∧ j ≤ l.length ∧ Hid (wr = w ∧ (l.take j).any (fun t => s.toList == t.toList) = false ∧ gn = l.length - j))
  case atStart => exact ⟨0, rfl, Nat.zero_le _, rfl, by simp, rfl⟩
  case round =>
    obtain ⟨j, rfl, hj, HQ⟩ := hrel
    by_cases hlt : j < l.length
    · have hd : decide ((j : Int) < (l.length : Int)) = true := by simp; omega
      obtain ⟨rfl, hq1, hq2⟩ := HQ.out
      clear HQ
      obtain ⟨ad, rfl, hcell⟩ := Kd.at_string HC.out (j : Int) (by omega) (by omega)
      rw [Int.toNat_natCast] at hcell
      have HS := Lib.hid (any_step l s j hlt)
      have HA := Lib.hid (any_all l s j hlt)
      have HF := Lib.hid (And.intro hq1 hq2)
      clear hq1 hq2
      generalize rdOf ByteArray.empty l (j : Int) = t at *
      cases ht : (s.toList == t.toList) with
      | true =>
        have HA2 := Lib.hid (HA.out ht)
        go_wp2_with fail
        go_ret
        exact ⟨⟨_, rfl, by rw [HA2.out]; simp⟩, rfl⟩
      | false =>
        have HS2 := HS.out
        rw [ht, HF.out.1] at HS2
        have HS3 := Lib.hid HS2
        clear HS2 HS HA
        go_wp2_with fail
        go_roundg (l.length - (j + 1))
        case measure => rw [HF.out.2]; omega
        case rel => exact ⟨j + 1, by go_num, by omega, rfl, HS3.out, rfl⟩
    · obtain rfl : j = l.length := by omega
      have hd : decide ((l.length : Int) < (l.length : Int)) = false := by simp
      obtain ⟨rfl, hq1, hq2⟩ := HQ.out
      rw [List.take_length] at hq1
      have HF := Lib.hid hq1
      clear HQ hq1 hq2
      go_wp2_with fail
      go_ret
      exact ⟨⟨_, rfl, by rw [HF.out]; rfl⟩, rfl⟩
theorem contains_any (A : Option Addr) (c n : Nat) (l : List ByteArray) (s : ByteArray) (w : World) (h : Kd.C Kd.string w A n l) (hm : n ≤ 1000) :
    Calls Tryd.prog 41 #[.slice A n c, .string s] w fun e w' => e = .returned (.bool (l.any (fun t => s.toList == t.toList))) ∧ w' = w := by
  have HC := Lib.hid h
  clear h
  go_enter Tryd.func41, Tryd.ntmps41
  go_wp2_with fail
  refine (sindex_any A c n l s _ HC.out hm).mono ?_
  rintro e w' ⟨⟨r, rfl, hr⟩, rfl⟩
  have HR := Lib.hid hr
  clear hr
  go_wp2_with fail
  go_ret
  exact ⟨congrArg (fun b => Ending.returned (Value.bool b)) HR.out, rfl⟩
theorem any_mem (L : List (List Int)) (hL : ∀ l ∈ L, Bys l) (x : List Int) (hx : Bys x) : (L.map strOfNums).any (fun t => (strOfNums x).toList == t.toList) = decide (x ∈ L) := by
  induction L with
  | nil => rfl
  | cons l L ih =>
    rw [List.map_cons, List.any_cons, ih (fun y hy => hL y (by simp [hy])), str_eq hx (hL l (by simp))]
    by_cases h : x = l
    · simp [h]
    · have : (x == l) = false := by simp [h]
      simp [h]
end Go.Proofs.YtkicpaodcmepmaaDoor.T
