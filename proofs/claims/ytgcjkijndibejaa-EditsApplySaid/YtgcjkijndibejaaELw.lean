/- Plain law of the edits: strings and their bytes; one edit; two. Conditions: as each lemma says. -/
import Derived.Test.YtgcjkijndibejaaEBk
import Derived.Test.YtgcjkijndibejaaETag
set_option linter.unusedVariables false
set_option linter.unusedSimpArgs false
namespace Go.Proofs.Ytgcjkijndibejaa.Srt
open Go.Lib hiding bytesOf bytesOf_length
open Go.Shelf Go.RowKit Go.Proofs.YtgcjkijndibejaaW.PrintWords

def Bys (l : List Int) : Prop := ∀ x ∈ l, 0 ≤ x ∧ x < 256
theorem Bys.drop {l : List Int} (h : Bys l) (n : Nat) : Bys (l.drop n) := fun x hx => h x (List.mem_of_mem_drop hx)
theorem Bys.take {l : List Int} (h : Bys l) (n : Nat) : Bys (l.take n) := fun x hx => h x (List.mem_of_mem_take hx)
theorem Bys.append {a b : List Int} (h : Bys a) (h' : Bys b) : Bys (a ++ b) := fun x hx => by
  rcases List.mem_append.1 hx with hx | hx
  · exact h x hx
  · exact h' x hx
theorem Bys.of (s : ByteArray) : Bys (bytesOf s) := fun x hx => by
  unfold bytesOf at hx
  obtain ⟨y, _, rfl⟩ := List.mem_map.1 hx
  have := y.toNat_lt
  omega
theorem bytesOf_append (a b : ByteArray) : bytesOf (a ++ b) = bytesOf a ++ bytesOf b := by
  unfold bytesOf
  rw [← List.map_append]
  congr 1
theorem bytes_strOf (l : List Int) (h : Bys l) : bytesOf (strOfNums l) = l := by
  unfold bytesOf strOfNums
  simp only [List.map_map]
  induction l with
  | nil => rfl
  | cons x l ih =>
    have hx := h x (by simp)
    simp only [List.map_cons, Function.comp]
    rw [ih (fun y hy => h y (by simp [hy]))]
    congr 1
    simp only [UInt8.toNat_ofNat']
    omega
theorem strOfNums_size' (l : List Int) : (strOfNums l).size = l.length := by
  unfold strOfNums
  show (List.toArray _).size = _
  simp
theorem bytesOf_inj {a b : ByteArray} (h : bytesOf a = bytesOf b) : a = b := by
  obtain ⟨⟨a⟩⟩ := a
  obtain ⟨⟨b⟩⟩ := b
  unfold bytesOf at h
  have : a = b := by
    have h : a.map (fun b => (b.toNat : Int)) = b.map (fun b => (b.toNat : Int)) := h
    refine List.map_inj_right (f := fun b : UInt8 => (b.toNat : Int)) (fun x y e => ?_) |>.1 h
    have e : (x.toNat : Int) = (y.toNat : Int) := e
    exact UInt8.toNat_inj.1 (by omega)
  rw [this]
theorem strOf_bytes (s : ByteArray) : strOfNums (bytesOf s) = s := bytesOf_inj (bytes_strOf _ (Bys.of s))
theorem toList_iff (a b : ByteArray) : a.toList = b.toList ↔ a = b := by
  constructor
  · intro h
    rw [ByteArray.toList_eq, ByteArray.toList_eq] at h
    obtain ⟨⟨a⟩⟩ := a
    obtain ⟨⟨b⟩⟩ := b
    have h : a = b := h
    rw [h]
  · intro h; rw [h]
theorem strOf_inj {a b : List Int} (ha : Bys a) (hb : Bys b) : strOfNums a = strOfNums b ↔ a = b := by
  constructor
  · intro h
    have := congrArg bytesOf h
    rwa [bytes_strOf _ ha, bytes_strOf _ hb] at this
  · intro h; rw [h]
theorem Bys.cut {b : List Int} (h : Bys b) (e : Ed) : Bys (cut b e) := (h.drop _).take _
theorem chg_iff (b : List Int) (hb : Bys b) (e : Ed) : chg b e = true ↔ ¬ cut b e = bytesOf e.2.2 := by
  unfold chg
  rw [decide_eq_true_eq, toList_iff]
  constructor
  · intro h e1
    apply h
    rw [e1, strOf_bytes]
  · intro h e1
    apply h
    rw [← e1, bytes_strOf _ (hb.cut e)]
theorem chg_nff (b : List Int) (hb : Bys b) (e : Ed) : chg b e = false ↔ cut b e = bytesOf e.2.2 := by
  rw [← Bool.not_eq_true, chg_iff b hb, Classical.not_not]
theorem okL_one (e : Ed) : okL [e] = true := rfl
theorem tidy_one (b : List Int) (e : Ed) (h : chk b.length e = true) : tidy b [e] = (0, if chg b e = true then [e] else []) := by
  have hk : kept b [e] = if chg b e = true then [e] else [] := by
    unfold kept
    rw [List.filter_cons]
    rfl
  have hs : srtE (kept b [e]) = if chg b e = true then [e] else [] := by
    rw [hk]
    split
    · exact srtE_one e
    · exact srtE_nil
  unfold tidy
  rw [if_neg (by simp), if_pos (by simp [h]), hs]
  rw [if_pos (by split <;> rfl)]
theorem apply_one (b : List Int) (hb : Bys b) (e : Ed) (h : chk b.length e = true) : applyR b [e] = b.take e.1.toNat ++ bytesOf e.2.2 ++ b.drop (e.1.toNat + e.2.1.toNat) := by
  unfold applyR
  rw [tidy_one b e h, if_pos rfl]
  by_cases hc : chg b e = true
  · rw [if_pos hc]
    show (([] ++ (b.drop 0).take (e.1.toNat - 0) ++ bytesOf e.2.2) ++ b.drop (e.1.toNat + e.2.1.toNat)) = _
    simp
  · rw [if_neg hc]
    rw [Bool.not_eq_true, chg_nff b hb] at hc
    show [] ++ b.drop 0 = _
    rw [← hc]
    unfold cut
    rw [List.append_assoc, List.nil_append, List.drop_zero, ← List.drop_drop, List.take_append_drop, List.take_append_drop]
end Go.Proofs.Ytgcjkijndibejaa.Srt
