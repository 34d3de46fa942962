/- slices.SortStableFunc at a row of edits of one's own. Conditions: at most 100000 edits. -/
import Derived.Test.YtgcjkijndibejaaECmp
import Derived.Test.YtgcjkijndibejaaESrt
import Derived.Sort.OwnSortedInts
set_option linter.unusedVariables false
set_option linter.unusedSimpArgs false
namespace Go.Proofs.Ytgcjkijndibejaa.Srt
open Go.Shelf Go.RowKit Go.Lib Go.Sort Go.Proofs.YtgcjkijndibejaaW.PrintWords

def dE : Ed := (0, 0, ByteArray.empty)
def encT (es : List Ed) (i : Nat) : List Value := encE (es.getD i dE)
def cT (es : List Ed) (i j : Nat) : Int := cE (es.getD i dE) (es.getD j dE)
def edC (es : List Ed) : List Value := es.flatMap encE
/-- The edits in their order. -/
def srtE (es : List Ed) : List Ed := (stb (ltOf (cT es)) (Array.range es.length)).toList.map (fun i => es.getD i dE)
theorem edC_length (es : List Ed) : (edC es).length = es.length * 3 := by
  unfold edC
  induction es with
  | nil => rfl
  | cons e es ih => rw [List.flatMap_cons, List.length_append, ih, List.length_cons]; show 3 + _ = _; omega
theorem edC_get : ∀ (es : List Ed) (t : Nat), t < es.length * 3 → (edC es)[t]? = some ((encE (es.getD (t / 3) dE))[t % 3]!) := by
  intro es
  induction es with
  | nil => intro t h; simp at h
  | cons e es ih =>
    intro t h
    unfold edC
    rw [List.flatMap_cons]
    by_cases h3 : t < 3
    · rw [List.getElem?_append_left (by exact h3), show t / 3 = 0 by omega, show t % 3 = t by omega]
      have : t = 0 ∨ t = 1 ∨ t = 2 := by omega
      rcases this with rfl | rfl | rfl <;> rfl
    · rw [List.getElem?_append_right (by exact Nat.le_of_not_lt h3)]
      have e1 : t - (encE e).length = t - 3 := rfl
      rw [e1]
      have := ih (t - 3) (by rw [List.length_cons] at h; omega)
      unfold edC at this
      rw [this, show (t - 3) % 3 = t % 3 by omega]
      obtain ⟨k, hk⟩ : ∃ k, t / 3 = k + 1 := ⟨t / 3 - 1, by omega⟩
      rw [hk, show (t - 3) / 3 = k by omega, List.getD_cons_succ]
theorem size_stb (lt : Nat → Nat → Bool) (d : Array Nat) : (stb lt d).size = d.size := by
  have h1 : ∀ n f a (d : Array Nat), (stbA lt n f a d).2.size = d.size := by
    intro n f
    induction f with
    | zero => intro a d; rfl
    | succ f ih =>
      intro a d
      unfold stbA
      split
      · rw [ih, size_ins]
      · rfl
  have h2 : ∀ n bs f a (d : Array Nat), (mrg lt n bs f a d).2.size = d.size := by
    intro n bs f
    induction f with
    | zero => intro a d; rfl
    | succ f ih =>
      intro a d
      unfold mrg
      split
      · rw [ih, size_symM]
      · rfl
  have h3 : ∀ n f bs (d : Array Nat), (lvl lt n f bs d).size = d.size := by
    intro n f
    induction f with
    | zero => intro bs d; rfl
    | succ f ih =>
      intro bs d
      unfold lvl
      split
      · rw [ih]
        unfold mrgT
        split
        · rw [size_symM, h2]
        · rw [h2]
      · rfl
  unfold stb
  rw [h3]
  unfold stb1
  rw [size_ins, h1]
theorem srtE_length (es : List Ed) : (srtE es).length = es.length := by
  unfold srtE
  rw [List.length_map, Array.length_toList, size_stb]
  simp
set_option maxHeartbeats 1000000 in
theorem ins_nil (cb : Value) (w : World) : Calls Try.prog 29 #[.slice none 0 0, .int .i64 0, .int .i64 0, cb] w fun e w' => e = .returned (.tuple #[]) ∧ w' = w := by
  go_enter Try.func29, Try.ntmps29
  go_wp2_with fail
  go_loopg [8] 0 (fun gn iv wr => iv = .int .i64 1 ∧ wr = w)
  case atStart => exact ⟨rfl, rfl⟩
  case round =>
    obtain ⟨rfl, rfl⟩ := hrel
    go_wp2_with fail
    go_end0
    exact ⟨rfl, rfl⟩
set_option maxHeartbeats 1000000 in
theorem stable_nil (cb : Value) (w : World) : Calls Try.prog 27 #[.slice none 0 0, .int .i64 0, cb] w fun e w' => e = .returned (.tuple #[]) ∧ w' = w := by
  go_enter Try.func27, Try.ntmps27
  go_wp2_with fail
  go_loopg [7, 8] 0 (fun gn av bv wr => av = .int .i64 0 ∧ bv = .int .i64 20 ∧ wr = w)
  case atStart => exact ⟨rfl, rfl, rfl⟩
  case round =>
    obtain ⟨rfl, rfl, rfl⟩ := hrel
    go_wp2_with fail
    refine (ins_nil cb _).mono ?_
    rintro e w1 ⟨rfl, rfl⟩
    go_upto_block 2 with fail
    go_wp2
    go_loopg [6] 0 (fun gn sv wr2 => sv = .int .i64 20 ∧ wr2 = w1)
    case atStart => exact ⟨rfl, rfl⟩
    case round =>
      obtain ⟨rfl, rfl⟩ := hrel
      go_wp2_with fail
      go_end0
      exact ⟨rfl, rfl⟩
theorem ea : ∀ args w, (callFunc 23 args).run Try.prog w = .ok (.enter 23 args) w := enters_of Try.func23 (by kernel_rfl) rfl
theorem take_put (cur : Array Value) (F : Array Value) (h : F.size ≤ cur.size) : (putCells id 0 F cur).toList.take F.size = F.toList := by
  apply List.ext_getElem?
  intro j
  by_cases hj : j < F.size
  · rw [List.getElem?_take_of_lt hj, Array.getElem?_toList, Array.getElem?_toList]
    simp [putCells, hj, show j < cur.size by omega]
  · rw [List.getElem?_take_eq_none (by omega), List.getElem?_eq_none (by simp; omega)]
theorem flat_eq (es : List Ed) (dk : Array Nat) (hs : dk.size = es.length) : (flatK (encT es) 3 dk).toList = edC (dk.toList.map (fun i => es.getD i dE)) := by
  apply List.ext_getElem?
  intro t
  by_cases ht : t < es.length * 3
  · rw [edC_get _ t (by rw [List.length_map, Array.length_toList, hs]; exact ht), Array.getElem?_toList]
    have h1 : t < (flatK (encT es) 3 dk).size := by rw [size_flatK, hs]; exact ht
    have h2 := get_flatK (encT es) 3 dk t (by rw [hs]; exact ht)
    rw [Array.getElem?_eq_getElem h1]
    congr 1
    rw [getElem!_pos _ t h1] at h2
    rw [h2]
    have h3 : t / 3 < dk.size := by omega
    have e : (dk.toList.map (fun i => es.getD i dE)).getD (t / 3) dE = es.getD dk[t / 3]! dE := by
      rw [List.getD_eq_getElem?_getD, List.getElem?_map, Array.getElem?_toList, Array.getElem?_eq_getElem h3, getElem!_pos dk _ h3]
      rfl
    rw [e]
    rfl
  · rw [List.getElem?_eq_none (by rw [Array.length_toList, size_flatK, hs]; omega), List.getElem?_eq_none (by rw [edC_length, List.length_map, Array.length_toList, hs]; omega)]
theorem range_map (es : List Ed) : (Array.range es.length).toList.map (fun i => es.getD i dE) = es := by
  apply List.ext_getElem?
  intro i
  rw [List.getElem?_map, Array.getElem?_toList]
  by_cases h : i < es.length
  · simp [h]
  · simp [h]
set_option maxHeartbeats 1000000 in
theorem sort_any (es : List Ed) (W : World) (base : Nat) (v : Value) (ho : W.ownsRow base 46 3 v es.length (edC es)) (hn : es.length ≤ 100000) :
    Calls Try.prog 22 #[v, .func (.func 23) #[] #[]] W fun e w' => e = .returned (.tuple #[]) ∧ w'.ownsRow base 46 3 v es.length (edC (srtE es)) ∧ W.grownBy w' v.ownBlock := by
  rcases ho.2 with ⟨rfl, h0⟩ | ⟨g, cap, cur, rfl, hbg, hg, hnc, hcm, hcs, ht⟩
  · obtain rfl : es = [] := List.eq_nil_of_length_eq_zero h0
    have HO := Lib.hid ho
    clear ho
    go_enter Try.func22, Try.ntmps22
    go_wp2_with fail
    refine (stable_nil _ _).mono ?_
    rintro e w1 ⟨rfl, rfl⟩
    go_wp2_with fail
    go_end0
    refine ⟨rfl, ?_, World.grownBy.refl _ _⟩
    have e : srtE [] = [] := List.eq_nil_of_length_eq_zero (srtE_length [])
    rw [e]
    exact HO.out
  · have hgl : g < W.heap.size := (Array.getElem?_eq_some_iff.1 hg).1
    have hz : (Array.range es.length).size = es.length := by simp
    have hH : HoldsK (encT es) 3 W g 0 (Array.range es.length) := by
      intro j hj
      rw [size_flatK, hz] at hj
      refine ⟨?_, by simp [World.frozen?, hg]⟩
      have hc : W.cell? ⟨g, 0 + j, none⟩ = cur[j]? := by rw [Nat.zero_add]; exact blk_cell hg j
      rw [hc, ← Array.getElem?_toList]
      have h1 : (cur.toList.take (es.length * 3))[j]? = (edC es)[j]? := by rw [ht]
      rw [List.getElem?_take_of_lt hj] at h1
      rw [h1]
      have h2 := flat_eq es (Array.range es.length) hz
      rw [range_map] at h2
      rw [← h2, Array.getElem?_toList]
      have h3 : j < (flatK (encT es) 3 (Array.range es.length)).size := by rw [size_flatK, hz]; exact hj
      rw [Array.getElem?_eq_getElem h3, getElem!_pos _ j h3]
      rfl
    have R : RowK (encT es) 3 W g 0 (Array.range es.length) := ⟨fun _ => rfl, fun x v hv => by
      unfold encT encE at hv
      simp only [List.mem_cons, List.not_mem_nil, or_false] at hv
      rcases hv with rfl | rfl | rfl <;> rfl, hH, hgl⟩
    have hcl : CmpLays Try.prog 23 #[] (encT es) 3 (cT es) g 0 (Array.range es.length).size W := fun m os dk hdk x y => closure_any (es.getD x dE) (es.getD y dE) _
    have hst := stable_any 3 sbTry (encT es) (cT es) 23 #[] g 0 cap (Array.range es.length) W ea hcl R (by rw [hz]; omega)
    rw [hz] at hst
    have HO := Lib.hid (And.intro ho (And.intro hg (And.intro hbg (And.intro hnc (And.intro hcm (And.intro hcs hgl))))))
    have HZ := Lib.hid (show (stb (ltOf (cT es)) (Array.range es.length)).size = es.length from by rw [size_stb]; exact hz)
    have HF := Lib.hid (flat_eq es (stb (ltOf (cT es)) (Array.range es.length)) HZ.out)
    have HS := Lib.hid (show edC (srtE es) = edC ((stb (ltOf (cT es)) (Array.range es.length)).toList.map (fun i => es.getD i dE)) from rfl)
    clear hH R hcl ho hg hbg ht hz
    generalize stb (ltOf (cT es)) (Array.range es.length) = dk at *
    have HSt := Lib.hid hst
    clear hst
    go_enter Try.func22, Try.ntmps22
    go_wp2_with fail
    refine HSt.out.mono ?_
    rintro e w1 ⟨rfl, hsw⟩
    have HW := Lib.hid hsw
    clear hsw HSt
    go_wp2_with fail
    go_end0
    obtain ⟨n, os, rfl⟩ := HW.out
    obtain ⟨ho, hg, hbg, hnc, hcm, hcs, hgl⟩ := HO.out
    refine ⟨rfl, ?_, ?_⟩
    · refine ⟨by rw [HS.out, edC_length, List.length_map, Array.length_toList, HZ.out], .inr ⟨g, cap, putCells id 0 (flatK (encT es) 3 dk) cur, rfl, hbg, ?_, hnc, hcm, by simp [putCells, hcs], ?_⟩⟩
      · unfold sortWorldK putRowK
        rw [heap_grow_old _ _ (by simp [putRow, mapBlock, Sort.ahead]; exact hgl)]
        simp [putRow, mapBlock, Sort.ahead, Array.getElem?_modify, hg, onCells]
      · rw [HS.out, ← HF.out, ← take_put cur (flatK (encT es) 3 dk) (by rw [size_flatK, HZ.out, hcs]; exact Nat.mul_le_mul_right 3 hnc), size_flatK, HZ.out]
    · refine ⟨rfl, rfl, rfl, by unfold sortWorldK putRowK; simp [putRow, mapBlock, Sort.ahead, grow], fun k hk hne => ?_⟩
      have hkg : g ≠ k := fun e => hne (by rw [e]; rfl)
      unfold sortWorldK putRowK
      rw [heap_grow_old _ _ (by simp [putRow, mapBlock, Sort.ahead]; exact hk)]
      simp [putRow, mapBlock, Sort.ahead, Array.getElem?_modify, hkg]
end Go.Proofs.Ytgcjkijndibejaa.Srt
