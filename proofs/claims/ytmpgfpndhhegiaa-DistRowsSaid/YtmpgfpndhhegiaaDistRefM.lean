/- The reference's Dist, walked: it comes to the distance. Conditions: none. -/
import Derived.Test.YtmpgfpndhhegiaaDB0
import Derived.Test.YtmpgfpndhhegiaaOsa
import Derived.Test.YtmpgfpndhhegiaaFr
import Derived.Outline
import Derived.IntWalk
import Derived.Lib.Hide
namespace Go.Proofs.Ytmpgfpndhhegiaa.DR
open Go.RowKit Go.Proofs.YtmpgfpndhhegiaaW.PrintWords Go.Proofs.YtmpgfpndhhegiaaW.PrintLast Go.Proofs.YtmpgfpndhhegiaaW.PrintMore Go.Proofs.Ytmpgfpndhhegiaa.Osa
set_option linter.unusedVariables false
set_option linter.unusedSimpArgs false

theorem int_cells {k : IntKind} {w : World} {A : Option Addr} {xs : List Int} (h : Kd.C (Kd.int k) w A xs.length xs) (h0 : 0 < xs.length) : ∃ ad, A = some ad ∧ ∀ j, j < xs.length → w.cell? (ad.add j) = some (.int k (xs.getD j 0)) := by
  obtain ⟨ad, e, hc⟩ := h.2.2 h0
  refine ⟨ad, e, fun j hj => ?_⟩
  obtain ⟨c, hl, hk, hcell⟩ := hc j (xs.getD j 0) (by rw [List.getD_eq_getElem?_getD, List.getElem?_eq_getElem hj]; rfl)
  have hk' : c = [.int k (xs.getD j 0)] := hk
  subst hk'
  have := hcell 0 _ rfl
  have hz : (Kd.int k).sz = 1 := rfl
  rw [hz, Nat.mul_one, Nat.add_zero] at this
  exact this

/-- A row of n numbers and one, the first k of them f's. -/
def rowP (f : Nat → Int) (k n : Nat) : Array Value := ((List.range (n + 1)).map fun j => Value.int .i64 (if j < k then f j else 0)).toArray
theorem rowP_get (f : Nat → Int) (k n j : Nat) (h : j < k) (hn : j ≤ n) : (rowP f k n)[j]? = some (.int .i64 (f j)) := by
  simp only [rowP, List.getElem?_toArray, List.getElem?_map]
  rw [List.getElem?_range (by omega)]
  simp [h]
theorem rowP_get0 (f : Nat → Int) (k n : Nat) (hn : k ≤ n) : (rowP f k n)[k]? = some (.int .i64 0) := by
  simp only [rowP, List.getElem?_toArray, List.getElem?_map]
  rw [List.getElem?_range (by omega)]
  simp
theorem rowP_set (f : Nat → Int) (k n : Nat) (hn : k ≤ n) (v : Int) (hv : v = f k) : (rowP f k n).setIfInBounds k (.int .i64 v) = rowP f (k + 1) n := by
  subst hv
  apply Array.ext'
  simp only [rowP, List.setIfInBounds_toArray]
  apply List.ext_getElem?
  intro j
  rw [List.getElem?_set, List.length_map, List.length_range, List.getElem?_map, List.getElem?_map]
  by_cases hj : j < n + 1
  · rw [List.getElem?_range hj]
    by_cases e : k = j
    · subst e
      simp [hj]
    · rw [if_neg e]
      simp only [Option.map_some]
      by_cases h1 : j < k
      · rw [if_pos h1, if_pos (by omega)]
      · rw [if_neg h1, if_neg (by omega)]
  · rw [List.getElem?_eq_none (by simpa using hj)]
    rw [if_neg (by omega)]
    rfl
theorem rowP_zero (f : Nat → Int) (n : Nat) : rowP f 0 n = (List.replicate (n + 1) (Value.int .i64 0)).toArray := by
  apply Array.ext'
  simp only [rowP]
  apply List.ext_getElem?
  intro j
  rw [List.getElem?_map, List.getElem?_replicate]
  by_cases hj : j < n + 1
  · rw [List.getElem?_range hj, if_pos hj]
    simp
  · rw [List.getElem?_eq_none (by simpa using hj), if_neg hj]
    rfl
attribute [irreducible] rowP
/-- The table's rows: the first i of m and one. -/
def tabC (g : Nat → Nat) (i m n : Nat) : Array Value := ((List.range (m + 1)).map fun j => if j < i then Value.slice (some ⟨g j, 0, none⟩) (n + 1) (n + 1) else .slice none 0 0).toArray
theorem tabC_get (g : Nat → Nat) (i m n j : Nat) (h : j < i) (hn : j ≤ m) : (tabC g i m n)[j]? = some (.slice (some ⟨g j, 0, none⟩) (n + 1) (n + 1)) := by
  simp only [tabC, List.getElem?_toArray, List.getElem?_map]
  rw [List.getElem?_range (by omega)]
  simp [h]
theorem tabC_get0 (g : Nat → Nat) (i m n : Nat) (hn : i ≤ m) : (tabC g i m n)[i]? = some (.slice none 0 0) := by
  simp only [tabC, List.getElem?_toArray, List.getElem?_map]
  rw [List.getElem?_range (by omega)]
  simp
theorem tabC_set (g : Nat → Nat) (i m n q : Nat) (hn : i ≤ m) : (tabC g i m n).setIfInBounds i (.slice (some ⟨q, 0, none⟩) (n + 1) (n + 1)) = tabC (fun j => if j = i then q else g j) (i + 1) m n := by
  apply Array.ext'
  simp only [tabC, List.setIfInBounds_toArray]
  apply List.ext_getElem?
  intro j
  rw [List.getElem?_set, List.length_map, List.length_range, List.getElem?_map, List.getElem?_map]
  by_cases hj : j < m + 1
  · rw [List.getElem?_range hj]
    by_cases e : i = j
    · subst e
      simp [hj]
    · rw [if_neg e]
      simp only [Option.map_some]
      by_cases h1 : j < i
      · rw [if_pos h1, if_pos (by omega), if_neg (by omega)]
      · rw [if_neg h1, if_neg (by omega)]
  · rw [List.getElem?_eq_none (by simpa using hj)]
    rw [if_neg (by omega)]
    rfl
theorem tabC_zero (g : Nat → Nat) (m n : Nat) : tabC g 0 m n = (List.replicate (m + 1) (Value.slice none 0 0)).toArray := by
  apply Array.ext'
  simp only [tabC]
  apply List.ext_getElem?
  intro j
  rw [List.getElem?_map, List.getElem?_replicate]
  by_cases hj : j < m + 1
  · rw [List.getElem?_range hj, if_pos hj]
    simp
  · rw [List.getElem?_eq_none (by simpa using hj), if_neg hj]
    rfl
attribute [irreducible] tabC

/-- What the loops keep: the table in block T, its first i rows whole, row i (if there is one more) up to k. -/
structure Tab (w : World) (a b : List Int) (T i k : Nat) (g : Nat → Nat) (W : World) : Prop where
  tab : W.heap[T]? = some (.cells (tabC g (i + 1) a.length b.length) 30 (0, 0))
  full : ∀ j, j < i → W.heap[g j]? = some (.cells (rowP (fun q => (pd a b j q : Int)) (b.length + 1) b.length) 3 (0, 0))
  part : W.heap[g i]? = some (.cells (rowP (fun q => (pd a b i q : Int)) k b.length) 3 (0, 0))
  bel : Below w.heap.size w W
  new : ∀ j, j ≤ i → w.heap.size ≤ g j
  inj : ∀ j, j < i → g j ≠ g i
structure Tab0 (w : World) (a b : List Int) (T i : Nat) (g : Nat → Nat) (W : World) : Prop where
  tab : W.heap[T]? = some (.cells (tabC g i a.length b.length) 30 (0, 0))
  full : ∀ j, j < i → W.heap[g j]? = some (.cells (rowP (fun q => (pd a b j q : Int)) (b.length + 1) b.length) 3 (0, 0))
  bel : Below w.heap.size w W
  new : ∀ j, j < i → w.heap.size ≤ g j
theorem Tab.next {w : World} {a b : List Int} {T i k : Nat} {g : Nat → Nat} {W : World} (h : Tab w a b T i k g W) (hk : k ≤ b.length) (v : Int) (hv : v = (pd a b i k : Int)) : Tab w a b T i (k + 1) g (W.setCell ⟨g i, k, none⟩ (.int .i64 v)) := by
  have hT : T ≠ g i := blk_ne h.tab h.part (by decide)
  exact ⟨blk_far h.tab hT _, fun j hj => blk_far (h.full j hj) (h.inj j hj) _, blk_put h.part _ _ (rowP_set _ _ _ hk v hv), h.bel.setCell (h.new i (Nat.le_refl _)) _, h.new, h.inj⟩
theorem Tab.drewN {w : World} {a b : List Int} {T i k : Nat} {g : Nat → Nat} {W : World} (h : Tab w a b T i k g W) (n : Nat) : Tab w a b T i k g (W.drewN n) := ⟨h.tab, h.full, h.part, pw_below_drewN h.bel n, h.new, h.inj⟩
theorem Tab.done {w : World} {a b : List Int} {T i : Nat} {g : Nat → Nat} {W : World} (h : Tab w a b T i (b.length + 1) g W) : Tab0 w a b T (i + 1) g W :=
  ⟨h.tab, fun j hj => by
    rcases Nat.lt_or_ge j i with h1 | h1
    · exact h.full j h1
    · have : j = i := by omega
      subst this
      exact h.part, h.bel, fun j hj => h.new j (by omega)⟩
theorem Tab0.row {w : World} {a b : List Int} {T i : Nat} {g : Nat → Nat} {W : World} (h : Tab0 w a b T i g W) (hi : i ≤ a.length) (hT : w.heap.size ≤ T) :
    Tab w a b T i 0 (fun j => if j = i then W.heap.size else g j) ((W.setCell ⟨T, i, none⟩ (.slice (some ⟨W.heap.size, 0, none⟩) (b.length + 1) (b.length + 1))).alloc (.cells (Array.replicate (b.length + 1) (Value.int .i64 0)) 3 (0, 0))) := by
  have ht := blk_lt h.tab
  have hlt : ∀ j, j < i → g j < W.heap.size := fun j hj => blk_lt (h.full j hj)
  have hne : ∀ j, j < i → g j ≠ T := fun j hj => (blk_ne h.tab (h.full j hj) (by decide)).symm
  have hsz : (W.setCell ⟨T, i, none⟩ (.slice (some ⟨W.heap.size, 0, none⟩) (b.length + 1) (b.length + 1))).heap.size = W.heap.size := by simp [World.setCell]
  refine ⟨blk_alloc (blk_put h.tab _ _ (tabC_set _ _ _ _ _ hi)) _, fun j hj => ?_, ?_, below_alloc (h.bel.setCell hT _) _, fun j hj => ?_, fun j hj => ?_⟩
  · rw [if_neg (by omega)]
    exact blk_alloc (blk_far (h.full j hj) (hne j hj) _) _
  · rw [if_pos rfl, rowP_zero]
    have := blk_new (W.setCell ⟨T, i, none⟩ (.slice (some ⟨W.heap.size, 0, none⟩) (b.length + 1) (b.length + 1))) (.cells (Array.replicate (b.length + 1) (Value.int .i64 0)) 3 (0, 0))
    rw [hsz] at this
    simpa using this
  · by_cases e : j = i
    · rw [if_pos e]
      exact h.bel.size
    · rw [if_neg e]
      exact h.new j (by omega)
  · rw [if_neg (by omega), if_pos rfl]
    have := hlt j hj
    omega

theorem pd_step_none (a b : List Int) (i k : Nat) (hi : i < a.length) (hk : k < b.length) (h : pswap a b i k = none) : pd a b (i + 1) (k + 1) = min (min (pd a b i (k + 1) + 1) (pd a b (i + 1) k + 1)) (pd a b i k + if a.getD i 0 = b.getD k 0 then 0 else 1) := by
  rw [pd_succ a b i k hi hk, h]
  rfl
theorem pd_step_some (a b : List Int) (i k p : Nat) (hi : i < a.length) (hk : k < b.length) (h : pswap a b i k = some p) : pd a b (i + 1) (k + 1) = min (min (min (pd a b i (k + 1) + 1) (pd a b (i + 1) k + 1)) (pd a b i k + if a.getD i 0 = b.getD k 0 then 0 else 1)) (p + 1) := by
  rw [pd_succ a b i k hi hk, h]
  rfl
theorem isCond {P : Program} {n : Nat} {x y : Code} {Q : Exit → Act → World → Prop} {a : Act} {w : World} (h : Code.wp P (Code.cond (.tmp n) x y) Q a w) : Code.wp P (Code.cond (.tmp n) x y) Q a w := h
theorem merge_at {P : Program} {C : Code} {K : Act → World → Prop} {Q : Exit → Act → World → Prop} {a : Act} {w : World} (s1 s2 s3 : Nat) (R : Int → Prop)
    (key : ∀ (m : Int) (x y : Value), R m → K (((a.put (some s1) (.int .i64 m)).put (some s2) x).put (some s3) y) w)
    (h : (∀ (m : Int) (x y : Value), R m → K (((a.put (some s1) (.int .i64 m)).put (some s2) x).put (some s3) y) w) → Code.wp P C (Exit.then K Q) a w) : Code.wp P C (Exit.then K Q) a w := h key
theorem wr2 (n : Nat) (h : n ≤ 128) : IntKind.i64.wrap (n : Int) = n ∧ IntKind.i64.wrap ((n : Int) + 1 - 1) = n :=
  ⟨IntWalk.i64_in _ (by omega), by rw [IntWalk.i64_in _ (by omega)]; omega⟩
theorem wr5 (n : Nat) (h : n ≤ 128) : IntKind.i64.wrap (n : Int) = n ∧ IntKind.i64.wrap ((n : Int) + 1) = (n : Int) + 1 ∧ IntKind.i64.wrap ((n : Int) + 1 - 1) = n ∧ IntKind.i64.wrap ((n : Int) + 1 + 1 - 1) = (n : Int) + 1 ∧ IntKind.i64.wrap ((n : Int) + 1 + 1 - 2) = n :=
  ⟨IntWalk.i64_in _ (by omega), IntWalk.i64_in _ (by omega), by rw [IntWalk.i64_in _ (by omega)]; omega, by rw [IntWalk.i64_in _ (by omega)]; omega, by rw [IntWalk.i64_in _ (by omega)]; omega⟩
theorem wr1 (n : Nat) (h : n ≤ 128) : IntKind.i64.wrap ((n : Int) + 1) = (n : Int) + 1 := IntWalk.i64_in _ (by omega)
/-- What an exchange leaves, as it lies in the table. -/
def wr_cells2 (w : World) (a b : List Int) (T i k : Nat) (g : Nat → Nat) (W : World) : Prop :=
  ∃ p : Nat, pd a b (i - 1 - 1) (k - 1 - 1) = p ∧ p ≤ max a.length b.length ∧ W.cell? ⟨T, i - 1 - 1, none⟩ = some (.slice (some ⟨g (i - 1 - 1), 0, none⟩) (b.length + 1) (b.length + 1)) ∧ W.cell? ⟨g (i - 1 - 1), k - 1 - 1, none⟩ = some (.int .i64 p)
theorem Tab.two {w : World} {a b : List Int} {T i k : Nat} {g : Nat → Nat} {W : World} (h : Tab w a b T (i + 1) (k + 1) g W) (h1 : 1 ≤ i) (h2 : 1 ≤ k) (hi : i + 1 ≤ a.length) (hk : k + 1 ≤ b.length) : wr_cells2 w a b T (i + 1) (k + 1) g W :=
  ⟨_, rfl, pd_le _ _ _ _, (blk_cell h.tab _).trans (tabC_get _ _ _ _ _ (by omega) (by omega)), (blk_cell (h.full _ (by omega)) _).trans (rowP_get _ _ _ _ (by omega) (by omega))⟩
theorem info3 : (Try.prog.info? 3).map (fun i => (i.zero, i.size, i.bytes)) = some (some (.int .i64 0), 1, 8) := by kernel_rfl
theorem info30 : (Try.prog.info? 30).map (fun i => (i.zero, i.size, i.bytes)) = some (some (.slice none 0 0), 1, 24) := by kernel_rfl
theorem run_make36 (n : Nat) (h : n ≤ 64) (W : World) :
    (Instr.makeSlice 36 (.int .i64 ((n : Int) + 1)) (.int .i64 ((n : Int) + 1))).run Try.prog W = .ok (.slice (some ⟨W.heap.size, 0, none⟩) (n + 1) (n + 1)) (W.alloc (.cells (List.replicate (n + 1) (Value.slice none 0 0)).toArray 30 (0, 0))) := by
  obtain ⟨i, hi, hz, hs, hb⟩ := info_parts info30
  have hr := run_make (P := Try.prog) W 36 30 i (.slice none 0 0) Try.underlying36 hi hz .i64 .i64 ((n : Int) + 1) ((n : Int) + 1) (by omega) (by omega) (by rw [hb]; omega) (by omega)
  rw [show ((n : Int) + 1).toNat = n + 1 from by omega, hs] at hr
  rw [hr]
  have e : madeCells (Value.slice none 0 0).cells ((n + 1) * 1) = (List.replicate (n + 1) (Value.slice none 0 0)).toArray := by
    apply Array.ext'
    rw [Nat.mul_one]
    rw [show (Value.slice none 0 0).cells = #[.slice none 0 0] from rfl, toList_madeCells_one]
  rw [e]
theorem run_make30 (n : Nat) (h : n ≤ 64) (W : World) :
    (Instr.makeSlice 30 (.int .i64 ((n : Int) + 1)) (.int .i64 ((n : Int) + 1))).run Try.prog W = .ok (.slice (some ⟨W.heap.size, 0, none⟩) (n + 1) (n + 1)) (W.alloc (.cells (List.replicate (n + 1) (Value.int .i64 0)).toArray 3 (0, 0))) := by
  obtain ⟨i, hi, hz, hs, hb⟩ := info_parts info3
  have hr := run_make (P := Try.prog) W 30 3 i (.int .i64 0) Try.underlying30 hi hz .i64 .i64 ((n : Int) + 1) ((n : Int) + 1) (by omega) (by omega) (by rw [hb]; omega) (by omega)
  rw [show ((n : Int) + 1).toNat = n + 1 from by omega, hs] at hr
  rw [hr]
  have e : madeCells (Value.int .i64 0).cells ((n + 1) * 1) = (List.replicate (n + 1) (Value.int .i64 0)).toArray := by
    apply Array.ext'
    rw [Nat.mul_one]
    rw [show (Value.int IntKind.i64 0).cells = #[.int .i64 0] from rfl, toList_madeCells_one]
  rw [e]

set_option maxHeartbeats 4000000 in
set_option maxRecDepth 100000 in
theorem dist_short (A0 : Option Addr) (c0 : Nat) (a : List Int) (A1 : Option Addr) (c1 : Nat) (b : List Int) (w : World) (hr0 : Kd.C (Kd.int .i32) w A0 a.length a) (hr1 : Kd.C (Kd.int .i32) w A1 b.length b) (ha : a.length ≤ 64) (hb : b.length ≤ 64) :
    Calls Try.prog 11 #[.slice A0 a.length c0, .slice A1 b.length c1] w fun e w' => e = .returned (.int .i64 (dist a b : Int)) ∧ Below w.heap.size w w' := by
  have HR0 := Lib.hid hr0
  have HR1 := Lib.hid hr1
  clear hr0 hr1
  have hmk := run_make36 a.length ha
  go_enter Try.func11, Try.ntmps11
  go_wp2_with fail
  clear hmk
  go_loopw [6, 7, 8, 9, 10] (fun i _ _ _ _ wr => ∃ (i' : Nat) (g : Nat → Nat), i' ≤ a.length + 1 ∧ i = .int .i64 i' ∧ Hid (Tab0 w a b w.heap.size i' g wr)) (fun i _ _ _ _ _ => a.length + 1 - (intOf i).toNat)
  case atStart =>
    refine ⟨0, fun _ => 0, by omega, rfl, ?_, fun j hj => by omega, below_alloc (Below.refl _ _) _, fun j hj => by omega⟩
    rw [tabC_zero]
    exact blk_new _ _
  case round =>
    obtain ⟨i, g, hi, rfl, HT⟩ := hrel
    by_cases hlt : i ≤ a.length
    · have hmk := run_make30 b.length hb
      have hrow := Lib.hid (HT.out.row hlt (Nat.le_refl _))
      have ct : wr.cell? ⟨w.heap.size, i, none⟩ = some (.slice none 0 0) := by rw [blk_cell HT.out.tab, tabC_get0 _ _ _ _ hlt]
      have ft := blk_frozen HT.out.tab i
      have hsz := blk_lt HT.out.tab
      go_wp2_with fail
      clear hmk ct ft hsz
      go_loopw [7, 8, 9, 10] (fun k _ _ _ w2 => ∃ (k' : Nat) (g : Nat → Nat), k' ≤ b.length + 1 ∧ k = .int .i64 k' ∧ Hid (Tab w a b w.heap.size i k' g w2)) (fun k _ _ _ _ => b.length + 1 - (intOf k).toNat)
      case atStart => exact ⟨0, _, by omega, rfl, hrow⟩
      case round =>
        obtain ⟨k, g, hk, rfl, HJ⟩ := hrel
        clear HT hrow
        by_cases hkn : k ≤ b.length
        · have hkn' := hkn
          have ct := (blk_cell HJ.out.tab i).trans (tabC_get g (i + 1) a.length b.length i (by omega) hlt)
          have cp := (blk_cell HJ.out.part k).trans (rowP_get0 _ k b.length hkn)
          have fp := blk_frozen HJ.out.part k
          by_cases hk0 : k = 0
          · subst hk0
            have HN := Lib.hid (HJ.out.next hkn (i : Int) (by rw [pd_zero' _ _ _ hlt]))
            clear HJ
            go_wp2
            go_roundw
            case rel => exact ⟨1, g, by omega, by go_num, HN⟩
            case measure => simp [intOf]
          · by_cases hi0 : i = 0
            · subst hi0
              have HN := Lib.hid (HJ.out.next hkn (k : Int) (by rw [pd_zero _ _ _ hkn]))
              have gk : ((k : Int) == 0) = false := by simp; omega
              clear HJ
              go_wp2
              go_roundw
              case rel => exact ⟨k + 1, g, by omega, by go_num, HN⟩
              case measure => simp [intOf]; omega
            ·
              obtain ⟨i, rfl⟩ : ∃ m, i = m + 1 := ⟨i - 1, by omega⟩
              obtain ⟨k, rfl⟩ : ∃ m, k = m + 1 := ⟨k - 1, by omega⟩
              obtain ⟨ad0, rfl, hA⟩ := int_cells (Kd.C_below HR0.out HJ.out.bel) (by omega)
              obtain ⟨ad1, rfl, hBb⟩ := int_cells (Kd.C_below HR1.out HJ.out.bel) (by omega)
              have ct1 := (blk_cell HJ.out.tab i).trans (tabC_get g (i + 1 + 1) a.length b.length i (by omega) (by omega))
              have cu := (blk_cell (HJ.out.full i (by omega)) (k + 1)).trans (rowP_get _ (b.length + 1) b.length (k + 1) (by omega) (by omega))
              have cl := (blk_cell HJ.out.part k).trans (rowP_get _ (k + 1) b.length k (by omega) (by omega))
              have cd := (blk_cell (HJ.out.full i (by omega)) k).trans (rowP_get _ (b.length + 1) b.length k (by omega) (by omega))
              have cx := hA i (by omega)
              have cy := hBb k (by omega)
              have b1 := pd_le a b i (k + 1)
              have b2 := pd_le a b (i + 1) k
              have b3 := pd_le a b i k
              have hpn := fun h => pd_step_none a b i k (by omega) (by omega) h
              have hps := fun p h => pd_step_some a b i k p (by omega) (by omega) h
              have HN := Lib.hid (fun n v hv => (HJ.out.drewN n).next hkn v hv)
              have HPN := Lib.hid hpn
              have HPS := Lib.hid hps
              have b4 := pd_le a b (i - 1) (k - 1)
              have hp2 : 1 ≤ i → 1 ≤ k → wr_cells2 w a b w.heap.size (i + 1) (k + 1) g wr := fun h1 h2 => HJ.out.two h1 h2 hlt hkn
              have HP2 := Lib.hid hp2
              have HAB := Lib.hid (And.intro hA hBb)
              clear hpn hps hp2 HJ hA hBb
              generalize pd a b i (k + 1) = u at *
              generalize pd a b (i + 1) k = l at *
              generalize pd a b i k = d at *
              repeat (fail_if_success (refine isCond (n := 91) ?_)); (first | go_values | go_skip | go_guarded | go_step | go_upon | go_back)
              rename_i K_ hK_
              refine merge_at (K := K_) 8 91 92 (fun m => Hid (m = min ((u : Int) + 1) ((l : Int) + 1))) ?_ ?_
              rotate_left
              · intro key
                simp only [Act.put, List.setIfInBounds_toArray, List.set_cons_zero, List.set_cons_succ] at key
                have key := Lib.hid key
                clear hK_
                rcases Nat.lt_or_ge l u with h3 | h3
                · go_wp2_with fail
                  first | exact Lib.hid (by omega) | exact key.out _ _ _ (Lib.hid (by omega))
                · go_wp2_with fail
                  first | exact Lib.hid (by omega) | exact key.out _ _ _ (Lib.hid (by omega))
              intro m1 x91 x92 hm1
              simp only [Act.put, List.setIfInBounds_toArray, List.set_cons_zero, List.set_cons_succ]
              refine hK_ _ _ ?_
              try dsimp only at hm1
              go_wp2_with fail
              have hwi := wr2 i (by omega)
              have hwk := wr2 k (by omega)
              obtain ⟨hzi0, hzi1⟩ := hwi
              obtain ⟨hzk0, hzk1⟩ := hwk
              go_quiet (fail)
              clear hzi0 hzi1 hzk0 hzk1
              repeat (fail_if_success (refine isCond (n := 112) ?_)); (first | go_values | go_skip | go_guarded | go_step | go_upon | go_back)
              rename_i K_ hK_
              refine merge_at (K := K_) 10 113 114 (fun m => Hid (m = (d : Int) + (if a.getD i 0 = b.getD k 0 then 0 else 1))) ?_ ?_
              rotate_left
              · intro key
                simp only [Act.put, List.setIfInBounds_toArray, List.set_cons_zero, List.set_cons_succ] at key
                have key := Lib.hid key
                clear hK_
                by_cases h2 : a.getD i 0 = b.getD k 0
                · have e1 : (a[i]?.getD 0 == b[k]?.getD 0) = true := by rw [beq_iff_eq, ← List.getD_eq_getElem?_getD, ← List.getD_eq_getElem?_getD]; exact h2
                  have e2 : (a[i]?.getD 0 != b[k]?.getD 0) = false := by rw [bne_eq_false_iff_eq, ← List.getD_eq_getElem?_getD, ← List.getD_eq_getElem?_getD]; exact h2
                  replace h2 := Lib.hid h2
                  go_wp2_with fail
                  exact Lib.hid trivial
                · have e1 : (a[i]?.getD 0 == b[k]?.getD 0) = false := by rw [beq_eq_false_iff_ne, ← List.getD_eq_getElem?_getD, ← List.getD_eq_getElem?_getD]; exact h2
                  have e2 : (a[i]?.getD 0 != b[k]?.getD 0) = true := by rw [bne_iff_ne, ← List.getD_eq_getElem?_getD, ← List.getD_eq_getElem?_getD]; exact h2
                  replace h2 := Lib.hid h2
                  go_wp2_with fail
                  exact Lib.hid (by rw [← List.getD_eq_getElem?_getD, ← List.getD_eq_getElem?_getD]; exact h2.out)
              intro m2 x113 x114 hm2
              simp only [Act.put, List.setIfInBounds_toArray, List.set_cons_zero, List.set_cons_succ]
              refine hK_ _ _ ?_
              try dsimp only at hm2
              repeat (fail_if_success (refine isCond (n := 117) ?_)); (first | go_values | go_skip | go_guarded | go_step | go_upon | go_back)
              rename_i K_ hK_
              refine merge_at (K := K_) 8 117 118 (fun m => Hid (m = min m1 m2)) ?_ ?_
              rotate_left
              · intro key
                simp only [Act.put, List.setIfInBounds_toArray, List.set_cons_zero, List.set_cons_succ] at key
                have key := Lib.hid key
                clear hK_
                rcases Int.lt_or_le m2 m1 with h3 | h3
                · go_wp2_with fail
                  first | exact Lib.hid (by omega) | exact key.out _ _ _ (Lib.hid (by omega))
                · go_wp2_with fail
                  first | exact Lib.hid (by omega) | exact key.out _ _ _ (Lib.hid (by omega))
              intro m3 x117 x118 hm3
              simp only [Act.put, List.setIfInBounds_toArray, List.set_cons_zero, List.set_cons_succ]
              refine hK_ _ _ ?_
              try dsimp only at hm3
              go_wp2_with fail
              by_cases s1 : i = 0
              · have hsw : pswap a b i k = none := by unfold pswap; rw [if_neg (by omega)]
                have s1' : i < 1 := by omega
                clear s1
                have q1 : decide (1 < (i : Int) + 1) = false := by simp; omega
                have q1b : decide (1 < i + 1) = false := by simp; omega
                have q1c : decide (1 < ((i + 1 : Nat) : Int)) = false := by simp; omega
                have HV := Lib.hid (fun n_ => HN.out n_ (m3) (by have e1_ := hm1.out; have e2_ := hm2.out; have e3_ := hm3.out; rw [HPN.out hsw]; revert e2_; split <;> (intro e2_; omega)))
                clear hsw
                have hwi := wr2 i (by omega)
                have hwk := wr2 k (by omega)
                obtain ⟨hzi0, hzi1⟩ := hwi
                obtain ⟨hzk0, hzk1⟩ := hwk
                go_quiet (fail)
                clear hzi0 hzi1 hzk0 hzk1
                go_wp2_with fail
                go_roundw
                case rel => exact ⟨k + 1 + 1, g, by omega, by go_num, HV.out _⟩
                case measure => simp [intOf]; omega
              · by_cases s2 : k = 0
                · have hsw : pswap a b i k = none := by unfold pswap; rw [if_neg (by omega)]
                  have s2' : k < 1 := by omega
                  clear s2
                  have q1 : decide (1 < (i : Int) + 1) = true := by simp; omega
                  have q1b : decide (1 < i + 1) = true := by simp; omega
                  have q1c : decide (1 < ((i + 1 : Nat) : Int)) = true := by simp; omega
                  have q2b : decide (1 < k + 1) = false := by simp; omega
                  have q2c : decide (1 < ((k + 1 : Nat) : Int)) = false := by simp; omega
                  have q2 : decide (1 < (k : Int) + 1) = false := by simp; omega
                  have HV := Lib.hid (fun n_ => HN.out n_ (m3) (by have e1_ := hm1.out; have e2_ := hm2.out; have e3_ := hm3.out; rw [HPN.out hsw]; revert e2_; split <;> (intro e2_; omega)))
                  clear hsw
                  have hwi := wr2 i (by omega)
                  have hwk := wr2 k (by omega)
                  obtain ⟨hzi0, hzi1⟩ := hwi
                  obtain ⟨hzk0, hzk1⟩ := hwk
                  go_quiet (fail)
                  clear hzi0 hzi1 hzk0 hzk1
                  go_wp2_with fail
                  go_roundw
                  case rel => exact ⟨k + 1 + 1, g, by omega, by go_num, HV.out _⟩
                  case measure => simp [intOf]; omega
                · obtain ⟨p, hp, hp1, ct2, cq⟩ := HP2.out (by omega) (by omega)
                  obtain ⟨i, rfl⟩ : ∃ m, i = m + 1 := ⟨i - 1, by omega⟩
                  obtain ⟨k, rfl⟩ : ∃ m, k = m + 1 := ⟨k - 1, by omega⟩
                  have cy2 := HAB.out.2 k (by omega)
                  have cx2 := HAB.out.1 i (by omega)
                  have cx3 : wr.cell? ⟨ad0.block, ad0.off + (i + 1), none⟩ = _ := cx
                  have cy3 : wr.cell? ⟨ad1.block, ad1.off + (k + 1), none⟩ = _ := cy
                  simp only [Nat.add_sub_cancel] at ct2 cq hp
                  have q1 : decide (1 < (i : Int) + 1 + 1) = true := by simp; omega
                  have q2 : decide (1 < (k : Int) + 1 + 1) = true := by simp; omega
                  by_cases s3 : a.getD (i + 1) 0 = b.getD k 0
                  · have e3 : (a[i + 1]?.getD 0 == b[k]?.getD 0) = true := by rw [beq_iff_eq, ← List.getD_eq_getElem?_getD, ← List.getD_eq_getElem?_getD]; exact s3
                    by_cases s4 : a.getD i 0 = b.getD (k + 1) 0
                    · have e4 : (a[i]?.getD 0 == b[k + 1]?.getD 0) = true := by rw [beq_iff_eq, ← List.getD_eq_getElem?_getD, ← List.getD_eq_getElem?_getD]; exact s4
                      have hsw : pswap a b (i + 1) (k + 1) = some p := by unfold pswap; rw [if_pos ⟨by omega, by omega, s3, s4⟩]; exact congrArg some hp
                      clear s3 s4 hp
                      by_cases s5 : (p : Int) + 1 < m3
                      ·
                        have HV := Lib.hid (fun n_ => HN.out n_ ((p : Int) + 1) (by have e1_ := hm1.out; have e2_ := hm2.out; have e3_ := hm3.out; rw [HPS.out p hsw]; revert e2_; split <;> (intro e2_; omega)))
                        clear hsw
                        have q5 : decide ((p : Int) + 1 < m3) = true := by simp; omega
                        have hwi := wr5 i (by omega)
                        have hwk := wr5 k (by omega)
                        have hzp := wr1 p (by omega)
                        obtain ⟨hzi0, hzi1, hzi2, hzi3, hzi4⟩ := hwi
                        obtain ⟨hzk0, hzk1, hzk2, hzk3, hzk4⟩ := hwk
                        go_quiet (fail)
                        clear hzi0 hzi1 hzi2 hzi3 hzi4 hzk0 hzk1 hzk2 hzk3 hzk4 hzp
                        go_wp2_with fail
                        go_roundw
                        case rel => exact ⟨k + 1 + 1 + 1, g, by omega, by go_num, HV.out _⟩
                        case measure => simp [intOf]; omega
                      ·
                        have HV := Lib.hid (fun n_ => HN.out n_ (m3) (by have e1_ := hm1.out; have e2_ := hm2.out; have e3_ := hm3.out; rw [HPS.out p hsw]; revert e2_; split <;> (intro e2_; omega)))
                        clear hsw
                        have q5 : decide ((p : Int) + 1 < m3) = false := by simp; omega
                        have hwi := wr5 i (by omega)
                        have hwk := wr5 k (by omega)
                        have hzp := wr1 p (by omega)
                        obtain ⟨hzi0, hzi1, hzi2, hzi3, hzi4⟩ := hwi
                        obtain ⟨hzk0, hzk1, hzk2, hzk3, hzk4⟩ := hwk
                        go_quiet (fail)
                        clear hzi0 hzi1 hzi2 hzi3 hzi4 hzk0 hzk1 hzk2 hzk3 hzk4 hzp
                        go_wp2_with fail
                        go_roundw
                        case rel => exact ⟨k + 1 + 1 + 1, g, by omega, by go_num, HV.out _⟩
                        case measure => simp [intOf]; omega
                    · have e4 : (a[i]?.getD 0 == b[k + 1]?.getD 0) = false := by rw [beq_eq_false_iff_ne, ← List.getD_eq_getElem?_getD, ← List.getD_eq_getElem?_getD]; exact s4
                      have hsw : pswap a b (i + 1) (k + 1) = none := by unfold pswap; rw [if_neg (fun h => s4 h.2.2.2)]
                      clear s3 s4 hp
                      have HV := Lib.hid (fun n_ => HN.out n_ (m3) (by have e1_ := hm1.out; have e2_ := hm2.out; have e3_ := hm3.out; rw [HPN.out hsw]; revert e2_; split <;> (intro e2_; omega)))
                      clear hsw
                      have hwi := wr5 i (by omega)
                      have hwk := wr5 k (by omega)
                      have hzp := wr1 p (by omega)
                      obtain ⟨hzi0, hzi1, hzi2, hzi3, hzi4⟩ := hwi
                      obtain ⟨hzk0, hzk1, hzk2, hzk3, hzk4⟩ := hwk
                      go_quiet (fail)
                      clear hzi0 hzi1 hzi2 hzi3 hzi4 hzk0 hzk1 hzk2 hzk3 hzk4 hzp
                      go_wp2_with fail
                      go_roundw
                      case rel => exact ⟨k + 1 + 1 + 1, g, by omega, by go_num, HV.out _⟩
                      case measure => simp [intOf]; omega
                  · have e3 : (a[i + 1]?.getD 0 == b[k]?.getD 0) = false := by rw [beq_eq_false_iff_ne, ← List.getD_eq_getElem?_getD, ← List.getD_eq_getElem?_getD]; exact s3
                    have hsw : pswap a b (i + 1) (k + 1) = none := by unfold pswap; rw [if_neg (fun h => s3 h.2.2.1)]
                    clear s3 hp
                    have HV := Lib.hid (fun n_ => HN.out n_ (m3) (by have e1_ := hm1.out; have e2_ := hm2.out; have e3_ := hm3.out; rw [HPN.out hsw]; revert e2_; split <;> (intro e2_; omega)))
                    clear hsw
                    have hwi := wr5 i (by omega)
                    have hwk := wr5 k (by omega)
                    have hzp := wr1 p (by omega)
                    obtain ⟨hzi0, hzi1, hzi2, hzi3, hzi4⟩ := hwi
                    obtain ⟨hzk0, hzk1, hzk2, hzk3, hzk4⟩ := hwk
                    go_quiet (fail)
                    clear hzi0 hzi1 hzi2 hzi3 hzi4 hzk0 hzk1 hzk2 hzk3 hzk4 hzp
                    go_wp2_with fail
                    go_roundw
                    case rel => exact ⟨k + 1 + 1 + 1, g, by omega, by go_num, HV.out _⟩
                    case measure => simp [intOf]; omega
        · have : k = b.length + 1 := by omega
          subst this
          have HD := Lib.hid HJ.out.done
          clear HJ
          go_wp2
          go_roundw
          case rel => exact ⟨i + 1, g, by omega, by go_num, HD⟩
          case measure => simp [intOf]; omega
    · have : i = a.length + 1 := by omega
      subst this
      have ct := (blk_cell HT.out.tab a.length).trans (tabC_get g (a.length + 1) a.length b.length a.length (by omega) (by omega))
      have cv := (blk_cell (HT.out.full a.length (by omega)) b.length).trans (rowP_get _ (b.length + 1) b.length b.length (by omega) (by omega))
      rw [pd_all] at cv
      go_wp2
      go_ret
      exact ⟨rfl, HT.out.bel⟩
end Go.Proofs.Ytmpgfpndhhegiaa.DR
