/- Rows of bytes that begin as a string's: append onto such. Conditions: as each lemma says. -/
import Derived.Test.YtcbibbdkjhkmoaaHOps
import Derived.ArgAppend
import Derived.Deep.AppendSrc
set_option linter.unusedVariables false
set_option linter.unusedSimpArgs false
namespace Go.Proofs.Ytcbibbdkjhkmoaa.H
open Go.RowKit Go.Proofs.YtcbibbdkjhkmoaaW.PrintWords Go.Proofs.Ytcbibbdkjhkmoaa.L Go.Proofs.Ytcbibbdkjhkmoaa.S Go.Proofs.Ytcbibbdkjhkmoaa.Htm

theorem at_intsM (l : List Int) (r : Nat) (h : r < l.length) : ((l.map (Value.int .u8)).toArray : Array Value)[r]? = some (.int .u8 (l.getD r 0)) := by
  simp [List.getElem?_eq_getElem h, List.getD_eq_getElem?_getD]
theorem at_strsM (l : List ByteArray) (r : Nat) (h : r < l.length) : ((l.map Value.string).toArray : Array Value)[r]? = some (.string (l.getD r ByteArray.empty)) := by
  simp [List.getElem?_eq_getElem h, List.getD_eq_getElem?_getD]
/-- A row of bytes of one's own, by its cells. -/
structure Mo (w0 W : World) (v : Value) (xs : List Int) : Prop where
  form : ∃ g cap, v = .slice (some ⟨g, 0, none⟩) xs.length cap ∧ w0.heap.size ≤ g ∧ g < W.heap.size ∧ xs.length ≤ cap ∧ cap ≤ maxLen ∧ (∀ j, j < cap → (W.cell? ⟨g, j, none⟩).isSome = true ∧ W.frozen? ⟨g, j, none⟩ = false) ∧ (∀ j u, (nums .u8 xs)[j]? = some u → W.cell? ⟨g, j, none⟩ = some u)
  bel : Below w0.heap.size w0 W
theorem Mo.of_own {w0 W : World} {v : Value} {xs : List Int} (h : Ob w0 W v xs) (hp : 0 < xs.length) : Mo w0 W v xs := by
  refine ⟨?_, h.bel⟩
  rcases h.own.2 with ⟨rfl, h0⟩ | ⟨g, cap, cur, rfl, hbg, hg, hnc, hcm, hcs, ht⟩
  · omega
  · refine ⟨g, cap, rfl, hbg, blk_lt hg, hnc, hcm, fun j hj => ?_, fun j u hu => ?_⟩
    · rw [blk_cell hg]
      refine ⟨?_, blk_frozen hg j⟩
      rw [Array.getElem?_eq_getElem (by omega)]
      rfl
    · have := h.own.cells (g := g) rfl j u hu
      rwa [add_plain] at this
theorem Mo.below {w0 W W' : World} {v : Value} {xs : List Int} (h : Mo w0 W v xs) (hb : Below W.heap.size W W') : Mo w0 W' v xs := by
  obtain ⟨g, cap, e, h1, h2, h3, h4, h5, h6⟩ := h.form
  refine ⟨⟨g, cap, e, h1, Nat.lt_of_lt_of_le h2 hb.size, h3, h4, fun j hj => ?_, fun j u hu => ?_⟩, below_step h.bel hb⟩
  · rw [hb.cell (p := ⟨g, j, none⟩) h2, hb.frozen (p := ⟨g, j, none⟩) h2]
    exact h5 j hj
  · rw [hb.cell (p := ⟨g, j, none⟩) h2]
    exact h6 j u hu
theorem Mo.alloc {w0 W : World} {v : Value} {xs : List Int} (h : Mo w0 W v xs) (o : Obj) : Mo w0 (W.alloc o) v xs := h.below (below_alloc (Below.refl _ _) o)
theorem Mo.reads {w0 W : World} {v : Value} {xs : List Int} (h : Mo w0 W v xs) : ∃ A c, v = .slice A xs.length c ∧ xs.length ≤ c ∧ Kd.C (Kd.int .u8) W A xs.length xs := by
  obtain ⟨g, cap, e, h1, h2, h3, h4, h5, h6⟩ := h.form
  refine ⟨_, cap, e, h3, rfl, by simp only [maxLen] at h4; omega, fun _ => ⟨_, rfl, fun j p hj => ⟨[.int .u8 p], rfl, rfl, fun i u hu => ?_⟩⟩⟩
  have hi : i = 0 := by
    have := (List.getElem?_eq_some_iff.1 hu).1
    simpa using this
  subst hi
  have hp : Value.int .u8 p = u := by simpa using hu
  subst hp
  have hz : (Kd.int IntKind.u8).sz = 1 := rfl
  have e2 : (⟨g, 0, none⟩ : Addr).add (j * 1 + 0) = ⟨g, j, none⟩ := by rw [Nat.mul_one, Nat.add_zero, add_plain]
  rw [hz, e2]
  exact h6 j _ (by simp [nums, hj])
theorem Mo.conv (w0 W : World) (s : ByteArray) (h : Below w0.heap.size w0 W) (hs : s.size ≤ 1000000) : Mo w0 (Lib.bytesWorld W 5 s) (.slice (some ⟨W.heap.size, 0, none⟩) s.size (grownCap W s.size 0 5)) (bytesOf s) := by
  have hl := bytesOf_length s
  have hge := grownCap_ge W s.size 0 5
  have hle := grownCap_le_maxLen W s.size 0 5 (by simp only [maxLen]; omega)
  have hn := Lib.bytesWorld_at_new W 5 s
  have hsz : (Lib.bytesCells W 5 s).size = grownCap W s.size 0 5 := by
    have e : s.data.size = s.size := rfl
    unfold Lib.bytesCells
    simp only [Array.size_append, Array.size_map, List.size_toArray, List.length_map, Array.size_replicate, List.length_replicate]
    try omega
  refine ⟨⟨W.heap.size, grownCap W s.size 0 5, by rw [hl], h.size, by rw [Lib.bytesWorld_size]; omega, by rw [hl]; exact hge, hle, fun j hj => ?_, fun j u hu => ?_⟩, bytes_below h h.size _ _⟩
  · refine ⟨?_, ?_⟩
    · rw [cell_of_row _ _ _ _ _ _ hn, Array.getElem?_eq_getElem (by omega)]
      rfl
    · simp [World.frozen?, hn]
      omega
  · have hj : j < s.size := by
      have := (List.getElem?_eq_some_iff.1 hu).1
      rw [nums_length, hl] at this
      exact this
    rw [Lib.bytesWorld_cell W _ s j hj]
    have h' : j < s.data.toList.length := by rw [data_length]; exact hj
    simp [nums, bytesOf, List.getElem?_eq_getElem h', List.getD_eq_getElem?_getD] at hu ⊢
    exact hu
theorem below_setCells {w0 : World} (g : Nat) (hg : w0.heap.size ≤ g) : ∀ (vs : List Value) (o : Nat) (W : World), Below w0.heap.size w0 W → Below w0.heap.size w0 (W.setCells g o vs) := by
  intro vs
  induction vs with
  | nil => intro o W h; exact h
  | cons v vs ih => intro o W h; exact ih _ _ (h.setCell hg _)
theorem size_setCells (g : Nat) : ∀ (vs : List Value) (o : Nat) (W : World), (W.setCells g o vs).heap.size = W.heap.size := by
  intro vs
  induction vs with
  | nil => intro o W; rfl
  | cons v vs ih => intro o W; exact (ih _ _).trans (by simp [World.setCell])
theorem reads_cells {W : World} {ad : Addr} {m : Nat} {ys : List Int} (HR : ReadsInt W .u8 (some ad) m ys) : ∀ j u, (nums .u8 ys)[j]? = some u → W.cell? (ad.add j) = some u := by
  intro j u hu
  have hm := HR.1
  have hj : j < ys.length := by
    rcases Nat.lt_or_ge j ys.length with h | h
    · exact h
    · simp [nums, List.getElem?_eq_none h] at hu
  obtain ⟨ad', h', hc⟩ := HR.2.2 (by omega)
  injection h' with h'
  subst h'
  have := hc j (by omega)
  simp [nums, List.getElem?_eq_getElem hj] at hu
  subst hu
  rw [this]
  simp [List.getD_eq_getElem?_getD, List.getElem?_eq_getElem hj]
theorem nums_one (ys : List Int) : ∀ u ∈ nums .u8 ys, u.oneCell' = true := by
  intro u hu
  simp only [nums, List.mem_map] at hu
  obtain ⟨q, _, rfl⟩ := hu
  rfl
/-- append onto such a row. -/
theorem Mo.append {w0 W : World} {v : Value} {xs : List Int} (h : Mo w0 W v xs) (A : Option Addr) (m c : Nat) (ys : List Int) (HR : ReadsInt W .u8 A m ys) (hl : xs.length + m ≤ 1000000) (ty : TypeId) :
    ∃ v1 w1, (Builtin.append_ #[22, 22] ty #[v, .slice A m c]).run Try.prog W = .ok v1 w1 ∧ Mo w0 w1 v1 (xs ++ ys) := by
  obtain ⟨i0, hi, hz0, hz1, hz2⟩ := info_parts info5
  have ht := Try.underlying22
  have hm : ys.length = m := HR.1
  have hbel := h.bel
  obtain ⟨g, cap, rfl, h1, h2, h3, h4, h5, h6⟩ := h.form
  rcases A with _ | ad
  · have h0 : m = 0 := by
      rcases Nat.eq_zero_or_pos m with h0 | h0
      · exact h0
      · obtain ⟨ad, h, _⟩ := HR.2.2 h0
        cases h
    subst h0
    obtain rfl : ys = [] := List.eq_nil_of_length_eq_zero hm
    refine ⟨_, W, ?_, by rw [List.append_nil]; exact h⟩
    simp [Builtin.append_, run_underlying ht, sizeOf, typeInfo, hi, Builtin.lenOf, Builtin.firstCells, h3, storeCells]
  · have hcells := reads_cells HR
    by_cases hroom : xs.length + m ≤ cap
    · refine ⟨_, _, run_append_room_cells (P := Try.prog) W 22 ty 5 i0 ht hi g 0 xs.length cap ad m c (nums .u8 ys) (by rw [nums_length, hz1, hm, Nat.mul_one]) hcells (nums_one ys) hroom (fun j hj => ?_) (fun j hj => ?_), ?_⟩
      · rw [nums_length] at hj
        rw [hz1, Nat.mul_one, Nat.zero_add]
        exact (h5 _ (by omega)).1
      · rw [nums_length] at hj
        rw [hz1, Nat.mul_one, Nat.zero_add]
        exact (h5 _ (by omega)).2
      · rw [hz1, Nat.mul_one, Nat.zero_add]
        have hsome : ∀ j, j < (nums .u8 ys).length → (W.cell? ⟨g, xs.length + j, none⟩).isSome = true := fun j hj => by
          rw [nums_length] at hj
          exact (h5 _ (by omega)).1
        refine ⟨⟨g, cap, by rw [List.length_append, hm], h1, by rw [size_setCells]; exact h2, by rw [List.length_append, hm]; exact hroom, h4, fun j hj => ⟨?_, ?_⟩, fun j u hu => ?_⟩, below_setCells g h1 _ _ _ hbel⟩
        · by_cases hj2 : xs.length ≤ j ∧ j < xs.length + ys.length
          · have := World.cell?_setCells_in g (nums .u8 ys) xs.length W hsome (j - xs.length) (by rw [nums_length]; omega)
            rw [show xs.length + (j - xs.length) = j by omega] at this
            rw [this]
            rfl
          · rw [World.cell?_setCells_out g (nums .u8 ys) xs.length W ⟨g, j, none⟩ (fun _ _ => by rw [nums_length]; show j < xs.length ∨ xs.length + ys.length ≤ j; omega)]
            exact (h5 j hj).1
        · rw [World.frozen?_setCells]
          exact (h5 j hj).2
        · by_cases hj2 : j < xs.length
          · rw [World.cell?_setCells_out g (nums .u8 ys) xs.length W ⟨g, j, none⟩ (fun _ _ => .inl hj2)]
            refine h6 j u ?_
            rw [nums_append, List.getElem?_append_left (by rw [nums_length]; exact hj2)] at hu
            exact hu
          · have hjl := (List.getElem?_eq_some_iff.1 hu).1
            rw [nums_length, List.length_append] at hjl
            have := World.cell?_setCells_in g (nums .u8 ys) xs.length W hsome (j - xs.length) (by rw [nums_length]; omega)
            rw [show xs.length + (j - xs.length) = j by omega] at this
            rw [this]
            rw [nums_append, List.getElem?_append_right (by rw [nums_length]; omega), nums_length] at hu
            rw [← hu, List.getElem?_eq_getElem]
    · obtain ⟨v1, w1, hr, ho, hg⟩ := run_append_arg_grows (P := Try.prog) W 22 ty 5 i0 (.int .u8 0) 1 1 ht hi hz0 hz1 hz2 rfl (by omega) ⟨g, 0, none⟩ xs.length cap (nums .u8 xs) (by rw [nums_length, Nat.mul_one]) (fun j u hu => by rw [add_plain]; exact h6 j u hu) ad m c (nums .u8 ys) (by rw [nums_length, hm, Nat.mul_one]) hcells (by omega) (by simp only [maxLen]; omega) (by omega)
      refine ⟨v1, w1, hr, ?_⟩
      have hb : Below w0.heap.size w0 w1 := hbel.grown hg hbel.size (fun k hk => by cases hk)
      refine Mo.of_own ⟨?_, hb⟩ (by rw [List.length_append]; omega)
      rw [nums_append, List.length_append, hm]
      exact own_less ho hbel.size

theorem byteCells_nums (s : ByteArray) : byteCells s = nums .u8 (bytesOf s) := by
  unfold byteCells nums bytesOf
  simp
theorem Mo.appendS {w0 W : World} {v : Value} {xs : List Int} (h : Mo w0 W v xs) (s : ByteArray) (hl : xs.length + s.size ≤ 1000000) (ty : TypeId) :
    ∃ v1 w1, (Builtin.append_ #[22, 9] ty #[v, .string s]).run Try.prog W = .ok v1 w1 ∧ Mo w0 w1 v1 (xs ++ bytesOf s) := by
  obtain ⟨i0, hi, hz0, hz1, hz2⟩ := info_parts info5
  have ht := Try.underlying22
  have hu := Try.underlying9
  have hm : (bytesOf s).length = s.size := bytesOf_length s
  have hbel := h.bel
  obtain ⟨g, cap, rfl, h1, h2, h3, h4, h5, h6⟩ := h.form
  by_cases hroom : xs.length + s.size ≤ cap
  · have hsrc := Src.ofString (P := Try.prog) W hu s
    rw [byteCells_nums] at hsrc
    have hrun := run_append_room_src (P := Try.prog) W 22 9 ty 5 i0 ht hi g 0 xs.length cap (.string s) s.size (nums .u8 (bytesOf s)) (by rw [hz1]; exact hsrc) hroom (fun j hj => by
      rw [nums_length, hm] at hj
      rw [hz1, Nat.mul_one, Nat.zero_add]
      exact (h5 _ (by omega)).1) (fun j hj => by
      rw [nums_length, hm] at hj
      rw [hz1, Nat.mul_one, Nat.zero_add]
      exact (h5 _ (by omega)).2)
    rw [hz1, Nat.mul_one, Nat.zero_add] at hrun
    refine ⟨_, _, hrun, ?_⟩
    have hsome : ∀ j, j < (nums .u8 (bytesOf s)).length → (W.cell? ⟨g, xs.length + j, none⟩).isSome = true := fun j hj => by
      rw [nums_length, hm] at hj
      exact (h5 _ (by omega)).1
    refine ⟨⟨g, cap, by rw [List.length_append, hm], h1, by rw [size_setCells]; exact h2, by rw [List.length_append, hm]; exact hroom, h4, fun j hj => ⟨?_, ?_⟩, fun j u hu => ?_⟩, below_setCells g h1 _ _ _ hbel⟩
    · by_cases hj2 : xs.length ≤ j ∧ j < xs.length + (bytesOf s).length
      · have := World.cell?_setCells_in g (nums .u8 (bytesOf s)) xs.length W hsome (j - xs.length) (by rw [nums_length]; omega)
        rw [show xs.length + (j - xs.length) = j by omega] at this
        rw [this]
        rfl
      · rw [World.cell?_setCells_out g (nums .u8 (bytesOf s)) xs.length W ⟨g, j, none⟩ (fun _ _ => by rw [nums_length]; show j < xs.length ∨ xs.length + (bytesOf s).length ≤ j; omega)]
        exact (h5 j hj).1
    · rw [World.frozen?_setCells]
      exact (h5 j hj).2
    · by_cases hj2 : j < xs.length
      · rw [World.cell?_setCells_out g (nums .u8 (bytesOf s)) xs.length W ⟨g, j, none⟩ (fun _ _ => .inl hj2)]
        refine h6 j u ?_
        rw [nums_append, List.getElem?_append_left (by rw [nums_length]; exact hj2)] at hu
        exact hu
      · have hjl := (List.getElem?_eq_some_iff.1 hu).1
        rw [nums_length, List.length_append] at hjl
        have := World.cell?_setCells_in g (nums .u8 (bytesOf s)) xs.length W hsome (j - xs.length) (by rw [nums_length]; omega)
        rw [show xs.length + (j - xs.length) = j by omega] at this
        rw [this]
        rw [nums_append, List.getElem?_append_right (by rw [nums_length]; omega), nums_length] at hu
        rw [← hu, List.getElem?_eq_getElem]
  · have hr := Lib.run_append_grow_string (P := Try.prog) W 22 9 ty 5 i0 (.int .u8 0) ht hu hi hz0 ⟨g, 0, none⟩ xs.length cap (nums .u8 xs) (by rw [nums_length, hz1, Nat.mul_one]) (fun j u hu => by rw [add_plain]; exact h6 j u hu) s (by omega) (by omega) (growslice_fits (by omega) (by rw [hz2]; omega))
    have hge := grownCap_ge W (xs.length + s.size) cap 5
    have hcm : grownCap W (xs.length + s.size) cap 5 ≤ maxLen := grownCap_le_maxLen W (xs.length + s.size) cap 5 (by simp only [maxLen]; omega)
    refine ⟨_, _, hr, ?_⟩
    have hb : Below w0.heap.size w0 (W.drew.alloc (.cells ((nums .u8 xs).toArray ++ (Lib.strCells s).toArray ++ Builtin.zeroCells (Value.int .u8 0).cells (grownCap W (xs.length + s.size) cap 5 - (xs.length + s.size))) 5)) := below_alloc (below_drew1 hbel) _
    by_cases hp : 0 < (xs ++ bytesOf s).length
    · refine Mo.of_own ⟨?_, hb⟩ hp
      have hlen : (xs ++ bytesOf s).length = xs.length + s.size := by rw [List.length_append, hm]
      refine ⟨by rw [nums_length, Nat.mul_one], .inr ⟨W.heap.size, _, _, by rw [hlen], hbel.size, heap_alloc_new W.drew _, by rw [hlen]; exact hge, hcm, ?_, ?_⟩⟩
      · have hz1' : (Value.int IntKind.u8 0).cells.size = 1 := rfl
        simp only [Array.size_append, List.size_toArray, size_zeroCells, hz1', nums_length, Lib.strCells_length]
        omega
      · simp only [Array.toList_append, List.append_assoc]
        rw [strCells_nums, ← List.append_assoc, ← nums_append, hlen, Nat.mul_one]
        have : (nums .u8 (xs ++ bytesOf s)).length = xs.length + s.size := by rw [nums_length, hlen]
        rw [← this]
        exact List.take_left
    · exfalso
      rw [List.length_append, hm] at hp
      omega
end Go.Proofs.Ytcbibbdkjhkmoaa.H
