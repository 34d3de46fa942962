/- An attribute of a tag, walked. Conditions: as each lemma says. -/
import Derived.Test.YtcbibbdkjhkmoaaHSmall
import Derived.Handy
import Derived.Test.YtcbibbdkjhkmoaaWLast
set_option linter.unusedVariables false
set_option linter.unusedSimpArgs false
namespace Go.Proofs.Ytcbibbdkjhkmoaa.H
open Go.RowKit Go.Proofs.YtcbibbdkjhkmoaaW.PrintWords Go.Proofs.YtcbibbdkjhkmoaaW.PrintLast Go.Proofs.Ytcbibbdkjhkmoaa.L Go.Proofs.Ytcbibbdkjhkmoaa.S Go.Proofs.Ytcbibbdkjhkmoaa.Htm

/-- What while answers. -/
def WhP (w0 : World) (s : Nat) (A : Option Addr) (c : Nat) (b : List Int) (P : Int → Bool) (p : Nat) (W : World) (e : Ending) (w' : World) : Prop :=
  (∃ A', e = .returned (.slice A' (whl P b p - p) (c - p)) ∧ Kd.C (Kd.int .u8) w0 A' (whl P b p - p) ((b.drop p).take (whl P b p - p))) ∧ Sc w0 w' s A c b (whl P b p) ∧ W.grownBy w' (some s)
section
variable {w0 W : World} {s : Nat} {A : Option Addr} {c : Nat} {b : List Int} {p : Nat}
theorem wh_name (h : Sc w0 W s A c b p) : Calls Try.prog 40 #[.pointer (some ⟨s, 0, none⟩), .func (.func 41) #[] #[]] W (WhP w0 s A c b nameB p W) :=
  while_name w0 s A c b nameB (fun _ => True) (fun _ _ h _ => trivial) (fun x W _ _ _ => name_any x W) p W h trivial
theorem wh_blank (h : Sc w0 W s A c b p) : Calls Try.prog 40 #[.pointer (some ⟨s, 0, none⟩), .func (.func 43) #[] #[]] W (WhP w0 s A c b blankB p W) :=
  while_blank w0 s A c b blankB (fun _ => True) (fun _ _ h _ => trivial) (fun x W _ _ _ => blank_any x W) p W h trivial
theorem wh_gap (h : Sc w0 W s A c b p) : Calls Try.prog 40 #[.pointer (some ⟨s, 0, none⟩), .func (.func 42) #[] #[]] W (WhP w0 s A c b gapB p W) :=
  while_gap w0 s A c b gapB (fun _ => True) (fun _ _ h _ => trivial) (fun x W _ _ _ => gap_any x W) p W h trivial
theorem wh_key (h : Sc w0 W s A c b p) : Calls Try.prog 40 #[.pointer (some ⟨s, 0, none⟩), .func (.func 50) #[] #[]] W (WhP w0 s A c b keyB p W) :=
  while_key w0 s A c b keyB (fun _ => True) (fun _ _ h _ => trivial) (fun x W _ _ _ => key_any x W) p W h trivial
theorem wh_bare (h : Sc w0 W s A c b p) : Calls Try.prog 40 #[.pointer (some ⟨s, 0, none⟩), .func (.func 51) #[] #[]] W (WhP w0 s A c b bareB p W) :=
  while_bare w0 s A c b bareB (fun _ => True) (fun _ _ h _ => trivial) (fun x W _ _ _ => bare_any x W) p W h trivial
theorem wh_quote (qb : Nat) (y : Int) (hq : qb ≠ s) (hb : W.heap[qb]? = some (.cells #[.int .u8 y] 5 (0, 0))) (h : Sc w0 W s A c b p) : Calls Try.prog 40 #[.pointer (some ⟨s, 0, none⟩), .func (.func 52) #[] #[.pointer (some ⟨qb, 0, none⟩)]] W (WhP w0 s A c b (fun x => x != y) p W) :=
  while_quote w0 s A c b qb (fun x => x != y) (fun W => W.heap[qb]? = some (.cells #[.int .u8 y] 5 (0, 0))) (fun _ _ h hg => blk_grown h hg (by intro e; injection e with e; exact hq e)) (fun x W _ _ h => quote_any qb y x W ((blk_cell h 0).trans rfl)) p W h hb
end

theorem attr_no (b : List Int) (p p1 p2 : Nat) (h1 : whl keyB b (p + 1) = p1) (h2 : whl blankB b p1 = p2) (h : isAt b p2 61 = false) : attr b p = (p2, none) := by
  unfold attr
  simp only [h1, h2]
  rw [if_neg (of_decide_eq_false h)]
theorem Sc.far {w0 W : World} {s : Nat} {A : Option Addr} {c : Nat} {b : List Int} {p : Nat} (h : Sc w0 W s A c b p) (g : Nat) (hg : g ≠ s) (hw : w0.heap.size ≤ g) (j : Nat) (u : Value) : Sc w0 (W.setCell ⟨g, j, none⟩ u) s A c b p :=
  ⟨blk_far h.blk (p := ⟨g, j, none⟩) (fun e => hg e.symm) u, h.C, below_grown h.bel hw (grown_set _ _ _ _), h.ls, h.lc, h.lp, h.max, h.bys⟩
theorem two_cells {W : World} {g t : Nat} {a d : Value} (h : W.heap[g]? = some (.cells #[a, d] t (0, 0))) (x y : Value) : ((W.setCell ⟨g, 0, none⟩ x).setCell ⟨g, 1, none⟩ y).cell? ⟨g, 0, none⟩ = some x ∧ ((W.setCell ⟨g, 0, none⟩ x).setCell ⟨g, 1, none⟩ y).cell? ⟨g, 1, none⟩ = some y := by
  have h2 := blk_set (blk_set h 0 x) 1 y
  exact ⟨(blk_cell h2 0).trans rfl, (blk_cell h2 1).trans rfl⟩
theorem isAt_lt {b : List Int} {p : Nat} {y : Int} (h : isAt b p y = true) : p < b.length := by
  rcases Nat.lt_or_ge p b.length with k | k
  · exact k
  · rw [isAt_out b p y k] at h; cases h
theorem attr_bare (b : List Int) (p p1 p2 p3 : Nat) (h1 : whl keyB b (p + 1) = p1) (h2 : whl blankB b p1 = p2) (h3 : whl blankB b (p2 + 1) = p3) (h : isAt b p2 61 = true) (h34 : isAt b p3 34 = false) (h39 : isAt b p3 39 = false) : attr b p = (whl bareB b p3, none) := by
  unfold attr
  simp only [h1, h2, h3]
  rw [if_pos (of_decide_eq_true h), if_neg (by rintro (x | x); exact of_decide_eq_false h34 x; exact of_decide_eq_false h39 x)]
theorem attr_quote (b : List Int) (p p1 p2 p3 p5 p6 : Nat) (y : Int) (kk : List Int) (k1 k2 k3 : Bool) (h1 : whl keyB b (p + 1) = p1) (h2 : whl blankB b p1 = p2) (h3 : whl blankB b (p2 + 1) = p3) (h : isAt b p2 61 = true) (hq : isAt b p3 34 = true ∨ isAt b p3 39 = true) (hy : b.getD p3 0 = y) (h5 : whl (fun x => x != y) b (p3 + 1) = p5) (h6 : p6 = if p5 < b.length then p5 + 1 else p5)
    (hk : ((b.drop p).take (p1 - p)).map sm = kk) (hB : Bys kk) (e1 : ((strOfNums kk).toList == ([97, 108, 116] : List UInt8)) = k1) (e2 : ((strOfNums kk).toList == ([116, 105, 116, 108, 101] : List UInt8)) = k2) (e3 : decide ((p3 : Int) + 1 < (p5 : Int)) = k3) :
    attr b p = (p6, if (k1 || k2) && k3 then some (p3 + 1, p5 - (p3 + 1)) else none) := by
  have q1 : (kk == [97, 108, 116]) = k1 := by
    rw [← e1, ← str_eq hB (show Bys [97, 108, 116] from by intro x hx; simp at hx; omega), show (strOfNums [97, 108, 116]).toList = [97, 108, 116] from by rw [ByteArray.toList_eq]; rfl]
  have q2 : (kk == [116, 105, 116, 108, 101]) = k2 := by
    rw [← e2, ← str_eq hB (show Bys [116, 105, 116, 108, 101] from by intro x hx; simp at hx; omega), show (strOfNums [116, 105, 116, 108, 101]).toList = [116, 105, 116, 108, 101] from by rw [ByteArray.toList_eq]; rfl]
  have q3 : (p3 + 1 < p5) ↔ k3 = true := by rw [← e3, decide_eq_true_iff]; omega
  unfold attr
  simp only [h1, h2, h3]
  rw [if_pos (of_decide_eq_true h), if_pos (by rcases hq with h | h; exact Or.inl (of_decide_eq_true h); exact Or.inr (of_decide_eq_true h)), hy, h5, hk, ← h6]
  congr 1
  have hc : ((kk = [97, 108, 116] ∨ kk = [116, 105, 116, 108, 101]) ∧ p3 + 1 < p5) ↔ ((k1 || k2) && k3) = true := by
    rw [q3, ← q1, ← q2]
    simp
  by_cases hh : ((k1 || k2) && k3) = true
  · rw [if_pos hh, if_pos (hc.2 hh)]
  · rw [if_neg hh, if_neg (fun x => hh (hc.1 x))]
theorem bys_sm {l : List Int} (h : Bys l) : Bys (l.map sm) := by
  intro x hx
  obtain ⟨z, hz, rfl⟩ := List.mem_map.1 hx
  have := h z hz
  unfold sm
  split <;> omega
theorem grown_new {w w1 : World} {row : Option Nat} (h : w.grownBy w1 row) {g : Nat} (hg : w.heap.size ≤ g) (j : Nat) (u : Value) : w.grownBy (w1.setCell ⟨g, j, none⟩ u) row := by
  have k := grown_set w1 g j u
  exact ⟨k.os.trans h.os, k.tape.trans h.tape, k.output.trans h.output, Nat.le_trans h.size k.size, fun i hi hne => (k.block i (Nat.lt_of_lt_of_le hi h.size) (by intro e; injection e with e; omega)).trans (h.block i hi hne)⟩
set_option maxRecDepth 100000 in
set_option maxHeartbeats 4000000 in
theorem attr_any (w0 : World) (s : Nat) (A : Option Addr) (c : Nat) (b : List Int) (p : Nat) (W : World) (h : Sc w0 W s A c b p) (hp : p < b.length) :
    Calls Try.prog 44 #[.pointer (some ⟨s, 0, none⟩)] W fun e w' => (∃ x y ok, e = .returned (.tuple #[.agg #[.int .i64 x, .int .i64 y], .bool ok]) ∧ (∀ u v, (attr b p).2 = some (u, v) → x = (u : Int) ∧ y = (v : Int) ∧ ok = true) ∧ ((attr b p).2 = none → ok = false)) ∧ Sc w0 w' s A c b (attr b p).1 ∧ W.grownBy w' (some s) := by
  have HS := Lib.hid h
  have hm := h.max
  have hls : s < W.heap.size := blk_lt h.blk
  clear h
  have HS1 := Lib.hid (HS.out.below (below_alloc (Below.refl W.heap.size W) (.cells #[.int .i64 0, .int .i64 0] 54 (0, 0))))
  have HR1 := Lib.hid (blk_new W (.cells #[.int .i64 0, .int .i64 0] 54 (0, 0)))
  have c1 := HS1.out.c1
  have f1 := HS1.out.f1
  go_enter Try.func44, Try.ntmps44
  go_wp2_with fail
  have HSa := Lib.hid (show Sc w0 ((W.setCell ⟨s, 1, none⟩ (.int .i64 ((p : Int) + 1))).alloc (.cells #[.int .i64 0, .int .i64 0] 54 (0, 0))) s A c b (p + 1) from (HS.out.move (p + 1) hp).below (below_alloc (Below.refl _ _) _))
  have HRa := Lib.hid (show ((W.setCell ⟨s, 1, none⟩ (.int .i64 ((p : Int) + 1))).alloc (.cells #[.int .i64 0, .int .i64 0] 54 (0, 0))).heap[W.heap.size]? = some (.cells #[.int .i64 0, .int .i64 0] 54 (0, 0)) from by
    have := blk_new (W.setCell ⟨s, 1, none⟩ (.int .i64 ((p : Int) + 1))) (.cells #[.int .i64 0, .int .i64 0] 54 (0, 0))
    have hsz : (W.setCell ⟨s, 1, none⟩ (.int .i64 ((p : Int) + 1))).heap.size = W.heap.size := by simp
    rwa [hsz] at this)
  have HGa := Lib.hid (show W.grownBy ((W.setCell ⟨s, 1, none⟩ (.int .i64 ((p : Int) + 1))).alloc (.cells #[.int .i64 0, .int .i64 0] 54 (0, 0))) (some s) from grown_trans (grown_set _ _ _ _) (grown_below (below_alloc (Below.refl _ _) _) _))
  have hrs : W.heap.size ≠ s := by omega
  clear HS1 HR1 c1 f1
  refine (wh_key HSa.out).mono ?_
  rintro e w1 ⟨⟨A1, rfl, _⟩, hs1, hg1⟩
  have HS1 := Lib.hid hs1
  have HR1 := Lib.hid (blk_grown HRa.out hg1 (by intro e; injection e with e; exact hrs e))
  have HG1 := Lib.hid (grown_trans HGa.out hg1)
  clear hs1 hg1 HSa HRa HGa
  generalize hp1 : whl keyB b (p + 1) = p1 at *
  have hpp1 : p + 1 ≤ p1 := by rw [← hp1]; exact whl_ge _ _ _
  have hp1n : p1 ≤ b.length := HS1.out.lp
  have hct := cut_b A b.length c p p1 (by omega) hp1n HS.out.lc
  have HCm := Lib.hid (C_mid HS.out.C HS.out.lc p p1 (by omega) hp1n)
  generalize (if c = p then A else A.map (·.add (p * 1))) = A2 at *
  have HBm := Lib.hid ((HS.out.bys.drop p).take (p1 - p))
  generalize hkey : (b.drop p).take (p1 - p) = key at *
  have HKey := Lib.hid hkey
  clear hkey
  have c0 := HS1.out.c0
  have c1 := HS1.out.c1
  have hcp : p1 - p ≤ c - p := by have := HS.out.lc; omega
  go_wp2_with fail
  go_region_held3 (fun w' => w'.cell? ⟨s, 0, none⟩ = some (.slice A b.length c) ∧ w'.cell? ⟨s, 1, none⟩ = some (.int .i64 p1))
    (first | exact ⟨c0, c1⟩ | exact ⟨h2.c0, h2.c1⟩ | go_keep)
    (first | (go_at_call 39; refine (small_any A2 (p1 - p) (c - p) key _ (Kd.C_below HCm.out HS1.out.drew.bel) hcp HBm.out (by omega)).mono ?_; rintro e w2 ⟨rfl, hb2⟩; have h2 := HS1.out.drew.below hb2))
  have HW2 := Lib.hid (And.intro h2 (And.intro (blk_below HR1.out (below_step (below_drew1 (Below.refl _ _)) hb2)) (grown_trans HG1.out (grown_below (below_step (below_drew1 (Below.refl _ _)) hb2) _))))
  clear h2 hb2 c0 c1 hct HCm HS1 HR1 HG1 HBm
  go_wp2_with fail
  refine (wh_blank HW2.out.1).mono ?_
  rintro e w3 ⟨⟨A3, rfl, _⟩, hs3, hg3⟩
  have HW3 := Lib.hid (And.intro hs3 (And.intro (blk_grown HW2.out.2.1 hg3 (by intro e; injection e with e; exact hrs e)) (grown_trans HW2.out.2.2 hg3)))
  clear hs3 hg3 HW2
  generalize hp2 : whl blankB b p1 = p2 at *
  have hp12 : p1 ≤ p2 := by rw [← hp2]; exact whl_ge _ _ _
  go_wp2_with fail
  refine (is_any w0 s A c b p2 61 _ HW3.out.1).mono ?_
  rintro e w4 ⟨rfl, n4, rfl⟩
  have HW4 := Lib.hid (And.intro (HW3.out.1.drewN n4) (And.intro (show (w3.drewN n4).heap[W.heap.size]? = _ from HW3.out.2.1) (grown_trans HW3.out.2.2 (grown_drewN _ n4 _))))
  clear HW3
  generalize hw4 : w3.drewN n4 = w4 at *
  clear hw4
  cases h61 : isAt b p2 61 with
  | false =>
    have HE := Lib.hid (attr_no b p p1 p2 hp1 hp2 h61)
    have g0 := blk_frozen HW4.out.2.1 0
    have g1 := blk_frozen HW4.out.2.1 1
    have g2 := (blk_cell HW4.out.2.1 0).trans (show _ = some (Value.int .i64 0) from rfl)
    have g3 := (blk_cell HW4.out.2.1 1).trans (show _ = some (Value.int .i64 0) from rfl)
    have hw0 : w0.heap.size ≤ W.heap.size := HS.out.bel.size
    generalize hrb : W.heap.size = rb at *
    go_wp2_with fail
    obtain ⟨k0, k1⟩ := two_cells HW4.out.2.1 (.int .i64 0) (.int .i64 0)
    have HF := Lib.hid (And.intro ((HW4.out.1.far rb hrs hw0 0 (.int .i64 0)).far rb hrs hw0 1 (.int .i64 0)) (grown_new (grown_new HW4.out.2.2 (Nat.le_of_eq hrb) 0 (.int .i64 0)) (Nat.le_of_eq hrb) 1 (.int .i64 0)))
    generalize (w4.setCell ⟨rb, 0, none⟩ (.int .i64 0)).setCell ⟨rb, 1, none⟩ (.int .i64 0) = w5 at *
    (try simp only [Exit.inBlock, Exit.then])
    refine bodyPost_ret (v := .tuple #[.agg #[.int .i64 0, .int .i64 0], .bool false]) ?_ rfl ?_
    · simp [results, Try.results44, go_sem, k0, k1]
      try rfl
    rw [HE.out]
    exact ⟨⟨0, 0, false, rfl, fun u v h => by simp at h, fun _ => rfl⟩, HF.out.1, HF.out.2⟩
  | true =>
    have hp2n : p2 < b.length := isAt_lt h61
    have c1 := HW4.out.1.c1
    have f1 := HW4.out.1.f1
    have hw0 : w0.heap.size ≤ W.heap.size := HS.out.bel.size
    go_wp2_with fail
    have HW5 := Lib.hid (And.intro (show Sc w0 (w4.setCell ⟨s, 1, none⟩ (.int .i64 ((p2 : Int) + 1))) s A c b (p2 + 1) from HW4.out.1.move (p2 + 1) hp2n) (And.intro (show (w4.setCell ⟨s, 1, none⟩ (.int .i64 ((p2 : Int) + 1))).heap[W.heap.size]? = _ from blk_far HW4.out.2.1 (p := ⟨s, 1, none⟩) hrs _) (grown_trans HW4.out.2.2 (grown_set w4 s 1 (.int .i64 ((p2 : Int) + 1))))))
    clear HW4 c1 f1
    refine (wh_blank HW5.out.1).mono ?_
    rintro e w6 ⟨⟨A6, rfl, _⟩, hs6, hg6⟩
    have HW6 := Lib.hid (And.intro hs6 (And.intro (blk_grown HW5.out.2.1 hg6 (by intro e; injection e with e; exact hrs e)) (grown_trans HW5.out.2.2 hg6)))
    clear hs6 hg6 HW5
    generalize hp3 : whl blankB b (p2 + 1) = p3 at *
    go_upto_region 10 with fail
    obtain ⟨B, hB⟩ : ∃ B : Bool, B = (!isAt b p3 34 && !isAt b p3 39) := ⟨_, rfl⟩
    have HB := Lib.hid hB
    clear hB
    go_cut [54] (fun v wx => v = .bool B ∧ Hid (Sc w0 wx s A c b p3 ∧ wx.heap[W.heap.size]? = some (.cells #[.int .i64 0, .int .i64 0] 54 (0, 0)) ∧ W.grownBy wx (some s)))
    case first =>
      go_wp2_with fail
      refine (is_any w0 s A c b p3 34 _ HW6.out.1).mono ?_
      rintro e w7 ⟨rfl, n7, rfl⟩
      have HW7 := Lib.hid (And.intro (HW6.out.1.drewN n7) (And.intro (show (w6.drewN n7).heap[W.heap.size]? = _ from HW6.out.2.1) (grown_trans HW6.out.2.2 (grown_drewN _ n7 _))))
      clear HW6
      generalize hw7 : w6.drewN n7 = w7 at *
      clear hw7
      cases h34 : isAt b p3 34 with
      | false =>
        go_wp2_with fail
        refine (is_any w0 s A c b p3 39 _ HW7.out.1).mono ?_
        rintro e w8 ⟨rfl, n8, rfl⟩
        have HW8 := Lib.hid (And.intro (HW7.out.1.drewN n8) (And.intro (show (w7.drewN n8).heap[W.heap.size]? = _ from HW7.out.2.1) (grown_trans HW7.out.2.2 (grown_drewN _ n8 _))))
        clear HW7
        generalize hw8 : w7.drewN n8 = w8 at *
        clear hw8
        go_wp2_with fail
        go_meet
        exact ⟨by rw [HB.out, h34]; rfl, HW8.out⟩
      | true =>
        go_wp2_with fail
        go_meet
        exact ⟨by rw [HB.out, h34]; rfl, HW7.out⟩
    case rest =>
      obtain ⟨rfl, HW7⟩ := hcut
      clear HW6
      obtain ⟨w7, hw7⟩ : ∃ w7, w7 = wc := ⟨_, rfl⟩
      subst hw7
      cases B with
      | true =>
        have h34 : isAt b p3 34 = false := by
          have := HB.out
          cases h : isAt b p3 34 with
          | false => rfl
          | true => rw [h] at this; simp at this
        have h39 : isAt b p3 39 = false := by
          have := HB.out
          cases h : isAt b p3 39 with
          | false => rfl
          | true => rw [h] at this; simp at this
        go_wp2_with fail
        refine (wh_bare HW7.out.1).mono ?_
        rintro e w9 ⟨⟨A9, rfl, _⟩, hs9, hg9⟩
        have HW9 := Lib.hid (And.intro hs9 (And.intro (blk_grown HW7.out.2.1 hg9 (by intro e; injection e with e; exact hrs e)) (grown_trans HW7.out.2.2 hg9)))
        clear hs9 hg9 HW7
        have HE := Lib.hid (attr_bare b p p1 p2 p3 hp1 hp2 hp3 h61 h34 h39)
        generalize whl bareB b p3 = p4 at *
        have g0 := blk_frozen HW9.out.2.1 0
        have g1 := blk_frozen HW9.out.2.1 1
        have g2 := (blk_cell HW9.out.2.1 0).trans (show _ = some (Value.int .i64 0) from rfl)
        have g3 := (blk_cell HW9.out.2.1 1).trans (show _ = some (Value.int .i64 0) from rfl)
        generalize hrb : W.heap.size = rb at *
        go_wp2_with fail
        obtain ⟨k0, k1⟩ := two_cells HW9.out.2.1 (.int .i64 0) (.int .i64 0)
        have HF := Lib.hid (And.intro ((HW9.out.1.far rb hrs hw0 0 (.int .i64 0)).far rb hrs hw0 1 (.int .i64 0)) (grown_new (grown_new HW9.out.2.2 (Nat.le_of_eq hrb) 0 (.int .i64 0)) (Nat.le_of_eq hrb) 1 (.int .i64 0)))
        generalize (w9.setCell ⟨rb, 0, none⟩ (.int .i64 0)).setCell ⟨rb, 1, none⟩ (.int .i64 0) = w10 at *
        (try simp only [Exit.inBlock, Exit.then])
        refine bodyPost_ret (v := .tuple #[.agg #[.int .i64 0, .int .i64 0], .bool false]) ?_ rfl ?_
        · simp [results, Try.results44, go_sem, k0, k1]
          try rfl
        rw [HE.out]
        exact ⟨⟨0, 0, false, rfl, fun u v h => by simp at h, fun _ => rfl⟩, HF.out.1, HF.out.2⟩
      | false =>
        have hq : isAt b p3 34 = true ∨ isAt b p3 39 = true := by
          have := HB.out
          cases h : isAt b p3 34 with
          | true => exact Or.inl rfl
          | false =>
            cases h2 : isAt b p3 39 with
            | true => exact Or.inr rfl
            | false => rw [h, h2] at this; simp at this
        have HQ := Lib.hid hq
        have hp3n : p3 < b.length := by rcases hq with h | h <;> exact isAt_lt h
        clear hq
        obtain ⟨ad, rfl, hcell⟩ := HW7.out.1.at_ hp3n
        generalize hy : b.getD p3 0 = y at *
        have c0 := HW7.out.1.c0
        have c1 := HW7.out.1.c1
        go_wp2_with fail
        go_region_held3 (fun w' => w'.cell? ⟨s, 0, none⟩ = some (.slice (some ad) b.length c) ∧ w'.cell? ⟨s, 1, none⟩ = some (.int .i64 p3) ∧ w'.cell? (ad.add p3) = some (.int .u8 y))
          (first | exact ⟨c0, c1, hcell⟩ | go_keep)
          (fail)
        have HW9 := Lib.hid (And.intro (show Sc w0 (w7.alloc (.cells #[.int .u8 y] 5 (0, 0))).drew s (some ad) c b p3 from (HW7.out.1.below (below_alloc (Below.refl _ _) _)).drew) (And.intro (show (w7.alloc (.cells #[.int .u8 y] 5 (0, 0))).drew.heap[W.heap.size]? = _ from blk_alloc HW7.out.2.1 _) (And.intro (show (w7.alloc (.cells #[.int .u8 y] 5 (0, 0))).drew.heap[w7.heap.size]? = some (.cells #[.int .u8 y] 5 (0, 0)) from blk_new w7 _) (show W.grownBy (w7.alloc (.cells #[.int .u8 y] 5 (0, 0))).drew (some s) from grown_trans (grown_trans HW7.out.2.2 (grown_below (below_alloc (Below.refl _ _) _) _)) (grown_drew _ _)))))
        have hqs : w7.heap.size ≠ s := by have := blk_lt HW7.out.1.blk; omega
        have hqr : w7.heap.size ≠ W.heap.size := by have := blk_lt HW7.out.2.1; omega
        have hqg : W.heap.size ≤ w7.heap.size := HW7.out.2.2.size
        clear HW7 c0 c1 hcell
        generalize hqb : w7.heap.size = qb at *
        generalize hw9 : (w7.alloc (.cells #[.int .u8 y] 5 (0, 0))).drew = w9 at *
        have c1 := HW9.out.1.c1
        have f1 := HW9.out.1.f1
        go_wp2_with fail
        have HW10 := Lib.hid (And.intro (show Sc w0 (w9.setCell ⟨s, 1, none⟩ (.int .i64 ((p3 : Int) + 1))) s (some ad) c b (p3 + 1) from HW9.out.1.move (p3 + 1) hp3n) (And.intro (show (w9.setCell ⟨s, 1, none⟩ (.int .i64 ((p3 : Int) + 1))).heap[W.heap.size]? = _ from blk_far HW9.out.2.1 (p := ⟨s, 1, none⟩) hrs _) (And.intro (show (w9.setCell ⟨s, 1, none⟩ (.int .i64 ((p3 : Int) + 1))).heap[qb]? = _ from blk_far HW9.out.2.2.1 (p := ⟨s, 1, none⟩) hqs _) (grown_trans HW9.out.2.2.2 (grown_set w9 s 1 (.int .i64 ((p3 : Int) + 1)))))))
        clear HW9 c1 f1
        refine (wh_quote qb y hqs HW10.out.2.2.1 HW10.out.1).mono ?_
        rintro e w11 ⟨⟨A11, rfl, _⟩, hs11, hg11⟩
        have HW11 := Lib.hid (And.intro hs11 (And.intro (blk_grown HW10.out.2.1 hg11 (by intro e; injection e with e; exact hrs e)) (grown_trans HW10.out.2.2.2 hg11)))
        clear hs11 hg11 HW10
        generalize hp5 : whl (fun x => x != y) b (p3 + 1) = p5 at *
        have hp35 : p3 + 1 ≤ p5 := by rw [← hp5]; exact whl_ge _ _ _
        have hp5n : p5 ≤ b.length := HW11.out.1.lp
        have c0 := HW11.out.1.c0
        have c1 := HW11.out.1.c1
        go_upto_region 18 with fail
        have HW12 := Lib.hid (And.intro (show Sc w0 (w11.alloc (.cells #[.int .i64 ((p3 : Int) + 1), .int .i64 ((p5 : Int) - ((p3 : Int) + 1))] 54 (0, 0))) s (some ad) c b p5 from HW11.out.1.below (below_alloc (Below.refl _ _) _)) (And.intro (show (w11.alloc (.cells #[.int .i64 ((p3 : Int) + 1), .int .i64 ((p5 : Int) - ((p3 : Int) + 1))] 54 (0, 0))).heap[W.heap.size]? = _ from blk_alloc HW11.out.2.1 _) (And.intro (show (w11.alloc (.cells #[.int .i64 ((p3 : Int) + 1), .int .i64 ((p5 : Int) - ((p3 : Int) + 1))] 54 (0, 0))).heap[w11.heap.size]? = some (.cells #[.int .i64 ((p3 : Int) + 1), .int .i64 ((p5 : Int) - ((p3 : Int) + 1))] 54 (0, 0)) from blk_new w11 _) (grown_trans HW11.out.2.2 (grown_below (below_alloc (Below.refl _ _) (.cells #[.int .i64 ((p3 : Int) + 1), .int .i64 ((p5 : Int) - ((p3 : Int) + 1))] 54 (0, 0))) _)))))
        have hvs : w11.heap.size ≠ s := by have := blk_lt HW11.out.1.blk; omega
        have hvr : w11.heap.size ≠ W.heap.size := by have := blk_lt HW11.out.2.1; omega
        have hvg : W.heap.size ≤ w11.heap.size := HW11.out.2.2.size
        clear HW11 c0 c1
        generalize hvb : w11.heap.size = vb at *
        generalize hw12 : w11.alloc (.cells #[.int .i64 ((p3 : Int) + 1), .int .i64 ((p5 : Int) - ((p3 : Int) + 1))] 54 (0, 0)) = w12 at *
        have c0 := HW12.out.1.c0
        have c1 := HW12.out.1.c1
        obtain ⟨p6, hp6⟩ : ∃ p6 : Nat, p6 = if p5 < b.length then p5 + 1 else p5 := ⟨_, rfl⟩
        have HP6 := Lib.hid hp6
        go_quiet (fail)
        go_upto_if 99 with fail
        go_cut [] (fun wx => Hid (Sc w0 wx s (some ad) c b p6 ∧ wx.heap[W.heap.size]? = some (.cells #[.int .i64 0, .int .i64 0] 54 (0, 0)) ∧ wx.heap[vb]? = some (.cells #[.int .i64 ((p3 : Int) + 1), .int .i64 ((p5 : Int) - ((p3 : Int) + 1))] 54 (0, 0)) ∧ W.grownBy wx (some s)))
        case first =>
          by_cases hlt : p5 < b.length
          · have hd : decide ((p5 : Int) < (b.length : Int)) = true := by simp; omega
            have f1 := HW12.out.1.f1
            obtain rfl : p6 = p5 + 1 := by rw [hp6, if_pos hlt]
            clear hp6
            go_wp2_with fail
            go_meet
            exact ⟨(HW12.out.1.drewN _).move (p5 + 1) hlt, blk_far (show (w12.drewN _).heap[W.heap.size]? = _ from HW12.out.2.1) (p := ⟨s, 1, none⟩) hrs _, blk_far (show (w12.drewN _).heap[vb]? = _ from HW12.out.2.2.1) (p := ⟨s, 1, none⟩) hvs _, grown_trans (grown_trans HW12.out.2.2.2 (grown_drewN _ _ _)) (grown_set _ s 1 (.int .i64 ((p5 : Int) + 1)))⟩
          · have hd : decide ((p5 : Int) < (b.length : Int)) = false := by simp; omega
            obtain rfl : p6 = p5 := by rw [hp6, if_neg hlt]
            clear hp6
            go_wp2_with fail
            go_meet
            exact ⟨HW12.out.1.drewN _, HW12.out.2.1, HW12.out.2.2.1, grown_trans HW12.out.2.2.2 (grown_drewN _ _ _)⟩
        case rest =>
          have HW13 := hcut
          clear HW12 c0 c1
          have v0 := (blk_cell HW13.out.2.2.1 0).trans (show _ = some (Value.int .i64 ((p3 : Int) + 1)) from rfl)
          have v1 := (blk_cell HW13.out.2.2.1 1).trans (show _ = some (Value.int .i64 ((p5 : Int) - ((p3 : Int) + 1))) from rfl)
          have g0 := blk_frozen HW13.out.2.1 0
          have g1 := blk_frozen HW13.out.2.1 1
          have g2 := (blk_cell HW13.out.2.1 0).trans (show _ = some (Value.int .i64 0) from rfl)
          have g3 := (blk_cell HW13.out.2.1 1).trans (show _ = some (Value.int .i64 0) from rfl)
          generalize hrb : W.heap.size = rb at *
          have hrvb : vb ≠ rb := hvr
          have HB13 := Lib.hid (blk_far (blk_far HW13.out.2.2.1 (p := ⟨rb, 0, none⟩) hrvb (.int .i64 ((p3 : Int) + 1))) (p := ⟨rb, 1, none⟩) hrvb (.int .i64 ((p5 : Int) - ((p3 : Int) + 1))))
          have kv0 := (blk_cell HB13.out 0).trans (show _ = some (Value.int .i64 ((p3 : Int) + 1)) from rfl)
          have kv1 := (blk_cell HB13.out 1).trans (show _ = some (Value.int .i64 ((p5 : Int) - ((p3 : Int) + 1))) from rfl)
          obtain ⟨k0, k1⟩ := two_cells HW13.out.2.1 (.int .i64 ((p3 : Int) + 1)) (.int .i64 ((p5 : Int) - ((p3 : Int) + 1)))
          have HF := Lib.hid (And.intro ((HW13.out.1.far rb hrs hw0 0 (.int .i64 ((p3 : Int) + 1))).far rb hrs hw0 1 (.int .i64 ((p5 : Int) - ((p3 : Int) + 1)))) (grown_new (grown_new HW13.out.2.2.2 (Nat.le_of_eq hrb) 0 (.int .i64 ((p3 : Int) + 1))) (Nat.le_of_eq hrb) 1 (.int .i64 ((p5 : Int) - ((p3 : Int) + 1)))))
          generalize hkk : key.map sm = kk at *
          have HA := Lib.hid (fun k1 k2 k3 => attr_quote b p p1 p2 p3 p5 p6 y kk k1 k2 k3 hp1 hp2 hp3 h61 HQ.out hy hp5 HP6.out (by rw [HKey.out]; exact hkk) (by rw [← hkk, ← HKey.out]; exact bys_sm ((HS.out.bys.drop p).take (p1 - p))))
          clear hkk
          have FIN : ∀ k : Bool, (attr b p = (p6, if k then some (p3 + 1, p5 - (p3 + 1)) else none)) → (∃ x y ok, (Ending.returned (.tuple #[.agg #[.int .i64 ((p3 : Int) + 1), .int .i64 ((p5 : Int) - ((p3 : Int) + 1))], .bool k])) = Ending.returned (.tuple #[.agg #[.int .i64 x, .int .i64 y], .bool ok]) ∧ (∀ u v, (attr b p).2 = some (u, v) → x = (u : Int) ∧ y = (v : Int) ∧ ok = true) ∧ ((attr b p).2 = none → ok = false)) := by
            intro k hk
            refine ⟨_, _, k, rfl, ?_, ?_⟩
            · intro u v h
              rw [hk] at h
              cases k with
              | true => simp at h; obtain ⟨rfl, rfl⟩ := h; refine ⟨by omega, by omega, rfl⟩
              | false => simp at h
            · intro h
              rw [hk] at h
              cases k with
              | true => simp at h
              | false => rfl
          have HFIN := Lib.hid FIN
          clear FIN
          have HP : (attr b p).1 = p6 := by rw [HA.out _ _ _ rfl rfl rfl]
          have HPP := Lib.hid HP
          clear HP
          cases hk1 : ((strOfNums kk).toList == ([97, 108, 116] : List UInt8)) with
          | true =>
            go_wp2_with fail
            refine start_ (n := 14) (S := fun w' => w'.cell? ⟨vb, 0, none⟩ = some (.int .i64 ((p3 : Int) + 1)) ∧ w'.cell? ⟨vb, 1, none⟩ = some (.int .i64 ((p5 : Int) - ((p3 : Int) + 1)))) (ds := []) #[false, false, false, false, false, false, false, false, false, false, false, false, false, false] (by kernel_rfl) rfl rfl (⟨v0, v1⟩) (fun hHeld => ?_)
            refine take_ (i := 0) (N := (some 107)) (v := ?_) (a' := ?_) #[true, false, false, false, false, false, false, false, false, false, false, false, false, false] rfl rfl (by kernel_rfl) (fun _ _ _ h => h) (Or.inl ⟨by rfl, ?_⟩) hHeld ?_ ?_
            rotate_left
            · intro w' ⟨s0, s1⟩
              go_simp
              try with_reducible rfl
            rotate_left
            · simp only [Act.put, List.setIfInBounds_toArray, List.set_cons_zero, List.set_cons_succ]
              rfl
            refine pure_ (i := 1) (N := (some 108)) (v := ?_) (a' := ?_) #[true, true, false, false, false, false, false, false, false, false, false, false, false, false] rfl rfl (by kernel_rfl) (fun _ _ _ h => h) (Or.inl ⟨by rfl, ?_⟩) ?_ ?_
            rotate_left
            · intro w'
              go_simp
              try with_reducible rfl
            rotate_left
            · simp only [Act.put, List.setIfInBounds_toArray, List.set_cons_zero, List.set_cons_succ]
              rfl
            refine pure_ (i := 2) (N := (some 109)) (v := ?_) (a' := ?_) #[true, true, true, false, false, false, false, false, false, false, false, false, false, false] rfl rfl (by kernel_rfl) (fun _ _ _ h => h) (Or.inl ⟨by rfl, ?_⟩) ?_ ?_
            rotate_left
            · intro w'
              go_simp
              try with_reducible rfl
            rotate_left
            · simp only [Act.put, List.setIfInBounds_toArray, List.set_cons_zero, List.set_cons_succ]
              rfl
            refine pure_ (i := 3) (N := (some 110)) (v := ?_) (a' := ?_) #[true, true, true, true, false, false, false, false, false, false, false, false, false, false] rfl rfl (by kernel_rfl) (fun _ _ _ h => h) (Or.inl ⟨by rfl, ?_⟩) ?_ ?_
            rotate_left
            · intro w'
              go_simp
              try with_reducible rfl
            rotate_left
            · simp only [Act.put, List.setIfInBounds_toArray, List.set_cons_zero, List.set_cons_succ]
              rfl
            refine pure_ (i := 4) (N := (some 111)) (v := undef) (a' := ?_) #[true, true, true, true, true, false, false, false, false, false, false, false, false, false] rfl rfl (by kernel_rfl) (fun _ _ _ h => h) (Or.inr ⟨by rfl, rfl⟩) ?_ ?_
            rotate_left
            · simp only [Act.put, List.setIfInBounds_toArray, List.set_cons_zero, List.set_cons_succ]
              rfl
            refine pure_ (i := 5) (N := (some 112)) (v := undef) (a' := ?_) #[true, true, true, true, true, true, false, false, false, false, false, false, false, false] rfl rfl (by kernel_rfl) (fun _ _ _ h => h) (Or.inr ⟨by rfl, rfl⟩) ?_ ?_
            rotate_left
            · simp only [Act.put, List.setIfInBounds_toArray, List.set_cons_zero, List.set_cons_succ]
              rfl
            refine pure_ (i := 6) (N := (some 113)) (v := ?_) (a' := ?_) #[true, true, true, true, true, true, true, false, false, false, false, false, false, false] rfl rfl (by kernel_rfl) (fun _ _ _ h => h) (Or.inl ⟨by rfl, ?_⟩) ?_ ?_
            rotate_left
            · intro w'
              go_simp
              try with_reducible rfl
            rotate_left
            · simp only [Act.put, List.setIfInBounds_toArray, List.set_cons_zero, List.set_cons_succ]
              rfl
            refine pure_ (i := 7) (N := (some 114)) (v := ?_) (a' := ?_) #[true, true, true, true, true, true, true, true, false, false, false, false, false, false] rfl rfl (by kernel_rfl) (fun _ _ _ h => h) (Or.inl ⟨by rfl, ?_⟩) ?_ ?_
            rotate_left
            · intro w'
              go_simp
              try with_reducible rfl
            rotate_left
            · simp only [Act.put, List.setIfInBounds_toArray, List.set_cons_zero, List.set_cons_succ]
              rfl
            refine pure_ (i := 8) (N := (some 115)) (v := ?_) (a' := ?_) #[true, true, true, true, true, true, true, true, true, false, false, false, false, false] rfl rfl (by kernel_rfl) (fun _ _ _ h => h) (Or.inl ⟨by rfl, ?_⟩) ?_ ?_
            rotate_left
            · intro w'
              go_simp
              try with_reducible rfl
            rotate_left
            · simp only [Act.put, List.setIfInBounds_toArray, List.set_cons_zero, List.set_cons_succ]
              rfl
            refine take_ (i := 9) (N := (some 116)) (v := ?_) (a' := ?_) #[true, true, true, true, true, true, true, true, true, true, false, false, false, false] rfl rfl (by kernel_rfl) (fun _ _ _ h => h) (Or.inl ⟨by rfl, ?_⟩) hHeld ?_ ?_
            rotate_left
            · intro w' ⟨s0, s1⟩
              go_simp
              try with_reducible rfl
            rotate_left
            · simp only [Act.put, List.setIfInBounds_toArray, List.set_cons_zero, List.set_cons_succ]
              rfl
            refine pure_ (i := 10) (N := (some 117)) (v := ?_) (a' := ?_) #[true, true, true, true, true, true, true, true, true, true, true, false, false, false] rfl rfl (by kernel_rfl) (fun _ _ _ h => h) (Or.inl ⟨by rfl, ?_⟩) ?_ ?_
            rotate_left
            · intro w'
              go_simp
              try with_reducible rfl
            rotate_left
            · simp only [Act.put, List.setIfInBounds_toArray, List.set_cons_zero, List.set_cons_succ]
              rfl
            refine pure_ (i := 11) (N := (some 118)) (v := ?_) (a' := ?_) #[true, true, true, true, true, true, true, true, true, true, true, true, false, false] rfl rfl (by kernel_rfl) (fun _ _ _ h => h) (Or.inl ⟨by rfl, ?_⟩) ?_ ?_
            rotate_left
            · intro w'
              go_simp
              try with_reducible rfl
            rotate_left
            · simp only [Act.put, List.setIfInBounds_toArray, List.set_cons_zero, List.set_cons_succ]
              rfl
            refine one_ (i := 12) (N := none) #[true, true, true, true, true, true, true, true, true, true, true, true, true, false] rfl rfl (by kernel_rfl) (by decide) (fun K hK => ?_)
            rw [if_pos (by rfl)]
            go_simp
            refine hK.out _ _ ⟨kv0, kv1⟩ (fun hHeld => ?_)
            refine one_ (i := 13) (N := (some 3)) #[true, true, true, true, true, true, true, true, true, true, true, true, true, true] rfl rfl (by kernel_rfl) (by decide) (fun K hK => ?_)
            rw [if_pos (by rfl)]
            go_simp
            refine hK.out _ _ hHeld (fun hHeld => ?_)
            clear hK K
            refine done_ (by kernel_rfl) ?_
            have HE := HFIN.out (decide ((p3 : Int) + 1 < (p5 : Int))) (by
              have := HA.out _ _ _ hk1 rfl rfl
              exact this)
            go_wp2_with fail
            (try simp only [Exit.inBlock, Exit.then])
            refine bodyPost_ret (v := .tuple #[.agg #[.int .i64 ((p3 : Int) + 1), .int .i64 ((p5 : Int) - ((p3 : Int) + 1))], .bool (decide ((p3 : Int) + 1 < (p5 : Int)))]) ?_ rfl ?_
            · simp [results, Try.results44, go_sem, k0, k1]
              try rfl
            rw [HPP.out]
            exact ⟨HE, HF.out.1.drew, grown_trans HF.out.2 (grown_drew _ _)⟩
            
          | false =>
            cases hk2 : ((strOfNums kk).toList == ([116, 105, 116, 108, 101] : List UInt8)) with
            | true =>
              go_wp2_with fail
              refine start_ (n := 14) (S := fun w' => w'.cell? ⟨vb, 0, none⟩ = some (.int .i64 ((p3 : Int) + 1)) ∧ w'.cell? ⟨vb, 1, none⟩ = some (.int .i64 ((p5 : Int) - ((p3 : Int) + 1)))) (ds := []) #[false, false, false, false, false, false, false, false, false, false, false, false, false, false] (by kernel_rfl) rfl rfl (⟨v0, v1⟩) (fun hHeld => ?_)
              refine take_ (i := 0) (N := (some 107)) (v := ?_) (a' := ?_) #[true, false, false, false, false, false, false, false, false, false, false, false, false, false] rfl rfl (by kernel_rfl) (fun _ _ _ h => h) (Or.inl ⟨by rfl, ?_⟩) hHeld ?_ ?_
              rotate_left
              · intro w' ⟨s0, s1⟩
                go_simp
                try with_reducible rfl
              rotate_left
              · simp only [Act.put, List.setIfInBounds_toArray, List.set_cons_zero, List.set_cons_succ]
                rfl
              refine pure_ (i := 1) (N := (some 108)) (v := ?_) (a' := ?_) #[true, true, false, false, false, false, false, false, false, false, false, false, false, false] rfl rfl (by kernel_rfl) (fun _ _ _ h => h) (Or.inl ⟨by rfl, ?_⟩) ?_ ?_
              rotate_left
              · intro w'
                go_simp
                try with_reducible rfl
              rotate_left
              · simp only [Act.put, List.setIfInBounds_toArray, List.set_cons_zero, List.set_cons_succ]
                rfl
              refine pure_ (i := 2) (N := (some 109)) (v := ?_) (a' := ?_) #[true, true, true, false, false, false, false, false, false, false, false, false, false, false] rfl rfl (by kernel_rfl) (fun _ _ _ h => h) (Or.inl ⟨by rfl, ?_⟩) ?_ ?_
              rotate_left
              · intro w'
                go_simp
                try with_reducible rfl
              rotate_left
              · simp only [Act.put, List.setIfInBounds_toArray, List.set_cons_zero, List.set_cons_succ]
                rfl
              refine pure_ (i := 3) (N := (some 110)) (v := ?_) (a' := ?_) #[true, true, true, true, false, false, false, false, false, false, false, false, false, false] rfl rfl (by kernel_rfl) (fun _ _ _ h => h) (Or.inl ⟨by rfl, ?_⟩) ?_ ?_
              rotate_left
              · intro w'
                go_simp
                try with_reducible rfl
              rotate_left
              · simp only [Act.put, List.setIfInBounds_toArray, List.set_cons_zero, List.set_cons_succ]
                rfl
              refine pure_ (i := 4) (N := (some 111)) (v := ?_) (a' := ?_) #[true, true, true, true, true, false, false, false, false, false, false, false, false, false] rfl rfl (by kernel_rfl) (fun _ _ _ h => h) (Or.inl ⟨by rfl, ?_⟩) ?_ ?_
              rotate_left
              · intro w'
                go_simp
                try with_reducible rfl
              rotate_left
              · simp only [Act.put, List.setIfInBounds_toArray, List.set_cons_zero, List.set_cons_succ]
                rfl
              refine pure_ (i := 5) (N := (some 112)) (v := ?_) (a' := ?_) #[true, true, true, true, true, true, false, false, false, false, false, false, false, false] rfl rfl (by kernel_rfl) (fun _ _ _ h => h) (Or.inl ⟨by rfl, ?_⟩) ?_ ?_
              rotate_left
              · intro w'
                go_simp
                try with_reducible rfl
              rotate_left
              · simp only [Act.put, List.setIfInBounds_toArray, List.set_cons_zero, List.set_cons_succ]
                rfl
              refine pure_ (i := 6) (N := (some 113)) (v := ?_) (a' := ?_) #[true, true, true, true, true, true, true, false, false, false, false, false, false, false] rfl rfl (by kernel_rfl) (fun _ _ _ h => h) (Or.inl ⟨by rfl, ?_⟩) ?_ ?_
              rotate_left
              · intro w'
                go_simp
                try with_reducible rfl
              rotate_left
              · simp only [Act.put, List.setIfInBounds_toArray, List.set_cons_zero, List.set_cons_succ]
                rfl
              refine pure_ (i := 7) (N := (some 114)) (v := ?_) (a' := ?_) #[true, true, true, true, true, true, true, true, false, false, false, false, false, false] rfl rfl (by kernel_rfl) (fun _ _ _ h => h) (Or.inl ⟨by rfl, ?_⟩) ?_ ?_
              rotate_left
              · intro w'
                go_simp
                try with_reducible rfl
              rotate_left
              · simp only [Act.put, List.setIfInBounds_toArray, List.set_cons_zero, List.set_cons_succ]
                rfl
              refine pure_ (i := 8) (N := (some 115)) (v := ?_) (a' := ?_) #[true, true, true, true, true, true, true, true, true, false, false, false, false, false] rfl rfl (by kernel_rfl) (fun _ _ _ h => h) (Or.inl ⟨by rfl, ?_⟩) ?_ ?_
              rotate_left
              · intro w'
                go_simp
                try with_reducible rfl
              rotate_left
              · simp only [Act.put, List.setIfInBounds_toArray, List.set_cons_zero, List.set_cons_succ]
                rfl
              refine take_ (i := 9) (N := (some 116)) (v := ?_) (a' := ?_) #[true, true, true, true, true, true, true, true, true, true, false, false, false, false] rfl rfl (by kernel_rfl) (fun _ _ _ h => h) (Or.inl ⟨by rfl, ?_⟩) hHeld ?_ ?_
              rotate_left
              · intro w' ⟨s0, s1⟩
                go_simp
                try with_reducible rfl
              rotate_left
              · simp only [Act.put, List.setIfInBounds_toArray, List.set_cons_zero, List.set_cons_succ]
                rfl
              refine pure_ (i := 10) (N := (some 117)) (v := ?_) (a' := ?_) #[true, true, true, true, true, true, true, true, true, true, true, false, false, false] rfl rfl (by kernel_rfl) (fun _ _ _ h => h) (Or.inl ⟨by rfl, ?_⟩) ?_ ?_
              rotate_left
              · intro w'
                go_simp
                try with_reducible rfl
              rotate_left
              · simp only [Act.put, List.setIfInBounds_toArray, List.set_cons_zero, List.set_cons_succ]
                rfl
              refine pure_ (i := 11) (N := (some 118)) (v := ?_) (a' := ?_) #[true, true, true, true, true, true, true, true, true, true, true, true, false, false] rfl rfl (by kernel_rfl) (fun _ _ _ h => h) (Or.inl ⟨by rfl, ?_⟩) ?_ ?_
              rotate_left
              · intro w'
                go_simp
                try with_reducible rfl
              rotate_left
              · simp only [Act.put, List.setIfInBounds_toArray, List.set_cons_zero, List.set_cons_succ]
                rfl
              refine one_ (i := 12) (N := none) #[true, true, true, true, true, true, true, true, true, true, true, true, true, false] rfl rfl (by kernel_rfl) (by decide) (fun K hK => ?_)
              rw [if_pos (by rfl)]
              go_simp
              refine hK.out _ _ ⟨kv0, kv1⟩ (fun hHeld => ?_)
              refine one_ (i := 13) (N := (some 3)) #[true, true, true, true, true, true, true, true, true, true, true, true, true, true] rfl rfl (by kernel_rfl) (by decide) (fun K hK => ?_)
              rw [if_pos (by rfl)]
              go_simp
              refine hK.out _ _ hHeld (fun hHeld => ?_)
              clear hK K
              refine done_ (by kernel_rfl) ?_
              have HE := HFIN.out (decide ((p3 : Int) + 1 < (p5 : Int))) (by
                have := HA.out _ _ _ hk1 hk2 rfl
                exact this)
              go_wp2_with fail
              (try simp only [Exit.inBlock, Exit.then])
              refine bodyPost_ret (v := .tuple #[.agg #[.int .i64 ((p3 : Int) + 1), .int .i64 ((p5 : Int) - ((p3 : Int) + 1))], .bool (decide ((p3 : Int) + 1 < (p5 : Int)))]) ?_ rfl ?_
              · simp [results, Try.results44, go_sem, k0, k1]
                try rfl
              rw [HPP.out]
              exact ⟨HE, HF.out.1.drew, grown_trans HF.out.2 (grown_drew _ _)⟩
              
            | false =>
              go_wp2_with fail
              refine start_ (n := 14) (S := fun w' => w'.cell? ⟨vb, 0, none⟩ = some (.int .i64 ((p3 : Int) + 1)) ∧ w'.cell? ⟨vb, 1, none⟩ = some (.int .i64 ((p5 : Int) - ((p3 : Int) + 1)))) (ds := []) #[false, false, false, false, false, false, false, false, false, false, false, false, false, false] (by kernel_rfl) rfl rfl (⟨v0, v1⟩) (fun hHeld => ?_)
              refine take_ (i := 0) (N := (some 107)) (v := ?_) (a' := ?_) #[true, false, false, false, false, false, false, false, false, false, false, false, false, false] rfl rfl (by kernel_rfl) (fun _ _ _ h => h) (Or.inl ⟨by rfl, ?_⟩) hHeld ?_ ?_
              rotate_left
              · intro w' ⟨s0, s1⟩
                go_simp
                try with_reducible rfl
              rotate_left
              · simp only [Act.put, List.setIfInBounds_toArray, List.set_cons_zero, List.set_cons_succ]
                rfl
              refine pure_ (i := 1) (N := (some 108)) (v := ?_) (a' := ?_) #[true, true, false, false, false, false, false, false, false, false, false, false, false, false] rfl rfl (by kernel_rfl) (fun _ _ _ h => h) (Or.inl ⟨by rfl, ?_⟩) ?_ ?_
              rotate_left
              · intro w'
                go_simp
                try with_reducible rfl
              rotate_left
              · simp only [Act.put, List.setIfInBounds_toArray, List.set_cons_zero, List.set_cons_succ]
                rfl
              refine pure_ (i := 2) (N := (some 109)) (v := ?_) (a' := ?_) #[true, true, true, false, false, false, false, false, false, false, false, false, false, false] rfl rfl (by kernel_rfl) (fun _ _ _ h => h) (Or.inl ⟨by rfl, ?_⟩) ?_ ?_
              rotate_left
              · intro w'
                go_simp
                try with_reducible rfl
              rotate_left
              · simp only [Act.put, List.setIfInBounds_toArray, List.set_cons_zero, List.set_cons_succ]
                rfl
              refine pure_ (i := 3) (N := (some 110)) (v := ?_) (a' := ?_) #[true, true, true, true, false, false, false, false, false, false, false, false, false, false] rfl rfl (by kernel_rfl) (fun _ _ _ h => h) (Or.inl ⟨by rfl, ?_⟩) ?_ ?_
              rotate_left
              · intro w'
                go_simp
                try with_reducible rfl
              rotate_left
              · simp only [Act.put, List.setIfInBounds_toArray, List.set_cons_zero, List.set_cons_succ]
                rfl
              refine pure_ (i := 4) (N := (some 111)) (v := ?_) (a' := ?_) #[true, true, true, true, true, false, false, false, false, false, false, false, false, false] rfl rfl (by kernel_rfl) (fun _ _ _ h => h) (Or.inl ⟨by rfl, ?_⟩) ?_ ?_
              rotate_left
              · intro w'
                go_simp
                try with_reducible rfl
              rotate_left
              · simp only [Act.put, List.setIfInBounds_toArray, List.set_cons_zero, List.set_cons_succ]
                rfl
              refine pure_ (i := 5) (N := (some 112)) (v := ?_) (a' := ?_) #[true, true, true, true, true, true, false, false, false, false, false, false, false, false] rfl rfl (by kernel_rfl) (fun _ _ _ h => h) (Or.inl ⟨by rfl, ?_⟩) ?_ ?_
              rotate_left
              · intro w'
                go_simp
                try with_reducible rfl
              rotate_left
              · simp only [Act.put, List.setIfInBounds_toArray, List.set_cons_zero, List.set_cons_succ]
                rfl
              refine pure_ (i := 6) (N := (some 113)) (v := ?_) (a' := ?_) #[true, true, true, true, true, true, true, false, false, false, false, false, false, false] rfl rfl (by kernel_rfl) (fun _ _ _ h => h) (Or.inl ⟨by rfl, ?_⟩) ?_ ?_
              rotate_left
              · intro w'
                go_simp
                try with_reducible rfl
              rotate_left
              · simp only [Act.put, List.setIfInBounds_toArray, List.set_cons_zero, List.set_cons_succ]
                rfl
              refine pure_ (i := 7) (N := (some 114)) (v := ?_) (a' := ?_) #[true, true, true, true, true, true, true, true, false, false, false, false, false, false] rfl rfl (by kernel_rfl) (fun _ _ _ h => h) (Or.inl ⟨by rfl, ?_⟩) ?_ ?_
              rotate_left
              · intro w'
                go_simp
                try with_reducible rfl
              rotate_left
              · simp only [Act.put, List.setIfInBounds_toArray, List.set_cons_zero, List.set_cons_succ]
                rfl
              refine pure_ (i := 8) (N := (some 115)) (v := undef) (a' := ?_) #[true, true, true, true, true, true, true, true, true, false, false, false, false, false] rfl rfl (by kernel_rfl) (fun _ _ _ h => h) (Or.inr ⟨by rfl, rfl⟩) ?_ ?_
              rotate_left
              · simp only [Act.put, List.setIfInBounds_toArray, List.set_cons_zero, List.set_cons_succ]
                rfl
              refine pure_ (i := 9) (N := (some 116)) (v := undef) (a' := ?_) #[true, true, true, true, true, true, true, true, true, true, false, false, false, false] rfl rfl (by kernel_rfl) (fun _ _ _ h => h) (Or.inr ⟨by rfl, rfl⟩) ?_ ?_
              rotate_left
              · simp only [Act.put, List.setIfInBounds_toArray, List.set_cons_zero, List.set_cons_succ]
                rfl
              refine pure_ (i := 10) (N := (some 117)) (v := undef) (a' := ?_) #[true, true, true, true, true, true, true, true, true, true, true, false, false, false] rfl rfl (by kernel_rfl) (fun _ _ _ h => h) (Or.inr ⟨by rfl, rfl⟩) ?_ ?_
              rotate_left
              · simp only [Act.put, List.setIfInBounds_toArray, List.set_cons_zero, List.set_cons_succ]
                rfl
              refine pure_ (i := 11) (N := (some 118)) (v := ?_) (a' := ?_) #[true, true, true, true, true, true, true, true, true, true, true, true, false, false] rfl rfl (by kernel_rfl) (fun _ _ _ h => h) (Or.inl ⟨by rfl, ?_⟩) ?_ ?_
              rotate_left
              · intro w'
                go_simp
                try with_reducible rfl
              rotate_left
              · simp only [Act.put, List.setIfInBounds_toArray, List.set_cons_zero, List.set_cons_succ]
                rfl
              refine one_ (i := 12) (N := none) #[true, true, true, true, true, true, true, true, true, true, true, true, true, false] rfl rfl (by kernel_rfl) (by decide) (fun K hK => ?_)
              rw [if_pos (by rfl)]
              go_simp
              refine hK.out _ _ ⟨kv0, kv1⟩ (fun hHeld => ?_)
              refine one_ (i := 13) (N := (some 3)) #[true, true, true, true, true, true, true, true, true, true, true, true, true, true] rfl rfl (by kernel_rfl) (by decide) (fun K hK => ?_)
              rw [if_pos (by rfl)]
              go_simp
              refine hK.out _ _ hHeld (fun hHeld => ?_)
              clear hK K
              refine done_ (by kernel_rfl) ?_
              have HE := HFIN.out (false) (by
                have := HA.out _ _ _ hk1 hk2 rfl
                exact this)
              go_wp2_with fail
              (try simp only [Exit.inBlock, Exit.then])
              refine bodyPost_ret (v := .tuple #[.agg #[.int .i64 ((p3 : Int) + 1), .int .i64 ((p5 : Int) - ((p3 : Int) + 1))], .bool (false)]) ?_ rfl ?_
              · simp [results, Try.results44, go_sem, k0, k1]
                try rfl
              rw [HPP.out]
              exact ⟨HE, HF.out.1.drew, grown_trans HF.out.2 (grown_drew _ _)⟩
end Go.Proofs.Ytcbibbdkjhkmoaa.H
