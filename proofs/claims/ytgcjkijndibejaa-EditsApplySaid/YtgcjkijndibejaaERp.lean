/- The reference's Place: where a place stands behind edits in order. Conditions: as each lemma says. -/
import Derived.Test.YtgcjkijndibejaaPPlacex1
import Derived.Test.YtgcjkijndibejaaECv
set_option linter.unusedVariables false
set_option linter.unusedSimpArgs false
namespace Go.Proofs.Ytgcjkijndibejaa.Srt
open Go.Lib hiding bytesOf bytesOf_length
open Go.Shelf Go.RowKit Go.Proofs.YtgcjkijndibejaaW.PrintWords Go.Proofs.YtgcjkijndibejaaW.PrintLast

theorem add_offP (g o n : Nat) : (⟨g, o, none⟩ : Addr).add n = ⟨g, o + n, none⟩ := by
  unfold Addr.add
  by_cases h : n = 0 <;> simp [h]
def frP (e : Ed) : PPlace.S46 := ⟨⟨e.1, e.2.1⟩, e.2.2⟩
theorem EdR.toP {W : World} {v : Value} {es : List Ed} (h : EdR W v es) (hl : es.length ≤ 1000000) : ∃ A c, v = .slice A es.length c ∧ es.length ≤ c ∧ Kd.C PPlace.k46 W A (es.map frP).length (es.map frP) := by
  obtain ⟨A, c, rfl, hc, hr⟩ := h.form
  refine ⟨A, c, rfl, hc, rfl, by rw [List.length_map]; omega, fun hp => ?_⟩
  rw [List.length_map] at hp
  obtain ⟨g, o, rfl, hg, hcell⟩ := hr hp
  refine ⟨_, rfl, fun j p hj => ?_⟩
  rw [List.getElem?_map] at hj
  have hjl : j < es.length := by
    rcases Nat.lt_or_ge j es.length with h | h
    · exact h
    · rw [List.getElem?_eq_none h] at hj
      cases hj
  rw [List.getElem?_eq_getElem hjl] at hj
  have hp2 : p = frP (es.getD j dE) := by
    rw [List.getD_eq_getElem?_getD, List.getElem?_eq_getElem hjl]
    exact (Option.some.inj hj).symm
  subst hp2
  have hz : PPlace.k46.sz = 3 := rfl
  refine ⟨encE (es.getD j dE), rfl, PPlace.k46_mk W (frP (es.getD j dE)), fun i u hu => ?_⟩
  have hi : i < 3 := by
    have := (List.getElem?_eq_some_iff.1 hu).1
    simpa [encE] using this
  have := hcell j i hjl hi
  rw [hu] at this
  rw [hz, ← this, add_offP]
/-- What the reference reckons. -/
def rp (t : Int) : Int → List Ed → Int
  | zt, [] => zt
  | zt, x :: r => if x.1 + x.2.1 ≤ t then rp t (zt + (x.2.2.size : Int) - x.2.1) r else if x.1 < t then rp t (zt - (t - x.1)) r else rp t zt r
theorem rp_id (t : Int) : ∀ (S : List Ed) (zt : Int), (∀ y ∈ S, t ≤ y.1 ∧ t < y.1 + y.2.1 ∨ t < y.1) → (∀ y ∈ S, 0 ≤ y.2.1) → rp t zt S = zt := by
  intro S
  induction S with
  | nil => exact fun _ _ _ => rfl
  | cons x r ih =>
    intro zt h h0
    have hx := h x (List.mem_cons_self)
    have hx0 := h0 x (List.mem_cons_self)
    show (if x.1 + x.2.1 ≤ t then _ else if x.1 < t then _ else rp t zt r) = zt
    rw [if_neg (by omega), if_neg (by omega)]
    exact ih zt (fun y hy => h y (List.mem_cons_of_mem _ hy)) (fun y hy => h0 y (List.mem_cons_of_mem _ hy))
theorem rp_plc {n : Nat} (t : Int) : ∀ (S : List Ed) (a m : Int), Ap n 0 a S → rp t (t + m) S = plc t S m := by
  intro S
  induction S with
  | nil => exact fun _ _ _ => rfl
  | cons x r ih =>
    intro a m h
    have hx := h.head
    have hseq := (List.pairwise_cons.1 h.seq).1
    have hrg : ∀ y ∈ r, 0 ≤ y.2.1 := fun y hy => (h.rng y (List.mem_cons_of_mem _ hy)).2.1
    show (if x.1 + x.2.1 ≤ t then rp t (t + m + (x.2.2.size : Int) - x.2.1) r else if x.1 < t then rp t (t + m - (t - x.1)) r else rp t (t + m) r) = (if t < x.1 ∨ (t = x.1 ∧ 0 < x.2.1) then t + m else if t < x.1 + x.2.1 then x.1 + m else plc t r (m + ((x.2.2.size : Int) - x.2.1)))
    by_cases h1 : x.1 + x.2.1 ≤ t
    · rw [if_pos h1, if_neg (by omega), if_neg (by omega), ← ih _ _ (h.tail (by omega))]
      congr 1
      omega
    · rw [if_neg h1]
      have hid : ∀ zt, rp t zt r = zt := fun zt => rp_id t r zt (fun y hy => by have := hseq y hy; omega) hrg
      by_cases h2 : x.1 < t
      · rw [if_pos h2, if_neg (by omega), if_pos (by omega), hid]
        omega
      · rw [if_neg h2, hid, if_pos (by omega)]
theorem place_loop (S : List Ed) (t : Int) (n : Nat) (hn : n ≤ 1000) (h0 : 0 ≤ t) (h1 : t ≤ n) (hA : Ap n 0 0 S) (hl : S.length ≤ 500) (hs : ∀ e ∈ S, e.2.2.size ≤ 1000) : ∀ (m i : Nat) (zt : Int), m + i = S.length → -(10000 * ((i : Int) + 1)) ≤ zt → zt ≤ 10000 * ((i : Int) + 1) →
    PPlace.redpenref18_Place.l0 (m + 1) (S.map frP) t zt (i : Int) = some (rp t zt (S.drop i)) := by
  intro m
  induction m with
  | zero =>
    intro i zt hi _ _
    obtain rfl : i = S.length := by omega
    unfold PPlace.redpenref18_Place.l0
    rw [if_neg (by rw [List.length_map]; omega), List.drop_length]
    rfl
  | succ m ih =>
    intro i zt hi b1 b2
    have hil : i < S.length := by omega
    have hrg := hA.rng _ (getD_memE S i hil)
    have hsz := hs _ (getD_memE S i hil)
    have hrd : PPlace.rd_T46 (S.map frP) (i : Int) = frP (S.getD i dE) := by
      show (S.map frP).getD ((i : Int)).toNat PPlace.z46 = _
      rw [Int.toNat_natCast, List.getD_eq_getElem?_getD, List.getElem?_map, List.getD_eq_getElem?_getD, List.getElem?_eq_getElem hil]
      rfl
    rw [drop_getD S i hil]
    unfold PPlace.redpenref18_Place.l0
    rw [if_pos (by rw [List.length_map]; omega), if_pos (by omega), hrd]
    generalize S.getD i dE = x at *
    obtain ⟨p, q, s⟩ := x
    obtain ⟨r1, r2, r3⟩ := hrg
    have r1 : 0 ≤ p := r1
    have r2 : 0 ≤ q := r2
    have r3 : p + q ≤ n := r3
    have hsz : s.size ≤ 1000 := hsz
    show (if t ≥ wrap64 (p + q) then PPlace.redpenref18_Place.l0 (m + 1) (S.map frP) t (wrap64 (wrap64 (zt + (s.size : Int)) - q)) (wrap64 ((i : Int) + 1)) else if t > p then PPlace.redpenref18_Place.l0 (m + 1) (S.map frP) t (wrap64 (zt - wrap64 (t - p))) (wrap64 ((i : Int) + 1)) else PPlace.redpenref18_Place.l0 (m + 1) (S.map frP) t zt (wrap64 ((i : Int) + 1))) = some (if p + q ≤ t then rp t (zt + (s.size : Int) - q) (S.drop (i + 1)) else if p < t then rp t (zt - (t - p)) (S.drop (i + 1)) else rp t zt (S.drop (i + 1)))
    have w1 : wrap64 (p + q) = p + q := by unfold wrap64; omega
    have w2 : wrap64 (zt + (s.size : Int)) = zt + (s.size : Int) := by unfold wrap64; omega
    have w3 : wrap64 (zt + (s.size : Int) - q) = zt + (s.size : Int) - q := by unfold wrap64; omega
    have w4 : wrap64 (t - p) = t - p := by unfold wrap64; omega
    have w5 : wrap64 (zt - (t - p)) = zt - (t - p) := by unfold wrap64; omega
    have w6 : wrap64 ((i : Int) + 1) = ((i + 1 : Nat) : Int) := by unfold wrap64; omega
    rw [w1, w2, w3, w4, w5, w6]
    clear w1 w2 w3 w4 w5 w6
    by_cases c1 : p + q ≤ t
    · rw [if_pos c1, if_pos c1]
      exact ih (i + 1) _ (by omega) (by omega) (by omega)
    · rw [if_neg c1, if_neg c1]
      by_cases c2 : p < t
      · rw [if_pos c2, if_pos c2]
        exact ih (i + 1) _ (by omega) (by omega) (by omega)
      · rw [if_neg c2, if_neg c2]
        exact ih (i + 1) _ (by omega) (by omega) (by omega)
theorem refPlace_any (v : Value) (S : List Ed) (t : Int) (n : Nat) (w : World) (hE : EdR w v S) (hn : n ≤ 1000) (h0 : 0 ≤ t) (h1 : t ≤ n) (hA : Ap n 0 0 S) (hl : S.length ≤ 500) (hs : ∀ e ∈ S, e.2.2.size ≤ 1000) :
    Calls Try.prog 18 #[v, .int .i64 t] w fun e w' => e = .returned (.int .i64 (plc t S 0)) ∧ Below w.heap.size w w' := by
  obtain ⟨A, c, rfl, hc, hC⟩ := hE.toP (by omega)
  have hf : PPlace.redpenref18_Place.f (S.length + 1) (S.map frP) t = some (plc t S 0) := by
    unfold PPlace.redpenref18_Place.f
    have h2 := place_loop S t n hn h0 h1 hA hl hs S.length 0 t (by omega) (by omega) (by omega)
    rw [List.drop_zero] at h2
    have h3 := rp_plc t S 0 0 hA
    rw [Int.add_zero] at h3
    rw [h3] at h2
    exact h2
  have hm : (S.map frP).length = S.length := List.length_map _
  have := PPlace.redpenref18_Place.calls _ A c (S.map frP) t _ w hC (by rw [hm]; exact hc) hf
  rw [hm] at this
  exact this
end Go.Proofs.Ytgcjkijndibejaa.Srt
