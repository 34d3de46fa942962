/- The laws' edits that are apart: what the program puts together, as edits in memory. Conditions: as each lemma says. -/
import Derived.Test.YtgcjkijndibejaaAPT1
import Derived.Test.YtgcjkijndibejaaECv
set_option linter.unusedVariables false
set_option linter.unusedSimpArgs false
namespace Go.Proofs.Ytgcjkijndibejaa.Srt
open Go.Lib hiding bytesOf bytesOf_length
open Go.Shelf Go.RowKit Go.Proofs.YtgcjkijndibejaaW.PrintWords Go.Proofs.YtgcjkijndibejaaW.PrintLast

open Go.Proofs.YtgcjkijndibejaaW.Opn in
theorem opStrs : Opens Try.prog 41 (Kd.slice 9 Kd.string) (fun _ => True) :=
  Opens.imp (Opens.slice (B := 16) (Opens.string Try.underlying9) Try.underlying41 (by kernel_rfl) (by kernel_rfl)) (fun _ _ => trivial)
theorem reps_ed {α : Type} (f : α → Ed) {R : α → List Value → Prop} {xs : List α} {inner : List Value} (h : Reps R 3 xs inner) (hR : ∀ p c, R p c → c = encE (f p)) : inner = edC (xs.map f) := by
  have hl : (edC (xs.map f)).length = inner.length := by rw [edC_length, List.length_map, h.1]
  refine List.ext_getElem? (fun t => ?_)
  rcases Nat.lt_or_ge t inner.length with ht | ht
  · have h3 : t < (xs.map f).length * 3 := by rw [List.length_map, ← h.1]; exact ht
    rw [edC_get _ _ h3]
    have hx : t / 3 < xs.length := by rw [List.length_map] at h3; omega
    have hc := hR _ _ (h.2 (t / 3) _ (List.getElem?_eq_getElem hx))
    have e1 : inner[t]? = ((inner.drop (t / 3 * 3)).take 3)[t % 3]? := by
      rw [List.getElem?_take_of_lt (by omega), List.getElem?_drop]
      congr 1
      omega
    rw [e1, hc, List.getD_eq_getElem?_getD, List.getElem?_map, List.getElem?_eq_getElem hx]
    have : t % 3 = 0 ∨ t % 3 = 1 ∨ t % 3 = 2 := by omega
    rcases this with e | e | e <;> rw [e] <;> rfl
  · rw [List.getElem?_eq_none ht, List.getElem?_eq_none (by omega)]
def toE (s : APT.S46) : Ed := (s.f0.f0, s.f0.f1, s.f1)
theorem R_Oe {w0 W : World} {ok : Nat → Prop} {v : Value} {r : List APT.S46} (h : Kd.R APT.k46 46 W w0.heap.size ok v r) (hb : Below w0.heap.size w0 W) : Oe w0 W v (r.map toE) := by
  obtain ⟨_, inner, ho, hr⟩ := h
  have e := reps_ed toE hr (fun p c hp => APT.k46_openM hp)
  refine ⟨?_, hb⟩
  rw [← e, List.length_map]
  exact ho
/-- What 'apart' keeps true: of the edits so far, up to a place. -/
structure Apt (n : Nat) (r : List APT.S46) (a : Int) : Prop where
  ap : Ap n 1 1 (r.map toE)
  up : ∀ e ∈ r.map toE, e.1 + e.2.1 ≤ a
  sz : ∀ e ∈ r.map toE, e.2.2.size ≤ 9
  len : (r.length : Int) ≤ a
  lo : 0 ≤ a
  hi : a ≤ n
theorem Apt.snoc {n : Nat} {r : List APT.S46} {a p q : Int} {t : ByteArray} (h : Apt n r a) (hp : a + 1 ≤ p) (hq : 0 ≤ q) (hn : p + q ≤ n) (ht : t.size ≤ 9) : Apt n (r ++ [⟨⟨p, q⟩, t⟩]) (p + q) := by
  have hlo := h.lo
  refine ⟨⟨fun e he => ?_, ?_⟩, fun e he => ?_, fun e he => ?_, ?_, by omega, hn⟩
  · rw [List.map_append] at he
    rcases List.mem_append.1 he with he | he
    · exact h.ap.rng e he
    · rcases List.mem_singleton.1 he with rfl
      exact ⟨show 1 ≤ p by omega, hq, hn⟩
  · rw [List.map_append, List.pairwise_append]
    refine ⟨h.ap.seq, List.pairwise_singleton _ _, fun x hx y hy => ?_⟩
    rcases List.mem_singleton.1 hy with rfl
    have := h.up x hx
    show _ ≤ p
    omega
  · rw [List.map_append] at he
    rcases List.mem_append.1 he with he | he
    · have := h.up e he; omega
    · rcases List.mem_singleton.1 he with rfl
      exact Int.le_refl _
  · rw [List.map_append] at he
    rcases List.mem_append.1 he with he | he
    · exact h.sz e he
    · rcases List.mem_singleton.1 he with rfl
      exact ht
  · have := h.len
    rw [List.length_append, List.length_singleton]
    omega
theorem wrap64_small {x : Int} (h1 : -9223372036854775808 ≤ x) (h2 : x ≤ 9223372036854775807) : wrap64 x = x := by unfold wrap64; omega
theorem apart_loop (b gs : List Int) (ts : List ByteArray) (hb : b.length ≤ 300) (hg : Bys gs) (hgl : gs.length ≤ 140737488351232) : ∀ (m i : Nat) (acc : List APT.S46) (a : Int), m + i = gs.length → Apt b.length acc a →
    ∃ r a2, APT.redpenlaw18_apart.l0 (m + 1) b ts acc a gs (gs.length : Int) (i : Int) = some r ∧ Apt b.length r a2 := by
  intro m
  induction m with
  | zero =>
    intro i acc a hi h
    refine ⟨acc, a, ?_, h⟩
    unfold APT.redpenlaw18_apart.l0
    rw [if_neg (by omega)]
  | succ m ih =>
    intro i acc a hi h
    have h1 := h.lo
    have h2 := h.hi
    have h3 := h.len
    have hgi : 0 ≤ rd gs (i : Int) ∧ rd gs (i : Int) < 256 := by
      have : rd gs (i : Int) = gs[i]'(by omega) := by
        show gs.getD ((i : Int)).toNat 0 = _
        rw [Int.toNat_natCast, List.getD_eq_getElem?_getD, List.getElem?_eq_getElem (by omega)]
        rfl
      rw [this]
      exact hg _ (List.getElem_mem _)
    unfold APT.redpenlaw18_apart.l0
    rw [if_pos (by omega), if_pos (by omega), if_pos (by omega)]
    generalize rd gs (i : Int) = g at *
    have u1 : 0 ≤ Int.tmod g 5 ∧ Int.tmod g 5 < 5 := ⟨Int.tmod_nonneg _ hgi.1, Int.tmod_lt_of_pos _ (by omega)⟩
    generalize Int.tmod g 5 = u at *
    have v1 : 0 ≤ Int.tdiv g 5 % 4 ∧ Int.tdiv g 5 % 4 < 4 := by omega
    generalize Int.tdiv g 5 % 4 = v at *
    have w1 : wrap64 u = u := wrap64_small (by omega) (by omega)
    have w2 : wrap64 (1 + u) = 1 + u := wrap64_small (by omega) (by omega)
    have w3 : wrap64 (a + (1 + u)) = a + (1 + u) := wrap64_small (by omega) (by omega)
    have w4 : wrap64 (a + (1 + u) + v) = a + (1 + u) + v := wrap64_small (by omega) (by omega)
    have w5 : wrap64 ((i : Int) + 1) = ((i + 1 : Nat) : Int) := by rw [wrap64_small (by omega) (by omega)]; omega
    rw [w1, w2, w3, w4, w5]
    clear w1 w2 w3 w4 w5
    by_cases c1 : (i : Int) ≥ (ts.length : Int)
    · rw [if_pos c1]; exact ⟨acc, a, rfl, h⟩
    rw [if_neg c1]
    by_cases c2 : a + (1 + u) + v > (b.length : Int)
    · rw [if_pos c2]; exact ⟨acc, a, rfl, h⟩
    rw [if_neg c2, if_pos (show (i : Int) < (ts.length : Int) from by omega)]
    generalize rdOf ByteArray.empty ts (i : Int) = t
    have hm : 0 ≤ mn (t.size : Int) 9 ∧ mn (t.size : Int) 9 ≤ (t.size : Int) ∧ mn (t.size : Int) 9 ≤ 9 := by unfold mn; split <;> omega
    rw [if_pos hm.1, if_pos hm.2.1, if_pos (show acc.length < 4398046511104 from by omega)]
    have hts : (t.extract 0 ((mn (t.size : Int) 9 : Int)).toNat).size ≤ 9 := by rw [ByteArray.size_extract]; omega
    exact ih (i + 1) _ _ (by omega) (h.snoc (p := a + (1 + u)) (q := v) (by omega) (by omega) (by omega) hts)
/-- The edits of 'apart'. -/
theorem apart_any (A : Option Addr) (c : Nat) (b : List Int) (A1 : Option Addr) (c1 : Nat) (gs : List Int) (A2 : Option Addr) (c2 : Nat) (ts : List ByteArray) (w : World) (hC : Kd.C (Kd.int .u8) w A b.length b) (hc : b.length ≤ c) (hb : b.length ≤ 300)
    (hC1 : Kd.C (Kd.int .u8) w A1 gs.length gs) (hc1 : gs.length ≤ c1) (hg : Bys gs) (hgl : gs.length ≤ 140737488351232) (hC2 : Kd.C Kd.string w A2 ts.length ts) (hc2 : ts.length ≤ c2) :
    Calls Try.prog 19 #[.slice A b.length c, .slice A1 gs.length c1, .slice A2 ts.length c2] w fun e w' => ∃ v es, e = .returned v ∧ Oe w w' v es ∧ Ap b.length 1 1 es ∧ (∀ e ∈ es, e.2.2.size ≤ 9) ∧ es.length ≤ b.length := by
  obtain ⟨r, a2, hr, h⟩ := apart_loop b gs ts hb hg hgl gs.length 0 [] 0 (by omega) ⟨⟨fun e he => (List.not_mem_nil he).elim, List.Pairwise.nil⟩, fun e he => (List.not_mem_nil he).elim, fun e he => (List.not_mem_nil he).elim, by simp, by omega, by omega⟩
  refine (APT.redpenlaw18_apart.calls (gs.length + 1) A c b A1 c1 gs A2 c2 ts r w hC hc hC1 hc1 hC2 hc2 hr).mono ?_
  rintro e w' ⟨v, rfl, hR, hbl⟩
  refine ⟨v, r.map toE, rfl, R_Oe hR hbl, h.ap, h.sz, ?_⟩
  have h1 := h.len
  have h2 := h.hi
  rw [List.length_map]
  omega
end Go.Proofs.Ytgcjkijndibejaa.Srt
