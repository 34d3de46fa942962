/- Openers: what a row's reading ('DataW.trod') of an argument gives in the print's kinds ('Kd'): numbers, bools, strings, slices, structs, arrays. Conditions: none but those that stand in each lemma. -/
import Derived.Test.YtgcjkijndibejaaWWords
import Derived.Deep.Slices
import Derived.OpenShut
import Derived.SizedLaws
import Derived.ChangeOld
namespace Go.Proofs.YtgcjkijndibejaaW.Opn
open Go.RowKit Go.ChangeShapes Go.WideShapes Go.Deep Go.Proofs.YtgcjkijndibejaaW.PrintWords

def Small {H : Type} (P : Program) (t : TypeId) (d : DataW H) : Prop := ∀ n ∈ d.weights P t, n ≤ reachBytes

theorem small_each {H : Type} {P : Program} {ts : List TypeId} {ds : List (DataW H)} (h : (DataW.weightsEach P ts ds).all (· ≤ reachBytes) = true) {j : Nat} {t : TypeId} {d : DataW H} (ht : ts[j]? = some t) (hd : ds[j]? = some d) : Small P t d := by
  intro n hn
  have := List.all_eq_true.1 h _ (DataW.weights_mem_each ht hd n hn)
  simpa using this

theorem mem_weightsAll {H : Type} {P : Program} {e : TypeId} : ∀ {l : List (DataW H)} {d : DataW H}, d ∈ l → ∀ n ∈ d.weights P e, n ∈ DataW.weightsAll P e l
  | [], _, h, _, _ => by simp at h
  | a :: r, d, h, n, hn => by
    simp only [DataW.weightsAll, List.mem_append]
    rcases List.mem_cons.1 h with rfl | h
    · exact .inl hn
    · exact .inr (mem_weightsAll h n hn)

/-- A reading of type t, of small weight, is one of the kind d, and what G says holds. -/
def Opens {α : Type} (P : Program) (t : TypeId) (d : Kd α) (G : α → Prop) : Prop :=
  ∀ (H : Type) (enc : TypeId × Value → H) (w : World) (base : Nat) (spare : Nat → Bool) (held : Bool) (fuel : Nat) (cs : List Value) (x : DataW H × List MemPlace),
    DataW.trod enc P w base spare held fuel t cs = some x → Small P t x.1 → ∃ y : α, d.K w y cs ∧ G y

theorem Opens.int {P : Program} {t : TypeId} {k : IntKind} (ht : P.underlying t = some (.int k)) : Opens P t (Kd.int k) (fun n => (Lit.int k n).wf = true) := by
  intro H enc w base spare held fuel cs x h _
  obtain ⟨n, rfl, _, hw⟩ := DataW.trod_int ht h
  exact ⟨n, rfl, hw⟩

theorem Opens.bool {P : Program} {t : TypeId} (ht : P.underlying t = some .bool) : Opens P t Kd.bool (fun _ => True) := by
  intro H enc w base spare held fuel cs x h _
  obtain ⟨n, rfl, _⟩ := DataW.trod_bool ht h
  exact ⟨n, rfl, trivial⟩

theorem Opens.string {P : Program} {t : TypeId} (ht : P.underlying t = some .string) : Opens P t Kd.string (fun s => s.size ≤ 140737488351232) := by
  intro H enc w base spare held fuel cs x h hs
  obtain ⟨s, rfl, hx, _⟩ := DataW.trod_string ht h
  refine ⟨s, rfl, ?_⟩
  rw [hx] at hs
  have := hs s.data.toList.length (by simp [DataW.weights])
  simpa [reachBytes] using this

theorem Opens.imp {α : Type} {P : Program} {t : TypeId} {d : Kd α} {G G' : α → Prop} (h : Opens P t d G) (hi : ∀ x, G x → G' x) : Opens P t d G' := by
  intro H enc w base spare held fuel cs x h1 h2
  obtain ⟨y, hy, hg⟩ := h H enc w base spare held fuel cs x h1 h2
  exact ⟨y, hy, hi y hg⟩

theorem Opens.iso {α β : Type} {P : Program} {t : TypeId} {d : Kd α} {G : α → Prop} {f : β → α} (g : α → β) (hfg : ∀ x, f (g x) = x) (h : Opens P t d G) : Opens P t (Kd.iso d f) (fun y => G (f y)) := by
  intro H enc w base spare held fuel cs x h1 h2
  obtain ⟨y, hy, hg⟩ := h H enc w base spare held fuel cs x h1 h2
  exact ⟨g y, by show d.K w (f (g y)) cs; rw [hfg]; exact hy, by show G (f (g y)); rw [hfg]; exact hg⟩

theorem list_of {α : Type} {Q : Nat → α → Prop} : ∀ {n : Nat}, (∀ i, i < n → ∃ y, Q i y) → ∃ xs : List α, xs.length = n ∧ ∀ i y, xs[i]? = some y → Q i y
  | 0, _ => ⟨[], rfl, fun i y h => by simp at h⟩
  | n + 1, h => by
    obtain ⟨xs, hl, hx⟩ := list_of (n := n) (fun i hi => h i (by omega))
    obtain ⟨y, hy⟩ := h n (by omega)
    refine ⟨xs ++ [y], by simp [hl], fun i z hz => ?_⟩
    rcases Nat.lt_or_ge i xs.length with hi | hi
    · rw [List.getElem?_append_left hi] at hz
      exact hx i z hz
    · have hi' : i = n := by
        have := (List.getElem?_eq_some_iff.1 hz).1
        simp at this
        omega
      subst hi'
      have : y = z := by simpa [hl] using hz
      subst this
      exact hy

/-- A slice: its elements' readings, its length's bounds. -/
theorem Opens.slice {α : Type} {P : Program} {t e : TypeId} {d : Kd α} {G : α → Prop} (he : Opens P e d G) (ht : P.underlying t = some (.slice e)) (hc : P.cellsOf e = d.sz) {B : Nat} (hB : P.bytesOf e = B) :
    Opens P t (Kd.slice e d) (fun xs => xs.length ≤ maxLen ∧ xs.length * B ≤ 140737488351232 ∧ ∀ x ∈ xs, G x) := by
  intro H enc w base spare held fuel cs x h hs
  rcases open_slice ht h with ⟨rfl, rfl⟩ | ⟨a, len, cap, m, n, D, Pl, rfl, hb, hl, hm, hmm, rfl, hi⟩
  · exact ⟨[], ⟨none, 0, rfl, Nat.le_refl _, rfl, by simp, fun h => absurd h (by simp)⟩, by simp, by simp, by simp⟩
  · have hlm : len ≤ m := by
      rw [hmm]
      split
      · exact hl
      · exact Nat.le_refl _
    have hq : ∀ i, i < len → ∃ y : α, (∃ c : List Value, c.length = d.sz ∧ d.K w y c ∧ ∀ j u, c[j]? = some u → w.cell? (a.add (i * d.sz + j)) = some u) ∧ G y := by
      intro i hil
      obtain ⟨cs', hcs, htr⟩ := hi i (by omega)
      obtain ⟨y, hy, hg⟩ := he H enc w base spare held n cs' (D i, Pl i) htr (by
        intro k hk
        refine hs k ?_
        simp only [DataW.weights, ht, List.mem_cons, List.mem_append]
        exact .inr (.inl (mem_weightsAll (List.mem_map.2 ⟨i, by simpa using hil, rfl⟩) k hk)))
      obtain ⟨_, hlen, hcell⟩ := World.cells?_some hcs
      rw [hc] at hlen
      refine ⟨y, ⟨cs', hlen, hy, fun j u hu => ?_⟩, hg⟩
      have hj : j < d.sz := by
        have := (List.getElem?_eq_some_iff.1 hu).1
        omega
      have := hcell j (by rw [hc]; exact hj)
      rw [hu, hc, Go.Deep.add_add] at this
      exact this
    obtain ⟨xs, hxl, hx⟩ := list_of hq
    have hsz := hs ((((List.range len).map D).length + ((List.range (m - len)).map fun j => D (len + j)).length) * P.bytesOf e) (by
      simp only [DataW.weights, ht, List.mem_cons, true_or])
    simp only [List.length_map, List.length_range, hB, reachBytes] at hsz
    have hsz2 : len * B ≤ 140737488351232 := Nat.le_trans (Nat.mul_le_mul_right _ (by omega)) hsz
    have hlmax : len ≤ maxLen := Nat.le_trans hl hm
    refine ⟨xs, ⟨some a, cap, by rw [hxl], by omega, hxl ▸ rfl, by unfold maxLen at hlmax; omega, fun _ => ⟨a, rfl, fun j p hj => (hx j p hj).1⟩⟩, by omega, by rw [hxl]; exact hsz2, fun y hy => ?_⟩
    obtain ⟨i, hi⟩ := List.mem_iff_getElem?.1 hy
    exact (hx i y hi).2

/-- Fields from a place on: a struct's, one behind the other. -/
def OpensL {α : Type} (P : Program) (fl : List Field) (off : Nat) (d : Kd α) (G : α → Prop) : Prop :=
  ∀ (H : Type) (enc : TypeId × Value → H) (w : World) (base : Nat) (spare : Nat → Bool) (held : Bool) (n : Nat) (cs : List Value) (xs : List (DataW H × List MemPlace)),
    cs.length = off + d.sz → xs.length = fl.length → (∀ (i : Nat) (f : Field), fl[i]? = some f → DataW.trod enc P w base spare held n f.type ((cs.drop f.offset).take (P.cellsOf f.type)) = xs[i]?) →
    (∀ k ∈ DataW.weightsEach P (fl.map (·.type)) (xs.map (·.1)), k ≤ reachBytes) → ∃ y : α, d.K w y (cs.drop off) ∧ G y

theorem OpensL.last {α : Type} {P : Program} {f : Field} {off : Nat} {d : Kd α} {G : α → Prop} (h : Opens P f.type d G) (ho : f.offset = off) (hc : P.cellsOf f.type = d.sz) : OpensL P [f] off d G := by
  intro H enc w base spare held n cs xs hl hxl hf hs
  match xs, hxl with
  | [x], _ =>
    have h1 := hf 0 f rfl
    rw [ho, hc] at h1
    have e : (cs.drop off).take d.sz = cs.drop off := by
      apply List.take_of_length_le
      simp
      omega
    rw [e] at h1
    refine h H enc w base spare held n _ x (h1.trans rfl) fun k hk => hs k ?_
    simp only [List.map_cons, List.map_nil, DataW.weightsEach, List.mem_append]
    exact .inl hk

theorem OpensL.cons {α β : Type} {P : Program} {f : Field} {fl : List Field} {off : Nat} {d : Kd α} {G : α → Prop} {d' : Kd β} {G' : β → Prop} (h : Opens P f.type d G) (ho : f.offset = off) (hc : P.cellsOf f.type = d.sz) (hr : OpensL P fl (off + d.sz) d' G') :
    OpensL P (f :: fl) off (Kd.pair d d') (fun y => G y.1 ∧ G' y.2) := by
  intro H enc w base spare held n cs xs hl hxl hf hs
  have hl' : cs.length = off + (d.sz + d'.sz) := hl
  match xs, hxl with
  | x :: xs, hxl =>
    have h1 := hf 0 f rfl
    rw [ho, hc] at h1
    obtain ⟨y, hy, hg⟩ := h H enc w base spare held n _ x (h1.trans rfl) fun k hk => hs k (by
      simp only [List.map_cons, DataW.weightsEach, List.mem_append]
      exact .inl hk)
    obtain ⟨z, hz, hg'⟩ := hr H enc w base spare held n cs xs (by omega) (by simpa using hxl) (fun i g hi => by
      have := hf (i + 1) g (by simpa using hi)
      simpa using this) (fun k hk => hs k (by
      simp only [List.map_cons, DataW.weightsEach, List.mem_append]
      exact .inr hk))
    refine ⟨(y, z), ⟨(cs.drop off).take d.sz, cs.drop (off + d.sz), ?_, hy, hz⟩, hg, hg'⟩
    rw [← List.drop_drop, List.take_append_drop]

theorem Opens.struct {α : Type} {P : Program} {t : TypeId} {fs : Array Field} {d : Kd α} {G : α → Prop} (h : OpensL P fs.toList 0 d G) (ht : P.underlying t = some (.struct fs)) (hc : P.cellsOf t = d.sz) : Opens P t d G := by
  intro H enc w base spare held fuel cs x h1 hs
  obtain ⟨xs, n, _, rfl, hlen, hxl, hf⟩ := DataW.trod_struct ht h1
  have := h H enc w base spare held n cs xs (by omega) (by simpa using hxl) (fun i f hi => hf i f (by simpa using hi)) (fun k hk => hs k (by
    simp only [DataW.weights, ht]
    exact hk))
  simpa using this

/-- A parameter's opening: its value's cells. -/
theorem Opens.arg {α : Type} {P : Program} {t : TypeId} {d : Kd α} {G : α → Prop} (h : Opens P t d G) {H : Type} {enc : TypeId × Value → H} {w : World} {base : Nat} {spare : Nat → Bool} {held : Bool} {v : Value} {x : DataW H} {p : List MemPlace}
    (hx : DataW.Trod enc P w base spare held t v x p) (hs : Small P t x) : ∃ y : α, d.K w y v.cells.toList ∧ G y := by
  obtain ⟨fuel, hf⟩ := hx
  exact h H enc w base spare held fuel _ (x, p) hf hs

/-- A slice's parameter. -/
theorem Opens.sliceArg {α : Type} {P : Program} {t e : TypeId} {d : Kd α} {G : List α → Prop} (h : Opens P t (Kd.slice e d) G) {r : Reach} {b0 : Nat} {H : Type} {enc : TypeId × Value → H} {w : World} {base : Nat} {spare : Nat → Bool} {held : Bool} {v : Value} {x : DataW H} {p : List MemPlace}
    (ht : P.underlying t = some (.slice e)) (hv : Value.okWide P w r b0 t v) (hx : DataW.Trod enc P w base spare held t v x p) (hs : Small P t x) :
    ∃ (A : Option Addr) (c : Nat) (xs : List α), v = .slice A xs.length c ∧ xs.length ≤ c ∧ d.C w A xs.length xs ∧ G xs := by
  obtain ⟨a, len, cap, rfl⟩ := okWide_slice ht hv
  obtain ⟨xs, ⟨A, c, he, hl, hr⟩, hg⟩ := h.arg hx hs
  have he' : [Value.slice a len cap] = [.slice A xs.length c] := he
  injection he' with he' _
  exact ⟨A, c, xs, he', hl, hr, hg⟩

/-- Two ints in line (a span by value). -/
def kII : Kd (Int × Int) := Kd.pair (Kd.int .i64) (Kd.int .i64)
theorem kII_open {w : World} {x : Int × Int} {cs : List Value} (h : kII.K w x cs) : cs = [.int .i64 x.1, .int .i64 x.2] := by
  obtain ⟨_, _, rfl, rfl, rfl⟩ := h
  exact rfl
theorem kII_opens {P : Program} {t i : TypeId} {f0 f1 : Field} (ht : P.underlying t = some (.struct #[f0, f1])) (h0 : f0.type = i) (h1 : f1.type = i) (hi : P.underlying i = some (.int .i64)) (o0 : f0.offset = 0) (o1 : f1.offset = 1) (hc : P.cellsOf t = 2) (hci : P.cellsOf i = 1) :
    Opens P t kII (fun x => (Lit.int .i64 x.1).wf = true ∧ (Lit.int .i64 x.2).wf = true) := by
  subst h0
  exact Opens.struct (OpensL.cons (Opens.int hi) o0 hci (OpensL.last (Opens.int (h1 ▸ hi)) o1 (h1 ▸ hci))) ht hc

end Go.Proofs.YtgcjkijndibejaaW.Opn
