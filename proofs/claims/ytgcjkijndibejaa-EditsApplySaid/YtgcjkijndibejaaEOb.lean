/- Rows of bytes of one's own: appends onto them, of bytes and of strings; a string's bytes. Conditions: as each lemma says. -/
import Derived.Test.YtgcjkijndibejaaETidy
import Derived.Lib.AppendStr
import Derived.Lib.SlFresh
set_option linter.unusedVariables false
set_option linter.unusedSimpArgs false
namespace Go.Proofs.Ytgcjkijndibejaa.Srt
open Go.Lib hiding bytesOf bytesOf_length
open Go.Shelf Go.RowKit Go.Proofs.YtgcjkijndibejaaW.PrintWords Go.Proofs.YtgcjkijndibejaaW.PrintLast

/-- A row of bytes of one's own. -/
structure Ob (w0 W : World) (v : Value) (xs : List Int) : Prop where
  own : W.ownsRow w0.heap.size 5 1 v xs.length (nums .u8 xs)
  bel : Below w0.heap.size w0 W
section
variable {w0 W W' : World} {v : Value} {xs : List Int}
theorem Ob.below (h : Ob w0 W v xs) (hb : Below W.heap.size W W') : Ob w0 W' v xs := ⟨pw_own_below h.own hb, below_step h.bel hb⟩
theorem Ob.alloc (h : Ob w0 W v xs) (o : Obj) : Ob w0 (W.alloc o) v xs := h.below (below_alloc (Below.refl _ _) o)
theorem Ob.form (h : Ob w0 W v xs) : ∃ A c, v = .slice A xs.length c ∧ xs.length ≤ c ∧ Kd.C (Kd.int .u8) W A xs.length xs := by
  obtain ⟨A, c, rfl, hr⟩ := own_reads h.own
  exact ⟨A, c, rfl, own_le h.own, Kd.C_of_reads (d := 0) (h1 := fun _ => rfl) hr⟩
end
/-- append in a region that draws its order, by its run. -/
theorem app_ {P : Program} {ops : Array Oper} {Q : Exit → Act → World → Prop} {oi : Oper} {N : Option Tmp} {a : Act} {w w1 : World} {v1 : Value} {K : Act → World → Prop} (s x : Operand) (t u : TypeId)
    (ho : oi.op = .call { callee := .builtin .append, args := #[s, x], argTypes := #[t, u] }) (hw : Region.wanted oi (yielded ops a.tmps) = true) (hN : oi.dst = N) (v0 u0 : Value) (hs : a.eval s = v0) (hx : a.eval x = u0)
    (hr : (Builtin.append_ #[t, u] oi.type #[v0, u0]).run P w = .ok v1 w1) (h : K (a.put N v1) w1) : if Region.wanted oi (yielded ops a.tmps) = true then Oper.wp P oi a w K Q else K (a.put N undef) w := by
  rw [if_pos hw]
  subst hN
  unfold Oper.wp execOp
  simp only [ho, resolve, invoke, builtin, Sem.run_bind, Sem.run_pure, Result.andThen_ok, List.map_toArray, List.map_cons, List.map_nil, hs, hx, hr]
  exact h
theorem C_reads {w : World} {A : Option Addr} {n : Nat} {xs : List Int} (h : Kd.C (Kd.int .u8) w A n xs) : ReadsInt w .u8 A n xs := Kd.reads_of_C (enc := Value.int .u8) (d := (0 : Int)) (h1 := fun _ => rfl) h
theorem Ob.append {w0 W : World} {v : Value} {xs : List Int} (h : Ob w0 W v xs) (A : Option Addr) (m c : Nat) (ys : List Int) (HC : Kd.C (Kd.int .u8) W A m ys) (hl : xs.length + m ≤ 1000000) (ty : TypeId) :
    ∃ v1 w1, (Builtin.append_ #[22, 22] ty #[v, .slice A m c]).run Try.prog W = .ok v1 w1 ∧ Ob w0 w1 v1 (xs ++ ys) ∧ W.grownBy w1 v.ownBlock := by
  have HR := C_reads HC
  obtain ⟨i0, hi, hz0, hz1, hz2⟩ := info_parts info_u8
  have ht := Try.underlying22
  have hm : ys.length = m := HR.1
  rcases A with _ | ad
  · have h0 : m = 0 := by
      rcases Nat.eq_zero_or_pos m with h0 | h0
      · exact h0
      · obtain ⟨ad, h, _⟩ := HR.2.2 h0
        cases h
    subst h0
    obtain rfl : ys = [] := List.eq_nil_of_length_eq_zero hm
    refine ⟨v, W, ?_, by rw [List.append_nil]; exact h, World.grownBy.refl W _⟩
    rcases h.own.2 with ⟨rfl, hn⟩ | ⟨g, cap, cur, rfl, _, _, hnc, _⟩
    · simp [Builtin.append_, run_underlying ht, sizeOf, typeInfo, hi, Builtin.lenOf, Builtin.firstCells]
    · simp [Builtin.append_, run_underlying ht, sizeOf, typeInfo, hi, Builtin.lenOf, Builtin.firstCells, hnc, storeCells]
  · have hcells : ∀ j u, (nums .u8 ys)[j]? = some u → W.cell? (ad.add j) = some u := by
      intro j u hu
      have hj : j < ys.length := by
        rcases Nat.lt_or_ge j ys.length with h | h
        · exact h
        · simp [nums, List.getElem?_eq_none h] at hu
      obtain ⟨ad', h', hc⟩ := HR.2.2 (by omega)
      injection h' with h'
      subst h'
      have := hc j (by omega)
      simp [nums, List.getElem?_eq_getElem hj] at hu
      subst hu
      rw [this]
      simp [List.getD_eq_getElem?_getD, List.getElem?_eq_getElem hj]
    have h1 : ∀ u ∈ nums .u8 ys, u.oneCell' = true := by
      intro u hu
      simp only [nums, List.mem_map] at hu
      obtain ⟨q, _, rfl⟩ := hu
      rfl
    obtain ⟨v1, w1, hr, h2, h3, _⟩ := run_append_own (P := Try.prog) W w0.heap.size 22 ty 5 i0 (.int .u8 0) 1 1 ht hi hz0 hz1 hz2 rfl (by omega) v xs.length (nums .u8 xs) h.own ad m c (nums .u8 ys) (by simp [nums, hm]) hcells h1 (by simp only [maxLen]; omega) (by omega) h.bel.size
    refine ⟨v1, w1, hr, ⟨?_, h.bel.grown h3 h.bel.size (fun k hk => (h.own.lt k hk).1)⟩, h3⟩
    rw [nums_append, List.length_append, hm]
    exact h2
theorem strCells_nums (s : ByteArray) : Lib.strCells s = nums .u8 (bytesOf s) := by
  unfold Lib.strCells nums bytesOf
  simp
theorem Ob.appendS {w0 W : World} {v : Value} {xs : List Int} (h : Ob w0 W v xs) (s : ByteArray) (hl : xs.length + s.size ≤ 1000000) (ty : TypeId) :
    ∃ v1 w1, (Builtin.append_ #[22, 9] ty #[v, .string s]).run Try.prog W = .ok v1 w1 ∧ Ob w0 w1 v1 (xs ++ bytesOf s) ∧ W.grownBy w1 v.ownBlock := by
  obtain ⟨i0, hi, hz0, hz1, hz2⟩ := info_parts info_u8
  obtain ⟨v1, w1, hr, h2, h3, _⟩ := Lib.run_append_own_string (P := Try.prog) (w := W) w0.heap.size 22 9 ty 5 i0 Try.underlying22 Try.underlying9 hi hz0 hz1 hz2 v xs.length (nums .u8 xs) h.own s (by simp only [maxLen]; omega) (by omega) h.bel.size
  refine ⟨v1, w1, hr, ⟨?_, h.bel.grown h3 h.bel.size (fun k hk => (h.own.lt k hk).1)⟩, h3⟩
  rw [nums_append, List.length_append, bytesOf_length, ← strCells_nums]
  exact h2

end Go.Proofs.Ytgcjkijndibejaa.Srt
