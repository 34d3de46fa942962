/- The laws' edits of any kind: what the program puts together, as edits in memory: thirty at most, of short texts. Conditions: as each lemma says. -/
import Derived.Test.YtgcjkijndibejaaWMore
import Derived.Test.YtgcjkijndibejaaECv
import Derived.Test.YtgcjkijndibejaaOpn
set_option linter.unusedVariables false
set_option linter.unusedSimpArgs false
namespace Go.Proofs.Ytgcjkijndibejaa.Srt
open Go.Lib hiding bytesOf bytesOf_length
open Go.Shelf Go.RowKit Go.Proofs.YtgcjkijndibejaaW.PrintWords Go.Proofs.YtgcjkijndibejaaW.PrintLast Go.Proofs.YtgcjkijndibejaaW.PrintMore Go.Proofs.YtgcjkijndibejaaW.Opn
attribute [local go_sem] min2_int min_two

theorem mn_nat (a b : Nat) : ∃ m : Nat, (if (b : Int) < (a : Int) then (b : Int) else (a : Int)) = (m : Int) ∧ m ≤ a ∧ m ≤ b := by
  split
  · exact ⟨b, rfl, by omega, by omega⟩
  · exact ⟨a, rfl, by omega, by omega⟩
/-- An edit's cells. -/
def kE : Kd Ed := Kd.iso (Kd.pair kII Kd.string) (fun x : Ed => ((x.1, x.2.1), x.2.2))
theorem kE_open {w : World} {x : Ed} {cs : List Value} (h : kE.K w x cs) : cs = [.int .i64 x.1, .int .i64 x.2.1, .string x.2.2] := by
  obtain ⟨_, _, rfl, s0, rfl⟩ := h
  obtain rfl := kII_open s0
  exact rfl
theorem at_E {w : World} {A : Option Addr} {n : Nat} {xs : List Ed} (h : Kd.C kE w A n xs) (i : Nat) (h1 : i < n) : ∃ ad, A = some ad ∧ w.cell? (ad.add (i * 3)) = some (.int .i64 (xs.getD i dE).1) ∧ w.cell? ⟨(ad.add (i * 3)).block, (ad.add (i * 3)).off + 1, none⟩ = some (.int .i64 (xs.getD i dE).2.1) ∧ w.cell? ⟨(ad.add (i * 3)).block, (ad.add (i * 3)).off + 2, none⟩ = some (.string (xs.getD i dE).2.2) := by
  obtain ⟨ad, c, e, _, hK, hc0⟩ := Kd.C_get h dE (i : Int) (by omega) (by omega)
  rw [Int.toNat_natCast] at hK hc0
  have hc : ∀ j u, c[j]? = some u → w.cell? (ad.add (i * 3 + j)) = some u := hc0
  obtain rfl := kE_open hK
  exact ⟨ad, e, hc 0 _ rfl, by rw [← add_field _ _ 1 (by omega)]; exact hc 1 _ rfl, by rw [← add_field _ _ 2 (by omega)]; exact hc 2 _ rfl⟩
theorem opSpanE : Opens Try.prog 44 kII (fun x => (Lit.int .i64 x.1).wf = true ∧ (Lit.int .i64 x.2).wf = true) :=
  kII_opens Try.underlying44 rfl rfl Try.underlying3 rfl rfl (by kernel_rfl) (by kernel_rfl)
theorem opEds : Opens Try.prog 23 (Kd.slice 46 kE) (fun xs => xs.length ≤ 140737488351232) :=
  Opens.imp (Opens.slice (B := 32) (Opens.iso (f := fun x : Ed => ((x.1, x.2.1), x.2.2)) (fun y => (y.1.1, y.1.2, y.2)) (fun _ => rfl)
    (Opens.struct (OpensL.cons opSpanE (by kernel_rfl) (by kernel_rfl)
      (OpensL.last (Opens.string Try.underlying9) (by kernel_rfl) (by kernel_rfl))) Try.underlying46 (by kernel_rfl))) Try.underlying23 (by kernel_rfl) (by kernel_rfl)) (fun xs h => by have := h.2.1; omega)
set_option maxRecDepth 100000 in
set_option maxHeartbeats 8000000 in
theorem some_any (A : Option Addr) (c : Nat) (b : List Int) (A1 : Option Addr) (c1 : Nat) (es : List Ed) (r0 : Nat) (W : World) (hC : Kd.C (Kd.int .u8) W A b.length b) (hc : b.length ≤ c) (hE : Kd.C kE W A1 es.length es) (hc1 : es.length ≤ c1) (hb : b.length ≤ 500) (hl : es.length ≤ 140737488351232) (hr : r0 < 256) :
    Calls Try.prog 11 #[.slice A b.length c, .slice A1 es.length c1, .int .u8 r0] W fun e w' => ∃ v' es', e = .returned v' ∧ Oe W w' v' es' ∧ es'.length ≤ 30 ∧ ∀ e ∈ es', e.2.2.size ≤ 20 := by
  have HR := Lib.hid hE
  clear hE hC
  go_enter Try.func11, Try.ntmps11
  go_upto_block 0 with fail
  go_wp2_with fail
  go_loopg [7, 12] es.length (fun gn ov iv wr => ∃ (i : Nat) (es' : List Ed), iv = .int .i64 i ∧ i ≤ es.length ∧ i ≤ 30 ∧ es'.length ≤ i ∧ Hid (Oe W wr ov es' ∧ (∀ e ∈ es', e.2.2.size ≤ 20) ∧ gn = es.length - i))
  case atStart => exact ⟨0, [], rfl, Nat.zero_le _, by omega, Nat.zero_le _, ⟨World.ownsRow_nil _ _ _ _, Below.refl _ _⟩, fun e he => (List.not_mem_nil he).elim, rfl⟩
  case round =>
  obtain ⟨i, es', rfl, hi, hi3, hl', HQ⟩ := hrel
  obtain ⟨A6, c6, rfl, hc6, _⟩ := HQ.out.1.form
  by_cases hlt : i < es.length
  · have hdl : decide ((i : Int) < (es.length : Int)) = true := by simp; omega
    obtain ⟨ad, rfl, k0, k1, k2⟩ := at_E (Kd.C_below HR.out HQ.out.1.bel) i hlt
    obtain ⟨x, hx⟩ : ∃ x, es.getD i dE = x := ⟨_, rfl⟩
    rw [hx] at k0 k1 k2
    obtain ⟨a0, l0, t0⟩ := x
    have k0 : wr.cell? (ad.add (i * 3)) = some (.int .i64 a0) := k0
    have k1 : wr.cell? ⟨(ad.add (i * 3)).block, (ad.add (i * 3)).off + 1, none⟩ = some (.int .i64 l0) := k1
    have k2 : wr.cell? ⟨(ad.add (i * 3)).block, (ad.add (i * 3)).off + 2, none⟩ = some (.string t0) := k2
    clear hx
    by_cases h30 : (30 : Int) ≤ (i : Int)
    · have hd3 : decide ((30 : Int) ≤ (i : Int)) = true := decide_eq_true h30
      go_wp2_with fail
      go_ret
      exact ⟨_, rfl, es', HQ.out.1.below (below_alloc (Below.refl _ _) _), by omega, fun x1 x2 x3 h => HQ.out.2.1 _ h⟩
    · have hd3 : decide ((30 : Int) ≤ (i : Int)) = false := decide_eq_false h30
      obtain ⟨m, hm, hm1, hm2⟩ : ∃ m : Nat, (if (20 : Int) < (t0.size : Int) then (20 : Int) else (t0.size : Int)) = (m : Int) ∧ m ≤ t0.size ∧ m ≤ 20 := mn_nat t0.size 20
      obtain ⟨z, hz⟩ : ∃ z : Nat, (r0 : Int) % 8 = (z : Int) := ⟨r0 % 8, by omega⟩
      go_upto_region 7 with fail
      obtain ⟨T, hTd⟩ : ∃ T : ByteArray, t0.extract 0 m = T := ⟨_, rfl⟩
      have hT : T.size ≤ 20 := by rw [← hTd, ByteArray.size_extract]; omega
      rw [hTd]
      have hbs := HQ.out.1.bel.size
      clear hTd hm k0 k1 k2
      by_cases h7 : z = 7
      · have hz7 : ((z : Int) != 7) = false := by rw [h7]; rfl
        by_cases hi0 : 0 < i
        · have hd0 : decide ((0 : Int) < (i : Int)) = true := by simp; omega
          have H7 := Lib.hid h7
          clear h7
          obtain ⟨p, hp, hpn⟩ : ∃ p : Nat, (IntKind.u64.wrap a0).tmod ((b.length : Int) + 1) = (p : Int) ∧ p ≤ b.length := umod a0 b.length
          obtain ⟨m6, hm6, hm7⟩ : ∃ m6 : Nat, (if (6 : Int) < (b.length : Int) - (p : Int) then (6 : Int) else (b.length : Int) - (p : Int)) = (m6 : Int) ∧ m6 ≤ 6 := by
            split
            · exact ⟨6, rfl, by omega⟩
            · exact ⟨b.length - p, by omega, by omega⟩
          obtain ⟨q, hq, hqn⟩ : ∃ q : Nat, (IntKind.u64.wrap l0).tmod ((m6 : Int) + 1) = (q : Int) ∧ q ≤ m6 := umod l0 m6
          go_upto_region 10 with fail
          clear hp hq hm6
          have ho3 : Oe W (wr.alloc (.cells #[.int .i64 (p : Int), .int .i64 (q : Int), .string T] 46)) (.slice A6 es'.length c6) es' := HQ.out.1.below (below_alloc (Below.refl _ _) _)
          have hbs3 := ho3.bel.size
          have HO3 := Lib.hid ho3
          clear ho3
          go_wp2_with (at_builtin; refine print_append_cells (w0 := W) W.heap.size rfl _ _ 23 46 (.agg #[(.int .i64 0), (.int .i64 0), (.string ⟨#[]⟩)]) 3 32 rfl Try.underlying23 info46 rfl (by decide) (by decide) (.slice A6 es'.length c6) es'.length (edC es') [.int .i64 (p : Int), .int .i64 (q : Int), .string T] rfl (by rw [size_alloc1]; rfl) rfl (by simp [Value.oneCell']) HO3.out.own HO3.out.bel hbs3 (by omega) ?_; intro v1 w4 hown1 hb1 _ _; have HO := Lib.hid hown1; have HB := Lib.hid hb1; clear hown1 hb1)
          go_roundg (es.length - (i + 1))
          case measure => have := HQ.out.2.2; omega
          case rel =>
            refine ⟨i + 1, es' ++ [((p : Int), (q : Int), T)], by go_num, by omega, by omega, by rw [List.length_append]; simp; omega, ⟨by rw [edC_snoc, List.length_append]; exact HO.out, HB.out⟩, fun e he => ?_, rfl⟩
            rcases List.mem_append.1 he with he | he
            · exact HQ.out.2.1 e he
            · rcases List.mem_singleton.1 he with rfl
              exact hT
        · have hd0 : decide ((0 : Int) < (i : Int)) = false := by simp; omega
          have H7 := Lib.hid h7
          clear h7
          go_upto_region 10 with fail
          have ho3 : Oe W (wr.alloc (.cells #[.int .i64 a0, .int .i64 l0, .string T] 46)) (.slice A6 es'.length c6) es' := HQ.out.1.below (below_alloc (Below.refl _ _) _)
          have hbs3 := ho3.bel.size
          have HO3 := Lib.hid ho3
          clear ho3
          go_wp2_with (at_builtin; refine print_append_cells (w0 := W) W.heap.size rfl _ _ 23 46 (.agg #[(.int .i64 0), (.int .i64 0), (.string ⟨#[]⟩)]) 3 32 rfl Try.underlying23 info46 rfl (by decide) (by decide) (.slice A6 es'.length c6) es'.length (edC es') [.int .i64 a0, .int .i64 l0, .string T] rfl (by rw [size_alloc1]; rfl) rfl (by simp [Value.oneCell']) HO3.out.own HO3.out.bel hbs3 (by omega) ?_; intro v1 w4 hown1 hb1 _ _; have HO := Lib.hid hown1; have HB := Lib.hid hb1; clear hown1 hb1)
          go_roundg (es.length - (i + 1))
          case measure => have := HQ.out.2.2; omega
          case rel =>
            refine ⟨i + 1, es' ++ [(a0, l0, T)], by go_num, by omega, by omega, by rw [List.length_append]; simp; omega, ⟨by rw [edC_snoc, List.length_append]; exact HO.out, HB.out⟩, fun e he => ?_, rfl⟩
            rcases List.mem_append.1 he with he | he
            · exact HQ.out.2.1 e he
            · rcases List.mem_singleton.1 he with rfl
              exact hT
      · have hz7 : ((z : Int) != 7) = true := by simp; omega
        obtain ⟨p, hp, hpn⟩ : ∃ p : Nat, (IntKind.u64.wrap a0).tmod ((b.length : Int) + 1) = (p : Int) ∧ p ≤ b.length := umod a0 b.length
        obtain ⟨m6, hm6, hm7⟩ : ∃ m6 : Nat, (if (6 : Int) < (b.length : Int) - (p : Int) then (6 : Int) else (b.length : Int) - (p : Int)) = (m6 : Int) ∧ m6 ≤ 6 := by
          split
          · exact ⟨6, rfl, by omega⟩
          · exact ⟨b.length - p, by omega, by omega⟩
        obtain ⟨q, hq, hqn⟩ : ∃ q : Nat, (IntKind.u64.wrap l0).tmod ((m6 : Int) + 1) = (q : Int) ∧ q ≤ m6 := umod l0 m6
        go_upto_region 10 with fail
        clear hp hq hm6
        have ho3 : Oe W (wr.alloc (.cells #[.int .i64 (p : Int), .int .i64 (q : Int), .string T] 46)) (.slice A6 es'.length c6) es' := HQ.out.1.below (below_alloc (Below.refl _ _) _)
        have hbs3 := ho3.bel.size
        have HO3 := Lib.hid ho3
        clear ho3
        go_wp2_with (at_builtin; refine print_append_cells (w0 := W) W.heap.size rfl _ _ 23 46 (.agg #[(.int .i64 0), (.int .i64 0), (.string ⟨#[]⟩)]) 3 32 rfl Try.underlying23 info46 rfl (by decide) (by decide) (.slice A6 es'.length c6) es'.length (edC es') [.int .i64 (p : Int), .int .i64 (q : Int), .string T] rfl (by rw [size_alloc1]; rfl) rfl (by simp [Value.oneCell']) HO3.out.own HO3.out.bel hbs3 (by omega) ?_; intro v1 w4 hown1 hb1 _ _; have HO := Lib.hid hown1; have HB := Lib.hid hb1; clear hown1 hb1)
        go_roundg (es.length - (i + 1))
        case measure => have := HQ.out.2.2; omega
        case rel =>
          refine ⟨i + 1, es' ++ [((p : Int), (q : Int), T)], by go_num, by omega, by omega, by rw [List.length_append]; simp; omega, ⟨by rw [edC_snoc, List.length_append]; exact HO.out, HB.out⟩, fun e he => ?_, rfl⟩
          rcases List.mem_append.1 he with he | he
          · exact HQ.out.2.1 e he
          · rcases List.mem_singleton.1 he with rfl
            exact hT
  · obtain rfl : i = es.length := by omega
    have hdl : decide ((es.length : Int) < (es.length : Int)) = false := by simp
    go_wp2_with fail
    go_ret
    exact ⟨_, es', rfl, HQ.out.1, by omega, HQ.out.2.1⟩
end Go.Proofs.Ytgcjkijndibejaa.Srt
