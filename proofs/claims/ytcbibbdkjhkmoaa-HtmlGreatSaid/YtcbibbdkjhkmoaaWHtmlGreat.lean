/- The law HtmlGreat, walked: it answers true. Conditions: none. -/
import Derived.Test.YtcbibbdkjhkmoaaHOps
import Derived.Test.YtcbibbdkjhkmoaaHRefAll
import Derived.Test.YtcbibbdkjhkmoaaHtmGreat
set_option linter.unusedVariables false
set_option linter.unusedSimpArgs false
namespace Go.Proofs.Ytcbibbdkjhkmoaa.H
open Go.RowKit Go.Proofs.YtcbibbdkjhkmoaaW.PrintWords Go.Proofs.YtcbibbdkjhkmoaaW.PrintLast Go.Proofs.Ytcbibbdkjhkmoaa.L Go.Proofs.Ytcbibbdkjhkmoaa.S Go.Proofs.Ytcbibbdkjhkmoaa.Htm

/-- append in a region in the text's order, by its run. -/
theorem appG_ {P : Program} {ops : Array Oper} {rest : List Oper} {Q : Exit → Act → World → Prop} {o : Oper} {a : Act} {w w1 : World} {v1 : Value} (hgd : o.guard = none) (s x : Operand) (t u : TypeId)
    (ho : o.op = .call { callee := .builtin .append, args := #[s, x], argTypes := #[t, u] }) (v0 u0 : Value) (hs : a.eval s = v0) (hx : a.eval x = u0)
    (hr : (Builtin.append_ #[t, u] o.type #[v0, u0]).run P w = .ok v1 w1) (h : wpList P ops Q rest (a.put o.dst v1) w1) : wpList P ops Q (o :: rest) a w :=
  wpList_plain hgd fun _ hK => by
    unfold Oper.wp execOp
    simp only [ho, resolve, invoke, builtin, Sem.run_bind, Sem.run_pure, Result.andThen_ok, List.map_toArray, List.map_cons, List.map_nil, hs, hx, hr]
    exact hK _ _ h
theorem lexN_len (b : List Int) : ∀ (n p : Nat) (L : List Int), L.length = b.length → (lexN b n p L).length = b.length := by
  intro n
  induction n with
  | zero => intro p L h; exact h
  | succ n ih =>
    intro p L h
    unfold lexN
    split
    · rename_i hp
      exact ih _ _ (step_ok b p L hp h).2.2
    · exact h
theorem lexL_len (b : List Int) : (lexL b).length = b.length := lexN_len b _ 0 _ (by simp)
theorem same_anyP (A1 A2 : Option Addr) (c1 c2 : Nat) (S : List Sg) (w : World) (hl : S.length ≤ 1000000) (h1 : Kd.C PSameSegs.k66 w A1 (S.map toQ).length (S.map toQ)) (h2 : Kd.C PSameSegs.k66 w A2 (S.map toQ).length (S.map toQ)) (hc1 : (S.map toQ).length ≤ c1) (hc2 : (S.map toQ).length ≤ c2) :
    Calls Try.prog 13 #[.slice A1 S.length c1, .slice A2 S.length c2] w fun e w' => e = .returned (.bool true) ∧ ∃ n, w' = w.drewN n := by
  have := same_any A1 A2 c1 c2 S w hl h1 h2 hc1 hc2
  simpa only [List.length_map] using this
def grS : List ByteArray := [(⟨#[60, 98, 32]⟩ : ByteArray), ⟨#[60, 105, 62]⟩, ⟨#[60, 47, 105, 62]⟩, ⟨#[97, 108, 116, 61]⟩, ⟨#[116, 105, 116, 108, 101, 61, 39, 120, 32, 121, 39]⟩, ⟨#[99, 108, 97, 115, 115, 61, 113]⟩, ⟨#[32]⟩, ⟨#[10]⟩, ⟨#[60, 33, 45, 45]⟩, ⟨#[45, 45, 62]⟩, ⟨#[60, 115, 99, 114, 105, 112, 116, 62]⟩, ⟨#[60, 47, 115, 99, 114, 105, 112, 116, 62]⟩, ⟨#[60, 116, 105, 116, 108, 101, 62]⟩, ⟨#[60, 47, 116, 105, 116, 108, 101, 62]⟩, ⟨#[119, 111, 114, 100]⟩, ⟨#[62]⟩, ⟨#[34]⟩]
def grU : List ByteArray := [(⟨#[60, 66, 32]⟩ : ByteArray), ⟨#[60, 73, 62]⟩, ⟨#[60, 47, 73, 62]⟩, ⟨#[65, 76, 84, 61]⟩, ⟨#[84, 73, 84, 76, 69, 61, 39, 88, 32, 89, 39]⟩, ⟨#[67, 76, 65, 83, 83, 61, 81]⟩, ⟨#[32]⟩, ⟨#[10]⟩, ⟨#[60, 33, 45, 45]⟩, ⟨#[45, 45, 62]⟩, ⟨#[60, 83, 67, 82, 73, 80, 84, 62]⟩, ⟨#[60, 47, 83, 67, 82, 73, 80, 84, 62]⟩, ⟨#[60, 84, 73, 84, 76, 69, 62]⟩, ⟨#[60, 47, 84, 73, 84, 76, 69, 62]⟩, ⟨#[87, 79, 82, 68]⟩, ⟨#[62]⟩, ⟨#[34]⟩]
theorem strs_C (w : World) (t : TypeId) (fr : Nat × Nat) (l : List ByteArray) (hl : l.length ≤ 1000) : Kd.C Kd.string (w.alloc (.cells (l.map Value.string).toArray t fr)) (some ⟨w.heap.size, 0, none⟩) l.length l := by
  refine ⟨rfl, by omega, fun _ => ⟨_, rfl, fun j p hj => ⟨[.string p], rfl, rfl, fun i u hu => ?_⟩⟩⟩
  have hi : i = 0 := by
    have := (List.getElem?_eq_some_iff.1 hu).1
    simpa using this
  subst hi
  have hp : Value.string p = u := by simpa using hu
  subst hp
  have e : (⟨w.heap.size, 0, none⟩ : Addr).add (j * 1 + 0) = ⟨w.heap.size, j, none⟩ := by
    unfold Addr.add
    by_cases h0 : j = 0
    · subst h0; rfl
    · simp [h0]
  have hz : Kd.string.sz = 1 := rfl
  rw [hz, e, cell_of_row _ _ _ _ _ _ (blk_new w _)]
  simp [hj]
theorem gr_pc (a : Int) : (pc grS [97] a).map sm = (pc grU [65] a).map sm ∧ (91 : Int) ∉ pc grS [97] a ∧ (91 : Int) ∉ pc grU [65] a := by
  have h : ∀ n : Nat, n < 17 → (pc grS [97] (n : Int)).map sm = (pc grU [65] (n : Int)).map sm ∧ (91 : Int) ∉ pc grS [97] (n : Int) ∧ (91 : Int) ∉ pc grU [65] (n : Int) := by decide
  have e : ∀ P raw, pc P raw a = pc P raw ((a.toNat : Nat) : Int) := fun P raw => by unfold pc; rw [Int.toNat_natCast]
  rw [e, e]
  by_cases hn : a.toNat < 17
  · exact h _ hn
  · have e1 : pc grS [97] (a.toNat : Int) = [97] := by
      unfold pc
      rw [Int.toNat_natCast, if_neg (show ¬ a.toNat < grS.length from hn), if_pos (by decide)]
      simp [Nat.mod_one]
    have e2 : pc grU [65] (a.toNat : Int) = [65] := by
      unfold pc
      rw [Int.toNat_natCast, if_neg (show ¬ a.toNat < grU.length from hn), if_pos (by decide)]
      simp [Nat.mod_one]
    rw [e1, e2]
    decide
theorem gr_map (l : List Int) : (btx grS [97] l).map sm = (btx grU [65] l).map sm ∧ (91 : Int) ∉ btx grS [97] l ∧ (91 : Int) ∉ btx grU [65] l := by
  unfold btx
  generalize l.take 60 = m
  refine ⟨?_, ?_, ?_⟩
  · induction m with
    | nil => rfl
    | cons a m ih => rw [List.flatMap_cons, List.flatMap_cons, List.map_append, List.map_append, ih, (gr_pc a).1]
  · intro h
    obtain ⟨a, _, ha⟩ := List.mem_flatMap.1 h
    exact (gr_pc a).2.1 ha
  · intro h
    obtain ⟨a, _, ha⟩ := List.mem_flatMap.1 h
    exact (gr_pc a).2.2 ha
theorem gr_same (l : List Int) : lexL (btx grS [97] l) = lexL (btx grU [65] l) := great_small _ _ (gr_map l).1 (gr_map l).2.1 (gr_map l).2.2
set_option maxRecDepth 100000 in
set_option maxHeartbeats 4000000 in
theorem htmlGreat_any (A0 : Option Addr) (c0 : Nat) (l0 : List Int) (w : World) (hM : Mx w) (hC0 : Kd.C (Kd.int .u8) w A0 l0.length l0) (hc0 : l0.length ≤ c0) (hB0 : Bys l0) (hm0 : l0.length ≤ 140737488351232) :
    Calls Try.prog 5 #[.slice A0 l0.length c0] w fun e w' => e = .returned (.bool true) ∧ Below w.heap.size w w' := by
  have HH := Lib.hid (And.intro hM (And.intro hC0 (And.intro hc0 hB0)))
  clear hM hC0 hc0 hB0
  go_enter Try.func5, Try.ntmps5
  go_wp2_with fail
  refine (awake_any _ HH.out.1).mono ?_
  rintro e w1 ⟨rfl, hb1⟩
  have HW := Lib.hid hb1
  clear hb1
  go_upto_region 6 with fail
  have HP := Lib.hid (show Kd.C Kd.string ((w1.alloc (.cells #[.string ⟨#[60, 98, 32]⟩, .string ⟨#[60, 105, 62]⟩, .string ⟨#[60, 47, 105, 62]⟩, .string ⟨#[97, 108, 116, 61]⟩, .string ⟨#[116, 105, 116, 108, 101, 61, 39, 120, 32, 121, 39]⟩, .string ⟨#[99, 108, 97, 115, 115, 61, 113]⟩, .string ⟨#[32]⟩, .string ⟨#[10]⟩, .string ⟨#[60, 33, 45, 45]⟩, .string ⟨#[45, 45, 62]⟩, .string ⟨#[60, 115, 99, 114, 105, 112, 116, 62]⟩, .string ⟨#[60, 47, 115, 99, 114, 105, 112, 116, 62]⟩, .string ⟨#[60, 116, 105, 116, 108, 101, 62]⟩, .string ⟨#[60, 47, 116, 105, 116, 108, 101, 62]⟩, .string ⟨#[119, 111, 114, 100]⟩, .string ⟨#[62]⟩, .string ⟨#[34]⟩] 9 (0, 0))).alloc (.cells #[.string ⟨#[60, 66, 32]⟩, .string ⟨#[60, 73, 62]⟩, .string ⟨#[60, 47, 73, 62]⟩, .string ⟨#[65, 76, 84, 61]⟩, .string ⟨#[84, 73, 84, 76, 69, 61, 39, 88, 32, 89, 39]⟩, .string ⟨#[67, 76, 65, 83, 83, 61, 81]⟩, .string ⟨#[32]⟩, .string ⟨#[10]⟩, .string ⟨#[60, 33, 45, 45]⟩, .string ⟨#[45, 45, 62]⟩, .string ⟨#[60, 83, 67, 82, 73, 80, 84, 62]⟩, .string ⟨#[60, 47, 83, 67, 82, 73, 80, 84, 62]⟩, .string ⟨#[60, 84, 73, 84, 76, 69, 62]⟩, .string ⟨#[60, 47, 84, 73, 84, 76, 69, 62]⟩, .string ⟨#[87, 79, 82, 68]⟩, .string ⟨#[62]⟩, .string ⟨#[34]⟩] 9 (0, 0))) (some ⟨w1.heap.size, 0, none⟩) grS.length grS ∧ Kd.C Kd.string ((w1.alloc (.cells #[.string ⟨#[60, 98, 32]⟩, .string ⟨#[60, 105, 62]⟩, .string ⟨#[60, 47, 105, 62]⟩, .string ⟨#[97, 108, 116, 61]⟩, .string ⟨#[116, 105, 116, 108, 101, 61, 39, 120, 32, 121, 39]⟩, .string ⟨#[99, 108, 97, 115, 115, 61, 113]⟩, .string ⟨#[32]⟩, .string ⟨#[10]⟩, .string ⟨#[60, 33, 45, 45]⟩, .string ⟨#[45, 45, 62]⟩, .string ⟨#[60, 115, 99, 114, 105, 112, 116, 62]⟩, .string ⟨#[60, 47, 115, 99, 114, 105, 112, 116, 62]⟩, .string ⟨#[60, 116, 105, 116, 108, 101, 62]⟩, .string ⟨#[60, 47, 116, 105, 116, 108, 101, 62]⟩, .string ⟨#[119, 111, 114, 100]⟩, .string ⟨#[62]⟩, .string ⟨#[34]⟩] 9 (0, 0))).alloc (.cells #[.string ⟨#[60, 66, 32]⟩, .string ⟨#[60, 73, 62]⟩, .string ⟨#[60, 47, 73, 62]⟩, .string ⟨#[65, 76, 84, 61]⟩, .string ⟨#[84, 73, 84, 76, 69, 61, 39, 88, 32, 89, 39]⟩, .string ⟨#[67, 76, 65, 83, 83, 61, 81]⟩, .string ⟨#[32]⟩, .string ⟨#[10]⟩, .string ⟨#[60, 33, 45, 45]⟩, .string ⟨#[45, 45, 62]⟩, .string ⟨#[60, 83, 67, 82, 73, 80, 84, 62]⟩, .string ⟨#[60, 47, 83, 67, 82, 73, 80, 84, 62]⟩, .string ⟨#[60, 84, 73, 84, 76, 69, 62]⟩, .string ⟨#[60, 47, 84, 73, 84, 76, 69, 62]⟩, .string ⟨#[87, 79, 82, 68]⟩, .string ⟨#[62]⟩, .string ⟨#[34]⟩] 9 (0, 0))) (some ⟨w1.heap.size + 1, 0, none⟩) grU.length grU ∧ Below w.heap.size w ((w1.alloc (.cells #[.string ⟨#[60, 98, 32]⟩, .string ⟨#[60, 105, 62]⟩, .string ⟨#[60, 47, 105, 62]⟩, .string ⟨#[97, 108, 116, 61]⟩, .string ⟨#[116, 105, 116, 108, 101, 61, 39, 120, 32, 121, 39]⟩, .string ⟨#[99, 108, 97, 115, 115, 61, 113]⟩, .string ⟨#[32]⟩, .string ⟨#[10]⟩, .string ⟨#[60, 33, 45, 45]⟩, .string ⟨#[45, 45, 62]⟩, .string ⟨#[60, 115, 99, 114, 105, 112, 116, 62]⟩, .string ⟨#[60, 47, 115, 99, 114, 105, 112, 116, 62]⟩, .string ⟨#[60, 116, 105, 116, 108, 101, 62]⟩, .string ⟨#[60, 47, 116, 105, 116, 108, 101, 62]⟩, .string ⟨#[119, 111, 114, 100]⟩, .string ⟨#[62]⟩, .string ⟨#[34]⟩] 9 (0, 0))).alloc (.cells #[.string ⟨#[60, 66, 32]⟩, .string ⟨#[60, 73, 62]⟩, .string ⟨#[60, 47, 73, 62]⟩, .string ⟨#[65, 76, 84, 61]⟩, .string ⟨#[84, 73, 84, 76, 69, 61, 39, 88, 32, 89, 39]⟩, .string ⟨#[67, 76, 65, 83, 83, 61, 81]⟩, .string ⟨#[32]⟩, .string ⟨#[10]⟩, .string ⟨#[60, 33, 45, 45]⟩, .string ⟨#[45, 45, 62]⟩, .string ⟨#[60, 83, 67, 82, 73, 80, 84, 62]⟩, .string ⟨#[60, 47, 83, 67, 82, 73, 80, 84, 62]⟩, .string ⟨#[60, 84, 73, 84, 76, 69, 62]⟩, .string ⟨#[60, 47, 84, 73, 84, 76, 69, 62]⟩, .string ⟨#[87, 79, 82, 68]⟩, .string ⟨#[62]⟩, .string ⟨#[34]⟩] 9 (0, 0))) from by
    have e1 : (w1.alloc (.cells #[.string ⟨#[60, 98, 32]⟩, .string ⟨#[60, 105, 62]⟩, .string ⟨#[60, 47, 105, 62]⟩, .string ⟨#[97, 108, 116, 61]⟩, .string ⟨#[116, 105, 116, 108, 101, 61, 39, 120, 32, 121, 39]⟩, .string ⟨#[99, 108, 97, 115, 115, 61, 113]⟩, .string ⟨#[32]⟩, .string ⟨#[10]⟩, .string ⟨#[60, 33, 45, 45]⟩, .string ⟨#[45, 45, 62]⟩, .string ⟨#[60, 115, 99, 114, 105, 112, 116, 62]⟩, .string ⟨#[60, 47, 115, 99, 114, 105, 112, 116, 62]⟩, .string ⟨#[60, 116, 105, 116, 108, 101, 62]⟩, .string ⟨#[60, 47, 116, 105, 116, 108, 101, 62]⟩, .string ⟨#[119, 111, 114, 100]⟩, .string ⟨#[62]⟩, .string ⟨#[34]⟩] 9 (0, 0))).heap.size = w1.heap.size + 1 := by simp
    refine ⟨Kd.C_below (strs_C w1 9 (0, 0) grS (by decide)) (below_alloc (Below.refl _ _) _), ?_, below_alloc (below_alloc HW.out _) _⟩
    have := strs_C (w1.alloc (.cells #[.string ⟨#[60, 98, 32]⟩, .string ⟨#[60, 105, 62]⟩, .string ⟨#[60, 47, 105, 62]⟩, .string ⟨#[97, 108, 116, 61]⟩, .string ⟨#[116, 105, 116, 108, 101, 61, 39, 120, 32, 121, 39]⟩, .string ⟨#[99, 108, 97, 115, 115, 61, 113]⟩, .string ⟨#[32]⟩, .string ⟨#[10]⟩, .string ⟨#[60, 33, 45, 45]⟩, .string ⟨#[45, 45, 62]⟩, .string ⟨#[60, 115, 99, 114, 105, 112, 116, 62]⟩, .string ⟨#[60, 47, 115, 99, 114, 105, 112, 116, 62]⟩, .string ⟨#[60, 116, 105, 116, 108, 101, 62]⟩, .string ⟨#[60, 47, 116, 105, 116, 108, 101, 62]⟩, .string ⟨#[119, 111, 114, 100]⟩, .string ⟨#[62]⟩, .string ⟨#[34]⟩] 9 (0, 0))) 9 (0, 0) grU (by decide)
    rw [e1] at this
    exact this)
  generalize hw2 : (w1.alloc (.cells #[.string ⟨#[60, 98, 32]⟩, .string ⟨#[60, 105, 62]⟩, .string ⟨#[60, 47, 105, 62]⟩, .string ⟨#[97, 108, 116, 61]⟩, .string ⟨#[116, 105, 116, 108, 101, 61, 39, 120, 32, 121, 39]⟩, .string ⟨#[99, 108, 97, 115, 115, 61, 113]⟩, .string ⟨#[32]⟩, .string ⟨#[10]⟩, .string ⟨#[60, 33, 45, 45]⟩, .string ⟨#[45, 45, 62]⟩, .string ⟨#[60, 115, 99, 114, 105, 112, 116, 62]⟩, .string ⟨#[60, 47, 115, 99, 114, 105, 112, 116, 62]⟩, .string ⟨#[60, 116, 105, 116, 108, 101, 62]⟩, .string ⟨#[60, 47, 116, 105, 116, 108, 101, 62]⟩, .string ⟨#[119, 111, 114, 100]⟩, .string ⟨#[62]⟩, .string ⟨#[34]⟩] 9 (0, 0))).alloc (.cells #[.string ⟨#[60, 66, 32]⟩, .string ⟨#[60, 73, 62]⟩, .string ⟨#[60, 47, 73, 62]⟩, .string ⟨#[65, 76, 84, 61]⟩, .string ⟨#[84, 73, 84, 76, 69, 61, 39, 88, 32, 89, 39]⟩, .string ⟨#[67, 76, 65, 83, 83, 61, 81]⟩, .string ⟨#[32]⟩, .string ⟨#[10]⟩, .string ⟨#[60, 33, 45, 45]⟩, .string ⟨#[45, 45, 62]⟩, .string ⟨#[60, 83, 67, 82, 73, 80, 84, 62]⟩, .string ⟨#[60, 47, 83, 67, 82, 73, 80, 84, 62]⟩, .string ⟨#[60, 84, 73, 84, 76, 69, 62]⟩, .string ⟨#[60, 47, 84, 73, 84, 76, 69, 62]⟩, .string ⟨#[87, 79, 82, 68]⟩, .string ⟨#[62]⟩, .string ⟨#[34]⟩] 9 (0, 0)) = w2 at *
  clear hw2 HW
  have kcv := Lib.run_convert_bytes_const (P := Try.prog) w2 22 5 #[.int .u8 97] 1 1 Try.underlying22 Try.underlying5
  have HL := Lib.hid (lit_C w2 5 (1, 2) [97] (by simp))
  have HLb := Lib.hid (below_alloc (Below.refl w2.heap.size w2) (.cells #[.int .u8 97] 5 (1, 2)))
  go_wp2_with fail
  refine (bits_any (some ⟨w1.heap.size, 0, none⟩) 17 grS A0 c0 l0 (some ⟨w2.heap.size, 0, none⟩) 1 [97] _ (by decide) (by decide) HH.out.2.2.2 (by intro z hz; simp at hz; omega) (by simp) hm0 (Kd.C_below HP.out.1 HLb.out) (by decide) (Kd.C_below HH.out.2.1 (below_step HP.out.2.2 HLb.out)) HH.out.2.2.1 HL.out (by simp)).mono ?_
  rintro e w3 ⟨A3, c3, rfl, hl3, hc3, hC3, hb3⟩
  have hsame := gr_same l0
  have hy1 := btx_bys grS [97] l0 (by intro z hz; simp at hz; omega)
  have hy2 := btx_bys grU [65] l0 (by intro z hz; simp at hz; omega)
  have HSame := Lib.hid (And.intro hsame (And.intro hy1 hy2))
  clear hsame hy1 hy2
  generalize hxx1 : btx grS [97] l0 = x1 at *
  have hb23 : Below w2.heap.size w2 w3 := below_step HLb.out hb3
  obtain ⟨v4, w4, hr4, ho4, hg4⟩ := Ob.append (⟨World.ownsRow_nil _ _ _ _, below_step HP.out.2.2 hb23⟩ : Ob w w3 (.slice none 0 0) []) A3 x1.length c3 x1 hC3 (by simp; omega) 22
  obtain ⟨A4, c4, rfl, hc4, hC4⟩ := ho4.form
  rw [List.nil_append] at hr4 ho4 hc4 hC4
  have hb24 : Below w2.heap.size w2 w4 := hb23.grown hg4 hb23.size (fun k hk => by cases hk)
  have H4 := Lib.hid (And.intro hC4 (And.intro ho4.bel (Kd.C_below HP.out.2.1 hb24)))
  have kcv2 := Lib.run_convert_bytes_const (P := Try.prog) w4 22 5 #[.int .u8 65] 1 1 Try.underlying22 Try.underlying5
  have HL2 := Lib.hid (lit_C w4 5 (1, 2) [65] (by simp))
  have HLb2 := Lib.hid (below_alloc (Below.refl w4.heap.size w4) (.cells #[.int .u8 65] 5 (1, 2)))
  clear hC4 ho4 hg4 hb24 hb23 hb3 hC3 hc3 kcv HL HLb HP hxx1
  go_wp2_with (at_builtin; refine appG_ rfl _ _ 22 22 rfl (.slice none 0 0) (.slice A3 x1.length c3) rfl rfl hr4 ?_)
  refine (bits_any (some ⟨w1.heap.size + 1, 0, none⟩) 17 grU A0 c0 l0 (some ⟨w4.heap.size, 0, none⟩) 1 [65] _ (by decide) (by decide) HH.out.2.2.2 (by intro z hz; simp at hz; omega) (by simp) hm0 (Kd.C_below H4.out.2.2 HLb2.out) (by decide) (Kd.C_below HH.out.2.1 (below_step H4.out.2.1 HLb2.out)) HH.out.2.2.1 HL2.out (by simp)).mono ?_
  rintro e w5 ⟨A5, c5, rfl, hl5, hc5, hC5, hb5⟩
  generalize hxx2 : btx grU [65] l0 = x2 at *
  have hb45 : Below w4.heap.size w4 w5 := below_step HLb2.out hb5
  obtain ⟨v6, w6, hr6, ho6, hg6⟩ := Ob.append (⟨World.ownsRow_nil _ _ _ _, below_step H4.out.2.1 hb45⟩ : Ob w w5 (.slice none 0 0) []) A5 x2.length c5 x2 hC5 (by simp; omega) 22
  obtain ⟨A6, c6, rfl, hc6, hC6⟩ := ho6.form
  rw [List.nil_append] at hr6 ho6 hc6 hC6
  have hb46 : Below w4.heap.size w4 w6 := hb45.grown hg6 hb45.size (fun k hk => by cases hk)
  have H6 := Lib.hid (And.intro (Kd.C_below H4.out.1 hb46) (And.intro hC6 ho6.bel))
  clear hC6 ho6 hg6 hb46 hb45 hb5 hC5 hc5 kcv2 HL2 HLb2 H4 hxx2 hr4
  go_wp2_with (at_builtin; refine appG_ rfl _ _ 22 22 rfl (.slice none 0 0) (.slice A5 x2.length c5) rfl rfl hr6 ?_)
  refine (lex_any A4 x1.length c4 x1 _ H6.out.1 hc4 HSame.out.2.1 (by omega) (HH.out.1.below H6.out.2.2)).mono ?_
  rintro e w7 ⟨g, k, rfl, hs7, hb7, _, _⟩
  have H7 := Lib.hid (And.intro hs7 (And.intro (Kd.C_below H6.out.2.1 hb7) (below_step H6.out.2.2 hb7)))
  clear hs7 hb7 H6 hr6
  go_wp2_with fail
  refine (lex_any A6 x2.length c6 x2 _ H7.out.2.1 hc6 HSame.out.2.2 (by omega) (HH.out.1.below H7.out.2.2)).mono ?_
  rintro e w8 ⟨g2, k2, rfl, hs8, hb8, _, _⟩
  have hs8' := hs8
  rw [← HSame.out.1] at hs8'
  have H8 := Lib.hid (And.intro (H7.out.1.below hb8) (And.intro hs8' (below_step H7.out.2.2 hb8)))
  clear hs8 hs8' hb8 H7
  go_wp2_with fail
  refine (segs_any g k _ _ H8.out.1).mono ?_
  rintro e w9 ⟨v9, rfl, ho9, hb9⟩
  have H9 := Lib.hid (And.intro (H8.out.2.1.below hb9) (And.intro ho9 (below_step H8.out.2.2 hb9)))
  clear ho9 hb9 H8
  obtain ⟨A9, c9, rfl⟩ := own_form H9.out.2.1
  go_wp2_with fail
  refine (segs_any g2 k2 _ _ H9.out.1).mono ?_
  rintro e w10 ⟨v10, rfl, ho10, hb10⟩
  obtain ⟨A10, c10, e10, hc10, hQ10⟩ := own_Q ho10
  obtain ⟨A11, c11, e11, hc11, hQ11⟩ := own_Q (pw_own_below H9.out.2.1 hb10)
  have hsl : (segsOf (lexL x1)).length ≤ 1000000 := by
    have := (segsTo_ok (lexL x1) (lexL x1).length).1
    have hl := lexL_len x1
    unfold segsOf
    omega
  have H10 := Lib.hid (And.intro hQ10 (And.intro hQ11 (And.intro hsl (below_step H9.out.2.2 hb10))))
  rw [e11, e10]
  clear ho10 hb10 hQ10 hQ11 H9 hsl
  go_wp2_with fail
  refine (same_anyP A11 A10 c11 c10 (segsOf (lexL x1)) _ H10.out.2.2.1 H10.out.2.1 H10.out.1 hc11 hc10).mono ?_
  rintro e w11 ⟨rfl, n11, rfl⟩
  go_wp2_with fail
  go_ret
  exact ⟨rfl, pw_below_drewN H10.out.2.2.2 _⟩
end Go.Proofs.Ytcbibbdkjhkmoaa.H
namespace Go.Proofs.Ytcbibbdkjhkmoaa.Wk.HtmlGreat
open Go.RowKit Go.Proofs.YtcbibbdkjhkmoaaW.PrintWords Go.Proofs.Ytcbibbdkjhkmoaa.S Go.Proofs.Ytcbibbdkjhkmoaa.H
theorem walk (A0 : Option Addr) (c0 : Nat) (l0 : List Int) (w : World) (hM : Mx w) (hr0 : Kd.C (Kd.int .u8) w A0 l0.length l0) (hc0 : l0.length ≤ c0) (hg0 : Bys l0 ∧ l0.length ≤ 140737488351232) :
    Calls Try.prog 5 #[.slice A0 l0.length c0] w fun e w' => e = .returned (.bool true) ∧ Below w.heap.size w w' :=
  htmlGreat_any A0 c0 l0 w hM hr0 hc0 hg0.1 hg0.2
end Go.Proofs.Ytcbibbdkjhkmoaa.Wk.HtmlGreat
