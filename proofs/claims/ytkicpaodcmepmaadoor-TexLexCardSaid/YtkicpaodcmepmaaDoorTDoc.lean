/- A text that is gone through, in memory: its bytes, its sheet; the tables of names; set, line, until, walked. Conditions: as each lemma says. -/
import Derived.Test.YtkicpaodcmepmaaDoorTIdx
import Derived.Test.YtkicpaodcmepmaaDoorWLast
import Derived.Test.YtkicpaodcmepmaaDoorWMore
import Derived.IntWalk
set_option linter.unusedVariables false
set_option linter.unusedSimpArgs false
namespace Go.Proofs.YtkicpaodcmepmaaDoor.T
open Go.RowKit Go.Proofs.YtkicpaodcmepmaaDoorW.PrintWords Go.Proofs.YtkicpaodcmepmaaDoorW.PrintMore Go.Proofs.YtkicpaodcmepmaaDoorW.PrintLast Go.Proofs.YtkicpaodcmepmaaDoor.L Go.Proofs.YtkicpaodcmepmaaDoor.S Go.Proofs.YtkicpaodcmepmaaDoor.Tex

/-- The tables of names, in memory. -/
structure Tb (W : World) (a1 a2 : Option Addr) (c1 c2 : Nat) : Prop where
  t1 : W.cell? ⟨0, 0, none⟩ = some (.slice a1 13 c1)
  r1 : Kd.C Kd.string W a1 13 (bareN.map strOfNums)
  t2 : W.cell? ⟨1, 0, none⟩ = some (.slice a2 6 c2)
  r2 : Kd.C Kd.string W a2 6 (wholeN.map strOfNums)
  mx : Mx W
section
variable {W W' : World} {a1 a2 : Option Addr} {c1 c2 : Nat}
theorem Tb.below (h : Tb W a1 a2 c1 c2) (hb : Below W.heap.size W W') : Tb W' a1 a2 c1 c2 :=
  ⟨(hb.cell (p := ⟨0, 0, none⟩) (by have := h.mx.1; simp; omega)).trans h.t1, Kd.C_below h.r1 hb, (hb.cell (p := ⟨1, 0, none⟩) (by have := h.mx.1; simp; omega)).trans h.t2, Kd.C_below h.r2 hb, h.mx.below hb⟩
end
structure Env where
  bl : Nat
  of : Nat
  a1 : Option Addr
  a2 : Option Addr
  c : Nat
  c1 : Nat
  c2 : Nat
  b : List Int
  d : Nat
  g : Nat
  k : Nat
  w0 : World
structure Env.Ok (E : Env) : Prop where
  bytes : Kd.C (Kd.int .u8) E.w0 (some (⟨E.bl, E.of, none⟩ : Addr)) E.b.length E.b
  cap : E.b.length ≤ E.c
  max : E.b.length ≤ 65536
  bys : Bys E.b
  lk : E.w0.heap.size ≤ E.k
  lg : E.w0.heap.size ≤ E.g
  ld : E.w0.heap.size ≤ E.d
  tb : Tb E.w0 E.a1 E.a2 E.c1 E.c2
def docC (E : Env) : Array Value := #[.pointer (some ⟨E.g, 0, none⟩), .slice (some (⟨E.bl, E.of, none⟩ : Addr)) E.b.length E.c]
/-- The document lies so in W, its labels are L. -/
structure Env.In (E : Env) (W : World) (L : List Int) : Prop where
  ok : E.Ok
  doc : W.heap[E.d]? = some (.cells (docC E) 48 (0, 0))
  sheet : Sheet W E.g E.k L
  bel : Below E.w0.heap.size E.w0 W
  len : L.length = E.b.length
section
variable {E : Env} {W W' : World} {L L' : List Int}
theorem Env.In.dk (h : E.In W L) : E.d ≠ E.k := blk_ne h.doc h.sheet.2.1 (by decide)
theorem Env.In.below (h : E.In W L) (hb : Below W.heap.size W W') : E.In W' L := ⟨h.ok, blk_below h.doc hb, h.sheet.below hb, below_step h.bel hb, h.len⟩
theorem Env.In.drewN (h : E.In W L) (n : Nat) : E.In (W.drewN n) L := ⟨h.ok, h.doc, h.sheet, pw_below_drewN h.bel n, h.len⟩
theorem Env.In.drew (h : E.In W L) : E.In W.drew L := ⟨h.ok, h.doc, h.sheet, below_drew1 h.bel, h.len⟩
theorem Env.In.set (h : E.In W L) (hs : Sheet W' E.g E.k L') (hg : W.grownBy W' (some E.k)) (hl : L'.length = L.length) : E.In W' L' :=
  ⟨h.ok, blk_grown h.doc hg (by intro e; injection e with e; exact h.dk e), hs, below_grown h.bel h.ok.lk hg, hl.trans h.len⟩
theorem Env.In.bytes (h : E.In W L) : Kd.C (Kd.int .u8) W (some (⟨E.bl, E.of, none⟩ : Addr)) E.b.length E.b := Kd.C_below h.ok.bytes h.bel
theorem Env.In.tb (h : E.In W L) : Tb W E.a1 E.a2 E.c1 E.c2 := h.ok.tb.below h.bel
theorem Env.In.c0 (h : E.In W L) : W.cell? ⟨E.d, 0, none⟩ = some (.pointer (some ⟨E.g, 0, none⟩)) := (blk_cell h.doc 0).trans rfl
theorem Env.In.c1 (h : E.In W L) : W.cell? ⟨E.d, 1, none⟩ = some (.slice (some (⟨E.bl, E.of, none⟩ : Addr)) E.b.length E.c) := (blk_cell h.doc 1).trans rfl
/-- A byte's cell. -/
theorem Env.In.at_ (h : E.In W L) (i : Nat) (hi : i < E.b.length) : W.cell? ⟨E.bl, E.of + i, none⟩ = some (.int .u8 (E.b.getD i 0)) := by
  obtain ⟨ad, e, hc⟩ := Kd.at_int h.bytes (i : Int) (by omega) (by omega)
  injection e with e
  subst e
  rw [Int.toNat_natCast, Lib.add_plain'] at hc
  exact hc
theorem Env.In.byte (h : E.In W L) (i : Nat) (hi : i < E.b.length) : 0 ≤ E.b.getD i 0 ∧ E.b.getD i 0 < 256 := by
  refine h.ok.bys _ ?_
  rw [List.getD_eq_getElem?_getD, List.getElem?_eq_getElem hi]
  exact List.getElem_mem hi
/-- The bytes from a place on. -/
theorem Env.In.from_ (h : E.In W L) (p : Nat) (hp : p ≤ E.b.length) (A2 : Option Addr) (hA : (if E.c = p then some (⟨E.bl, E.of, none⟩ : Addr) else some ((⟨E.bl, E.of, none⟩ : Addr).add (p * 1))) = A2) : Kd.C (Kd.int .u8) W A2 (E.b.length - p) (E.b.drop p) := by
  have := Kd.C_drop h.bytes hp h.ok.cap
  rw [List.length_drop] at this
  rw [← hA]
  refine (show (if E.c = p then some (⟨E.bl, E.of, none⟩ : Addr) else Option.map (fun x => x.add (p * 1)) (some (⟨E.bl, E.of, none⟩ : Addr))) = (if E.c = p then some (⟨E.bl, E.of, none⟩ : Addr) else some ((⟨E.bl, E.of, none⟩ : Addr).add (p * 1))) from rfl) ▸ this
end
theorem put_any (E : Env) (W : World) (L : List Int) (l p q : Int) (h : E.In W L) :
    Calls Tryd.prog 36 #[.pointer (some ⟨E.g, 0, none⟩), .int .u8 l, .int .i64 p, .int .i64 q] W fun e w' => e = .returned (.tuple #[]) ∧ E.In w' (setL L l p q) := by
  refine (set_any E.g E.k L l p q W h.sheet).mono ?_
  rintro e w' ⟨rfl, hs, hg⟩
  exact ⟨rfl, h.set hs hg (setL_length _ _ _ _)⟩
theorem dset_any (E : Env) (W : World) (L : List Int) (l p q : Int) (h : E.In W L) :
    Calls Tryd.prog 24 #[.pointer (some ⟨E.d, 0, none⟩), .int .u8 l, .int .i64 p, .int .i64 q] W fun e w' => e = .returned (.int .i64 q) ∧ E.In w' (setL L l p q) := by
  have c0 := h.c0
  have H := Lib.hid h
  clear h
  go_enter Tryd.func24, Tryd.ntmps24
  go_wp2_with fail
  refine (put_any E _ L l p q H.out).mono ?_
  rintro e w1 ⟨rfl, h1⟩
  have H1 := Lib.hid h1
  clear h1
  go_wp2_with fail
  go_ret
  exact ⟨rfl, H1.out⟩
theorem line_any (E : Env) (W : World) (L : List Int) (p : Nat) (h : E.In W L) (hp : p ≤ E.b.length) :
    Calls Tryd.prog 25 #[.pointer (some ⟨E.d, 0, none⟩), .int .i64 p] W fun e w' => e = .returned (.int .i64 (lineE E.b p : Nat)) ∧ w' = W := by
  have hcap := h.ok.cap
  have hmax := h.ok.max
  have c1 := h.c1
  have hfl := List.findIdx_le_length (p := fun x : Int => x == 10) (xs := E.b.drop p)
  rw [List.length_drop] at hfl
  have hidx : idx (E.b.drop p) 10 = if (E.b.drop p).findIdx (· == 10) < E.b.length - p then ((E.b.drop p).findIdx (· == 10) : Int) else -1 := by unfold idx; rw [List.length_drop]
  have hle : lineE E.b p = if (E.b.drop p).findIdx (· == 10) < E.b.length - p then p + (E.b.drop p).findIdx (· == 10) + 1 else E.b.length := rfl
  obtain ⟨i0, hi0, _, hsz, _⟩ := info_parts info5
  have hct := cut_from (P := Tryd.prog) 22 5 .i64 Tryd.underlying22 hi0 1 hsz (some (⟨E.bl, E.of, none⟩ : Addr)) E.b.length E.c (p : Int) (by omega) (by omega)
  simp only [Int.toNat_natCast, Option.map_some] at hct
  generalize hA2 : (if E.c = p then some (⟨E.bl, E.of, none⟩ : Addr) else some ((⟨E.bl, E.of, none⟩ : Addr).add (p * 1))) = A2 at hct
  have HX := Lib.hid (And.intro (h.from_ p hp A2 hA2) (h.ok.bys.drop p))
  have HI := Lib.hid hidx
  have HE := Lib.hid hle
  clear h hA2 hi0 hsz hidx hle
  generalize (E.b.drop p).findIdx (· == 10) = f at *
  go_enter Tryd.func25, Tryd.ntmps25
  by_cases hf : f < E.b.length - p
  · have hi : idx (E.b.drop p) 10 = f := by rw [HI.out, if_pos hf]
    have hl2 : lineE E.b p = p + f + 1 := by rw [HE.out, if_pos hf]
    have HIF := Lib.hid (And.intro hi hl2)
    clear hi hl2
    go_wp2_with fail
    refine (index_any A2 _ _ (E.b.drop p) 10 _ HX.out.1 HX.out.2 (by omega)).mono ?_
    rw [HIF.out.1]
    rintro e w' ⟨rfl, rfl⟩
    go_wp2_with fail
    go_ret
    exact ⟨by rw [HIF.out.2]; rfl, rfl⟩
  · have hi : idx (E.b.drop p) 10 = -1 := by rw [HI.out, if_neg hf]
    have hl2 : lineE E.b p = E.b.length := by rw [HE.out, if_neg hf]
    have HIF := Lib.hid (And.intro hi hl2)
    clear hi hl2
    go_wp2_with fail
    refine (index_any A2 _ _ (E.b.drop p) 10 _ HX.out.1 HX.out.2 (by omega)).mono ?_
    rw [HIF.out.1]
    rintro e w' ⟨rfl, rfl⟩
    go_wp2_with fail
    go_ret
    exact ⟨by rw [HIF.out.2]; rfl, rfl⟩
set_option maxHeartbeats 1000000 in
theorem until_any (E : Env) (W : World) (L : List Int) (p : Nat) (s : ByteArray) (h : E.In W L) (hp : p ≤ E.b.length) (hs : 1 ≤ s.size) (hs2 : s.size ≤ 60) :
    Calls Tryd.prog 43 #[.pointer (some ⟨E.d, 0, none⟩), .int .i64 p, .string s] W fun e w' => e = .returned (.int .i64 (untl (bytesOf s) E.b p : Nat)) ∧ Below W.heap.size W w' := by
  have hcap := h.ok.cap
  have hmax := h.ok.max
  have kc := fun W => print_bytes (P := Tryd.prog) 9 22 5 Tryd.underlying9 Tryd.underlying22 Tryd.underlying5 s W
  obtain ⟨i0, hi0, _, hsz, _⟩ := info_parts info5
  have hct := cut_from (P := Tryd.prog) 22 5 .i64 Tryd.underlying22 hi0 1 hsz (some (⟨E.bl, E.of, none⟩ : Addr)) E.b.length E.c (p : Int) (by omega) (by omega)
  simp only [Int.toNat_natCast, Option.map_some] at hct
  obtain ⟨a2, hA2⟩ : ∃ a2, (if E.c = p then some (⟨E.bl, E.of, none⟩ : Addr) else some ((⟨E.bl, E.of, none⟩ : Addr).add (p * 1))) = some a2 := by
    split
    · exact ⟨_, rfl⟩
    · exact ⟨_, rfl⟩
  rw [hA2] at hct
  have HBB := Lib.hid (show Below W.heap.size W (Lib.bytesWorld W 5 s) from bytes_below (Below.refl _ _) (Nat.le_refl _) _ _)
  have HI := Lib.hid (h.below HBB.out)
  have HC := Lib.hid (HI.out.from_ p hp _ hA2)
  have HZ := Lib.hid (show Kd.C (Kd.int .u8) (Lib.bytesWorld W 5 s) (some ⟨W.heap.size, 0, none⟩) s.size (bytesOf s) from Kd.C_of_reads (d := 0) (h1 := fun _ => rfl) (bytes_reads W 5 s (by omega)))
  have HY := Lib.hid (And.intro (h.ok.bys.drop p) (Bys.of s))
  have c1 := h.c1
  have hnle : E.b.length - p ≤ E.c - p := by omega
  have hlen := bytesOf_length s
  clear hA2 hi0 hsz h
  have HU : untl (bytesOf s) E.b p = match fnd (bytesOf s) (E.b.drop p) with | some i => p + i + (bytesOf s).length | none => E.b.length := rfl
  have hfl : ∀ i, fnd (bytesOf s) (E.b.drop p) = some i → i + (bytesOf s).length ≤ (E.b.drop p).length := fun i h => fnd_le _ (by intro e; rw [e] at hlen; simp at hlen; omega) _ i h
  rw [List.length_drop] at hfl
  have HF : fndI (bytesOf s) (E.b.drop p) = match fnd (bytesOf s) (E.b.drop p) with | some i => (i : Int) | none => -1 := rfl
  go_enter Tryd.func43, Tryd.ntmps43
  cases hf : fnd (bytesOf s) (E.b.drop p) with
  | none =>
    rw [hf] at HU HF
    have HU2 := Lib.hid HU
    have HF2 := Lib.hid HF
    clear HU HF hf hfl hlen
    go_wp2_with fail
    refine (bindex_any a2 _ _ _ _ _ (E.b.drop p) (bytesOf s) _ HC.out hnle HZ.out HY.out.1 HY.out.2 (by omega) (by omega) (by omega) HI.out.tb.mx).mono ?_
    rintro e w' ⟨rfl, hb'⟩
    rw [HF2.out]
    have HB' := Lib.hid (below_step HBB.out hb')
    have c1 := (HI.out.below hb').c1
    clear hb'
    go_wp2_with fail
    go_ret
    exact ⟨congrArg (fun n : Nat => Ending.returned (Value.int .i64 n)) HU2.out.symm, HB'.out⟩
  | some i =>
    have hi := hfl i hf
    rw [hf] at HU HF
    rw [hlen] at hi HU
    have HU2 := Lib.hid HU
    have HF2 := Lib.hid HF
    clear HU HF hf hfl hlen
    go_wp2_with fail
    refine (bindex_any a2 _ _ _ _ _ (E.b.drop p) (bytesOf s) _ HC.out hnle HZ.out HY.out.1 HY.out.2 (by omega) (by omega) (by omega) HI.out.tb.mx).mono ?_
    rintro e w' ⟨rfl, hb'⟩
    rw [HF2.out]
    have HB' := Lib.hid (below_step HBB.out hb')
    clear hb'
    go_wp2_with fail
    go_ret
    refine ⟨?_, HB'.out⟩
    rw [HU2.out]
    first | rfl | (simp; done)
/-! ### bytes.HasSuffix -/
theorem suf_drop (m s : List Int) (h : m.length ≤ s.length) : (s.drop (s.length - m.length) == m) = m.isSuffixOf s := by
  rw [Bool.eq_iff_iff, beq_iff_eq, List.isSuffixOf_iff_suffix, List.suffix_iff_eq_drop]
  exact eq_comm
theorem suf_long (m s : List Int) (h : s.length < m.length) : m.isSuffixOf s = false := by
  rw [Bool.eq_false_iff]
  intro e
  rw [List.isSuffixOf_iff_suffix] at e
  have := e.length_le
  omega
theorem suf_any (A0 A1 : Option Addr) (c0 c1 n0 n1 : Nat) (l0 l1 : List Int) (w : World) (h0 : Kd.C (Kd.int .u8) w A0 n0 l0) (hc0 : n0 ≤ c0) (h1 : Kd.C (Kd.int .u8) w A1 n1 l1) (b0 : Bys l0) (b1 : Bys l1) :
    Calls Tryd.prog 44 #[.slice A0 n0 c0, .slice A1 n1 c1] w fun e w' => e = .returned (.bool (l1.isSuffixOf l0)) ∧ w = w' := by
  obtain rfl := h0.1
  obtain rfl := h1.1
  have hm0 := h0.2.1
  have hm1 := h1.2.1
  by_cases hl : l1.length ≤ l0.length
  · obtain ⟨i0, hi0, _, hsz, _⟩ := info_parts info5
    have hsub : (l0.length : Int) - (l1.length : Int) = ((l0.length - l1.length : Nat) : Int) := by omega
    have hct := cut_from (P := Tryd.prog) 22 5 .i64 Tryd.underlying22 hi0 1 hsz A0 l0.length c0 ((l0.length - l1.length : Nat) : Int) (by omega) (by omega)
    simp only [Int.toNat_natCast] at hct
    generalize hA2 : (if c0 = l0.length - l1.length then A0 else Option.map (fun x => x.add ((l0.length - l1.length) * 1)) A0) = A2 at hct
    have hC := Lib.hid (show Kd.C (Kd.int .u8) w A2 (l0.drop (l0.length - l1.length)).length (l0.drop (l0.length - l1.length)) from by
      have := Kd.C_drop h0 (show l0.length - l1.length ≤ l0.length by omega) hc0
      rw [← hA2]
      exact this)
    have H1 := Lib.hid h1
    have hd : decide (l1.length ≤ l0.length) = true := by simpa using hl
    have HE := Lib.hid (suf_drop l1 l0 hl)
    have HL := Lib.hid (show (l0.drop (l0.length - l1.length)).length = l0.length - (l0.length - l1.length) from by rw [List.length_drop])
    clear h0 h1 hi0 hA2
    generalize hx : l0.length - l1.length = x at *
    have hsub : (l0.length : Int) - (l1.length : Int) = (x : Int) := by omega
    clear hx
    go_enter Tryd.func44, Tryd.ntmps44
    go_wp2_with (go_at_call 52; refine (equal_any A2 A1 _ c1 _ _ (l0.drop x) l1 _ (by have := hC.out; rw [HL.out] at this; exact this) H1.out (b0.drop _) b1).mono ?_; rintro e w' ⟨rfl, rfl⟩)
    go_ret
    exact ⟨congrArg (fun b => Ending.returned (Value.bool b)) HE.out, rfl⟩
  · have hd : decide (l1.length ≤ l0.length) = false := by simpa using hl
    have hdI : decide ((l1.length : Int) ≤ (l0.length : Int)) = false := by simpa using hl
    have HE := Lib.hid (suf_long l1 l0 (by omega))
    go_enter Tryd.func44, Tryd.ntmps44
    go_wp2
    go_ret
    exact ⟨congrArg (fun b => Ending.returned (Value.bool b)) HE.out.symm, rfl⟩
end Go.Proofs.YtkicpaodcmepmaaDoor.T
