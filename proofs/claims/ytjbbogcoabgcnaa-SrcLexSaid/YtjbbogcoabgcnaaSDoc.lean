/- A program that is gone through, in memory: its family, its bytes, its sheet. Conditions: none. -/
import Derived.Test.YtjbbogcoabgcnaaSHas
import Derived.Test.YtjbbogcoabgcnaaWLast
import Derived.Test.YtjbbogcoabgcnaaWMore
import Derived.Test.YtjbbogcoabgcnaaLab
import Derived.Test.YtjbbogcoabgcnaaSrcPlain
import Derived.Test.YtjbbogcoabgcnaaPofx0
import Derived.Deep.RegionHeld3
import Derived.Deep.DeepCutAuto
import Derived.Deep.CutBlock
import Derived.IntWalk
set_option linter.unusedVariables false
set_option linter.unusedSimpArgs false
namespace Go.Proofs.Ytjbbogcoabgcnaa.S
open Go.RowKit Go.Proofs.YtjbbogcoabgcnaaW.PrintWords Go.Proofs.YtjbbogcoabgcnaaW.PrintMore Go.Proofs.YtjbbogcoabgcnaaW.PrintLast Go.Proofs.Ytjbbogcoabgcnaa.L

attribute [local go_sem] max2_int min2_int max_two min_two
abbrev Tb := Pof.S75
/-- A family as the code has it. -/
structure Fb where
  line : List ByteArray
  opn : ByteArray
  shut : ByteArray
  nest : Bool
  apart : Bool
  texts : List Tb
def txOf (t : Tb) : Src.Tx := ⟨bytesOf t.f0, t.f1, t.f2, t.f3, t.f4⟩
def Fb.fam (F : Fb) : Src.Fam := ⟨F.line.map bytesOf, bytesOf F.opn, bytesOf F.shut, F.nest, F.apart, F.texts.map txOf⟩
structure Env where
  F : Fb
  A1 : Option Addr
  A6 : Option Addr
  A : Option Addr
  c1 : Nat
  c6 : Nat
  c : Nat
  b : List Int
  d : Nat
  g : Nat
  k : Nat
  w0 : World
structure Env.Ok (E : Env) : Prop where
  line : Kd.C Kd.string E.w0 E.A1 E.F.line.length E.F.line
  texts : Kd.C Pof.k75 E.w0 E.A6 E.F.texts.length E.F.texts
  bytes : Kd.C (Kd.int .u8) E.w0 E.A E.b.length E.b
  cap : E.b.length ≤ E.c
  max : E.b.length ≤ 65536
  bys : Bys E.b
  lk : E.w0.heap.size ≤ E.k
  lg : E.w0.heap.size ≤ E.g
  ld : E.w0.heap.size ≤ E.d
  mo : E.F.opn.size ≤ 3
  ms : E.F.shut.size ≤ 3
  ml : ∀ m ∈ E.F.line, m.size ≤ 3
  mt : ∀ t ∈ E.F.texts, t.f0.size ≤ 3
  ln : 0 < E.F.line.length
  tn : 0 < E.F.texts.length
  mxl : E.F.line.length ≤ 9
  mxt : E.F.texts.length ≤ 9
def docC (E : Env) : Array Value := #[.pointer (some ⟨E.g, 0, none⟩), .slice E.A1 E.F.line.length E.c1, .string E.F.opn, .string E.F.shut, .bool E.F.nest, .bool E.F.apart, .slice E.A6 E.F.texts.length E.c6, .slice E.A E.b.length E.c]
/-- The document lies so in W, its labels are L. -/
structure Env.In (E : Env) (W : World) (L : List Int) : Prop where
  ok : E.Ok
  doc : W.heap[E.d]? = some (.cells (docC E) 60 (0, 0))
  sheet : Sheet W E.g E.k L
  bel : Below E.w0.heap.size E.w0 W
  len : L.length = E.b.length
section
variable {E : Env} {W W' : World} {L L' : List Int}
theorem Env.In.dk (h : E.In W L) : E.d ≠ E.k := blk_ne h.doc h.sheet.2.1 (by decide)
theorem Env.In.below (h : E.In W L) (hb : Below W.heap.size W W') : E.In W' L := ⟨h.ok, blk_below h.doc hb, h.sheet.below hb, below_step h.bel hb, h.len⟩
theorem Env.In.alloc (h : E.In W L) (o : Obj) : E.In (W.alloc o) L := ⟨h.ok, blk_alloc h.doc o, h.sheet.alloc o, below_alloc h.bel o, h.len⟩
theorem Env.In.drewN (h : E.In W L) (n : Nat) : E.In (W.drewN n) L := ⟨h.ok, h.doc, h.sheet, pw_below_drewN h.bel n, h.len⟩
theorem Env.In.drew (h : E.In W L) : E.In W.drew L := ⟨h.ok, h.doc, h.sheet, below_drew1 h.bel, h.len⟩
theorem Env.In.set (h : E.In W L) (hs : Sheet W' E.g E.k L') (hg : W.grownBy W' (some E.k)) (hl : L'.length = L.length) : E.In W' L' :=
  ⟨h.ok, blk_grown h.doc hg (by intro e; injection e with e; exact h.dk e), hs, below_grown h.bel h.ok.lk hg, hl.trans h.len⟩
/-- So, and what was in W is as it was. -/
def Env.Be (E : Env) (W : World) (L : List Int) (W' : World) : Prop := E.In W' L ∧ Below W.heap.size W W'
theorem Env.In.cell (h : E.In W L) (i : Nat) : W.cell? ⟨E.d, i, none⟩ = (docC E)[i]? := blk_cell h.doc i
theorem Env.In.bytes (h : E.In W L) : Kd.C (Kd.int .u8) W E.A E.b.length E.b := Kd.C_below h.ok.bytes h.bel
theorem Env.In.line (h : E.In W L) : Kd.C Kd.string W E.A1 E.F.line.length E.F.line := Kd.C_below h.ok.line h.bel
theorem Env.In.texts (h : E.In W L) : Kd.C Pof.k75 W E.A6 E.F.texts.length E.F.texts := Kd.C_below h.ok.texts h.bel
theorem Env.In.c0 (h : E.In W L) : W.cell? ⟨E.d, 0, none⟩ = some (.pointer (some ⟨E.g, 0, none⟩)) := (h.cell 0).trans rfl
theorem Env.In.c1 (h : E.In W L) : W.cell? ⟨E.d, 1, none⟩ = some (.slice E.A1 E.F.line.length E.c1) := (h.cell 1).trans rfl
theorem Env.In.c2 (h : E.In W L) : W.cell? ⟨E.d, 2, none⟩ = some (.string E.F.opn) := (h.cell 2).trans rfl
theorem Env.In.c3 (h : E.In W L) : W.cell? ⟨E.d, 3, none⟩ = some (.string E.F.shut) := (h.cell 3).trans rfl
theorem Env.In.c4 (h : E.In W L) : W.cell? ⟨E.d, 4, none⟩ = some (.bool E.F.nest) := (h.cell 4).trans rfl
theorem Env.In.c5 (h : E.In W L) : W.cell? ⟨E.d, 5, none⟩ = some (.bool E.F.apart) := (h.cell 5).trans rfl
theorem Env.In.c6 (h : E.In W L) : W.cell? ⟨E.d, 6, none⟩ = some (.slice E.A6 E.F.texts.length E.c6) := (h.cell 6).trans rfl
theorem Env.In.c7 (h : E.In W L) : W.cell? ⟨E.d, 7, none⟩ = some (.slice E.A E.b.length E.c) := (h.cell 7).trans rfl
/-- A byte's cell. -/
theorem Env.In.at_ (h : E.In W L) (i : Nat) (hi : i < E.b.length) : ∃ ad, E.A = some ad ∧ W.cell? (ad.add i) = some (.int .u8 (E.b.getD i 0)) := by
  obtain ⟨ad, e, hc⟩ := Kd.at_int h.bytes (i : Int) (by omega) (by omega)
  rw [Int.toNat_natCast] at hc
  exact ⟨ad, e, hc⟩
end

/-! ### begins -/
theorem beg_empty (s : ByteArray) (l : List Int) (h : s.size = 0) : Src.beg (bytesOf s) l = false := by
  have : bytesOf s = [] := List.eq_nil_of_length_eq_zero (by rw [bytesOf_length]; exact h)
  rw [this]; rfl
theorem beg_some (s : ByteArray) (l : List Int) (h : 0 < s.size) : Src.beg (bytesOf s) l = (bytesOf s).isPrefixOf l := by
  unfold Src.beg
  cases hb : bytesOf s with
  | nil => have := bytesOf_length s; rw [hb] at this; simp at this; omega
  | cons x m => rfl

set_option maxHeartbeats 1000000 in
theorem begins_any (E : Env) (W : World) (L : List Int) (at_ : Nat) (s : ByteArray) (h : E.In W L) (hat : at_ ≤ E.b.length) (hs : s.size ≤ 6) :
    Calls Try.prog 31 #[.pointer (some ⟨E.d, 0, none⟩), .int .i64 at_, .string s] W fun e w' => e = .returned (.bool (Src.beg (bytesOf s) (E.b.drop at_))) ∧ Below W.heap.size W w' := by
  have hm := h.ok.max
  have hcap := h.ok.cap
  by_cases h0 : s.size = 0
  · have HE := Lib.hid (beg_empty s (E.b.drop at_) h0)
    obtain rfl : s = ⟨#[]⟩ := by
      apply ByteArray.ext
      exact Array.eq_empty_of_size_eq_zero h0
    go_enter Try.func31, Try.ntmps31
    go_wp2_with fail
    go_quiet (fail)
    go_wp2_with fail
    go_ret
    exact ⟨congrArg (fun b => Ending.returned (Value.bool b)) HE.out.symm, pw_below_drewN (Below.refl _ _) _⟩
  · have HE := Lib.hid (beg_some s (E.b.drop at_) (by omega))
    have e1 : s.toList ≠ [] := by
      rw [ByteArray.toList_eq]
      intro e
      exact h0 (by rw [← data_length, e]; rfl)
    have e2 : s.toList.isEmpty = false := by simpa using e1
    have e3 : (s.toList == []) = false := by simpa using e1
    have kc := fun W => print_bytes (P := Try.prog) 9 22 5 Try.underlying9 Try.underlying22 Try.underlying5 s W
    obtain ⟨i0, hi0, _, hsz, _⟩ := info_parts info5
    have hct := cut_from (P := Try.prog) 22 5 .i64 Try.underlying22 hi0 1 hsz E.A E.b.length E.c (at_ : Int) (by omega) (by omega)
    simp only [Int.toNat_natCast] at hct
    generalize hA2 : (if E.c = at_ then E.A else Option.map (fun x => x.add (at_ * 1)) E.A) = A2 at hct
    have HC := Lib.hid (show ∀ W' : World, Kd.C (Kd.int .u8) W' E.A E.b.length E.b → Kd.C (Kd.int .u8) W' A2 (E.b.length - at_) (E.b.drop at_) from by
      intro W' hC
      have := Kd.C_drop hC hat hcap
      rw [List.length_drop] at this
      rw [← hA2]
      exact this)
    have HY := Lib.hid (And.intro (h.ok.bys.drop at_) (Bys.of s))
    have HSz := Lib.hid (show ∀ W' : World, Kd.C (Kd.int .u8) (Lib.bytesWorld W' 5 s) (some ⟨W'.heap.size, 0, none⟩) s.size (bytesOf s) from fun W' => Kd.C_of_reads (d := 0) (h1 := fun _ => rfl) (bytes_reads W' 5 s (by omega)))
    have HT := Lib.hid (show (W.drew.cell? ⟨E.d, 7, none⟩ = some (.slice E.A E.b.length E.c) ∧ Hid (E.Be W L W.drew)) from ⟨h.drew.c7, h.drew, below_drew1 (Below.refl _ _)⟩)
    have HSw := Lib.hid (show ∀ W' : World, (W'.cell? ⟨E.d, 7, none⟩ = some (.slice E.A E.b.length E.c) ∧ Hid (E.Be W L W')) → ((Lib.bytesWorld W' 5 s).cell? ⟨E.d, 7, none⟩ = some (.slice E.A E.b.length E.c) ∧ Hid (E.Be W L (Lib.bytesWorld W' 5 s))) from
      fun W' hS => ⟨(hS.2.out.1.below (bytes_below (Below.refl _ _) (Nat.le_refl _) _ _)).c7, hS.2.out.1.below (bytes_below (Below.refl _ _) (Nat.le_refl _) _ _), below_step hS.2.out.2 (bytes_below (Below.refl _ _) (Nat.le_refl _) _ _)⟩)
    have HB := Lib.hid (show ∀ W' : World, (W'.cell? ⟨E.d, 7, none⟩ = some (.slice E.A E.b.length E.c) ∧ Hid (E.Be W L W')) → Kd.C (Kd.int .u8) W' E.A E.b.length E.b ∧ Below W.heap.size W W' from fun W' hS => ⟨hS.2.out.1.bytes, hS.2.out.2⟩)
    clear hA2 hi0 hsz h0 e1
    have hnle : E.b.length - at_ ≤ E.c - at_ := by omega
    have hn1 : ¬ ((E.b.length : Int) < (at_ : Int)) := by omega
    have hn2 : ¬ (E.b.length < at_) := by omega
    have hi1 : (0 : Int) ≤ (at_ : Int) := by omega
    have hi2 : (at_ : Int) ≤ (E.b.length : Int) := by omega
    go_enter Try.func31, Try.ntmps31
    go_wp2_with fail
    have c7b : (Lib.bytesWorld W.drew 5 s).cell? ⟨E.d, 7, none⟩ = some (.slice E.A E.b.length E.c) := (h.drew.below (bytes_below (Below.refl _ _) (Nat.le_refl _) _ _)).c7
    have HCW := Lib.hid (show Kd.C (Kd.int .u8) (Lib.bytesWorld W.drew 5 s) A2 (E.b.length - at_) (E.b.drop at_) from HC.out _ (h.drew.below (bytes_below (Below.refl _ _) (Nat.le_refl _) _ _)).bytes)
    have HBB := Lib.hid (show Below W.heap.size W (Lib.bytesWorld W.drew 5 s) from bytes_below (below_drew1 (Below.refl _ _)) (Nat.le_refl _) _ _)
    have HZ := Lib.hid (HSz.out W.drew)
    clear HSw HB HT HC HSz
    refine start_ (n := 20) (S := fun w' => w'.cell? ⟨E.d, 7, none⟩ = some (.slice E.A E.b.length E.c)) (ds := []) #[false, false, false, false, false, false, false, false, false, false, false, false, false, false, false, false, false, false, false, false] (by kernel_rfl) rfl rfl (h.drew.c7) (fun hHeld => ?_)
    refine pure_ (i := 0) (N := (some 7)) (v := ?_) (a' := ?_) #[true, false, false, false, false, false, false, false, false, false, false, false, false, false, false, false, false, false, false, false] rfl rfl (by kernel_rfl) (fun _ _ _ h => h) (Or.inl ⟨by rfl, ?_⟩) ?_ ?_
    rotate_left
    · intro w'
      go_simp
      try with_reducible rfl
    rotate_left
    · simp only [Act.put, List.setIfInBounds_toArray, List.set_cons_zero, List.set_cons_succ]
      rfl
    refine pure_ (i := 1) (N := (some 8)) (v := ?_) (a' := ?_) #[true, true, false, false, false, false, false, false, false, false, false, false, false, false, false, false, false, false, false, false] rfl rfl (by kernel_rfl) (fun _ _ _ h => h) (Or.inl ⟨by rfl, ?_⟩) ?_ ?_
    rotate_left
    · intro w'
      go_simp
      try with_reducible rfl
    rotate_left
    · simp only [Act.put, List.setIfInBounds_toArray, List.set_cons_zero, List.set_cons_succ]
      rfl
    refine pure_ (i := 2) (N := (some 9)) (v := ?_) (a' := ?_) #[true, true, true, false, false, false, false, false, false, false, false, false, false, false, false, false, false, false, false, false] rfl rfl (by kernel_rfl) (fun _ _ _ h => h) (Or.inl ⟨by rfl, ?_⟩) ?_ ?_
    rotate_left
    · intro w'
      go_simp
      try with_reducible rfl
    rotate_left
    · simp only [Act.put, List.setIfInBounds_toArray, List.set_cons_zero, List.set_cons_succ]
      rfl
    refine pure_ (i := 3) (N := (some 10)) (v := ?_) (a' := ?_) #[true, true, true, true, false, false, false, false, false, false, false, false, false, false, false, false, false, false, false, false] rfl rfl (by kernel_rfl) (fun _ _ _ h => h) (Or.inl ⟨by rfl, ?_⟩) ?_ ?_
    rotate_left
    · intro w'
      go_simp
      try with_reducible rfl
    rotate_left
    · simp only [Act.put, List.setIfInBounds_toArray, List.set_cons_zero, List.set_cons_succ]
      rfl
    refine pure_ (i := 4) (N := (some 11)) (v := ?_) (a' := ?_) #[true, true, true, true, true, false, false, false, false, false, false, false, false, false, false, false, false, false, false, false] rfl rfl (by kernel_rfl) (fun _ _ _ h => h) (Or.inl ⟨by rfl, ?_⟩) ?_ ?_
    rotate_left
    · intro w'
      go_simp
      try with_reducible rfl
    rotate_left
    · simp only [Act.put, List.setIfInBounds_toArray, List.set_cons_zero, List.set_cons_succ]
      rfl
    refine pure_ (i := 5) (N := (some 12)) (v := ?_) (a' := ?_) #[true, true, true, true, true, true, false, false, false, false, false, false, false, false, false, false, false, false, false, false] rfl rfl (by kernel_rfl) (fun _ _ _ h => h) (Or.inl ⟨by rfl, ?_⟩) ?_ ?_
    rotate_left
    · intro w'
      go_simp
      try with_reducible rfl
    rotate_left
    · simp only [Act.put, List.setIfInBounds_toArray, List.set_cons_zero, List.set_cons_succ]
      rfl
    refine take_ (i := 6) (N := (some 13)) (v := ?_) (a' := ?_) #[true, true, true, true, true, true, true, false, false, false, false, false, false, false, false, false, false, false, false, false] rfl rfl (by kernel_rfl) (fun _ _ _ h => h) (Or.inl ⟨by rfl, ?_⟩) hHeld ?_ ?_
    rotate_left
    · intro w' s0
      go_simp
      try with_reducible rfl
    rotate_left
    · simp only [Act.put, List.setIfInBounds_toArray, List.set_cons_zero, List.set_cons_succ]
      rfl
    refine pure_ (i := 7) (N := (some 14)) (v := ?_) (a' := ?_) #[true, true, true, true, true, true, true, true, false, false, false, false, false, false, false, false, false, false, false, false] rfl rfl (by kernel_rfl) (fun _ _ _ h => h) (Or.inl ⟨by rfl, ?_⟩) ?_ ?_
    rotate_left
    · intro w'
      go_simp
      try with_reducible rfl
    rotate_left
    · simp only [Act.put, List.setIfInBounds_toArray, List.set_cons_zero, List.set_cons_succ]
      rfl
    refine pure_ (i := 8) (N := (some 15)) (v := ?_) (a' := ?_) #[true, true, true, true, true, true, true, true, true, false, false, false, false, false, false, false, false, false, false, false] rfl rfl (by kernel_rfl) (fun _ _ _ h => h) (Or.inl ⟨by rfl, ?_⟩) ?_ ?_
    rotate_left
    · intro w'
      go_simp
      try with_reducible rfl
    rotate_left
    · simp only [Act.put, List.setIfInBounds_toArray, List.set_cons_zero, List.set_cons_succ]
      rfl
    refine pure_ (i := 9) (N := (some 16)) (v := ?_) (a' := ?_) #[true, true, true, true, true, true, true, true, true, true, false, false, false, false, false, false, false, false, false, false] rfl rfl (by kernel_rfl) (fun _ _ _ h => h) (Or.inl ⟨by rfl, ?_⟩) ?_ ?_
    rotate_left
    · intro w'
      go_simp
      try with_reducible rfl
    rotate_left
    · simp only [Act.put, List.setIfInBounds_toArray, List.set_cons_zero, List.set_cons_succ]
      rfl
    refine pure_ (i := 10) (N := (some 17)) (v := ?_) (a' := ?_) #[true, true, true, true, true, true, true, true, true, true, true, false, false, false, false, false, false, false, false, false] rfl rfl (by kernel_rfl) (fun _ _ _ h => h) (Or.inl ⟨by rfl, ?_⟩) ?_ ?_
    rotate_left
    · intro w'
      go_simp
      try with_reducible rfl
    rotate_left
    · simp only [Act.put, List.setIfInBounds_toArray, List.set_cons_zero, List.set_cons_succ]
      rfl
    refine take_ (i := 11) (N := (some 18)) (v := ?_) (a' := ?_) #[true, true, true, true, true, true, true, true, true, true, true, true, false, false, false, false, false, false, false, false] rfl rfl (by kernel_rfl) (fun _ _ _ h => h) (Or.inl ⟨by rfl, ?_⟩) hHeld ?_ ?_
    rotate_left
    · intro w' s0
      go_simp
      try with_reducible rfl
    rotate_left
    · simp only [Act.put, List.setIfInBounds_toArray, List.set_cons_zero, List.set_cons_succ]
      rfl
    refine pure_ (i := 12) (N := (some 19)) (v := ?_) (a' := ?_) #[true, true, true, true, true, true, true, true, true, true, true, true, true, false, false, false, false, false, false, false] rfl rfl (by kernel_rfl) (fun _ _ _ h => h) (Or.inl ⟨by rfl, ?_⟩) ?_ ?_
    rotate_left
    · intro w'
      go_simp
      try with_reducible rfl
    rotate_left
    · simp only [Act.put, List.setIfInBounds_toArray, List.set_cons_zero, List.set_cons_succ]
      rfl
    refine pure_ (i := 13) (N := (some 20)) (v := ?_) (a' := ?_) #[true, true, true, true, true, true, true, true, true, true, true, true, true, true, false, false, false, false, false, false] rfl rfl (by kernel_rfl) (fun _ _ _ h => h) (Or.inl ⟨by rfl, ?_⟩) ?_ ?_
    rotate_left
    · intro w'
      go_simp
      try with_reducible rfl
    rotate_left
    · simp only [Act.put, List.setIfInBounds_toArray, List.set_cons_zero, List.set_cons_succ]
      rfl
    refine pure_ (i := 14) (N := (some 21)) (v := ?_) (a' := ?_) #[true, true, true, true, true, true, true, true, true, true, true, true, true, true, true, false, false, false, false, false] rfl rfl (by kernel_rfl) (fun _ _ _ h => h) (Or.inl ⟨by rfl, ?_⟩) ?_ ?_
    rotate_left
    · intro w'
      go_simp
      try with_reducible rfl
    rotate_left
    · simp only [Act.put, List.setIfInBounds_toArray, List.set_cons_zero, List.set_cons_succ]
      rfl
    refine pure_ (i := 15) (N := (some 22)) (v := ?_) (a' := ?_) #[true, true, true, true, true, true, true, true, true, true, true, true, true, true, true, true, false, false, false, false] rfl rfl (by kernel_rfl) (fun _ _ _ h => h) (Or.inl ⟨by rfl, ?_⟩) ?_ ?_
    rotate_left
    · intro w'
      go_simp
      try with_reducible rfl
    rotate_left
    · simp only [Act.put, List.setIfInBounds_toArray, List.set_cons_zero, List.set_cons_succ]
      rfl
    refine one_ (i := 16) (N := (some 23)) #[true, true, true, true, true, true, true, true, true, true, true, true, true, true, true, true, true, false, false, false] rfl rfl (by kernel_rfl) (by decide) (fun K hK => ?_)
    refine value_ (by rfl) rfl (w1 := Lib.bytesWorld W.drew 5 s) (v := .slice (some ⟨W.drew.heap.size, 0, none⟩) s.size (grownCap W.drew s.size 0 5)) (by unfold execOp; simp [Act.eval, kc]) ?_
    refine hK.out _ _ c7b (fun hHeld => ?_)
    clear hK K
    refine norm_ (a' := ?_) ?_ ?_
    rotate_left
    · show Act.put _ (some 23) _ = _
      simp only [Act.put, List.setIfInBounds_toArray, List.set_cons_zero, List.set_cons_succ]
      rfl
    refine one_ (i := 17) (N := (some 24)) #[true, true, true, true, true, true, true, true, true, true, true, true, true, true, true, true, true, true, false, false] rfl rfl (by kernel_rfl) (by decide) (fun K hK => ?_)
    refine goes_ Try.func36 (by kernel_rfl) rfl #[.slice A2 (E.b.length - at_) (E.c - at_), .slice (some ⟨W.drew.heap.size, 0, none⟩) s.size (grownCap W.drew s.size 0 5)] (by rfl) rfl rfl (by (try simp only [List.map_toArray, List.map_cons, List.map_nil]); first | done | rfl) ?_
    refine (has_any _ _ _ _ _ _ (E.b.drop at_) (bytesOf s) _ HCW.out hnle HZ.out HY.out.1 HY.out.2).mono ?_
    rintro e w' ⟨rfl, rfl⟩
    refine ⟨_, rfl, ?_⟩
    refine hK.out _ _ hHeld (fun hHeld => ?_)
    clear hK K
    refine norm_ (a' := ?_) ?_ ?_
    rotate_left
    · show Act.put _ (some 24) _ = _
      simp only [Act.put, List.setIfInBounds_toArray, List.set_cons_zero, List.set_cons_succ]
      rfl
    refine pure_ (i := 18) (N := (some 25)) (v := ?_) (a' := ?_) #[true, true, true, true, true, true, true, true, true, true, true, true, true, true, true, true, true, true, true, false] rfl rfl (by kernel_rfl) (fun _ _ _ h => h) (Or.inl ⟨by rfl, ?_⟩) ?_ ?_
    rotate_left
    · intro w'
      go_simp
      try with_reducible rfl
    rotate_left
    · simp only [Act.put, List.setIfInBounds_toArray, List.set_cons_zero, List.set_cons_succ]
      rfl
    refine pure_ (i := 19) (N := (some 6)) (v := ?_) (a' := ?_) #[true, true, true, true, true, true, true, true, true, true, true, true, true, true, true, true, true, true, true, true] rfl rfl (by kernel_rfl) (fun _ _ _ h => h) (Or.inl ⟨by rfl, ?_⟩) ?_ ?_
    rotate_left
    · intro w'
      go_simp
      try with_reducible rfl
    rotate_left
    · simp only [Act.put, List.setIfInBounds_toArray, List.set_cons_zero, List.set_cons_succ]
      rfl
    refine done_ (by kernel_rfl) ?_
    go_wp2_with fail
    go_ret
    exact ⟨congrArg (fun b => Ending.returned (Value.bool b)) HE.out.symm, HBB.out⟩
end Go.Proofs.Ytjbbogcoabgcnaa.S
