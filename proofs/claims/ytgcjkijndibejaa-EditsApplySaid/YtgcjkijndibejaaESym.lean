/- slices' stable sort at edits: symMerge. Conditions: as each lemma says. -/
import Derived.Test.YtgcjkijndibejaaERot
import Derived.WalkKit
import Derived.Deep.DeepCutAuto
import Derived.Deep.CutBlock
set_option linter.unusedVariables false
set_option linter.unusedSimpArgs false
namespace Go.Proofs.Ytgcjkijndibejaa.Srt
open Go.Shelf Go.RowKit Go.Lib Go.Sort
variable {P : Program} {α : Type} [Inhabited α]

def bsl (p : Nat → Bool) : Nat → Nat → Nat → Nat
  | 0, i, _ => i
  | f + 1, i, j => if i < j then (if p ((i + j) / 2) = true then bsl p f ((i + j) / 2 + 1) j else bsl p f i ((i + j) / 2)) else i
def shiftU (d : Array α) (a : Nat) : Nat → Array α
  | 0 => d
  | n + 1 => swp (shiftU d a n) (a + n) (a + n + 1)
def shiftD (d : Array α) (m : Nat) : Nat → Array α
  | 0 => d
  | n + 1 => swp (shiftD d m n) (m - n) (m - n - 1)
theorem size_shiftU (d : Array α) (a n : Nat) : (shiftU d a n).size = d.size := by
  induction n with
  | zero => rfl
  | succ n ih => unfold shiftU; rw [size_swp]; exact ih
theorem size_shiftD (d : Array α) (a n : Nat) : (shiftD d a n).size = d.size := by
  induction n with
  | zero => rfl
  | succ n ih => unfold shiftD; rw [size_swp]; exact ih
theorem bsl_go (p : Nat → Bool) (f i j : Nat) (h : i < j) : bsl p (f + 1) i j = if p ((i + j) / 2) = true then bsl p f ((i + j) / 2 + 1) j else bsl p f i ((i + j) / 2) := by
  conv => lhs; unfold bsl
  rw [if_pos h]
theorem bsl_stop (p : Nat → Bool) (f i j : Nat) (h : ¬ i < j) : bsl p f i j = i := by
  cases f with
  | zero => rfl
  | succ f => unfold bsl; rw [if_neg h]
theorem bsl_fuel (p : Nat → Bool) : ∀ (f g i j : Nat), j - i ≤ f → j - i ≤ g → bsl p f i j = bsl p g i j := by
  intro f
  induction f with
  | zero =>
    intro g i j h1 h2
    rw [bsl_stop p 0 i j (by omega), bsl_stop p g i j (by omega)]
  | succ f ih =>
    intro g i j h1 h2
    by_cases h : i < j
    · obtain ⟨g, rfl⟩ : ∃ z, g = z + 1 := ⟨g - 1, by omega⟩
      rw [bsl_go p f i j h, bsl_go p g i j h]
      split
      · exact ih g _ _ (by omega) (by omega)
      · exact ih g _ _ (by omega) (by omega)
    · rw [bsl_stop p _ i j h, bsl_stop p _ i j h]
def symT (rec : Array α → Nat → Nat → Nat → Array α) (d : Array α) (a m b mid st en : Nat) : Array α :=
  let d1 := if st < m ∧ m < en then rotL m (en - st) (m - st) (en - m) d else d
  let d2 := if a < st ∧ st < mid then rec d1 a st mid else d1
  if mid < en ∧ en < b then rec d2 mid en b else d2
def sS (m mid n a b : Nat) : Nat := if mid < m then n - b else a
def sR (m mid : Nat) : Nat := if mid < m then mid else m
/-- symMerge, plainly. -/
def symM (lt : α → α → Bool) : Nat → Array α → Nat → Nat → Nat → Array α
  | 0, d, _, _, _ => d
  | f + 1, d, a, m, b =>
    if m - a = 1 then shiftU d a (bsl (fun h => lt d[h]! d[a]!) (b - m) m b - 1 - a)
    else if b - m = 1 then shiftD d m (m - bsl (fun h => !lt d[m]! d[h]!) (m - a) a m)
    else symT (symM lt f) d a m b ((a + b) / 2)
      (bsl (fun c => !lt d[(a + b) / 2 + m - 1 - c]! d[c]!) (sR m ((a + b) / 2) - sS m ((a + b) / 2) ((a + b) / 2 + m) a b) (sS m ((a + b) / 2) ((a + b) / 2 + m) a b) (sR m ((a + b) / 2)))
      ((a + b) / 2 + m - bsl (fun c => !lt d[(a + b) / 2 + m - 1 - c]! d[c]!) (sR m ((a + b) / 2) - sS m ((a + b) / 2) ((a + b) / 2 + m) a b) (sS m ((a + b) / 2) ((a + b) / 2 + m) a b) (sR m ((a + b) / 2)))
theorem symM_3 (lt : α → α → Bool) (f : Nat) (d : Array α) (a m b mid n s0 r0 st en : Nat) (h1 : ¬ m - a = 1) (h2 : ¬ b - m = 1) (hmid : mid = (a + b) / 2) (hn : n = mid + m) (hs : s0 = if mid < m then n - b else a) (hr : r0 = if mid < m then mid else m)
    (hst : st = bsl (fun c => !lt d[n - 1 - c]! d[c]!) (r0 - s0) s0 r0) (hen : en = n - st) : symM lt (f + 1) d a m b = symT (symM lt f) d a m b mid st en := by
  conv => lhs; unfold symM
  rw [if_neg h1, if_neg h2]
  subst hen hst
  have e1 : sS m mid n a b = s0 := hs.symm
  have e2 : sR m mid = r0 := hr.symm
  subst hn hmid
  rw [e1, e2]
theorem size_symT (rec : Array α → Nat → Nat → Nat → Array α) (hr : ∀ d a m b, (rec d a m b).size = d.size) (d : Array α) (a m b mid st en : Nat) : (symT rec d a m b mid st en).size = d.size := by
  have h1 : (if st < m ∧ m < en then rotL m (en - st) (m - st) (en - m) d else d).size = d.size := by
    split
    · exact size_rotL _ _ _ _ _
    · rfl
  have h2 : (if a < st ∧ st < mid then rec (if st < m ∧ m < en then rotL m (en - st) (m - st) (en - m) d else d) a st mid else (if st < m ∧ m < en then rotL m (en - st) (m - st) (en - m) d else d)).size = d.size := by
    by_cases h : a < st ∧ st < mid
    · rw [if_pos h, hr]; exact h1
    · rw [if_neg h]; exact h1
  unfold symT
  simp only []
  by_cases h : mid < en ∧ en < b
  · rw [if_pos h, hr]; exact h2
  · rw [if_neg h]; exact h2
theorem size_symM (lt : α → α → Bool) : ∀ (f : Nat) (d : Array α) (a m b : Nat), (symM lt f d a m b).size = d.size := by
  intro f
  induction f with
  | zero => intro d a m b; rfl
  | succ f ih =>
    intro d a m b
    unfold symM
    split
    · exact size_shiftU _ _ _
    · split
      · exact size_shiftD _ _ _
      · exact size_symT _ ih _ _ _ _ _ _ _
set_option maxHeartbeats 16000000 in
set_option maxRecDepth 1000000 in
theorem symMerge_1 (k : Nat) (L : Sb P k) (enc : α → List Value) (cf : α → α → Int) (g : Nat) (cb : Array Value) (blk off cap : Nat) (d0 : Array α) (w0 : World)
    (eg : ∀ args w, (callFunc g args).run P w = .ok (.enter g args) w) (hcmp : CmpLays P g cb enc k cf blk off d0.size w0) (R : RowK enc k w0 blk off d0) (hsz : d0.size < 4611686018427387904) (f : Nat)
    (a m b : Nat) (d : Array α) (w : World) (hf : b - a ≤ f + 1) (ham : a < m) (hmb : m < b) (hb : b ≤ d0.size) (hsk : d.size = d0.size) (S : SWK enc k w0 blk off d w) (h1 : m - a = 1) :
    Calls P 30 #[.slice (some ⟨blk, off, none⟩) d0.size cap, .int .i64 a, .int .i64 m, .int .i64 b, .func (.func g) #[] cb] w fun e w' =>
      e = .returned (.tuple #[]) ∧ SWK enc k w0 blk off (symM (ltOf cf) (f + 1) d a m b) w' := by
  have mixed := L.mixed; have t0 := L.t0; have a0 := L.a0; have z0 := L.z0; have v0 := L.v0; have t3 := L.t3; have a3 := L.a3; have z3 := L.z3; have v3 := L.v3; have t4 := L.t4; have a4 := L.a4; have z4 := L.z4; have v4 := L.v4; have t23 := L.t23; have a23 := L.a23; have z23 := L.z23; have v23 := L.v23; have t55 := L.t55; have a55 := L.a55; have z55 := L.z55; have v55 := L.v55; have aE := L.aE; have zE := L.zE; have t33 := L.t33; have a33 := L.a33; have z33 := L.z33; have v33 := L.v33
  have u23 := run_underlying L.t23
  have e31 : ∀ args w, (callFunc 31 args).run P w = .ok (.enter 31 args) w := enters_of L.f31 (by kernel_rfl) rfl
  have e30 : ∀ args w, (callFunc 30 args).run P w = .ok (.enter 30 args) w := enters_of L.f30 (by kernel_rfl) rfl
  have F30 := L.f30
  have HC : Aside _ := hcmp
  have S0 : Aside _ := S
  clear S hcmp
  obtain ⟨ma, hma⟩ : ∃ x : Nat, (m : Int) - (a : Int) = (x : Int) := ⟨m - a, by omega⟩
  have rma : IntKind.i64.wrap ((m : Int) - (a : Int)) = (ma : Int) := by rw [IntKind.wrap_i64]; omega
  go_enter F30, Try.ntmps30
  obtain rfl : ma = 1 := by omega
  have HEq : Hid (symM (ltOf cf) (f + 1) d a m b = shiftU d a (bsl (fun h => ltOf cf d[h]! d[a]!) (b - m) m b - 1 - a)) := by
    show _ = _
    conv => lhs; unfold symM
    rw [if_pos h1]
  go_upto_region 3 with fail
  go_wp2
  go_loopg [10, 11] (b - m) (fun g1 vi vj wr => ∃ i j : Nat, vi = .int .i64 i ∧ vj = .int .i64 j ∧ m ≤ i ∧ i ≤ b ∧ j ≤ b ∧ i ≤ j ∧ j - i ≤ g1 ∧ Aside (SWK enc k w0 blk off d wr) ∧ Hid (bsl (fun h => ltOf cf d[h]! d[a]!) g1 i j = bsl (fun h => ltOf cf d[h]! d[a]!) (b - m) m b))
  case atStart => exact ⟨m, b, rfl, rfl, by omega, by omega, by omega, by omega, by omega, S0, rfl⟩
  case round =>
  clear S0
  obtain ⟨i, j, rfl, rfl, hi1, hi2, hj, hij, hg, S1, HO⟩ := hrel
  by_cases hlt : i < j
  · have hd : decide ((i : Int) < (j : Int)) = true := by simp; omega
    obtain ⟨h, hh⟩ : ∃ h : Nat, ((i : Int) + (j : Int)) / 2 = (h : Int) := ⟨(i + j) / 2, by omega⟩
    have hh2 : (i + j) / 2 = h := by omega
    obtain ⟨gk, rfl⟩ : ∃ z, gk = z + 1 := ⟨gk - 1, by omega⟩
    have HB : Hid _ := bsl_go (fun h => ltOf cf d[h]! d[a]!) gk i j hlt
    rw [hh2] at HB
    cases hlv : ltOf cf d[h]! d[a]! with
    | true =>
      obtain ⟨x1, hx1⟩ : ∃ z, z = d[h]! := ⟨_, rfl⟩
      obtain ⟨y1, hy1⟩ : ∃ z, z = d[a]! := ⟨_, rfl⟩
      have l1a := S1.out.ld R hsk P h (by omega)
      have l1b := S1.out.ld R hsk P a (by omega)
      rw [← hx1] at l1a
      rw [← hy1] at l1b
      have hc1 := S1.out.cmp HC.out hsk x1 y1
      have ex1 : ((h : Int)).toNat = h := by omega
      have px1 : (0 : Int) ≤ (h : Int) := by omega
      have bx1 : (h : Int) < (d0.size : Int) := by omega
      have ey1 : ((a : Int)).toNat = a := by omega
      have py1 : (0 : Int) ≤ (a : Int) := by omega
      have by1 : (a : Int) < (d0.size : Int) := by omega
      have hv1 : decide (cf x1 y1 < 0) = true := by rw [hx1, hy1]; exact hlv
      clear hx1 hy1
      go_upto_region 5 with fail
      go_quiet_grown (first | (go_at_fn g; refine Calls.grown_of (hc1 _ _)))
      have S2 : Aside (SWK enc k w0 blk off d (grow (wr.drewN nq) osq)) := S1.out.grown nq osq
      clear l1a l1b hc1 S1 ex1 px1 bx1 ey1 py1 by1
      generalize grow (wr.drewN nq) osq = w2 at S2 ⊢
      clear nq osq
      have HO2 : Hid (bsl (fun h => ltOf cf d[h]! d[a]!) gk (h + 1) j = bsl (fun h => ltOf cf d[h]! d[a]!) (b - m) m b) := by show _ = _; rw [← HO.out, HB.out]; exact (if_pos hlv).symm
      go_wp2
      go_roundg (j - (h + 1))
      case measure => omega
      case rel => exact ⟨h + 1, j, by go_num, rfl, by omega, by omega, by omega, by omega, by omega, S2, by have e := HO2.out; rwa [bsl_fuel _ gk (j - (h + 1)) _ _ (by omega) (by omega)] at e⟩
    | false =>
      obtain ⟨x1, hx1⟩ : ∃ z, z = d[h]! := ⟨_, rfl⟩
      obtain ⟨y1, hy1⟩ : ∃ z, z = d[a]! := ⟨_, rfl⟩
      have l1a := S1.out.ld R hsk P h (by omega)
      have l1b := S1.out.ld R hsk P a (by omega)
      rw [← hx1] at l1a
      rw [← hy1] at l1b
      have hc1 := S1.out.cmp HC.out hsk x1 y1
      have ex1 : ((h : Int)).toNat = h := by omega
      have px1 : (0 : Int) ≤ (h : Int) := by omega
      have bx1 : (h : Int) < (d0.size : Int) := by omega
      have ey1 : ((a : Int)).toNat = a := by omega
      have py1 : (0 : Int) ≤ (a : Int) := by omega
      have by1 : (a : Int) < (d0.size : Int) := by omega
      have hv1 : decide (cf x1 y1 < 0) = false := by rw [hx1, hy1]; exact hlv
      clear hx1 hy1
      go_upto_region 5 with fail
      go_quiet_grown (first | (go_at_fn g; refine Calls.grown_of (hc1 _ _)))
      have S2 : Aside (SWK enc k w0 blk off d (grow (wr.drewN nq) osq)) := S1.out.grown nq osq
      clear l1a l1b hc1 S1 ex1 px1 bx1 ey1 py1 by1
      generalize grow (wr.drewN nq) osq = w2 at S2 ⊢
      clear nq osq
      have HO2 : Hid (bsl (fun h => ltOf cf d[h]! d[a]!) gk i h = bsl (fun h => ltOf cf d[h]! d[a]!) (b - m) m b) := by show _ = _; rw [← HO.out, HB.out]; exact (if_neg (by rw [hlv]; simp)).symm
      go_wp2
      go_roundg (h - i)
      case measure => omega
      case rel => exact ⟨i, h, rfl, rfl, by omega, by omega, by omega, by omega, by omega, S2, by have e := HO2.out; rwa [bsl_fuel _ gk (h - i) _ _ (by omega) (by omega)] at e⟩
  · have hd : decide ((i : Int) < (j : Int)) = false := by simp; omega
    have hbi : bsl (fun h => ltOf cf d[h]! d[a]!) (b - m) m b = i := by rw [← HO.out, bsl_stop _ _ _ _ hlt]
    rw [hbi] at HEq
    clear HO hbi
    obtain ⟨i1, hi1'⟩ : ∃ z : Nat, (i : Int) - 1 = (z : Int) := ⟨i - 1, by omega⟩
    have hii : i - 1 = i1 := by omega
    rw [hii] at HEq
    go_upto_block 2 with fail
    go_wp2
    go_loopg [13] (i1 - a) (fun g1 vk wr => ∃ kk : Nat, vk = .int .i64 kk ∧ a ≤ kk ∧ kk ≤ i1 ∧ i1 - kk ≤ g1 ∧ Aside (SWK enc k w0 blk off (shiftU d a (kk - a)) wr))
    case atStart => exact ⟨a, rfl, by omega, by omega, by omega, by rw [Nat.sub_self]; exact S1⟩
    case round =>
    clear S1
    obtain ⟨kk, rfl, hk1, hk2, hg2, S4⟩ := hrel
    by_cases hlk : kk < i1
    · have hdk : decide ((kk : Int) < (i1 : Int)) = true := by simp; omega
      obtain ⟨dk, hdk'⟩ : ∃ z, z = shiftU d a (kk - a) := ⟨_, rfl⟩
      have hskd : dk.size = d0.size := by rw [hdk', size_shiftU]; exact hsk
      rw [← hdk'] at S4
      obtain ⟨y, hy⟩ : ∃ y : Nat, (kk : Int) + 1 = (y : Int) := ⟨kk + 1, by omega⟩
      have ry : IntKind.i64.wrap ((kk : Int) + 1) = (y : Int) := by rw [IntKind.wrap_i64]; omega
      have HY : Hid (y = kk + 1) := by show _ = _; omega
      have S3 : Aside (SWK enc k w0 blk off (swp dk kk y) ((wr.drew.setCells blk (off + kk * k) (enc dk[y]!)).setCells blk (off + y * k) (enc dk[kk]!))) := S4.out.swapped R kk y (by omega) (by omega)
      have l4a := S4.out.ld1 R hskd P kk (by omega)
      have l4b := S4.out.ld1 R hskd P y (by omega)
      have s4a := S4.out.st1 R hskd P kk (by omega) dk[y]!
      have s4b := S4.out.st2 R hskd P kk y (by omega) (by omega) dk[y]! dk[kk]!
      have n4a : (enc dk[kk]!).length = k := R.hk _
      have n4b : (enc dk[y]!).length = k := R.hk _
      generalize enc dk[kk]! = cI4 at S3 l4a s4b n4a
      generalize enc dk[y]! = cJ4 at S3 l4b s4a s4b n4b
      have ex4 : ((kk : Int)).toNat = kk := by omega
      have px4 : (0 : Int) ≤ (kk : Int) := by omega
      have bx4 : (kk : Int) < (d0.size : Int) := by omega
      have ey4 : ((y : Int)).toNat = y := by omega
      have py4 : (0 : Int) ≤ (y : Int) := by omega
      have by4 : (y : Int) < (d0.size : Int) := by omega
      clear S4
      go_wp2_with fail
      go_big_region_o
      clear l4a l4b s4a s4b
      generalize (wr.drew.setCells blk (off + kk * k) cJ4).setCells blk (off + y * k) cI4 = w3 at S3 ⊢
      go_wp2
      go_roundg (i1 - (kk + 1))
      case measure => omega
      case rel =>
        refine ⟨kk + 1, by first | rfl | go_num | (congr 1; omega), by omega, by omega, by omega, ?_⟩
        have e : shiftU d a (kk + 1 - a) = swp dk kk y := by
          obtain ⟨n, hn⟩ : ∃ n, kk = a + n := ⟨kk - a, by omega⟩
          rw [HY.out, hdk', hn, show a + n + 1 - a = n + 1 by omega, show a + n - a = n by omega]
          rfl
        rw [e]
        exact S3
    · have hdk : decide ((kk : Int) < (i1 : Int)) = false := by simp; omega
      obtain rfl : kk = i1 := by omega
      go_wp2
      (try simp only [Exit.inBlock, Exit.then]); refine bodyPost_ret (results_none rfl _ _ _) rfl ?_
      exact ⟨rfl, by rw [HEq.out]; exact S4.out⟩
set_option maxHeartbeats 16000000 in
set_option maxRecDepth 1000000 in
theorem symMerge_2 (k : Nat) (L : Sb P k) (enc : α → List Value) (cf : α → α → Int) (g : Nat) (cb : Array Value) (blk off cap : Nat) (d0 : Array α) (w0 : World)
    (eg : ∀ args w, (callFunc g args).run P w = .ok (.enter g args) w) (hcmp : CmpLays P g cb enc k cf blk off d0.size w0) (R : RowK enc k w0 blk off d0) (hsz : d0.size < 4611686018427387904) (f : Nat)
    (a m b : Nat) (d : Array α) (w : World) (hf : b - a ≤ f + 1) (ham : a < m) (hmb : m < b) (hb : b ≤ d0.size) (hsk : d.size = d0.size) (S : SWK enc k w0 blk off d w) (h1 : ¬ m - a = 1) (h2 : b - m = 1) :
    Calls P 30 #[.slice (some ⟨blk, off, none⟩) d0.size cap, .int .i64 a, .int .i64 m, .int .i64 b, .func (.func g) #[] cb] w fun e w' =>
      e = .returned (.tuple #[]) ∧ SWK enc k w0 blk off (symM (ltOf cf) (f + 1) d a m b) w' := by
  have mixed := L.mixed; have t0 := L.t0; have a0 := L.a0; have z0 := L.z0; have v0 := L.v0; have t3 := L.t3; have a3 := L.a3; have z3 := L.z3; have v3 := L.v3; have t4 := L.t4; have a4 := L.a4; have z4 := L.z4; have v4 := L.v4; have t23 := L.t23; have a23 := L.a23; have z23 := L.z23; have v23 := L.v23; have t55 := L.t55; have a55 := L.a55; have z55 := L.z55; have v55 := L.v55; have aE := L.aE; have zE := L.zE; have t33 := L.t33; have a33 := L.a33; have z33 := L.z33; have v33 := L.v33
  have u23 := run_underlying L.t23
  have e31 : ∀ args w, (callFunc 31 args).run P w = .ok (.enter 31 args) w := enters_of L.f31 (by kernel_rfl) rfl
  have e30 : ∀ args w, (callFunc 30 args).run P w = .ok (.enter 30 args) w := enters_of L.f30 (by kernel_rfl) rfl
  have F30 := L.f30
  have HC : Aside _ := hcmp
  have S0 : Aside _ := S
  clear S hcmp
  obtain ⟨ma, hma⟩ : ∃ x : Nat, (m : Int) - (a : Int) = (x : Int) := ⟨m - a, by omega⟩
  have rma : IntKind.i64.wrap ((m : Int) - (a : Int)) = (ma : Int) := by rw [IntKind.wrap_i64]; omega
  have h1' : ((ma : Int) == 1) = false := by rw [beq_eq_false_iff_ne]; omega
  obtain ⟨bm, hbm⟩ : ∃ x : Nat, (b : Int) - (m : Int) = (x : Int) := ⟨b - m, by omega⟩
  have rbm : IntKind.i64.wrap ((b : Int) - (m : Int)) = (bm : Int) := by rw [IntKind.wrap_i64]; omega
  go_enter F30, Try.ntmps30
  obtain rfl : bm = 1 := by omega
  have HEq : Hid (symM (ltOf cf) (f + 1) d a m b = shiftD d m (m - bsl (fun h => !ltOf cf d[m]! d[h]!) (m - a) a m)) := by
    show _ = _
    conv => lhs; unfold symM
    rw [if_neg h1, if_pos h2]
  go_upto_block 4 with fail
  go_wp2
  go_loopg [14, 15] (m - a) (fun g1 vi vj wr => ∃ i j : Nat, vi = .int .i64 i ∧ vj = .int .i64 j ∧ a ≤ i ∧ i ≤ m ∧ j ≤ m ∧ i ≤ j ∧ j - i ≤ g1 ∧ Aside (SWK enc k w0 blk off d wr) ∧ Hid (bsl (fun h => !ltOf cf d[m]! d[h]!) g1 i j = bsl (fun h => !ltOf cf d[m]! d[h]!) (m - a) a m))
  case atStart => exact ⟨a, m, rfl, rfl, by omega, by omega, by omega, by omega, by omega, S0, rfl⟩
  case round =>
  clear S0
  obtain ⟨i, j, rfl, rfl, hi1, hi2, hj, hij, hg, S1, HO⟩ := hrel
  by_cases hlt : i < j
  · have hd : decide ((i : Int) < (j : Int)) = true := by simp; omega
    obtain ⟨h, hh⟩ : ∃ h : Nat, ((i : Int) + (j : Int)) / 2 = (h : Int) := ⟨(i + j) / 2, by omega⟩
    have hh2 : (i + j) / 2 = h := by omega
    obtain ⟨gk, rfl⟩ : ∃ z, gk = z + 1 := ⟨gk - 1, by omega⟩
    have HB : Hid _ := bsl_go (fun h => !ltOf cf d[m]! d[h]!) gk i j hlt
    rw [hh2] at HB
    cases hlv : ltOf cf d[m]! d[h]! with
    | false =>
      obtain ⟨x2, hx2⟩ : ∃ z, z = d[m]! := ⟨_, rfl⟩
      obtain ⟨y2, hy2⟩ : ∃ z, z = d[h]! := ⟨_, rfl⟩
      have l2a := S1.out.ld R hsk P m (by omega)
      have l2b := S1.out.ld R hsk P h (by omega)
      rw [← hx2] at l2a
      rw [← hy2] at l2b
      have hc2 := S1.out.cmp HC.out hsk x2 y2
      have ex2 : ((m : Int)).toNat = m := by omega
      have px2 : (0 : Int) ≤ (m : Int) := by omega
      have bx2 : (m : Int) < (d0.size : Int) := by omega
      have ey2 : ((h : Int)).toNat = h := by omega
      have py2 : (0 : Int) ≤ (h : Int) := by omega
      have by2 : (h : Int) < (d0.size : Int) := by omega
      have hv2 : decide (cf x2 y2 < 0) = false := by rw [hx2, hy2]; exact hlv
      clear hx2 hy2
      go_upto_region 17 with fail
      go_quiet_grown (first | (go_at_fn g; refine Calls.grown_of (hc2 _ _)))
      have S2 : Aside (SWK enc k w0 blk off d (grow (wr.drewN nq) osq)) := S1.out.grown nq osq
      clear l2a l2b hc2 S1 ex2 px2 bx2 ey2 py2 by2
      generalize grow (wr.drewN nq) osq = w2 at S2 ⊢
      clear nq osq
      have HO2 : Hid (bsl (fun h => !ltOf cf d[m]! d[h]!) gk (h + 1) j = bsl (fun h => !ltOf cf d[m]! d[h]!) (m - a) a m) := by show _ = _; rw [← HO.out, HB.out]; exact (if_pos (by rw [hlv]; rfl)).symm
      go_wp2
      go_roundg (j - (h + 1))
      case measure => omega
      case rel => exact ⟨h + 1, j, by go_num, rfl, by omega, by omega, by omega, by omega, by omega, S2, by have e := HO2.out; rwa [bsl_fuel _ gk (j - (h + 1)) _ _ (by omega) (by omega)] at e⟩
    | true =>
      obtain ⟨x2, hx2⟩ : ∃ z, z = d[m]! := ⟨_, rfl⟩
      obtain ⟨y2, hy2⟩ : ∃ z, z = d[h]! := ⟨_, rfl⟩
      have l2a := S1.out.ld R hsk P m (by omega)
      have l2b := S1.out.ld R hsk P h (by omega)
      rw [← hx2] at l2a
      rw [← hy2] at l2b
      have hc2 := S1.out.cmp HC.out hsk x2 y2
      have ex2 : ((m : Int)).toNat = m := by omega
      have px2 : (0 : Int) ≤ (m : Int) := by omega
      have bx2 : (m : Int) < (d0.size : Int) := by omega
      have ey2 : ((h : Int)).toNat = h := by omega
      have py2 : (0 : Int) ≤ (h : Int) := by omega
      have by2 : (h : Int) < (d0.size : Int) := by omega
      have hv2 : decide (cf x2 y2 < 0) = true := by rw [hx2, hy2]; exact hlv
      clear hx2 hy2
      go_upto_region 17 with fail
      go_quiet_grown (first | (go_at_fn g; refine Calls.grown_of (hc2 _ _)))
      have S2 : Aside (SWK enc k w0 blk off d (grow (wr.drewN nq) osq)) := S1.out.grown nq osq
      clear l2a l2b hc2 S1 ex2 px2 bx2 ey2 py2 by2
      generalize grow (wr.drewN nq) osq = w2 at S2 ⊢
      clear nq osq
      have HO2 : Hid (bsl (fun h => !ltOf cf d[m]! d[h]!) gk i h = bsl (fun h => !ltOf cf d[m]! d[h]!) (m - a) a m) := by show _ = _; rw [← HO.out, HB.out]; exact (if_neg (by rw [hlv]; simp)).symm
      go_wp2
      go_roundg (h - i)
      case measure => omega
      case rel => exact ⟨i, h, rfl, rfl, by omega, by omega, by omega, by omega, by omega, S2, by have e := HO2.out; rwa [bsl_fuel _ gk (h - i) _ _ (by omega) (by omega)] at e⟩
  · have hd : decide ((i : Int) < (j : Int)) = false := by simp; omega
    have hbi : bsl (fun h => !ltOf cf d[m]! d[h]!) (m - a) a m = i := by rw [← HO.out, bsl_stop _ _ _ _ hlt]
    rw [hbi] at HEq
    clear HO hbi
    go_upto_block 6 with fail
    go_wp2
    go_loopg [17] (m - i) (fun g1 vk wr => ∃ kk : Nat, vk = .int .i64 kk ∧ i ≤ kk ∧ kk ≤ m ∧ kk - i ≤ g1 ∧ Aside (SWK enc k w0 blk off (shiftD d m (m - kk)) wr))
    case atStart => exact ⟨m, rfl, by omega, by omega, by omega, by rw [Nat.sub_self]; exact S1⟩
    case round =>
    clear S1
    obtain ⟨kk, rfl, hk1, hk2, hg2, S4⟩ := hrel
    by_cases hlk : i < kk
    · have hdk : decide ((i : Int) < (kk : Int)) = true := by simp; omega
      obtain ⟨dk, hdk'⟩ : ∃ z, z = shiftD d m (m - kk) := ⟨_, rfl⟩
      have hskd : dk.size = d0.size := by rw [hdk', size_shiftD]; exact hsk
      rw [← hdk'] at S4
      obtain ⟨y, hy⟩ : ∃ y : Nat, (kk : Int) - 1 = (y : Int) := ⟨kk - 1, by omega⟩
      have ry : IntKind.i64.wrap ((kk : Int) - 1) = (y : Int) := by rw [IntKind.wrap_i64]; omega
      have HY : Hid (y = kk - 1) := by show _ = _; omega
      have S3 : Aside (SWK enc k w0 blk off (swp dk kk y) ((wr.drew.setCells blk (off + kk * k) (enc dk[y]!)).setCells blk (off + y * k) (enc dk[kk]!))) := S4.out.swapped R kk y (by omega) (by omega)
      have l5a := S4.out.ld1 R hskd P kk (by omega)
      have l5b := S4.out.ld1 R hskd P y (by omega)
      have s5a := S4.out.st1 R hskd P kk (by omega) dk[y]!
      have s5b := S4.out.st2 R hskd P kk y (by omega) (by omega) dk[y]! dk[kk]!
      have n5a : (enc dk[kk]!).length = k := R.hk _
      have n5b : (enc dk[y]!).length = k := R.hk _
      generalize enc dk[kk]! = cI5 at S3 l5a s5b n5a
      generalize enc dk[y]! = cJ5 at S3 l5b s5a s5b n5b
      have ex5 : ((kk : Int)).toNat = kk := by omega
      have px5 : (0 : Int) ≤ (kk : Int) := by omega
      have bx5 : (kk : Int) < (d0.size : Int) := by omega
      have ey5 : ((y : Int)).toNat = y := by omega
      have py5 : (0 : Int) ≤ (y : Int) := by omega
      have by5 : (y : Int) < (d0.size : Int) := by omega
      clear S4
      go_wp2_with fail
      go_big_region_o
      clear l5a l5b s5a s5b
      generalize (wr.drew.setCells blk (off + kk * k) cJ5).setCells blk (off + y * k) cI5 = w3 at S3 ⊢
      go_wp2
      go_roundg (kk - 1 - i)
      case measure => omega
      case rel =>
        refine ⟨kk - 1, by rw [HY.out.symm], by omega, by omega, by omega, ?_⟩
        have e : shiftD d m (m - (kk - 1)) = swp dk kk y := by
          obtain ⟨n, hn⟩ : ∃ n, kk = m - n ∧ n ≤ m := ⟨m - kk, by omega, by omega⟩
          rw [HY.out, hdk', show m - (kk - 1) = (m - kk) + 1 by omega]
          conv => lhs; unfold shiftD
          rw [show m - (m - kk) = kk by omega]
        rw [e]
        exact S3
    · have hdk : decide ((i : Int) < (kk : Int)) = false := by simp; omega
      obtain rfl : kk = i := by omega
      go_wp2
      (try simp only [Exit.inBlock, Exit.then]); refine bodyPost_ret (results_none rfl _ _ _) rfl ?_
      exact ⟨rfl, by rw [HEq.out]; exact S4.out⟩
set_option maxHeartbeats 16000000 in
set_option maxRecDepth 1000000 in
theorem symMerge_3 (k : Nat) (L : Sb P k) (enc : α → List Value) (cf : α → α → Int) (g : Nat) (cb : Array Value) (blk off cap : Nat) (d0 : Array α) (w0 : World)
    (eg : ∀ args w, (callFunc g args).run P w = .ok (.enter g args) w) (hcmp : CmpLays P g cb enc k cf blk off d0.size w0) (R : RowK enc k w0 blk off d0) (hsz : d0.size < 4611686018427387904) (f : Nat)
    (ih : ∀ (a m b : Nat) (d : Array α) (w : World), b - a ≤ f → a < m → m < b → b ≤ d0.size → d.size = d0.size → SWK enc k w0 blk off d w →
    Calls P 30 #[.slice (some ⟨blk, off, none⟩) d0.size cap, .int .i64 a, .int .i64 m, .int .i64 b, .func (.func g) #[] cb] w fun e w' =>
      e = .returned (.tuple #[]) ∧ SWK enc k w0 blk off (symM (ltOf cf) f d a m b) w') (a m b : Nat) (d : Array α) (w : World) (hf : b - a ≤ f + 1) (ham : a < m) (hmb : m < b) (hb : b ≤ d0.size) (hsk : d.size = d0.size) (S : SWK enc k w0 blk off d w) (h1 : ¬ m - a = 1) (h2 : ¬ b - m = 1) :
    Calls P 30 #[.slice (some ⟨blk, off, none⟩) d0.size cap, .int .i64 a, .int .i64 m, .int .i64 b, .func (.func g) #[] cb] w fun e w' =>
      e = .returned (.tuple #[]) ∧ SWK enc k w0 blk off (symM (ltOf cf) (f + 1) d a m b) w' := by
  have mixed := L.mixed; have t0 := L.t0; have a0 := L.a0; have z0 := L.z0; have v0 := L.v0; have t3 := L.t3; have a3 := L.a3; have z3 := L.z3; have v3 := L.v3; have t4 := L.t4; have a4 := L.a4; have z4 := L.z4; have v4 := L.v4; have t23 := L.t23; have a23 := L.a23; have z23 := L.z23; have v23 := L.v23; have t55 := L.t55; have a55 := L.a55; have z55 := L.z55; have v55 := L.v55; have aE := L.aE; have zE := L.zE; have t33 := L.t33; have a33 := L.a33; have z33 := L.z33; have v33 := L.v33
  have u23 := run_underlying L.t23
  have e31 : ∀ args w, (callFunc 31 args).run P w = .ok (.enter 31 args) w := enters_of L.f31 (by kernel_rfl) rfl
  have e30 : ∀ args w, (callFunc 30 args).run P w = .ok (.enter 30 args) w := enters_of L.f30 (by kernel_rfl) rfl
  have F30 := L.f30
  have IH : Hid _ := ih
  clear ih
  have HC : Aside _ := hcmp
  have S0 : Aside _ := S
  clear S hcmp
  obtain ⟨ma, hma⟩ : ∃ x : Nat, (m : Int) - (a : Int) = (x : Int) := ⟨m - a, by omega⟩
  have rma : IntKind.i64.wrap ((m : Int) - (a : Int)) = (ma : Int) := by rw [IntKind.wrap_i64]; omega
  have h1' : ((ma : Int) == 1) = false := by rw [beq_eq_false_iff_ne]; omega
  obtain ⟨bm, hbm⟩ : ∃ x : Nat, (b : Int) - (m : Int) = (x : Int) := ⟨b - m, by omega⟩
  have rbm : IntKind.i64.wrap ((b : Int) - (m : Int)) = (bm : Int) := by rw [IntKind.wrap_i64]; omega
  go_enter F30, Try.ntmps30
  have h2' : ((bm : Int) == 1) = false := by rw [beq_eq_false_iff_ne]; omega
  obtain ⟨mid, hmid⟩ : ∃ z : Nat, ((a : Int) + (b : Int)) / 2 = (z : Int) := ⟨(a + b) / 2, by omega⟩
  obtain ⟨n, hn⟩ : ∃ z : Nat, (mid : Int) + (m : Int) = (z : Int) := ⟨mid + m, by omega⟩
  obtain ⟨p, hp⟩ : ∃ z : Nat, (n : Int) - 1 = (z : Int) := ⟨n - 1, by omega⟩
  obtain ⟨s0, hs0⟩ : ∃ z : Nat, z = if mid < m then n - b else a := ⟨_, rfl⟩
  obtain ⟨r0, hr0⟩ : ∃ z : Nat, z = if mid < m then mid else m := ⟨_, rfl⟩
  have hsr : n ≤ b + s0 ∧ s0 ≤ r0 ∧ r0 ≤ m ∧ r0 ≤ p ∧ r0 ≤ b := by
    by_cases hmm : mid < m
    · rw [if_pos hmm] at hs0 hr0; omega
    · rw [if_neg hmm] at hs0 hr0; omega
  obtain ⟨hsr1, hsr2, hsr3, hsr4, hsr5⟩ := hsr
  have HM : Hid (mid = (a + b) / 2 ∧ n = mid + m ∧ s0 = (if mid < m then n - b else a) ∧ r0 = (if mid < m then mid else m) ∧ p = n - 1) := by
    show _ ∧ _
    exact ⟨by omega, by omega, hs0, hr0, by omega⟩
  go_upto_if 140 with fail
  go_cut [20, 21] (fun v1 v2 wx => v1 = .int .i64 s0 ∧ v2 = .int .i64 r0 ∧ Hid (wx = w))
  case first => as_aux_lemma =>
    by_cases hmm : mid < m
    · rw [if_pos hmm] at hs0 hr0
      have hdm : decide ((mid : Int) < (m : Int)) = true := by simp; omega
      have e1 : (n : Int) - (b : Int) = (s0 : Int) := by omega
      have r1 : IntKind.i64.wrap ((n : Int) - (b : Int)) = (s0 : Int) := by rw [IntKind.wrap_i64]; omega
      obtain rfl := hr0
      clear hs0
      go_wp2_with fail
      go_meet
      exact ⟨rfl, rfl, rfl⟩
    · rw [if_neg hmm] at hs0 hr0
      have hdm : decide ((mid : Int) < (m : Int)) = false := by simp; omega
      subst hs0
      subst hr0
      go_wp2_with fail
      go_meet
      exact ⟨rfl, rfl, rfl⟩
  case rest =>
  obtain ⟨rfl, rfl, HWc⟩ := hcut
  obtain rfl := HWc.out
  clear HWc hs0 hr0 hmid
  go_upto_block 8 with fail
  clear hn
  go_wp2
  go_loopg [20, 21] (r0 - s0) (fun g1 vi vj wr => ∃ i j : Nat, vi = .int .i64 i ∧ vj = .int .i64 j ∧ s0 ≤ i ∧ i ≤ r0 ∧ j ≤ r0 ∧ i ≤ j ∧ j - i ≤ g1 ∧ Aside (SWK enc k w0 blk off d wr) ∧ Hid (bsl (fun c => !ltOf cf d[p - c]! d[c]!) g1 i j = bsl (fun c => !ltOf cf d[p - c]! d[c]!) (r0 - s0) s0 r0))
  case atStart => exact ⟨s0, r0, rfl, rfl, by omega, by omega, by omega, by omega, by omega, S0, rfl⟩
  case round =>
  clear S0
  obtain ⟨i, j, rfl, rfl, hi1, hi2, hj, hij, hg, S1, HO⟩ := hrel
  by_cases hlt : i < j
  · have hd : decide ((i : Int) < (j : Int)) = true := by simp; omega
    obtain ⟨h, hh⟩ : ∃ h : Nat, ((i : Int) + (j : Int)) / 2 = (h : Int) := ⟨(i + j) / 2, by omega⟩
    have hh2 : (i + j) / 2 = h := by omega
    obtain ⟨q, hq⟩ : ∃ q : Nat, (p : Int) - (h : Int) = (q : Int) := ⟨p - h, by omega⟩
    have rq : IntKind.i64.wrap ((p : Int) - (h : Int)) = (q : Int) := by rw [IntKind.wrap_i64]; omega
    have rq2 : IntKind.i64.wrap (q : Int) = (q : Int) := by rw [IntKind.wrap_i64]; omega
    have hq2 : p - h = q := by omega
    have hqs : q < d0.size := by omega
    obtain ⟨gk, rfl⟩ : ∃ z, gk = z + 1 := ⟨gk - 1, by omega⟩
    have HB : Hid _ := bsl_go (fun c => !ltOf cf d[p - c]! d[c]!) gk i j hlt
    rw [hh2] at HB
    cases hlv : ltOf cf d[q]! d[h]! with
    | false => as_aux_lemma =>
      obtain ⟨x3, hx3⟩ : ∃ z, z = d[q]! := ⟨_, rfl⟩
      obtain ⟨y3, hy3⟩ : ∃ z, z = d[h]! := ⟨_, rfl⟩
      have l3a := S1.out.ld R hsk P q (by omega)
      have l3b := S1.out.ld R hsk P h (by omega)
      rw [← hx3] at l3a
      rw [← hy3] at l3b
      have hc3 := S1.out.cmp HC.out hsk x3 y3
      have ex3 : ((q : Int)).toNat = q := by omega
      have px3 : (0 : Int) ≤ (q : Int) := by omega
      have bx3 : (q : Int) < (d0.size : Int) := by omega
      have ey3 : ((h : Int)).toNat = h := by omega
      have py3 : (0 : Int) ≤ (h : Int) := by omega
      have by3 : (h : Int) < (d0.size : Int) := by omega
      have hv3 : decide (cf x3 y3 < 0) = false := by rw [hx3, hy3]; exact hlv
      clear hx3 hy3
      go_upto_region 35 with fail
      go_quiet_grown (first | (go_at_fn g; refine Calls.grown_of (hc3 _ _)))
      have S2 : Aside (SWK enc k w0 blk off d (grow (wr.drewN nq) osq)) := S1.out.grown nq osq
      clear l3a l3b hc3 S1 ex3 px3 bx3 ey3 py3 by3
      generalize grow (wr.drewN nq) osq = w2 at S2 ⊢
      clear nq osq
      have HO2 : Hid (bsl (fun c => !ltOf cf d[p - c]! d[c]!) gk (h + 1) j = bsl (fun c => !ltOf cf d[p - c]! d[c]!) (r0 - s0) s0 r0) := by show _ = _; rw [← HO.out, HB.out]; exact (if_pos (by rw [hq2, hlv]; rfl)).symm
      go_wp2
      go_roundg (j - (h + 1))
      case measure => omega
      case rel => exact ⟨h + 1, j, by go_num, rfl, by omega, by omega, by omega, by omega, by omega, S2, by have e := HO2.out; rwa [bsl_fuel _ gk (j - (h + 1)) _ _ (by omega) (by omega)] at e⟩
    | true => as_aux_lemma =>
      obtain ⟨x3, hx3⟩ : ∃ z, z = d[q]! := ⟨_, rfl⟩
      obtain ⟨y3, hy3⟩ : ∃ z, z = d[h]! := ⟨_, rfl⟩
      have l3a := S1.out.ld R hsk P q (by omega)
      have l3b := S1.out.ld R hsk P h (by omega)
      rw [← hx3] at l3a
      rw [← hy3] at l3b
      have hc3 := S1.out.cmp HC.out hsk x3 y3
      have ex3 : ((q : Int)).toNat = q := by omega
      have px3 : (0 : Int) ≤ (q : Int) := by omega
      have bx3 : (q : Int) < (d0.size : Int) := by omega
      have ey3 : ((h : Int)).toNat = h := by omega
      have py3 : (0 : Int) ≤ (h : Int) := by omega
      have by3 : (h : Int) < (d0.size : Int) := by omega
      have hv3 : decide (cf x3 y3 < 0) = true := by rw [hx3, hy3]; exact hlv
      clear hx3 hy3
      go_upto_region 35 with fail
      go_quiet_grown (first | (go_at_fn g; refine Calls.grown_of (hc3 _ _)))
      have S2 : Aside (SWK enc k w0 blk off d (grow (wr.drewN nq) osq)) := S1.out.grown nq osq
      clear l3a l3b hc3 S1 ex3 px3 bx3 ey3 py3 by3
      generalize grow (wr.drewN nq) osq = w2 at S2 ⊢
      clear nq osq
      have HO2 : Hid (bsl (fun c => !ltOf cf d[p - c]! d[c]!) gk i h = bsl (fun c => !ltOf cf d[p - c]! d[c]!) (r0 - s0) s0 r0) := by show _ = _; rw [← HO.out, HB.out]; exact (if_neg (by rw [hq2, hlv]; simp)).symm
      go_wp2
      go_roundg (h - i)
      case measure => omega
      case rel => exact ⟨i, h, rfl, rfl, by omega, by omega, by omega, by omega, by omega, S2, by have e := HO2.out; rwa [bsl_fuel _ gk (h - i) _ _ (by omega) (by omega)] at e⟩
  · as_aux_lemma =>
    have hd : decide ((i : Int) < (j : Int)) = false := by simp; omega
    have hst : i = bsl (fun c => !ltOf cf d[p - c]! d[c]!) (r0 - s0) s0 r0 := by rw [← HO.out, bsl_stop _ _ _ _ hlt]
    obtain ⟨en, hen⟩ : ∃ z : Nat, (n : Int) - (i : Int) = (z : Int) := ⟨n - i, by omega⟩
    have ren : IntKind.i64.wrap ((n : Int) - (i : Int)) = (en : Int) := by rw [IntKind.wrap_i64]; omega
    have HEq : Hid (symM (ltOf cf) (f + 1) d a m b = symT (symM (ltOf cf) f) d a m b mid i en) := by
      show _ = _
      obtain ⟨q1, q2, q3, q4, q5⟩ := HM.out
      exact symM_3 (ltOf cf) f d a m b mid n s0 r0 i en h1 h2 q1 q2 q3 q4 (by rw [hst, q5]) (by omega)
    have hmn1 : mid + m ≤ n ∧ n ≤ mid + m := by have := HM.out.2.1; omega
    have hmm2 : 2 * mid ≤ a + b ∧ a + b ≤ 2 * mid + 1 := by have := HM.out.1; omega
    have hen2 : en + i ≤ n ∧ n ≤ en + i := by omega
    have henb : en ≤ b := by omega
    clear HO hst
    go_upto_region 39 with fail
    clear hen ren
    obtain ⟨B1, hB1⟩ : ∃ B : Bool, B = decide (i < m ∧ m < en) := ⟨_, rfl⟩
    have HB1 : Hid _ := hB1
    clear hB1
    go_cut [185] (fun v wx => v = .bool B1 ∧ Hid (wx = wr))
    case first => as_aux_lemma =>
      by_cases hg1 : i < m
      · have hk1 : decide ((i : Int) < (m : Int)) = true := by simp; omega
        by_cases hg2 : m < en
        · have hk2 : decide ((m : Int) < (en : Int)) = true := by simp; omega
          obtain rfl : B1 = true := by rw [HB1.out]; exact decide_eq_true ⟨hg1, hg2⟩
          go_wp2_with fail
          go_meet
          exact ⟨rfl, rfl⟩
        · have hk2 : decide ((m : Int) < (en : Int)) = false := by simp; omega
          obtain rfl : B1 = false := by rw [HB1.out]; exact decide_eq_false (fun e => hg2 e.2)
          go_wp2_with fail
          go_meet
          exact ⟨rfl, rfl⟩
      · have hk1 : decide ((i : Int) < (m : Int)) = false := by simp; omega
        obtain rfl : B1 = false := by rw [HB1.out]; exact decide_eq_false (fun e => hg1 e.1)
        go_wp2_with fail
        go_meet
        exact ⟨rfl, rfl⟩
    case rest =>
    obtain ⟨rfl, HWc⟩ := hcut
    obtain rfl := HWc.out
    clear HWc
    obtain ⟨d1, hd1⟩ : ∃ z, z = if i < m ∧ m < en then rotL m (en - i) (m - i) (en - m) d else d := ⟨_, rfl⟩
    have hs1 : d1.size = d0.size := by
      rw [hd1]
      split
      · rw [size_rotL]; exact hsk
      · exact hsk
    have HD1 : Hid _ := hd1
    clear hd1
    go_upto_if 185 with fail
    go_cut [24] (fun v wx => v = .int .i64 en ∧ Aside (SWK enc k w0 blk off d1 wx))
    case first => as_aux_lemma =>
      cases B1 with
      | true =>
        have hb := of_decide_eq_true HB1.out.symm
        obtain rfl : d1 = rotL m (en - i) (m - i) (en - m) d := by rw [HD1.out, if_pos hb]
        obtain ⟨hb1, hb2⟩ := hb
        go_wp2_with fail
        refine (rotate_any k L enc _ blk off cap i m en d0 d w0 _ R hsk S1.out hb1 hb2 (by omega) hsz).mono ?_
        rintro e w' ⟨rfl, hS⟩
        have S2 : Aside _ := hS
        clear hS S1
        go_wp2
        go_meet
        exact ⟨rfl, S2⟩
      | false =>
        have hb := of_decide_eq_false HB1.out.symm
        obtain rfl : d1 = d := by rw [HD1.out, if_neg hb]
        clear hb
        go_wp2_with fail
        go_meet
        exact ⟨rfl, S1⟩
    case rest =>
    obtain ⟨rfl, S2⟩ := hcut
    clear S1 HB1
    rename_i wc1 _
    go_upto_region 41 with fail
    obtain ⟨B2, hB2⟩ : ∃ B : Bool, B = decide (a < i ∧ i < mid) := ⟨_, rfl⟩
    have HB2 : Hid _ := hB2
    clear hB2
    go_cut [199] (fun v wx => v = .bool B2 ∧ Aside (SWK enc k w0 blk off d1 wx))
    case first => as_aux_lemma =>
      by_cases hg1 : a < i
      · have hk1 : decide ((a : Int) < (i : Int)) = true := by simp; omega
        by_cases hg2 : i < mid
        · have hk2 : decide ((i : Int) < (mid : Int)) = true := by simp; omega
          obtain rfl : B2 = true := by rw [HB2.out]; exact decide_eq_true ⟨hg1, hg2⟩
          go_wp2_with fail
          go_meet
          exact ⟨rfl, S2⟩
        · have hk2 : decide ((i : Int) < (mid : Int)) = false := by simp; omega
          obtain rfl : B2 = false := by rw [HB2.out]; exact decide_eq_false (fun e => hg2 e.2)
          go_wp2_with fail
          go_meet
          exact ⟨rfl, S2⟩
      · have hk1 : decide ((a : Int) < (i : Int)) = false := by simp; omega
        obtain rfl : B2 = false := by rw [HB2.out]; exact decide_eq_false (fun e => hg1 e.1)
        go_wp2_with fail
        go_meet
        exact ⟨rfl, S2⟩
    case rest =>
    obtain ⟨rfl, S3⟩ := hcut
    clear S2
    obtain ⟨d2, hd2⟩ : ∃ z, z = if a < i ∧ i < mid then symM (ltOf cf) f d1 a i mid else d1 := ⟨_, rfl⟩
    have HD2 : Hid _ := hd2
    clear hd2
    go_upto_if 199 with fail
    go_cut [24] (fun v wx => v = .int .i64 en ∧ d2.size = d0.size ∧ Aside (SWK enc k w0 blk off d2 wx))
    case first => as_aux_lemma =>
      cases B2 with
      | true =>
        have hb := of_decide_eq_true HB2.out.symm
        obtain rfl : d2 = symM (ltOf cf) f d1 a i mid := by rw [HD2.out, if_pos hb]
        obtain ⟨hb1, hb2⟩ := hb
        go_wp2_with fail
        refine (IH.out a i mid d1 _ (by omega) hb1 hb2 (by omega) hs1 S3.out).mono ?_
        rintro e w' ⟨rfl, hS⟩
        have S4 : Aside _ := hS
        clear hS S3
        go_wp2
        go_meet
        exact ⟨rfl, by rw [size_symM]; exact hs1, S4⟩
      | false =>
        have hb := of_decide_eq_false HB2.out.symm
        obtain rfl : d2 = d1 := by rw [HD2.out, if_neg hb]
        clear hb
        go_wp2_with fail
        go_meet
        exact ⟨rfl, hs1, S3⟩
    case rest =>
    obtain ⟨rfl, hs2, S4⟩ := hcut
    clear S3 HB2
    have HT : Hid (symT (symM (ltOf cf) f) d a m b mid i en = if mid < en ∧ en < b then symM (ltOf cf) f d2 mid en b else d2) := by
      show _ = _
      rw [HD2.out, HD1.out]
      rfl
    go_upto_region 43 with fail
    obtain ⟨B3, hB3⟩ : ∃ B : Bool, B = decide (mid < en ∧ en < b) := ⟨_, rfl⟩
    have HB3 : Hid _ := hB3
    clear hB3
    go_cut [213] (fun v wx => v = .bool B3 ∧ Aside (SWK enc k w0 blk off d2 wx))
    case first => as_aux_lemma =>
      by_cases hg1 : mid < en
      · have hk1 : decide ((mid : Int) < (en : Int)) = true := by simp; omega
        by_cases hg2 : en < b
        · have hk2 : decide ((en : Int) < (b : Int)) = true := by simp; omega
          obtain rfl : B3 = true := by rw [HB3.out]; exact decide_eq_true ⟨hg1, hg2⟩
          go_wp2_with fail
          go_meet
          exact ⟨rfl, S4⟩
        · have hk2 : decide ((en : Int) < (b : Int)) = false := by simp; omega
          obtain rfl : B3 = false := by rw [HB3.out]; exact decide_eq_false (fun e => hg2 e.2)
          go_wp2_with fail
          go_meet
          exact ⟨rfl, S4⟩
      · have hk1 : decide ((mid : Int) < (en : Int)) = false := by simp; omega
        obtain rfl : B3 = false := by rw [HB3.out]; exact decide_eq_false (fun e => hg1 e.1)
        go_wp2_with fail
        go_meet
        exact ⟨rfl, S4⟩
    case rest =>
    obtain ⟨rfl, S5⟩ := hcut
    clear S4
    cases B3 with
    | true =>
      have hb := of_decide_eq_true HB3.out.symm
      have HF : Hid (symM (ltOf cf) (f + 1) d a m b = symM (ltOf cf) f d2 mid en b) := by show _ = _; rw [HEq.out, HT.out, if_pos hb]
      obtain ⟨hb1, hb2⟩ := hb
      go_wp2_with fail
      refine (IH.out mid en b d2 _ (by omega) hb1 hb2 (by omega) hs2 S5.out).mono ?_
      rintro e w' ⟨rfl, hS⟩
      have S6 : Aside _ := hS
      clear hS S5
      go_wp2
      go_end0
      exact ⟨rfl, by rw [HF.out]; exact S6.out⟩
    | false =>
      have hb := of_decide_eq_false HB3.out.symm
      have HF : Hid (symM (ltOf cf) (f + 1) d a m b = d2) := by show _ = _; rw [HEq.out, HT.out, if_neg hb]
      clear hb
      go_wp2_with fail
      go_end0
      exact ⟨rfl, by rw [HF.out]; exact S5.out⟩
set_option maxHeartbeats 400000 in
set_option maxRecDepth 1000000 in
theorem symMerge_any (k : Nat) (L : Sb P k) (enc : α → List Value) (cf : α → α → Int) (g : Nat) (cb : Array Value) (blk off cap : Nat) (d0 : Array α) (w0 : World)
    (eg : ∀ args w, (callFunc g args).run P w = .ok (.enter g args) w) (hcmp : CmpLays P g cb enc k cf blk off d0.size w0) (R : RowK enc k w0 blk off d0) (hsz : d0.size < 4611686018427387904) :
    ∀ (f : Nat) (a m b : Nat) (d : Array α) (w : World), b - a ≤ f → a < m → m < b → b ≤ d0.size → d.size = d0.size → SWK enc k w0 blk off d w →
    Calls P 30 #[.slice (some ⟨blk, off, none⟩) d0.size cap, .int .i64 a, .int .i64 m, .int .i64 b, .func (.func g) #[] cb] w fun e w' =>
      e = .returned (.tuple #[]) ∧ SWK enc k w0 blk off (symM (ltOf cf) f d a m b) w' := by
  intro f
  induction f with
  | zero => intro a m b d w h1 h2 h3; omega
  | succ f ih =>
    intro a m b d w hf ham hmb hb hsk S
    by_cases h1 : m - a = 1
    · exact symMerge_1 k L enc cf g cb blk off cap d0 w0 eg hcmp R hsz f a m b d w hf ham hmb hb hsk S h1
    by_cases h2 : b - m = 1
    · exact symMerge_2 k L enc cf g cb blk off cap d0 w0 eg hcmp R hsz f a m b d w hf ham hmb hb hsk S h1 h2
    · exact symMerge_3 k L enc cf g cb blk off cap d0 w0 eg hcmp R hsz f ih a m b d w hf ham hmb hb hsk S h1 h2
end Go.Proofs.Ytgcjkijndibejaa.Srt
