/- slices' stable sort at edits: swapRange, rotate. Conditions: as each lemma says (a comparison's contract, the row in memory). -/
import Derived.Shelf.SlSortCmp.KitK
import Derived.Test.YtgcjkijndibejaaProg
import Derived.Deep.LoopGhost
set_option linter.unusedVariables false
set_option linter.unusedSimpArgs false
namespace Go.Proofs.Ytgcjkijndibejaa.Srt
open Go.Shelf Go.RowKit Go.Lib Go.Sort

/-- What of the program the sort wants, the element's size a variable. -/
structure Sb (P : Program) (k : Nat) : Prop where
  mixed : P.follows .mixedOrders = true
  f27 : P.funcs[27]? = some Try.f27
  f29 : P.funcs[29]? = some Try.f29
  f30 : P.funcs[30]? = some Try.f30
  f31 : P.funcs[31]? = some Try.f31
  f32 : P.funcs[32]? = some Try.f32
  t0 : P.underlying 0 = some (TypeDesc.tuple #[])
  a0 : ∀ w, (isAgg 0).run P w = .ok false w
  z0 : ∀ w, (Go.sizeOf 0).run P w = .ok 1 w
  v0 : ∀ w, (zeroValue 0).run P w = .ok (Value.tuple #[]) w
  t3 : P.underlying 3 = some (TypeDesc.int IntKind.i64)
  a3 : ∀ w, (isAgg 3).run P w = .ok false w
  z3 : ∀ w, (Go.sizeOf 3).run P w = .ok 1 w
  v3 : ∀ w, (zeroValue 3).run P w = .ok (Value.int IntKind.i64 0) w
  t4 : P.underlying 4 = some (TypeDesc.bool)
  a4 : ∀ w, (isAgg 4).run P w = .ok false w
  z4 : ∀ w, (Go.sizeOf 4).run P w = .ok 1 w
  v4 : ∀ w, (zeroValue 4).run P w = .ok (Value.bool false) w
  t33 : P.underlying 33 = some (TypeDesc.int IntKind.u64)
  a33 : ∀ w, (isAgg 33).run P w = .ok false w
  z33 : ∀ w, (Go.sizeOf 33).run P w = .ok 1 w
  v33 : ∀ w, (zeroValue 33).run P w = .ok (Value.int IntKind.u64 0) w
  t23 : P.underlying 23 = some (TypeDesc.slice 46)
  a23 : ∀ w, (isAgg 23).run P w = .ok false w
  z23 : ∀ w, (Go.sizeOf 23).run P w = .ok 1 w
  v23 : ∀ w, (zeroValue 23).run P w = .ok (Value.slice none 0 0) w
  t55 : P.underlying 55 = some (TypeDesc.func #[46, 46] #[3] false)
  a55 : ∀ w, (isAgg 55).run P w = .ok false w
  z55 : ∀ w, (Go.sizeOf 55).run P w = .ok 1 w
  v55 : ∀ w, (zeroValue 55).run P w = .ok (Value.nilFunc) w
  aE : ∀ w, (isAgg 46).run P w = .ok true w
  zE : ∀ w, (Go.sizeOf 46).run P w = .ok k w
variable {P : Program} {α : Type} [Inhabited α]

/-! ### swapRange -/
def swpN (d : Array α) (a b : Nat) : Nat → Array α
  | 0 => d
  | n + 1 => swp (swpN d a b n) (a + n) (b + n)
theorem size_swpN (d : Array α) (a b n : Nat) : (swpN d a b n).size = d.size := by
  induction n with
  | zero => rfl
  | succ n ih => unfold swpN; rw [size_swp]; exact ih
set_option maxHeartbeats 4000000 in
set_option maxRecDepth 1000000 in
theorem swapRange_any (k : Nat) (L : Sb P k) (enc : α → List Value) (cb : Value) (blk off cap a b n : Nat) (d0 d : Array α) (w0 w : World)
    (R : RowK enc k w0 blk off d0) (hs : d.size = d0.size) (S : SWK enc k w0 blk off d w) (ha : a + n ≤ d0.size) (hb : b + n ≤ d0.size) (hsz : d0.size < 4611686018427387904) :
    Calls P 32 #[.slice (some ⟨blk, off, none⟩) d0.size cap, .int .i64 a, .int .i64 b, .int .i64 n, cb] w fun e w' =>
      e = .returned (.tuple #[]) ∧ SWK enc k w0 blk off (swpN d a b n) w' := by
  have mixed := L.mixed; have t0 := L.t0; have a0 := L.a0; have z0 := L.z0; have v0 := L.v0; have t3 := L.t3; have a3 := L.a3; have z3 := L.z3; have v3 := L.v3; have t4 := L.t4; have a4 := L.a4; have z4 := L.z4; have v4 := L.v4; have t23 := L.t23; have a23 := L.a23; have z23 := L.z23; have v23 := L.v23; have t55 := L.t55; have a55 := L.a55; have z55 := L.z55; have v55 := L.v55; have aE := L.aE; have zE := L.zE
  have u23 := run_underlying L.t23
  have S0 : Aside _ := S
  clear S
  have F32 := L.f32
  go_enter F32, Try.ntmps32
  go_wp2
  go_loopg [10] n (fun g1 vi wr => ∃ i : Nat, vi = .int .i64 i ∧ i ≤ n ∧ n - i ≤ g1 ∧ Aside (SWK enc k w0 blk off (swpN d a b i) wr))
  case atStart => exact ⟨0, rfl, Nat.zero_le _, Nat.le_refl _, S0⟩
  case round =>
    clear S0
    obtain ⟨i, rfl, hi, hg, S1⟩ := hrel
    by_cases hlt : i < n
    · have hltz : (i : Int) < (n : Int) := by omega
      obtain ⟨dk, hdk⟩ : ∃ dk, dk = swpN d a b i := ⟨_, rfl⟩
      have hsk : dk.size = d0.size := by rw [hdk, size_swpN]; exact hs
      rw [← hdk] at S1
      obtain ⟨x, hx⟩ : ∃ x : Nat, (a : Int) + (i : Int) = (x : Int) := ⟨a + i, by omega⟩
      obtain ⟨y, hy⟩ : ∃ y : Nat, (b : Int) + (i : Int) = (y : Int) := ⟨b + i, by omega⟩
      have rx : IntKind.i64.wrap ((a : Int) + (i : Int)) = (x : Int) := by rw [IntKind.wrap_i64]; omega
      have ry : IntKind.i64.wrap ((b : Int) + (i : Int)) = (y : Int) := by rw [IntKind.wrap_i64]; omega
      have px : (0 : Int) ≤ (x : Int) := by omega
      have py : (0 : Int) ≤ (y : Int) := by omega
      have bx : (x : Int) < (d0.size : Int) := by omega
      have by_ : (y : Int) < (d0.size : Int) := by omega
      have ex : ((x : Int)).toNat = x := by omega
      have ey : ((y : Int)).toNat = y := by omega
      have HX : Hid (x = a + i ∧ y = b + i) := by show _ ∧ _; omega
      have S3 : Aside (SWK enc k w0 blk off (swp dk x y) ((wr.drew.setCells blk (off + x * k) (enc dk[y]!)).setCells blk (off + y * k) (enc dk[x]!))) := S1.out.swapped R x y (by omega) (by omega)
      have la := S1.out.ld1 R hsk P x (by omega)
      have lb := S1.out.ld1 R hsk P y (by omega)
      have sa := S1.out.st1 R hsk P x (by omega) dk[y]!
      have sb := S1.out.st2 R hsk P x y (by omega) (by omega) dk[y]! dk[x]!
      have na : (enc dk[x]!).length = k := R.hk _
      have nb : (enc dk[y]!).length = k := R.hk _
      generalize enc dk[x]! = cI at S3 la sb na
      generalize enc dk[y]! = cJ at S3 lb sa sb nb
      clear S1
      go_wp2_with fail
      go_big_region_o
      clear la lb sa sb
      generalize (wr.drew.setCells blk (off + x * k) cJ).setCells blk (off + y * k) cI = w3 at S3 ⊢
      go_wp2
      go_roundg (n - (i + 1))
      case measure => omega
      case rel =>
        refine ⟨i + 1, by first | go_num | (congr 1; omega), by omega, Nat.le_refl _, ?_⟩
        have e : swpN d a b (i + 1) = swp dk x y := by rw [HX.out.1, HX.out.2, hdk]; rfl
        rw [e]
        exact S3
    · have hltz : ¬ (i : Int) < (n : Int) := by omega
      obtain rfl : i = n := by omega
      go_wp2
      go_end0
      exact ⟨rfl, S1.out⟩
end Go.Proofs.Ytgcjkijndibejaa.Srt
