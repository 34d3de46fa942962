/- Cuts of bytes, and their strings. Conditions: as each lemma says. -/
import Derived.Test.YtgcjkijndibejaaEPl
import Derived.Test.YtgcjkijndibejaaEAw
set_option linter.unusedVariables false
set_option linter.unusedSimpArgs false
namespace Go.Proofs.Ytgcjkijndibejaa.Srt
open Go.Lib hiding bytesOf bytesOf_length
open Go.Shelf Go.RowKit Go.Proofs.YtgcjkijndibejaaW.PrintWords Go.Proofs.YtgcjkijndibejaaW.PrintLast

theorem umod (a : Int) (n : Nat) : ∃ p : Nat, (IntKind.u64.wrap a).tmod ((n : Int) + 1) = (p : Int) ∧ p ≤ n := by
  have h0 : 0 ≤ IntKind.u64.wrap a := (wrap_within .u64 a).1
  have h1 := Int.tmod_nonneg ((n : Int) + 1) h0
  have h2 := Int.tmod_lt_of_pos (IntKind.u64.wrap a) (show (0 : Int) < (n : Int) + 1 by omega)
  exact ⟨((IntKind.u64.wrap a).tmod ((n : Int) + 1)).toNat, by omega, by omega⟩
theorem cut_to_b (A : Option Addr) (n c p : Nat) (hp : p ≤ n) (hc : n ≤ c) : ∀ W : World, (Instr.slice 22 (.slice A n c) none (some (.int .i64 p)) none).run Try.prog W = .ok (.slice A p c) W := by
  obtain ⟨i0, hi0, _, hsz, _⟩ := info_parts info_u8
  have := cut_to (P := Try.prog) 22 5 .i64 Try.underlying22 hi0 A n c (p : Int) (by omega) (by omega) hc
  simpa using this
/-- The bytes of cuts, as strings, in a world and behind draws. -/
theorem conv_cut {w : World} {A : Option Addr} {c : Nat} {b : List Int} (h : Kd.C (Kd.int .u8) w A b.length b) (hc : b.length ≤ c) (p q : Nat) (hp : p ≤ q) (hq : q ≤ b.length) (k : Nat) {w' : World} (hb : Below w.heap.size w w') : (convert 22 9 (.slice (if c = p then A else A.map (·.add (p * 1))) (q - p) k)).run Try.prog w' = .ok (.string (strOfNums ((b.drop p).take (q - p)))) w' := conv_C (C_mid (Kd.C_below h hb) hc p q hp hq)
theorem conv_to {w : World} {A : Option Addr} {b : List Int} (h : Kd.C (Kd.int .u8) w A b.length b) (p : Nat) (hp : p ≤ b.length) (k : Nat) {w' : World} (hb : Below w.heap.size w w') : (convert 22 9 (.slice A p k)).run Try.prog w' = .ok (.string (strOfNums (b.take p))) w' := conv_C (C_take (Kd.C_below h hb) p hp)
theorem conv_from {w : World} {A : Option Addr} {c : Nat} {b : List Int} (h : Kd.C (Kd.int .u8) w A b.length b) (hc : b.length ≤ c) (p : Nat) (hp : p ≤ b.length) (k : Nat) {w' : World} (hb : Below w.heap.size w w') : (convert 22 9 (.slice (if c = p then A else A.map (·.add (p * 1))) (b.length - p) k)).run Try.prog w' = .ok (.string (strOfNums (b.drop p))) w' := by
  have h1 := Kd.C_drop (Kd.C_below h hb) hp hc
  rw [List.length_drop] at h1
  exact conv_C h1
end Go.Proofs.Ytgcjkijndibejaa.Srt
