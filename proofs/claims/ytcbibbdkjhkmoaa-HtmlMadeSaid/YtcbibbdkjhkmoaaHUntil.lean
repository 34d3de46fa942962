/- begins, until, walked. Conditions: as each lemma says. -/
import Derived.Test.YtcbibbdkjhkmoaaHIdx
set_option linter.unusedVariables false
set_option linter.unusedSimpArgs false
namespace Go.Proofs.Ytcbibbdkjhkmoaa.H
open Go.RowKit Go.Proofs.YtcbibbdkjhkmoaaW.PrintWords Go.Proofs.Ytcbibbdkjhkmoaa.L Go.Proofs.Ytcbibbdkjhkmoaa.S Go.Proofs.Ytcbibbdkjhkmoaa.Htm

set_option maxHeartbeats 1000000 in
theorem begins_any (A : Option Addr) (c : Nat) (b : List Int) (p : Nat) (s : ByteArray) (W : World) (hC : Kd.C (Kd.int .u8) W A b.length b) (hc : b.length ≤ c) (hb : Bys b) (hm : b.length ≤ 65536) (hp : p ≤ b.length) (hs : 1 ≤ s.size) (hs2 : s.size ≤ 60) :
    Calls Try.prog 27 #[.slice A b.length c, .int .i64 p, .string s] W fun e w' => e = .returned (.bool (begs b p (bytesOf s))) ∧ Below W.heap.size W w' := by
  have kc := fun W => print_bytes (P := Try.prog) 9 22 5 Try.underlying9 Try.underlying22 Try.underlying5 s W
  obtain ⟨i0, hi0, _, hsz, _⟩ := info_parts info5
  have hct := cut_from (P := Try.prog) 22 5 .i64 Try.underlying22 hi0 1 hsz A b.length c (p : Int) (by omega) (by omega)
  simp only [Int.toNat_natCast] at hct
  generalize hA2 : (if c = p then A else Option.map (fun x => x.add (p * 1)) A) = A2 at hct
  have HBB := Lib.hid (show Below W.heap.size W (Lib.bytesWorld W 5 s) from bytes_below (Below.refl _ _) (Nat.le_refl _) _ _)
  have HC := Lib.hid (show Kd.C (Kd.int .u8) (Lib.bytesWorld W 5 s) A2 (b.length - p) (b.drop p) from by
    have := Kd.C_drop (Kd.C_below hC HBB.out) hp hc
    rw [List.length_drop] at this
    rw [← hA2]
    exact this)
  have HZ := Lib.hid (show Kd.C (Kd.int .u8) (Lib.bytesWorld W 5 s) (some ⟨W.heap.size, 0, none⟩) s.size (bytesOf s) from Kd.C_of_reads (d := 0) (h1 := fun _ => rfl) (bytes_reads W 5 s (by omega)))
  have HY := Lib.hid (And.intro (hb.drop p) (Bys.of s))
  have hnle : b.length - p ≤ c - p := by omega
  clear hA2 hi0 hsz hC hb
  go_enter Try.func27, Try.ntmps27
  go_wp2_with fail
  refine (has_any _ _ _ _ _ _ (b.drop p) (bytesOf s) _ HC.out hnle HZ.out HY.out.1 HY.out.2).mono ?_
  rintro e w' ⟨rfl, rfl⟩
  go_wp2_with fail
  go_ret
  exact ⟨rfl, HBB.out⟩
set_option maxHeartbeats 1000000 in
theorem until_any (ad : Addr) (c : Nat) (b : List Int) (p : Nat) (s : ByteArray) (W : World) (hC : Kd.C (Kd.int .u8) W (some ad) b.length b) (hc : b.length ≤ c) (hb : Bys b) (hm : b.length ≤ 65536) (hp : p ≤ b.length) (hs : 1 ≤ s.size) (hs2 : s.size ≤ 60) (hM : Mx W) :
    Calls Try.prog 28 #[.slice (some ad) b.length c, .int .i64 p, .string s] W fun e w' => e = .returned (.int .i64 (untl (bytesOf s) b p)) ∧ Below W.heap.size W w' := by
  have kc := fun W => print_bytes (P := Try.prog) 9 22 5 Try.underlying9 Try.underlying22 Try.underlying5 s W
  obtain ⟨i0, hi0, _, hsz, _⟩ := info_parts info5
  have hct := cut_from (P := Try.prog) 22 5 .i64 Try.underlying22 hi0 1 hsz (some ad) b.length c (p : Int) (by omega) (by omega)
  simp only [Int.toNat_natCast] at hct
  obtain ⟨a2, hA2⟩ : ∃ a2, (if c = p then some ad else Option.map (fun x => x.add (p * 1)) (some ad)) = some a2 := by
    split
    · exact ⟨_, rfl⟩
    · exact ⟨_, rfl⟩
  rw [hA2] at hct
  have HBB := Lib.hid (show Below W.heap.size W (Lib.bytesWorld W 5 s) from bytes_below (Below.refl _ _) (Nat.le_refl _) _ _)
  have HC := Lib.hid (show Kd.C (Kd.int .u8) (Lib.bytesWorld W 5 s) (some a2) (b.length - p) (b.drop p) from by
    have := Kd.C_drop (Kd.C_below hC HBB.out) hp hc
    rw [List.length_drop] at this
    rw [← hA2]
    exact this)
  have HZ := Lib.hid (show Kd.C (Kd.int .u8) (Lib.bytesWorld W 5 s) (some ⟨W.heap.size, 0, none⟩) s.size (bytesOf s) from Kd.C_of_reads (d := 0) (h1 := fun _ => rfl) (bytes_reads W 5 s (by omega)))
  have HY := Lib.hid (And.intro (hb.drop p) (Bys.of s))
  have HM := Lib.hid (hM.below HBB.out)
  have hnle : b.length - p ≤ c - p := by omega
  have hd1 : decide ((b.length : Int) < (p : Int)) = false := by simp; omega
  have hn2 : ¬ (b.length < p) := by omega
  have hlen := bytesOf_length s
  clear hA2 hi0 hsz hC hb hM
  have HU : untl (bytesOf s) b p = match fnd (bytesOf s) (b.drop p) with | some i => p + i + (bytesOf s).length | none => b.length := rfl
  have hfl : ∀ i, fnd (bytesOf s) (b.drop p) = some i → i + (bytesOf s).length ≤ (b.drop p).length := fun i h => fnd_le _ (by intro e; rw [e] at hlen; simp at hlen; omega) _ i h
  rw [List.length_drop] at hfl
  have HF : fndI (bytesOf s) (b.drop p) = match fnd (bytesOf s) (b.drop p) with | some i => (i : Int) | none => -1 := rfl
  go_enter Try.func28, Try.ntmps28
  cases hf : fnd (bytesOf s) (b.drop p) with
  | none =>
    rw [hf] at HU HF
    have HU2 := Lib.hid HU
    have HF2 := Lib.hid HF
    clear HU HF hf hfl hlen
    go_wp2_with fail
    refine (bindex_any a2 _ _ _ _ _ (b.drop p) (bytesOf s) _ HC.out hnle HZ.out HY.out.1 HY.out.2 (by omega) (by omega) (by omega) HM.out).mono ?_
    rintro e w' ⟨rfl, hb'⟩
    rw [HF2.out]
    have HB' := Lib.hid (below_step HBB.out hb')
    clear hb'
    go_wp2_with fail
    go_ret
    exact ⟨congrArg (fun n : Nat => Ending.returned (Value.int .i64 n)) HU2.out.symm, HB'.out⟩
  | some i =>
    have hi := hfl i hf
    rw [hf] at HU HF
    rw [hlen] at hi HU
    have HU2 := Lib.hid HU
    have HF2 := Lib.hid HF
    clear HU HF hf hfl hlen
    go_wp2_with fail
    refine (bindex_any a2 _ _ _ _ _ (b.drop p) (bytesOf s) _ HC.out hnle HZ.out HY.out.1 HY.out.2 (by omega) (by omega) (by omega) HM.out).mono ?_
    rintro e w' ⟨rfl, hb'⟩
    rw [HF2.out]
    have HB' := Lib.hid (below_step HBB.out hb')
    clear hb'
    go_wp2_with fail
    go_ret
    refine ⟨?_, HB'.out⟩
    rw [HU2.out]
    first | rfl | (simp; done)
end Go.Proofs.Ytcbibbdkjhkmoaa.H
