-- PRINTED BY print.sh 35421559b90ae4d0a3588c463048766b98c2df88dd9212a6774a882060cdf62d: not written by this session
import Derived.Test.YtjbbogcoabgcnaaProg
import Derived.Below
import Derived.Deep.Draws
import Derived.Deep.AppendLies
import Derived.Maps.AppendAt
import Derived.OwnWalk
import Derived.Laws.BytesArg
import Derived.Laws.MakeOwn
import Derived.Laws.OwnMore
import Derived.Deep.OwnRows
import Derived.Tactics
import Derived.Lib.ConvBytes
import Derived.Laws.Slices
import Derived.WalkKit
import Derived.KernelRfl
import Derived.RowKit3
import Derived.Deep.LoopGhost
import Derived.Deep.QuietTactic
import Derived.BigQuiet
import Derived.WideLaws
import Derived.Deep.DeepCutAuto
import Derived.Deep.CutBlock
import Derived.Deep.RegionHeld3
import Derived.Laws.Rows
import Derived.Lib.AppendStr
import Derived.ArgAppend
import Derived.Laws.IdiomCopy
import Derived.OrdersHeld
import Derived.Laws.BitsLemmas
import Derived.RowKit
import Derived.Test.YtjbbogcoabgcnaaWWords
import Derived.Test.YtjbbogcoabgcnaaWLast
import Derived.Test.YtjbbogcoabgcnaaWTab
import Derived.Test.YtjbbogcoabgcnaaWFour
import Derived.Test.YtjbbogcoabgcnaaWQPut
import Derived.Test.YtjbbogcoabgcnaaWApart
import Derived.Test.YtjbbogcoabgcnaaWArr
import Derived.Test.YtjbbogcoabgcnaaWZeros
import Derived.Test.YtjbbogcoabgcnaaWFoot
import Derived.Test.YtjbbogcoabgcnaaWKept
import Derived.Test.YtjbbogcoabgcnaaWShare
import Derived.Test.YtjbbogcoabgcnaaWN
import Derived.Test.YtjbbogcoabgcnaaWFootNe
import Derived.Test.YtjbbogcoabgcnaaWAt
import Derived.Test.YtjbbogcoabgcnaaWEqStruct
import Derived.Test.YtjbbogcoabgcnaaWRepsOne
import Derived.Test.YtjbbogcoabgcnaaWInv
import Derived.Test.YtjbbogcoabgcnaaWInvWords
import Derived.Test.YtjbbogcoabgcnaaWGuard
import Derived.Test.YtjbbogcoabgcnaaWNEv
import Derived.Test.YtjbbogcoabgcnaaWMore
namespace Go.Proofs.Ytjbbogcoabgcnaa.PSrc
open Go.RowKit Go.Proofs.YtjbbogcoabgcnaaW.PrintWords Go.Proofs.YtjbbogcoabgcnaaW.PrintLast Go.Proofs.YtjbbogcoabgcnaaW.PrintMore
attribute [local go_sem] max2_int min2_int max_two min_two max_three min_three max_four min_four   -- for this text's walks alone
set_option linter.unusedVariables false
set_option linter.unusedSimpArgs false



def errW : Option Int → Value
  | none => .nilIface
  | some c => .iface 0 (.int .i64 c)
theorem errW_none : errW none = .nilIface := rfl
theorem errW_some (c : Int) : errW (some c) = .iface 0 (.int .i64 c) := rfl

theorem info5 : (Try.prog.info? 5).map (fun i => (i.zero, i.size, i.bytes)) = some (some (.int .u8 0), 1, 1) := by kernel_rfl
theorem info43 : (Try.prog.info? 43).map (fun i => (i.zero, i.size, i.bytes)) = some (some (.int .u8 0), 1, 1) := by kernel_rfl
theorem info69 : (Try.prog.info? 69).map (fun i => (i.zero, i.size, i.bytes)) = some (some (.agg #[(.string ⟨#[]⟩), (.bool false), (.bool false), (.bool false), (.bool false)]), 5, 24) := by kernel_rfl
-- the values' own types
/-! #### struct type 69 -/
structure S69 where
  f0 : ByteArray
  f1 : Bool
  f2 : Bool
  f3 : Bool
  f4 : Bool
def z69 : S69 := ⟨(⟨#[]⟩ : ByteArray), false, false, false, false⟩
def k69 : Kd S69 := Kd.iso (Kd.pair Kd.string (Kd.pair Kd.bool (Kd.pair Kd.bool (Kd.pair Kd.bool Kd.bool)))) (fun x : S69 => (x.f0, x.f1, x.f2, x.f3, x.f4))
theorem k69_open {w : World} {x : S69} {cs : List Value} (h : k69.K w x cs) : cs = [.string x.f0, .bool x.f1, .bool x.f2, .bool x.f3, .bool x.f4] := by
  obtain ⟨_, _, rfl, rfl, ⟨_, _, rfl, rfl, ⟨_, _, rfl, rfl, ⟨_, _, rfl, rfl, rfl⟩⟩⟩⟩ := h
  exact rfl
theorem k69_openM {w : World} {base : Nat} {ok : Nat → Prop} {x : S69} {cs : List Value} (h : k69.M w base ok x cs) : cs = [.string x.f0, .bool x.f1, .bool x.f2, .bool x.f3, .bool x.f4] := by
  obtain ⟨_, _, rfl, rfl, ⟨_, _, rfl, rfl, ⟨_, _, rfl, rfl, ⟨_, _, rfl, rfl, rfl⟩⟩⟩⟩ := h
  exact rfl
theorem k69_mk (w : World) (x : S69)  : k69.K w x [.string x.f0, .bool x.f1, .bool x.f2, .bool x.f3, .bool x.f4] := ⟨[.string x.f0], [.bool x.f1, .bool x.f2, .bool x.f3, .bool x.f4], rfl, rfl, ⟨[.bool x.f1], [.bool x.f2, .bool x.f3, .bool x.f4], rfl, rfl, ⟨[.bool x.f2], [.bool x.f3, .bool x.f4], rfl, rfl, ⟨[.bool x.f3], [.bool x.f4], rfl, rfl, rfl⟩⟩⟩⟩
theorem k69_mkM (w : World) (base : Nat) (ok : Nat → Prop) (x : S69)  : k69.M w base ok x [.string x.f0, .bool x.f1, .bool x.f2, .bool x.f3, .bool x.f4] := ⟨[.string x.f0], [.bool x.f1, .bool x.f2, .bool x.f3, .bool x.f4], rfl, rfl, ⟨[.bool x.f1], [.bool x.f2, .bool x.f3, .bool x.f4], rfl, rfl, ⟨[.bool x.f2], [.bool x.f3, .bool x.f4], rfl, rfl, ⟨[.bool x.f3], [.bool x.f4], rfl, rfl, rfl⟩⟩⟩⟩
def rd_T69 (xs : List S69) (i : Int) : S69 := xs.getD i.toNat z69
theorem at_T69 {w : World} {A : Option Addr} {n : Nat} {xs : List S69} (h : Kd.C k69 w A n xs) (i : Int) (h0 : 0 ≤ i) (h1 : i < n) : ∃ ad , A = some ad ∧ w.cell? (ad.add (i.toNat * 5)) = some (.string (rd_T69 xs i).f0) ∧ w.cell? ⟨(ad.add (i.toNat * 5)).block, (ad.add (i.toNat * 5)).off + 1, none⟩ = some (.bool (rd_T69 xs i).f1) ∧ w.cell? ⟨(ad.add (i.toNat * 5)).block, (ad.add (i.toNat * 5)).off + 2, none⟩ = some (.bool (rd_T69 xs i).f2) ∧ w.cell? ⟨(ad.add (i.toNat * 5)).block, (ad.add (i.toNat * 5)).off + 3, none⟩ = some (.bool (rd_T69 xs i).f3) ∧ w.cell? ⟨(ad.add (i.toNat * 5)).block, (ad.add (i.toNat * 5)).off + 4, none⟩ = some (.bool (rd_T69 xs i).f4) := by
  obtain ⟨ad, c, e, _, hK, hc0⟩ := Kd.C_get h z69 i h0 h1
  have hc : ∀ j u, c[j]? = some u → w.cell? (ad.add (i.toNat * 5 + j)) = some u := hc0
  obtain rfl := k69_open hK
  exact ⟨ad, e, hc 0 _ rfl, by rw [← add_field _ _ 1 (by omega)]; exact hc 1 _ rfl, by rw [← add_field _ _ 2 (by omega)]; exact hc 2 _ rfl, by rw [← add_field _ _ 3 (by omega)]; exact hc 3 _ rfl, by rw [← add_field _ _ 4 (by omega)]; exact hc 4 _ rfl⟩

end Go.Proofs.Ytjbbogcoabgcnaa.PSrc
