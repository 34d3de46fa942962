/- Acts: what a row's reading of one gives. Conditions: none. -/
import Derived.Test.YtecpmgbahknneaaProg
import Derived.Test.YtecpmgbahknneaaOpn
import Derived.KernelRfl
namespace Go.Proofs.Ytecpmgbahknneaa.L
open Go.RowKit Go.Proofs.YtecpmgbahknneaaW.PrintWords Go.Proofs.YtecpmgbahknneaaW.Opn

/-- An act: kind, label, from, to, how many. -/
abbrev Ac := Int × Int × Int × Int × Int
def acC (a : Ac) : List Value := [.int .u8 a.1, .int .u8 a.2.1, .int .i64 a.2.2.1, .int .i64 a.2.2.2.1, .int .u8 a.2.2.2.2]
def kAct : Kd Ac := Kd.pair (Kd.int .u8) (Kd.pair (Kd.int .u8) (Kd.pair (Kd.int .i64) (Kd.pair (Kd.int .i64) (Kd.int .u8))))
theorem kAct_open {w : World} {a : Ac} {cs : List Value} (h : kAct.K w a cs) : cs = acC a := by
  obtain ⟨_, _, rfl, rfl, _, _, rfl, rfl, _, _, rfl, rfl, _, _, rfl, rfl, rfl⟩ := h
  rfl
def AcOk (a : Ac) : Prop := (Lit.int .u8 a.1).wf = true ∧ (Lit.int .u8 a.2.1).wf = true ∧ (Lit.int .i64 a.2.2.1).wf = true ∧ (Lit.int .i64 a.2.2.2.1).wf = true ∧ (Lit.int .u8 a.2.2.2.2).wf = true
theorem opAct : Opens Try.prog 46 kAct AcOk :=
  Opens.struct (OpensL.cons (Opens.int Try.underlying5) (by kernel_rfl) (by kernel_rfl)
    (OpensL.cons (Opens.int Try.underlying5) (by kernel_rfl) (by kernel_rfl)
      (OpensL.cons (Opens.int Try.underlying3) (by kernel_rfl) (by kernel_rfl)
        (OpensL.cons (Opens.int Try.underlying3) (by kernel_rfl) (by kernel_rfl)
          (OpensL.last (Opens.int Try.underlying5) (by kernel_rfl) (by kernel_rfl)))))) Try.underlying46 (by kernel_rfl)
theorem opActs : Opens Try.prog 41 (Kd.slice 46 kAct) (fun xs => ∀ x ∈ xs, AcOk x) :=
  Opens.imp (Opens.slice (B := 32) opAct Try.underlying41 (by kernel_rfl) (by kernel_rfl)) (fun _ h => h.2.2)
theorem u8_of {x : Int} (h : (Lit.int .u8 x).wf = true) : ∃ n : Nat, x = n ∧ n < 256 := by
  simp only [Lit.wf, Bool.and_eq_true, decide_eq_true_eq] at h
  have e1 : IntKind.u8.min = 0 := rfl
  have e2 : IntKind.u8.max = 255 := rfl
  exact ⟨x.toNat, by omega, by omega⟩
end Go.Proofs.Ytecpmgbahknneaa.L
