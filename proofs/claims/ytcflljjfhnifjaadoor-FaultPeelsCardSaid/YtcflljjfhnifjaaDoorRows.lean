/-
  NARROWER THAN 'FOR EVERY INPUT', by the rows' own cells (each row's printed sentence says how): FaultWhere: laid · FaultMakes: laid · FaultCodes: laid · FaultPeels: laid.
  DERIVED. THE GIVEN ROWS OF THIS SEAT. 4 by the template 'for every input the law returns true; each argument reads behind the call as it read before'; 0 by the template 'total and deterministic' (their statements: YtcflljjfhnifjaaDoorTotals.lean).
  GIVEN WITH THE SEED: the statements are not yours to turn. If you find one false, say at which input.
  Laid BY PROGRAM, IN A SANDBOX (cutbox-rows.mjs): the forced cells as the released guide's own fill.sh prints them over the translation e9dc87edbe6021fa… (all of the seat's roots in one cut). By AI agents, Wed Nov 11 2026. No macro, syntax, notation, axiom, sorry.
-/
import Derived.Test.YtcflljjfhnifjaaDoorChecked
import GoSem.Claim
import GoSem.ClaimJoined
import GoSem.ClaimMapViews
import Derived.JoinedTies
import Derived.KernelRfl
namespace Go.Proofs.YtcflljjfhnifjaaDoor
/- THE CELL 'sum', in the pinned program and in every row, IS THE sha256 OF THE DUMP (.gsa) THAT YtcflljjfhnifjaaDoorProg.lean LOADS. Nothing in Lean hashes anything: it is a label: what it is worth is what the hold of that sum in a sandbox is worth. -/
noncomputable def Tryd.pinned : Pinned := { name := "ytcflljjfhnifjaadoor", sum := "e9dc87edbe6021fa4c058f4c87bb2f05f5d6d3270573d764b3b641cc845cdd07", checked := Tryd.checked }
namespace Rows
def none {H : Type} : Left H := { results := [], args := [] }

/- WHAT THE LISTED PACKAGE-LEVEL VARIABLES READ AS WHEN THE CALL BEGINS. Each datum BY PROGRAM (the guide's laid-datum.mjs) off the statement by which the dump's own 'gosem.cut.vars' lays the variable. In a bare row this is a premise. The card (YtcflljjfhnifjaaDoorCards.lean) ties it to the program's text. -/
def laid_errors_errorType {H : Type} : DataW H := .iface "internal/reflectlite.rtype" (.agg [.ptr (.lit (.string [101, 114, 114, 111, 114]))])

/-- 'redpenlaw05.FaultWhere': WHATEVER THE INPUT: true; the input reads as it did. -/
def faultWhereSpec : ChangeSpec := { name := "faultWhere", fn := fun _ => fun
  | [d1, d2] => { results := [.lit (.bool true)], args := [d1, d2] }
  | _ => none }
def faultWhereRow : OpenClaim := { program := "ytcflljjfhnifjaadoor", sum := "e9dc87edbe6021fa4c058f4c87bb2f05f5d6d3270573d764b3b641cc845cdd07", func := "redpen/redpenlaw05.FaultWhere", spec := "faultWhere", inPlace := ["internal/reflectlite.ValueOf", "(internal/reflectlite.Value).Type", "(internal/reflectlite.Value).IsNil", "internal/reflectlite.TypeOf", "(internal/reflectlite.Value).Elem", "(internal/reflectlite.Value).Set"], unfollowed := true, recurses := true, named := ["errors.errorType"], apart := false, laid := [("errors.errorType", laid_errors_errorType)] }
def FaultWhereSaid : Prop := faultWhereRow.holds Tryd.pinned (OpenSpec.ofChange faultWhereSpec)

/-- ITS FALSE NEIGHBOUR: 'it returns false'. Refute it at one input. -/
def faultWhereWrong : ChangeSpec := { name := "faultWhere", fn := fun _ => fun
  | [d1, d2] => { results := [.lit (.bool false)], args := [d1, d2] }
  | _ => none }
def FaultWhereWrongFalsely : Prop := faultWhereRow.holds Tryd.pinned (OpenSpec.ofChange faultWhereWrong)

/-- 'redpenlaw05.FaultMakes': WHATEVER THE INPUT: true; the input reads as it did. -/
def faultMakesSpec : ChangeSpec := { name := "faultMakes", fn := fun _ => fun
  | [d1, d2, d3] => { results := [.lit (.bool true)], args := [d1, d2, d3] }
  | _ => none }
def faultMakesRow : OpenClaim := { program := "ytcflljjfhnifjaadoor", sum := "e9dc87edbe6021fa4c058f4c87bb2f05f5d6d3270573d764b3b641cc845cdd07", func := "redpen/redpenlaw05.FaultMakes", spec := "faultMakes", inPlace := ["internal/reflectlite.ValueOf", "(internal/reflectlite.Value).Type", "(internal/reflectlite.Value).IsNil", "internal/reflectlite.TypeOf", "(internal/reflectlite.Value).Elem", "(internal/reflectlite.Value).Set"], unfollowed := true, recurses := true, named := ["errors.errorType"], apart := false, laid := [("errors.errorType", laid_errors_errorType)] }
def FaultMakesSaid : Prop := faultMakesRow.holds Tryd.pinned (OpenSpec.ofChange faultMakesSpec)

/-- ITS FALSE NEIGHBOUR: 'it returns false'. Refute it at one input. -/
def faultMakesWrong : ChangeSpec := { name := "faultMakes", fn := fun _ => fun
  | [d1, d2, d3] => { results := [.lit (.bool false)], args := [d1, d2, d3] }
  | _ => none }
def FaultMakesWrongFalsely : Prop := faultMakesRow.holds Tryd.pinned (OpenSpec.ofChange faultMakesWrong)

/-- 'redpenlaw05.FaultCodes': WHATEVER THE INPUT: true; the input reads as it did. -/
def faultCodesSpec : ChangeSpec := { name := "faultCodes", fn := fun _ => fun
  | [d1, d2, d3] => { results := [.lit (.bool true)], args := [d1, d2, d3] }
  | _ => none }
def faultCodesRow : OpenClaim := { program := "ytcflljjfhnifjaadoor", sum := "e9dc87edbe6021fa4c058f4c87bb2f05f5d6d3270573d764b3b641cc845cdd07", func := "redpen/redpenlaw05.FaultCodes", spec := "faultCodes", inPlace := ["internal/reflectlite.ValueOf", "(internal/reflectlite.Value).Type", "(internal/reflectlite.Value).IsNil", "internal/reflectlite.TypeOf", "(internal/reflectlite.Value).Elem", "(internal/reflectlite.Value).Set"], unfollowed := true, recurses := true, named := ["errors.errorType"], apart := false, laid := [("errors.errorType", laid_errors_errorType)] }
def FaultCodesSaid : Prop := faultCodesRow.holds Tryd.pinned (OpenSpec.ofChange faultCodesSpec)

/-- ITS FALSE NEIGHBOUR: 'it returns false'. Refute it at one input. -/
def faultCodesWrong : ChangeSpec := { name := "faultCodes", fn := fun _ => fun
  | [d1, d2, d3] => { results := [.lit (.bool false)], args := [d1, d2, d3] }
  | _ => none }
def FaultCodesWrongFalsely : Prop := faultCodesRow.holds Tryd.pinned (OpenSpec.ofChange faultCodesWrong)

/-- 'redpenlaw05.FaultPeels': WHATEVER THE INPUT: true; the input reads as it did. -/
def faultPeelsSpec : ChangeSpec := { name := "faultPeels", fn := fun _ => fun
  | [d1, d2] => { results := [.lit (.bool true)], args := [d1, d2] }
  | _ => none }
def faultPeelsRow : OpenClaim := { program := "ytcflljjfhnifjaadoor", sum := "e9dc87edbe6021fa4c058f4c87bb2f05f5d6d3270573d764b3b641cc845cdd07", func := "redpen/redpenlaw05.FaultPeels", spec := "faultPeels", inPlace := ["internal/reflectlite.ValueOf", "(internal/reflectlite.Value).Type", "(internal/reflectlite.Value).IsNil", "internal/reflectlite.TypeOf", "(internal/reflectlite.Value).Elem", "(internal/reflectlite.Value).Set"], unfollowed := true, recurses := true, named := ["errors.errorType"], apart := false, laid := [("errors.errorType", laid_errors_errorType)] }
def FaultPeelsSaid : Prop := faultPeelsRow.holds Tryd.pinned (OpenSpec.ofChange faultPeelsSpec)

/-- ITS FALSE NEIGHBOUR: 'it returns false'. Refute it at one input. -/
def faultPeelsWrong : ChangeSpec := { name := "faultPeels", fn := fun _ => fun
  | [d1, d2] => { results := [.lit (.bool false)], args := [d1, d2] }
  | _ => none }
def FaultPeelsWrongFalsely : Prop := faultPeelsRow.holds Tryd.pinned (OpenSpec.ofChange faultPeelsWrong)

/- THE SECOND FORM. 'bulk': how many values and letters a reading holds, each counted each time it is reached (what is shared counts as often as it is met; a slice's spare places count too). A statement '..UptoSaid' is the law's where the arguments, and the package variables that the reading takes, are together of bulk at most 1048576: NARROWER than '..Said'. Prove '..Said' where nothing that the law and all that it calls make is longer than what came in: it says more and counts as full. Else prove '..UptoSaid'. A law counts once. -/
mutual
def uptoBulk {H : Type} : DataW H → Nat
  | .lit (.string bytes) => bytes.length + 1
  | .lit _ => 1
  | .nil => 1
  | .ptr d => uptoBulk d + 1
  | .slice elems spare => uptoBulkAll elems + uptoBulkAll spare + 1
  | .agg parts => uptoBulkAll parts + 1
  | .iface _ d => uptoBulk d + 1
  | .map entries => uptoBulkEntries entries + 1
  | .held _ => 1
def uptoBulkAll {H : Type} : List (DataW H) → Nat
  | [] => 0
  | d :: r => uptoBulk d + uptoBulkAll r
def uptoBulkEntries {H : Type} : List (Lit × DataW H) → Nat
  | [] => 0
  | x :: r => uptoBulkEntry x + uptoBulkEntries r
def uptoBulkEntry {H : Type} : Lit × DataW H → Nat
  | (.string bytes, d) => bytes.length + uptoBulk d + 1
  | (_, d) => uptoBulk d + 1
 end
def uptoSmall : (H : Type) → List (DataW H) → Bool := fun _ ds => decide (uptoBulkAll ds ≤ 1048576)
def OpenSpec.upto (s : _root_.Go.ChangeSpec) : _root_.Go.OpenSpec := { _root_.Go.OpenSpec.ofChange s with cond := some uptoSmall }

/-- 'redpenlaw05.FaultWhere', WHERE WHAT IT READS IS OF BULK AT MOST 1048576: true; the input reads as it did. -/
def faultWhereUptoRow : OpenClaim := { program := "ytcflljjfhnifjaadoor", sum := "e9dc87edbe6021fa4c058f4c87bb2f05f5d6d3270573d764b3b641cc845cdd07", func := "redpen/redpenlaw05.FaultWhere", spec := "faultWhere", inPlace := ["internal/reflectlite.ValueOf", "(internal/reflectlite.Value).Type", "(internal/reflectlite.Value).IsNil", "internal/reflectlite.TypeOf", "(internal/reflectlite.Value).Elem", "(internal/reflectlite.Value).Set"], unfollowed := true, recurses := true, named := ["errors.errorType"], apart := false, laid := [("errors.errorType", laid_errors_errorType)], narrowed := true }
def FaultWhereUptoSaid : Prop := faultWhereUptoRow.holds Tryd.pinned (OpenSpec.upto faultWhereSpec)

/-- 'redpenlaw05.FaultMakes', WHERE WHAT IT READS IS OF BULK AT MOST 1048576: true; the input reads as it did. -/
def faultMakesUptoRow : OpenClaim := { program := "ytcflljjfhnifjaadoor", sum := "e9dc87edbe6021fa4c058f4c87bb2f05f5d6d3270573d764b3b641cc845cdd07", func := "redpen/redpenlaw05.FaultMakes", spec := "faultMakes", inPlace := ["internal/reflectlite.ValueOf", "(internal/reflectlite.Value).Type", "(internal/reflectlite.Value).IsNil", "internal/reflectlite.TypeOf", "(internal/reflectlite.Value).Elem", "(internal/reflectlite.Value).Set"], unfollowed := true, recurses := true, named := ["errors.errorType"], apart := false, laid := [("errors.errorType", laid_errors_errorType)], narrowed := true }
def FaultMakesUptoSaid : Prop := faultMakesUptoRow.holds Tryd.pinned (OpenSpec.upto faultMakesSpec)

/-- 'redpenlaw05.FaultCodes', WHERE WHAT IT READS IS OF BULK AT MOST 1048576: true; the input reads as it did. -/
def faultCodesUptoRow : OpenClaim := { program := "ytcflljjfhnifjaadoor", sum := "e9dc87edbe6021fa4c058f4c87bb2f05f5d6d3270573d764b3b641cc845cdd07", func := "redpen/redpenlaw05.FaultCodes", spec := "faultCodes", inPlace := ["internal/reflectlite.ValueOf", "(internal/reflectlite.Value).Type", "(internal/reflectlite.Value).IsNil", "internal/reflectlite.TypeOf", "(internal/reflectlite.Value).Elem", "(internal/reflectlite.Value).Set"], unfollowed := true, recurses := true, named := ["errors.errorType"], apart := false, laid := [("errors.errorType", laid_errors_errorType)], narrowed := true }
def FaultCodesUptoSaid : Prop := faultCodesUptoRow.holds Tryd.pinned (OpenSpec.upto faultCodesSpec)

/-- 'redpenlaw05.FaultPeels', WHERE WHAT IT READS IS OF BULK AT MOST 1048576: true; the input reads as it did. -/
def faultPeelsUptoRow : OpenClaim := { program := "ytcflljjfhnifjaadoor", sum := "e9dc87edbe6021fa4c058f4c87bb2f05f5d6d3270573d764b3b641cc845cdd07", func := "redpen/redpenlaw05.FaultPeels", spec := "faultPeels", inPlace := ["internal/reflectlite.ValueOf", "(internal/reflectlite.Value).Type", "(internal/reflectlite.Value).IsNil", "internal/reflectlite.TypeOf", "(internal/reflectlite.Value).Elem", "(internal/reflectlite.Value).Set"], unfollowed := true, recurses := true, named := ["errors.errorType"], apart := false, laid := [("errors.errorType", laid_errors_errorType)], narrowed := true }
def FaultPeelsUptoSaid : Prop := faultPeelsUptoRow.holds Tryd.pinned (OpenSpec.upto faultPeelsSpec)

end Rows
end Go.Proofs.YtcflljjfhnifjaaDoor
