/-
  No cell of these rows narrows 'for every input' (looked for: loops, veiled, ifaces, maps, wideKeys, modest, calm, conditions, laid).
  DERIVED. THE GIVEN ROWS OF THIS SEAT. 7 by the template 'for every input the law returns true; each argument reads behind the call as it read before'; 0 by the template 'total and deterministic' (their statements: YtgcjkijndibejaaTotals.lean).
  GIVEN WITH THE SEED: the statements are not yours to turn. If you find one false, say at which input.
  Laid BY PROGRAM, IN A SANDBOX (cutbox-rows.mjs): the forced cells as the released guide's own fill.sh prints them over the translation 9fa98346af0f887f… (all of the seat's roots in one cut). By AI agents, Wed Nov 11 2026. No macro, syntax, notation, axiom, sorry.
-/
import Derived.Test.YtgcjkijndibejaaChecked
import GoSem.Claim
import GoSem.ClaimJoined
import GoSem.ClaimMapViews
import Derived.JoinedTies
import Derived.KernelRfl
namespace Go.Proofs.Ytgcjkijndibejaa
/- THE CELL 'sum', in the pinned program and in every row, IS THE sha256 OF THE DUMP (.gsa) THAT YtgcjkijndibejaaProg.lean LOADS. Nothing in Lean hashes anything: it is a label: what it is worth is what the hold of that sum in a sandbox is worth. -/
noncomputable def Try.pinned : Pinned := { name := "ytgcjkijndibejaa", sum := "9fa98346af0f887f0a7f46c09b39a5f92a4d94a0dda57e04d58f39d6cfac07cb", checked := Try.checked }
namespace Rows
def none {H : Type} : Left H := { results := [], args := [] }

/-- 'redpenlaw18.EditsTidy': WHATEVER THE INPUT: true; the input reads as it did. -/
def editsTidySpec : ChangeSpec := { name := "editsTidy", fn := fun _ => fun
  | [d1, d2, d3] => { results := [.lit (.bool true)], args := [d1, d2, d3] }
  | _ => none }
def editsTidyRow : OpenClaim := { program := "ytgcjkijndibejaa", sum := "9fa98346af0f887f0a7f46c09b39a5f92a4d94a0dda57e04d58f39d6cfac07cb", func := "redpen/redpenlaw18.EditsTidy", spec := "editsTidy", unfollowed := true, recurses := true, apart := false }
def EditsTidySaid : Prop := editsTidyRow.holds Try.pinned (OpenSpec.ofChange editsTidySpec)

/-- ITS FALSE NEIGHBOUR: 'it returns false'. Refute it at one input. -/
def editsTidyWrong : ChangeSpec := { name := "editsTidy", fn := fun _ => fun
  | [d1, d2, d3] => { results := [.lit (.bool false)], args := [d1, d2, d3] }
  | _ => none }
def EditsTidyWrongFalsely : Prop := editsTidyRow.holds Try.pinned (OpenSpec.ofChange editsTidyWrong)

/-- 'redpenlaw18.EditsApply': WHATEVER THE INPUT: true; the input reads as it did. -/
def editsApplySpec : ChangeSpec := { name := "editsApply", fn := fun _ => fun
  | [d1, d2, d3, d4] => { results := [.lit (.bool true)], args := [d1, d2, d3, d4] }
  | _ => none }
def editsApplyRow : OpenClaim := { program := "ytgcjkijndibejaa", sum := "9fa98346af0f887f0a7f46c09b39a5f92a4d94a0dda57e04d58f39d6cfac07cb", func := "redpen/redpenlaw18.EditsApply", spec := "editsApply", unfollowed := true, recurses := true, apart := false }
def EditsApplySaid : Prop := editsApplyRow.holds Try.pinned (OpenSpec.ofChange editsApplySpec)

/-- ITS FALSE NEIGHBOUR: 'it returns false'. Refute it at one input. -/
def editsApplyWrong : ChangeSpec := { name := "editsApply", fn := fun _ => fun
  | [d1, d2, d3, d4] => { results := [.lit (.bool false)], args := [d1, d2, d3, d4] }
  | _ => none }
def EditsApplyWrongFalsely : Prop := editsApplyRow.holds Try.pinned (OpenSpec.ofChange editsApplyWrong)

/-- 'redpenlaw18.EditsStay': WHATEVER THE INPUT: true; the input reads as it did. -/
def editsStaySpec : ChangeSpec := { name := "editsStay", fn := fun _ => fun
  | [d1, d2, d3] => { results := [.lit (.bool true)], args := [d1, d2, d3] }
  | _ => none }
def editsStayRow : OpenClaim := { program := "ytgcjkijndibejaa", sum := "9fa98346af0f887f0a7f46c09b39a5f92a4d94a0dda57e04d58f39d6cfac07cb", func := "redpen/redpenlaw18.EditsStay", spec := "editsStay", unfollowed := true, recurses := true, apart := false }
def EditsStaySaid : Prop := editsStayRow.holds Try.pinned (OpenSpec.ofChange editsStaySpec)

/-- ITS FALSE NEIGHBOUR: 'it returns false'. Refute it at one input. -/
def editsStayWrong : ChangeSpec := { name := "editsStay", fn := fun _ => fun
  | [d1, d2, d3] => { results := [.lit (.bool false)], args := [d1, d2, d3] }
  | _ => none }
def EditsStayWrongFalsely : Prop := editsStayRow.holds Try.pinned (OpenSpec.ofChange editsStayWrong)

/-- 'redpenlaw18.EditsOwn': WHATEVER THE INPUT: true; the input reads as it did. -/
def editsOwnSpec : ChangeSpec := { name := "editsOwn", fn := fun _ => fun
  | [d1, d2, d3] => { results := [.lit (.bool true)], args := [d1, d2, d3] }
  | _ => none }
def editsOwnRow : OpenClaim := { program := "ytgcjkijndibejaa", sum := "9fa98346af0f887f0a7f46c09b39a5f92a4d94a0dda57e04d58f39d6cfac07cb", func := "redpen/redpenlaw18.EditsOwn", spec := "editsOwn", unfollowed := true, recurses := true, apart := false }
def EditsOwnSaid : Prop := editsOwnRow.holds Try.pinned (OpenSpec.ofChange editsOwnSpec)

/-- ITS FALSE NEIGHBOUR: 'it returns false'. Refute it at one input. -/
def editsOwnWrong : ChangeSpec := { name := "editsOwn", fn := fun _ => fun
  | [d1, d2, d3] => { results := [.lit (.bool false)], args := [d1, d2, d3] }
  | _ => none }
def EditsOwnWrongFalsely : Prop := editsOwnRow.holds Try.pinned (OpenSpec.ofChange editsOwnWrong)

/-- 'redpenlaw18.EditsOne': WHATEVER THE INPUT: true; the input reads as it did. -/
def editsOneSpec : ChangeSpec := { name := "editsOne", fn := fun _ => fun
  | [d1, d2, d3, d4] => { results := [.lit (.bool true)], args := [d1, d2, d3, d4] }
  | _ => none }
def editsOneRow : OpenClaim := { program := "ytgcjkijndibejaa", sum := "9fa98346af0f887f0a7f46c09b39a5f92a4d94a0dda57e04d58f39d6cfac07cb", func := "redpen/redpenlaw18.EditsOne", spec := "editsOne", unfollowed := true, recurses := true, apart := false }
def EditsOneSaid : Prop := editsOneRow.holds Try.pinned (OpenSpec.ofChange editsOneSpec)

/-- ITS FALSE NEIGHBOUR: 'it returns false'. Refute it at one input. -/
def editsOneWrong : ChangeSpec := { name := "editsOne", fn := fun _ => fun
  | [d1, d2, d3, d4] => { results := [.lit (.bool false)], args := [d1, d2, d3, d4] }
  | _ => none }
def EditsOneWrongFalsely : Prop := editsOneRow.holds Try.pinned (OpenSpec.ofChange editsOneWrong)

/-- 'redpenlaw18.EditsRefuse': WHATEVER THE INPUT: true; the input reads as it did. -/
def editsRefuseSpec : ChangeSpec := { name := "editsRefuse", fn := fun _ => fun
  | [d1, d2, d3, d4, d5] => { results := [.lit (.bool true)], args := [d1, d2, d3, d4, d5] }
  | _ => none }
def editsRefuseRow : OpenClaim := { program := "ytgcjkijndibejaa", sum := "9fa98346af0f887f0a7f46c09b39a5f92a4d94a0dda57e04d58f39d6cfac07cb", func := "redpen/redpenlaw18.EditsRefuse", spec := "editsRefuse", unfollowed := true, recurses := true, apart := false }
def EditsRefuseSaid : Prop := editsRefuseRow.holds Try.pinned (OpenSpec.ofChange editsRefuseSpec)

/-- ITS FALSE NEIGHBOUR: 'it returns false'. Refute it at one input. -/
def editsRefuseWrong : ChangeSpec := { name := "editsRefuse", fn := fun _ => fun
  | [d1, d2, d3, d4, d5] => { results := [.lit (.bool false)], args := [d1, d2, d3, d4, d5] }
  | _ => none }
def EditsRefuseWrongFalsely : Prop := editsRefuseRow.holds Try.pinned (OpenSpec.ofChange editsRefuseWrong)

/-- 'redpenlaw18.EditsBack': WHATEVER THE INPUT: true; the input reads as it did. -/
def editsBackSpec : ChangeSpec := { name := "editsBack", fn := fun _ => fun
  | [d1, d2, d3, d4] => { results := [.lit (.bool true)], args := [d1, d2, d3, d4] }
  | _ => none }
def editsBackRow : OpenClaim := { program := "ytgcjkijndibejaa", sum := "9fa98346af0f887f0a7f46c09b39a5f92a4d94a0dda57e04d58f39d6cfac07cb", func := "redpen/redpenlaw18.EditsBack", spec := "editsBack", unfollowed := true, recurses := true, apart := false }
def EditsBackSaid : Prop := editsBackRow.holds Try.pinned (OpenSpec.ofChange editsBackSpec)

/-- ITS FALSE NEIGHBOUR: 'it returns false'. Refute it at one input. -/
def editsBackWrong : ChangeSpec := { name := "editsBack", fn := fun _ => fun
  | [d1, d2, d3, d4] => { results := [.lit (.bool false)], args := [d1, d2, d3, d4] }
  | _ => none }
def EditsBackWrongFalsely : Prop := editsBackRow.holds Try.pinned (OpenSpec.ofChange editsBackWrong)

/- THE SECOND FORM. 'bulk': how many values and letters a reading holds, each counted each time it is reached (what is shared counts as often as it is met; a slice's spare places count too). A statement '..UptoSaid' is the law's where the arguments, and the package variables that the reading takes, are together of bulk at most 1048576: NARROWER than '..Said'. Prove '..Said' where nothing that the law and all that it calls make is longer than what came in: it says more and counts as full. Else prove '..UptoSaid'. A law counts once. -/
mutual
def uptoBulk {H : Type} : DataW H → Nat
  | .lit (.string bytes) => bytes.length + 1
  | .lit _ => 1
  | .nil => 1
  | .ptr d => uptoBulk d + 1
  | .slice elems spare => uptoBulkAll elems + uptoBulkAll spare + 1
  | .agg parts => uptoBulkAll parts + 1
  | .iface _ d => uptoBulk d + 1
  | .map entries => uptoBulkEntries entries + 1
  | .held _ => 1
def uptoBulkAll {H : Type} : List (DataW H) → Nat
  | [] => 0
  | d :: r => uptoBulk d + uptoBulkAll r
def uptoBulkEntries {H : Type} : List (Lit × DataW H) → Nat
  | [] => 0
  | x :: r => uptoBulkEntry x + uptoBulkEntries r
def uptoBulkEntry {H : Type} : Lit × DataW H → Nat
  | (.string bytes, d) => bytes.length + uptoBulk d + 1
  | (_, d) => uptoBulk d + 1
 end
def uptoSmall : (H : Type) → List (DataW H) → Bool := fun _ ds => decide (uptoBulkAll ds ≤ 1048576)
def OpenSpec.upto (s : _root_.Go.ChangeSpec) : _root_.Go.OpenSpec := { _root_.Go.OpenSpec.ofChange s with cond := some uptoSmall }

/-- 'redpenlaw18.EditsTidy', WHERE WHAT IT READS IS OF BULK AT MOST 1048576: true; the input reads as it did. -/
def editsTidyUptoRow : OpenClaim := { program := "ytgcjkijndibejaa", sum := "9fa98346af0f887f0a7f46c09b39a5f92a4d94a0dda57e04d58f39d6cfac07cb", func := "redpen/redpenlaw18.EditsTidy", spec := "editsTidy", unfollowed := true, recurses := true, apart := false, narrowed := true }
def EditsTidyUptoSaid : Prop := editsTidyUptoRow.holds Try.pinned (OpenSpec.upto editsTidySpec)

/-- 'redpenlaw18.EditsApply', WHERE WHAT IT READS IS OF BULK AT MOST 1048576: true; the input reads as it did. -/
def editsApplyUptoRow : OpenClaim := { program := "ytgcjkijndibejaa", sum := "9fa98346af0f887f0a7f46c09b39a5f92a4d94a0dda57e04d58f39d6cfac07cb", func := "redpen/redpenlaw18.EditsApply", spec := "editsApply", unfollowed := true, recurses := true, apart := false, narrowed := true }
def EditsApplyUptoSaid : Prop := editsApplyUptoRow.holds Try.pinned (OpenSpec.upto editsApplySpec)

/-- 'redpenlaw18.EditsStay', WHERE WHAT IT READS IS OF BULK AT MOST 1048576: true; the input reads as it did. -/
def editsStayUptoRow : OpenClaim := { program := "ytgcjkijndibejaa", sum := "9fa98346af0f887f0a7f46c09b39a5f92a4d94a0dda57e04d58f39d6cfac07cb", func := "redpen/redpenlaw18.EditsStay", spec := "editsStay", unfollowed := true, recurses := true, apart := false, narrowed := true }
def EditsStayUptoSaid : Prop := editsStayUptoRow.holds Try.pinned (OpenSpec.upto editsStaySpec)

/-- 'redpenlaw18.EditsOwn', WHERE WHAT IT READS IS OF BULK AT MOST 1048576: true; the input reads as it did. -/
def editsOwnUptoRow : OpenClaim := { program := "ytgcjkijndibejaa", sum := "9fa98346af0f887f0a7f46c09b39a5f92a4d94a0dda57e04d58f39d6cfac07cb", func := "redpen/redpenlaw18.EditsOwn", spec := "editsOwn", unfollowed := true, recurses := true, apart := false, narrowed := true }
def EditsOwnUptoSaid : Prop := editsOwnUptoRow.holds Try.pinned (OpenSpec.upto editsOwnSpec)

/-- 'redpenlaw18.EditsOne', WHERE WHAT IT READS IS OF BULK AT MOST 1048576: true; the input reads as it did. -/
def editsOneUptoRow : OpenClaim := { program := "ytgcjkijndibejaa", sum := "9fa98346af0f887f0a7f46c09b39a5f92a4d94a0dda57e04d58f39d6cfac07cb", func := "redpen/redpenlaw18.EditsOne", spec := "editsOne", unfollowed := true, recurses := true, apart := false, narrowed := true }
def EditsOneUptoSaid : Prop := editsOneUptoRow.holds Try.pinned (OpenSpec.upto editsOneSpec)

/-- 'redpenlaw18.EditsRefuse', WHERE WHAT IT READS IS OF BULK AT MOST 1048576: true; the input reads as it did. -/
def editsRefuseUptoRow : OpenClaim := { program := "ytgcjkijndibejaa", sum := "9fa98346af0f887f0a7f46c09b39a5f92a4d94a0dda57e04d58f39d6cfac07cb", func := "redpen/redpenlaw18.EditsRefuse", spec := "editsRefuse", unfollowed := true, recurses := true, apart := false, narrowed := true }
def EditsRefuseUptoSaid : Prop := editsRefuseUptoRow.holds Try.pinned (OpenSpec.upto editsRefuseSpec)

/-- 'redpenlaw18.EditsBack', WHERE WHAT IT READS IS OF BULK AT MOST 1048576: true; the input reads as it did. -/
def editsBackUptoRow : OpenClaim := { program := "ytgcjkijndibejaa", sum := "9fa98346af0f887f0a7f46c09b39a5f92a4d94a0dda57e04d58f39d6cfac07cb", func := "redpen/redpenlaw18.EditsBack", spec := "editsBack", unfollowed := true, recurses := true, apart := false, narrowed := true }
def EditsBackUptoSaid : Prop := editsBackUptoRow.holds Try.pinned (OpenSpec.upto editsBackSpec)

end Rows
end Go.Proofs.Ytgcjkijndibejaa
