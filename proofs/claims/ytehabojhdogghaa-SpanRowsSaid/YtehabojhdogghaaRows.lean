/-
  No cell of these rows narrows 'for every input' (looked for: loops, veiled, ifaces, maps, wideKeys, modest, calm, conditions, laid).
  DERIVED. THE GIVEN ROWS OF THIS SEAT. 5 by the template 'for every input the law returns true; each argument reads behind the call as it read before'; 0 by the template 'total and deterministic' (their statements: YtehabojhdogghaaTotals.lean).
  GIVEN WITH THE SEED: the statements are not yours to turn. If you find one false, say at which input.
  Laid BY PROGRAM, IN A SANDBOX (cutbox-rows.mjs): the forced cells as the released guide's own fill.sh prints them over the translation 65748737756283d8… (all of the seat's roots in one cut). By AI agents, Wed Nov 11 2026. No macro, syntax, notation, axiom, sorry.
-/
import Derived.Test.YtehabojhdogghaaChecked
import GoSem.Claim
import GoSem.ClaimJoined
import GoSem.ClaimMapViews
import Derived.JoinedTies
import Derived.KernelRfl
namespace Go.Proofs.Ytehabojhdogghaa
/- THE CELL 'sum', in the pinned program and in every row, IS THE sha256 OF THE DUMP (.gsa) THAT YtehabojhdogghaaProg.lean LOADS. Nothing in Lean hashes anything: it is a label: what it is worth is what the hold of that sum in a sandbox is worth. -/
noncomputable def Try.pinned : Pinned := { name := "ytehabojhdogghaa", sum := "65748737756283d8126d4cf32479f0a53f41572922523faa9040b8b8d2fd6a21", checked := Try.checked }
namespace Rows
def none {H : Type} : Left H := { results := [], args := [] }

/-- 'redpenlaw01.SpanMeets': WHATEVER THE INPUT: true; the input reads as it did. -/
def spanMeetsSpec : ChangeSpec := { name := "spanMeets", fn := fun _ => fun
  | [d1, d2] => { results := [.lit (.bool true)], args := [d1, d2] }
  | _ => none }
def spanMeetsRow : OpenClaim := { program := "ytehabojhdogghaa", sum := "65748737756283d8126d4cf32479f0a53f41572922523faa9040b8b8d2fd6a21", func := "redpen/redpenlaw01.SpanMeets", spec := "spanMeets", apart := false }
def SpanMeetsSaid : Prop := spanMeetsRow.holds Try.pinned (OpenSpec.ofChange spanMeetsSpec)

/-- ITS FALSE NEIGHBOUR: 'it returns false'. Refute it at one input. -/
def spanMeetsWrong : ChangeSpec := { name := "spanMeets", fn := fun _ => fun
  | [d1, d2] => { results := [.lit (.bool false)], args := [d1, d2] }
  | _ => none }
def SpanMeetsWrongFalsely : Prop := spanMeetsRow.holds Try.pinned (OpenSpec.ofChange spanMeetsWrong)

/-- 'redpenlaw01.SpanSelf': WHATEVER THE INPUT: true; the input reads as it did. -/
def spanSelfSpec : ChangeSpec := { name := "spanSelf", fn := fun _ => fun
  | [d1, d2] => { results := [.lit (.bool true)], args := [d1, d2] }
  | _ => none }
def spanSelfRow : OpenClaim := { program := "ytehabojhdogghaa", sum := "65748737756283d8126d4cf32479f0a53f41572922523faa9040b8b8d2fd6a21", func := "redpen/redpenlaw01.SpanSelf", spec := "spanSelf", apart := false }
def SpanSelfSaid : Prop := spanSelfRow.holds Try.pinned (OpenSpec.ofChange spanSelfSpec)

/-- ITS FALSE NEIGHBOUR: 'it returns false'. Refute it at one input. -/
def spanSelfWrong : ChangeSpec := { name := "spanSelf", fn := fun _ => fun
  | [d1, d2] => { results := [.lit (.bool false)], args := [d1, d2] }
  | _ => none }
def SpanSelfWrongFalsely : Prop := spanSelfRow.holds Try.pinned (OpenSpec.ofChange spanSelfWrong)

/-- 'redpenlaw01.SpanPlaces': WHATEVER THE INPUT: true; the input reads as it did. -/
def spanPlacesSpec : ChangeSpec := { name := "spanPlaces", fn := fun _ => fun
  | [d1, d2, d3] => { results := [.lit (.bool true)], args := [d1, d2, d3] }
  | _ => none }
def spanPlacesRow : OpenClaim := { program := "ytehabojhdogghaa", sum := "65748737756283d8126d4cf32479f0a53f41572922523faa9040b8b8d2fd6a21", func := "redpen/redpenlaw01.SpanPlaces", spec := "spanPlaces", apart := false }
def SpanPlacesSaid : Prop := spanPlacesRow.holds Try.pinned (OpenSpec.ofChange spanPlacesSpec)

/-- ITS FALSE NEIGHBOUR: 'it returns false'. Refute it at one input. -/
def spanPlacesWrong : ChangeSpec := { name := "spanPlaces", fn := fun _ => fun
  | [d1, d2, d3] => { results := [.lit (.bool false)], args := [d1, d2, d3] }
  | _ => none }
def SpanPlacesWrongFalsely : Prop := spanPlacesRow.holds Try.pinned (OpenSpec.ofChange spanPlacesWrong)

/-- 'redpenlaw01.SpanAsks': WHATEVER THE INPUT: true; the input reads as it did. -/
def spanAsksSpec : ChangeSpec := { name := "spanAsks", fn := fun _ => fun
  | [d1, d2, d3] => { results := [.lit (.bool true)], args := [d1, d2, d3] }
  | _ => none }
def spanAsksRow : OpenClaim := { program := "ytehabojhdogghaa", sum := "65748737756283d8126d4cf32479f0a53f41572922523faa9040b8b8d2fd6a21", func := "redpen/redpenlaw01.SpanAsks", spec := "spanAsks", apart := false }
def SpanAsksSaid : Prop := spanAsksRow.holds Try.pinned (OpenSpec.ofChange spanAsksSpec)

/-- ITS FALSE NEIGHBOUR: 'it returns false'. Refute it at one input. -/
def spanAsksWrong : ChangeSpec := { name := "spanAsks", fn := fun _ => fun
  | [d1, d2, d3] => { results := [.lit (.bool false)], args := [d1, d2, d3] }
  | _ => none }
def SpanAsksWrongFalsely : Prop := spanAsksRow.holds Try.pinned (OpenSpec.ofChange spanAsksWrong)

/-- 'redpenlaw01.SpanRows': WHATEVER THE INPUT: true; the input reads as it did. -/
def spanRowsSpec : ChangeSpec := { name := "spanRows", fn := fun _ => fun
  | [d1, d2, d3] => { results := [.lit (.bool true)], args := [d1, d2, d3] }
  | _ => none }
def spanRowsRow : OpenClaim := { program := "ytehabojhdogghaa", sum := "65748737756283d8126d4cf32479f0a53f41572922523faa9040b8b8d2fd6a21", func := "redpen/redpenlaw01.SpanRows", spec := "spanRows", apart := false }
def SpanRowsSaid : Prop := spanRowsRow.holds Try.pinned (OpenSpec.ofChange spanRowsSpec)

/-- ITS FALSE NEIGHBOUR: 'it returns false'. Refute it at one input. -/
def spanRowsWrong : ChangeSpec := { name := "spanRows", fn := fun _ => fun
  | [d1, d2, d3] => { results := [.lit (.bool false)], args := [d1, d2, d3] }
  | _ => none }
def SpanRowsWrongFalsely : Prop := spanRowsRow.holds Try.pinned (OpenSpec.ofChange spanRowsWrong)

/- THE SECOND FORM. 'bulk': how many values and letters a reading holds, each counted each time it is reached (what is shared counts as often as it is met; a slice's spare places count too). A statement '..UptoSaid' is the law's where the arguments, and the package variables that the reading takes, are together of bulk at most 1048576: NARROWER than '..Said'. Prove '..Said' where nothing that the law and all that it calls make is longer than what came in: it says more and counts as full. Else prove '..UptoSaid'. A law counts once. -/
mutual
def uptoBulk {H : Type} : DataW H → Nat
  | .lit (.string bytes) => bytes.length + 1
  | .lit _ => 1
  | .nil => 1
  | .ptr d => uptoBulk d + 1
  | .slice elems spare => uptoBulkAll elems + uptoBulkAll spare + 1
  | .agg parts => uptoBulkAll parts + 1
  | .iface _ d => uptoBulk d + 1
  | .map entries => uptoBulkEntries entries + 1
  | .held _ => 1
def uptoBulkAll {H : Type} : List (DataW H) → Nat
  | [] => 0
  | d :: r => uptoBulk d + uptoBulkAll r
def uptoBulkEntries {H : Type} : List (Lit × DataW H) → Nat
  | [] => 0
  | x :: r => uptoBulkEntry x + uptoBulkEntries r
def uptoBulkEntry {H : Type} : Lit × DataW H → Nat
  | (.string bytes, d) => bytes.length + uptoBulk d + 1
  | (_, d) => uptoBulk d + 1
 end
def uptoSmall : (H : Type) → List (DataW H) → Bool := fun _ ds => decide (uptoBulkAll ds ≤ 1048576)
def OpenSpec.upto (s : _root_.Go.ChangeSpec) : _root_.Go.OpenSpec := { _root_.Go.OpenSpec.ofChange s with cond := some uptoSmall }

/-- 'redpenlaw01.SpanMeets', WHERE WHAT IT READS IS OF BULK AT MOST 1048576: true; the input reads as it did. -/
def spanMeetsUptoRow : OpenClaim := { program := "ytehabojhdogghaa", sum := "65748737756283d8126d4cf32479f0a53f41572922523faa9040b8b8d2fd6a21", func := "redpen/redpenlaw01.SpanMeets", spec := "spanMeets", apart := false, narrowed := true }
def SpanMeetsUptoSaid : Prop := spanMeetsUptoRow.holds Try.pinned (OpenSpec.upto spanMeetsSpec)

/-- 'redpenlaw01.SpanSelf', WHERE WHAT IT READS IS OF BULK AT MOST 1048576: true; the input reads as it did. -/
def spanSelfUptoRow : OpenClaim := { program := "ytehabojhdogghaa", sum := "65748737756283d8126d4cf32479f0a53f41572922523faa9040b8b8d2fd6a21", func := "redpen/redpenlaw01.SpanSelf", spec := "spanSelf", apart := false, narrowed := true }
def SpanSelfUptoSaid : Prop := spanSelfUptoRow.holds Try.pinned (OpenSpec.upto spanSelfSpec)

/-- 'redpenlaw01.SpanPlaces', WHERE WHAT IT READS IS OF BULK AT MOST 1048576: true; the input reads as it did. -/
def spanPlacesUptoRow : OpenClaim := { program := "ytehabojhdogghaa", sum := "65748737756283d8126d4cf32479f0a53f41572922523faa9040b8b8d2fd6a21", func := "redpen/redpenlaw01.SpanPlaces", spec := "spanPlaces", apart := false, narrowed := true }
def SpanPlacesUptoSaid : Prop := spanPlacesUptoRow.holds Try.pinned (OpenSpec.upto spanPlacesSpec)

/-- 'redpenlaw01.SpanAsks', WHERE WHAT IT READS IS OF BULK AT MOST 1048576: true; the input reads as it did. -/
def spanAsksUptoRow : OpenClaim := { program := "ytehabojhdogghaa", sum := "65748737756283d8126d4cf32479f0a53f41572922523faa9040b8b8d2fd6a21", func := "redpen/redpenlaw01.SpanAsks", spec := "spanAsks", apart := false, narrowed := true }
def SpanAsksUptoSaid : Prop := spanAsksUptoRow.holds Try.pinned (OpenSpec.upto spanAsksSpec)

/-- 'redpenlaw01.SpanRows', WHERE WHAT IT READS IS OF BULK AT MOST 1048576: true; the input reads as it did. -/
def spanRowsUptoRow : OpenClaim := { program := "ytehabojhdogghaa", sum := "65748737756283d8126d4cf32479f0a53f41572922523faa9040b8b8d2fd6a21", func := "redpen/redpenlaw01.SpanRows", spec := "spanRows", apart := false, narrowed := true }
def SpanRowsUptoSaid : Prop := spanRowsUptoRow.holds Try.pinned (OpenSpec.upto spanRowsSpec)

end Rows
end Go.Proofs.Ytehabojhdogghaa
