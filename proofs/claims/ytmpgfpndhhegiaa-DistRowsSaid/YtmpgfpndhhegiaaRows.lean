/-
  No cell of these rows narrows 'for every input' (looked for: loops, veiled, ifaces, maps, wideKeys, modest, calm, conditions, laid).
  DERIVED. THE GIVEN ROWS OF THIS SEAT. 6 by the template 'for every input the law returns true; each argument reads behind the call as it read before'; 0 by the template 'total and deterministic' (their statements: YtmpgfpndhhegiaaTotals.lean).
  GIVEN WITH THE SEED: the statements are not yours to turn. If you find one false, say at which input.
  Laid BY PROGRAM, IN A SANDBOX (cutbox-rows.mjs): the forced cells as the released guide's own fill.sh prints them over the translation 9de88b6a50096f9c… (all of the seat's roots in one cut). By AI agents, Wed Nov 11 2026. No macro, syntax, notation, axiom, sorry.
-/
import Derived.Test.YtmpgfpndhhegiaaChecked
import GoSem.Claim
import GoSem.ClaimJoined
import GoSem.ClaimMapViews
import Derived.JoinedTies
import Derived.KernelRfl
namespace Go.Proofs.Ytmpgfpndhhegiaa
/- THE CELL 'sum', in the pinned program and in every row, IS THE sha256 OF THE DUMP (.gsa) THAT YtmpgfpndhhegiaaProg.lean LOADS. Nothing in Lean hashes anything: it is a label: what it is worth is what the hold of that sum in a sandbox is worth. -/
noncomputable def Try.pinned : Pinned := { name := "ytmpgfpndhhegiaa", sum := "9de88b6a50096f9c8f81d3621cc5edfd38fe54752ac4046ff2c87c9dcc58d360", checked := Try.checked }
namespace Rows
def none {H : Type} : Left H := { results := [], args := [] }

/-- 'redpenlaw08.DistIs': WHATEVER THE INPUT: true; the input reads as it did. -/
def distIsSpec : ChangeSpec := { name := "distIs", fn := fun _ => fun
  | [d1, d2] => { results := [.lit (.bool true)], args := [d1, d2] }
  | _ => none }
def distIsRow : OpenClaim := { program := "ytmpgfpndhhegiaa", sum := "9de88b6a50096f9c8f81d3621cc5edfd38fe54752ac4046ff2c87c9dcc58d360", func := "redpen/redpenlaw08.DistIs", spec := "distIs", apart := false }
def DistIsSaid : Prop := distIsRow.holds Try.pinned (OpenSpec.ofChange distIsSpec)

/-- ITS FALSE NEIGHBOUR: 'it returns false'. Refute it at one input. -/
def distIsWrong : ChangeSpec := { name := "distIs", fn := fun _ => fun
  | [d1, d2] => { results := [.lit (.bool false)], args := [d1, d2] }
  | _ => none }
def DistIsWrongFalsely : Prop := distIsRow.holds Try.pinned (OpenSpec.ofChange distIsWrong)

/-- 'redpenlaw08.DistLaws': WHATEVER THE INPUT: true; the input reads as it did. -/
def distLawsSpec : ChangeSpec := { name := "distLaws", fn := fun _ => fun
  | [d1, d2, d3] => { results := [.lit (.bool true)], args := [d1, d2, d3] }
  | _ => none }
def distLawsRow : OpenClaim := { program := "ytmpgfpndhhegiaa", sum := "9de88b6a50096f9c8f81d3621cc5edfd38fe54752ac4046ff2c87c9dcc58d360", func := "redpen/redpenlaw08.DistLaws", spec := "distLaws", apart := false }
def DistLawsSaid : Prop := distLawsRow.holds Try.pinned (OpenSpec.ofChange distLawsSpec)

/-- ITS FALSE NEIGHBOUR: 'it returns false'. Refute it at one input. -/
def distLawsWrong : ChangeSpec := { name := "distLaws", fn := fun _ => fun
  | [d1, d2, d3] => { results := [.lit (.bool false)], args := [d1, d2, d3] }
  | _ => none }
def DistLawsWrongFalsely : Prop := distLawsRow.holds Try.pinned (OpenSpec.ofChange distLawsWrong)

/-- 'redpenlaw08.DistEdits': WHATEVER THE INPUT: true; the input reads as it did. -/
def distEditsSpec : ChangeSpec := { name := "distEdits", fn := fun _ => fun
  | [d1, d2, d3, d4] => { results := [.lit (.bool true)], args := [d1, d2, d3, d4] }
  | _ => none }
def distEditsRow : OpenClaim := { program := "ytmpgfpndhhegiaa", sum := "9de88b6a50096f9c8f81d3621cc5edfd38fe54752ac4046ff2c87c9dcc58d360", func := "redpen/redpenlaw08.DistEdits", spec := "distEdits", apart := false }
def DistEditsSaid : Prop := distEditsRow.holds Try.pinned (OpenSpec.ofChange distEditsSpec)

/-- ITS FALSE NEIGHBOUR: 'it returns false'. Refute it at one input. -/
def distEditsWrong : ChangeSpec := { name := "distEdits", fn := fun _ => fun
  | [d1, d2, d3, d4] => { results := [.lit (.bool false)], args := [d1, d2, d3, d4] }
  | _ => none }
def DistEditsWrongFalsely : Prop := distEditsRow.holds Try.pinned (OpenSpec.ofChange distEditsWrong)

/-- 'redpenlaw08.DistParts': WHATEVER THE INPUT: true; the input reads as it did. -/
def distPartsSpec : ChangeSpec := { name := "distParts", fn := fun _ => fun
  | [d1, d2, d3, d4] => { results := [.lit (.bool true)], args := [d1, d2, d3, d4] }
  | _ => none }
def distPartsRow : OpenClaim := { program := "ytmpgfpndhhegiaa", sum := "9de88b6a50096f9c8f81d3621cc5edfd38fe54752ac4046ff2c87c9dcc58d360", func := "redpen/redpenlaw08.DistParts", spec := "distParts", unfollowed := true, recurses := true, apart := false }
def DistPartsSaid : Prop := distPartsRow.holds Try.pinned (OpenSpec.ofChange distPartsSpec)

/-- ITS FALSE NEIGHBOUR: 'it returns false'. Refute it at one input. -/
def distPartsWrong : ChangeSpec := { name := "distParts", fn := fun _ => fun
  | [d1, d2, d3, d4] => { results := [.lit (.bool false)], args := [d1, d2, d3, d4] }
  | _ => none }
def DistPartsWrongFalsely : Prop := distPartsRow.holds Try.pinned (OpenSpec.ofChange distPartsWrong)

/-- 'redpenlaw08.DistRows': WHATEVER THE INPUT: true; the input reads as it did. -/
def distRowsSpec : ChangeSpec := { name := "distRows", fn := fun _ => fun
  | [d1, d2] => { results := [.lit (.bool true)], args := [d1, d2] }
  | _ => none }
def distRowsRow : OpenClaim := { program := "ytmpgfpndhhegiaa", sum := "9de88b6a50096f9c8f81d3621cc5edfd38fe54752ac4046ff2c87c9dcc58d360", func := "redpen/redpenlaw08.DistRows", spec := "distRows", apart := false }
def DistRowsSaid : Prop := distRowsRow.holds Try.pinned (OpenSpec.ofChange distRowsSpec)

/-- ITS FALSE NEIGHBOUR: 'it returns false'. Refute it at one input. -/
def distRowsWrong : ChangeSpec := { name := "distRows", fn := fun _ => fun
  | [d1, d2] => { results := [.lit (.bool false)], args := [d1, d2] }
  | _ => none }
def DistRowsWrongFalsely : Prop := distRowsRow.holds Try.pinned (OpenSpec.ofChange distRowsWrong)

/-- 'redpenlaw08.DistRaw': WHATEVER THE INPUT: true; the input reads as it did. -/
def distRawSpec : ChangeSpec := { name := "distRaw", fn := fun _ => fun
  | [d1, d2, d3, d4, d5, d6] => { results := [.lit (.bool true)], args := [d1, d2, d3, d4, d5, d6] }
  | _ => none }
def distRawRow : OpenClaim := { program := "ytmpgfpndhhegiaa", sum := "9de88b6a50096f9c8f81d3621cc5edfd38fe54752ac4046ff2c87c9dcc58d360", func := "redpen/redpenlaw08.DistRaw", spec := "distRaw", apart := false }
def DistRawSaid : Prop := distRawRow.holds Try.pinned (OpenSpec.ofChange distRawSpec)

/-- ITS FALSE NEIGHBOUR: 'it returns false'. Refute it at one input. -/
def distRawWrong : ChangeSpec := { name := "distRaw", fn := fun _ => fun
  | [d1, d2, d3, d4, d5, d6] => { results := [.lit (.bool false)], args := [d1, d2, d3, d4, d5, d6] }
  | _ => none }
def DistRawWrongFalsely : Prop := distRawRow.holds Try.pinned (OpenSpec.ofChange distRawWrong)

/- THE SECOND FORM. 'bulk': how many values and letters a reading holds, each counted each time it is reached (what is shared counts as often as it is met; a slice's spare places count too). A statement '..UptoSaid' is the law's where the arguments, and the package variables that the reading takes, are together of bulk at most 1048576: NARROWER than '..Said'. Prove '..Said' where nothing that the law and all that it calls make is longer than what came in: it says more and counts as full. Else prove '..UptoSaid'. A law counts once. -/
mutual
def uptoBulk {H : Type} : DataW H → Nat
  | .lit (.string bytes) => bytes.length + 1
  | .lit _ => 1
  | .nil => 1
  | .ptr d => uptoBulk d + 1
  | .slice elems spare => uptoBulkAll elems + uptoBulkAll spare + 1
  | .agg parts => uptoBulkAll parts + 1
  | .iface _ d => uptoBulk d + 1
  | .map entries => uptoBulkEntries entries + 1
  | .held _ => 1
def uptoBulkAll {H : Type} : List (DataW H) → Nat
  | [] => 0
  | d :: r => uptoBulk d + uptoBulkAll r
def uptoBulkEntries {H : Type} : List (Lit × DataW H) → Nat
  | [] => 0
  | x :: r => uptoBulkEntry x + uptoBulkEntries r
def uptoBulkEntry {H : Type} : Lit × DataW H → Nat
  | (.string bytes, d) => bytes.length + uptoBulk d + 1
  | (_, d) => uptoBulk d + 1
 end
def uptoSmall : (H : Type) → List (DataW H) → Bool := fun _ ds => decide (uptoBulkAll ds ≤ 1048576)
def OpenSpec.upto (s : _root_.Go.ChangeSpec) : _root_.Go.OpenSpec := { _root_.Go.OpenSpec.ofChange s with cond := some uptoSmall }

/-- 'redpenlaw08.DistIs', WHERE WHAT IT READS IS OF BULK AT MOST 1048576: true; the input reads as it did. -/
def distIsUptoRow : OpenClaim := { program := "ytmpgfpndhhegiaa", sum := "9de88b6a50096f9c8f81d3621cc5edfd38fe54752ac4046ff2c87c9dcc58d360", func := "redpen/redpenlaw08.DistIs", spec := "distIs", apart := false, narrowed := true }
def DistIsUptoSaid : Prop := distIsUptoRow.holds Try.pinned (OpenSpec.upto distIsSpec)

/-- 'redpenlaw08.DistLaws', WHERE WHAT IT READS IS OF BULK AT MOST 1048576: true; the input reads as it did. -/
def distLawsUptoRow : OpenClaim := { program := "ytmpgfpndhhegiaa", sum := "9de88b6a50096f9c8f81d3621cc5edfd38fe54752ac4046ff2c87c9dcc58d360", func := "redpen/redpenlaw08.DistLaws", spec := "distLaws", apart := false, narrowed := true }
def DistLawsUptoSaid : Prop := distLawsUptoRow.holds Try.pinned (OpenSpec.upto distLawsSpec)

/-- 'redpenlaw08.DistEdits', WHERE WHAT IT READS IS OF BULK AT MOST 1048576: true; the input reads as it did. -/
def distEditsUptoRow : OpenClaim := { program := "ytmpgfpndhhegiaa", sum := "9de88b6a50096f9c8f81d3621cc5edfd38fe54752ac4046ff2c87c9dcc58d360", func := "redpen/redpenlaw08.DistEdits", spec := "distEdits", apart := false, narrowed := true }
def DistEditsUptoSaid : Prop := distEditsUptoRow.holds Try.pinned (OpenSpec.upto distEditsSpec)

/-- 'redpenlaw08.DistParts', WHERE WHAT IT READS IS OF BULK AT MOST 1048576: true; the input reads as it did. -/
def distPartsUptoRow : OpenClaim := { program := "ytmpgfpndhhegiaa", sum := "9de88b6a50096f9c8f81d3621cc5edfd38fe54752ac4046ff2c87c9dcc58d360", func := "redpen/redpenlaw08.DistParts", spec := "distParts", unfollowed := true, recurses := true, apart := false, narrowed := true }
def DistPartsUptoSaid : Prop := distPartsUptoRow.holds Try.pinned (OpenSpec.upto distPartsSpec)

/-- 'redpenlaw08.DistRows', WHERE WHAT IT READS IS OF BULK AT MOST 1048576: true; the input reads as it did. -/
def distRowsUptoRow : OpenClaim := { program := "ytmpgfpndhhegiaa", sum := "9de88b6a50096f9c8f81d3621cc5edfd38fe54752ac4046ff2c87c9dcc58d360", func := "redpen/redpenlaw08.DistRows", spec := "distRows", apart := false, narrowed := true }
def DistRowsUptoSaid : Prop := distRowsUptoRow.holds Try.pinned (OpenSpec.upto distRowsSpec)

/-- 'redpenlaw08.DistRaw', WHERE WHAT IT READS IS OF BULK AT MOST 1048576: true; the input reads as it did. -/
def distRawUptoRow : OpenClaim := { program := "ytmpgfpndhhegiaa", sum := "9de88b6a50096f9c8f81d3621cc5edfd38fe54752ac4046ff2c87c9dcc58d360", func := "redpen/redpenlaw08.DistRaw", spec := "distRaw", apart := false, narrowed := true }
def DistRawUptoSaid : Prop := distRawUptoRow.holds Try.pinned (OpenSpec.upto distRawSpec)

end Rows
end Go.Proofs.Ytmpgfpndhhegiaa
