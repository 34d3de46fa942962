/-
  No cell of these rows narrows 'for every input' (looked for: loops, veiled, ifaces, maps, wideKeys, modest, calm, conditions, laid).
  DERIVED. THE GIVEN ROWS OF THIS SEAT. 5 by the template 'for every input the law returns true; each argument reads behind the call as it read before'; 0 by the template 'total and deterministic' (their statements: YtecpmgbahknneaaTotals.lean).
  GIVEN WITH THE SEED: the statements are not yours to turn. If you find one false, say at which input.
  Laid BY PROGRAM, IN A SANDBOX (cutbox-rows.mjs): the forced cells as the released guide's own fill.sh prints them over the translation c2550e72c7cb9bd8… (all of the seat's roots in one cut). By AI agents, Wed Nov 11 2026. No macro, syntax, notation, axiom, sorry.
-/
import Derived.Test.YtecpmgbahknneaaChecked
import GoSem.Claim
import GoSem.ClaimJoined
import GoSem.ClaimMapViews
import Derived.JoinedTies
import Derived.KernelRfl
namespace Go.Proofs.Ytecpmgbahknneaa
/- THE CELL 'sum', in the pinned program and in every row, IS THE sha256 OF THE DUMP (.gsa) THAT YtecpmgbahknneaaProg.lean LOADS. Nothing in Lean hashes anything: it is a label: what it is worth is what the hold of that sum in a sandbox is worth. -/
noncomputable def Try.pinned : Pinned := { name := "ytecpmgbahknneaa", sum := "c2550e72c7cb9bd8f0f01a32c86a3b53b32aee569d794a2270d22c1696541bdf", checked := Try.checked }
namespace Rows
def none {H : Type} : Left H := { results := [], args := [] }

/-- 'redpenlaw10.LabelNew': WHATEVER THE INPUT: true; the input reads as it did. -/
def labelNewSpec : ChangeSpec := { name := "labelNew", fn := fun _ => fun
  | [d1, d2] => { results := [.lit (.bool true)], args := [d1, d2] }
  | _ => none }
def labelNewRow : OpenClaim := { program := "ytecpmgbahknneaa", sum := "c2550e72c7cb9bd8f0f01a32c86a3b53b32aee569d794a2270d22c1696541bdf", func := "redpen/redpenlaw10.LabelNew", spec := "labelNew", apart := false }
def LabelNewSaid : Prop := labelNewRow.holds Try.pinned (OpenSpec.ofChange labelNewSpec)

/-- ITS FALSE NEIGHBOUR: 'it returns false'. Refute it at one input. -/
def labelNewWrong : ChangeSpec := { name := "labelNew", fn := fun _ => fun
  | [d1, d2] => { results := [.lit (.bool false)], args := [d1, d2] }
  | _ => none }
def LabelNewWrongFalsely : Prop := labelNewRow.holds Try.pinned (OpenSpec.ofChange labelNewWrong)

/-- 'redpenlaw10.LabelLast': WHATEVER THE INPUT: true; the input reads as it did. -/
def labelLastSpec : ChangeSpec := { name := "labelLast", fn := fun _ => fun
  | [d1, d2, d3, d4, d5] => { results := [.lit (.bool true)], args := [d1, d2, d3, d4, d5] }
  | _ => none }
def labelLastRow : OpenClaim := { program := "ytecpmgbahknneaa", sum := "c2550e72c7cb9bd8f0f01a32c86a3b53b32aee569d794a2270d22c1696541bdf", func := "redpen/redpenlaw10.LabelLast", spec := "labelLast", apart := false }
def LabelLastSaid : Prop := labelLastRow.holds Try.pinned (OpenSpec.ofChange labelLastSpec)

/-- ITS FALSE NEIGHBOUR: 'it returns false'. Refute it at one input. -/
def labelLastWrong : ChangeSpec := { name := "labelLast", fn := fun _ => fun
  | [d1, d2, d3, d4, d5] => { results := [.lit (.bool false)], args := [d1, d2, d3, d4, d5] }
  | _ => none }
def LabelLastWrongFalsely : Prop := labelLastRow.holds Try.pinned (OpenSpec.ofChange labelLastWrong)

/-- 'redpenlaw10.LabelPlays': WHATEVER THE INPUT: true; the input reads as it did. -/
def labelPlaysSpec : ChangeSpec := { name := "labelPlays", fn := fun _ => fun
  | [d1, d2] => { results := [.lit (.bool true)], args := [d1, d2] }
  | _ => none }
def labelPlaysRow : OpenClaim := { program := "ytecpmgbahknneaa", sum := "c2550e72c7cb9bd8f0f01a32c86a3b53b32aee569d794a2270d22c1696541bdf", func := "redpen/redpenlaw10.LabelPlays", spec := "labelPlays", unfollowed := true, recurses := true, apart := false }
def LabelPlaysSaid : Prop := labelPlaysRow.holds Try.pinned (OpenSpec.ofChange labelPlaysSpec)

/-- ITS FALSE NEIGHBOUR: 'it returns false'. Refute it at one input. -/
def labelPlaysWrong : ChangeSpec := { name := "labelPlays", fn := fun _ => fun
  | [d1, d2] => { results := [.lit (.bool false)], args := [d1, d2] }
  | _ => none }
def LabelPlaysWrongFalsely : Prop := labelPlaysRow.holds Try.pinned (OpenSpec.ofChange labelPlaysWrong)

/-- 'redpenlaw10.LabelNil': WHATEVER THE INPUT: true; the input reads as it did. -/
def labelNilSpec : ChangeSpec := { name := "labelNil", fn := fun _ => fun
  | [d1, d2] => { results := [.lit (.bool true)], args := [d1, d2] }
  | _ => none }
def labelNilRow : OpenClaim := { program := "ytecpmgbahknneaa", sum := "c2550e72c7cb9bd8f0f01a32c86a3b53b32aee569d794a2270d22c1696541bdf", func := "redpen/redpenlaw10.LabelNil", spec := "labelNil", apart := false }
def LabelNilSaid : Prop := labelNilRow.holds Try.pinned (OpenSpec.ofChange labelNilSpec)

/-- ITS FALSE NEIGHBOUR: 'it returns false'. Refute it at one input. -/
def labelNilWrong : ChangeSpec := { name := "labelNil", fn := fun _ => fun
  | [d1, d2] => { results := [.lit (.bool false)], args := [d1, d2] }
  | _ => none }
def LabelNilWrongFalsely : Prop := labelNilRow.holds Try.pinned (OpenSpec.ofChange labelNilWrong)

/-- 'redpenlaw10.LabelCover': WHATEVER THE INPUT: true; the input reads as it did. -/
def labelCoverSpec : ChangeSpec := { name := "labelCover", fn := fun _ => fun
  | [d1, d2] => { results := [.lit (.bool true)], args := [d1, d2] }
  | _ => none }
def labelCoverRow : OpenClaim := { program := "ytecpmgbahknneaa", sum := "c2550e72c7cb9bd8f0f01a32c86a3b53b32aee569d794a2270d22c1696541bdf", func := "redpen/redpenlaw10.LabelCover", spec := "labelCover", apart := false }
def LabelCoverSaid : Prop := labelCoverRow.holds Try.pinned (OpenSpec.ofChange labelCoverSpec)

/-- ITS FALSE NEIGHBOUR: 'it returns false'. Refute it at one input. -/
def labelCoverWrong : ChangeSpec := { name := "labelCover", fn := fun _ => fun
  | [d1, d2] => { results := [.lit (.bool false)], args := [d1, d2] }
  | _ => none }
def LabelCoverWrongFalsely : Prop := labelCoverRow.holds Try.pinned (OpenSpec.ofChange labelCoverWrong)

/- THE SECOND FORM. 'bulk': how many values and letters a reading holds, each counted each time it is reached (what is shared counts as often as it is met; a slice's spare places count too). A statement '..UptoSaid' is the law's where the arguments, and the package variables that the reading takes, are together of bulk at most 1048576: NARROWER than '..Said'. Prove '..Said' where nothing that the law and all that it calls make is longer than what came in: it says more and counts as full. Else prove '..UptoSaid'. A law counts once. -/
mutual
def uptoBulk {H : Type} : DataW H → Nat
  | .lit (.string bytes) => bytes.length + 1
  | .lit _ => 1
  | .nil => 1
  | .ptr d => uptoBulk d + 1
  | .slice elems spare => uptoBulkAll elems + uptoBulkAll spare + 1
  | .agg parts => uptoBulkAll parts + 1
  | .iface _ d => uptoBulk d + 1
  | .map entries => uptoBulkEntries entries + 1
  | .held _ => 1
def uptoBulkAll {H : Type} : List (DataW H) → Nat
  | [] => 0
  | d :: r => uptoBulk d + uptoBulkAll r
def uptoBulkEntries {H : Type} : List (Lit × DataW H) → Nat
  | [] => 0
  | x :: r => uptoBulkEntry x + uptoBulkEntries r
def uptoBulkEntry {H : Type} : Lit × DataW H → Nat
  | (.string bytes, d) => bytes.length + uptoBulk d + 1
  | (_, d) => uptoBulk d + 1
 end
def uptoSmall : (H : Type) → List (DataW H) → Bool := fun _ ds => decide (uptoBulkAll ds ≤ 1048576)
def OpenSpec.upto (s : _root_.Go.ChangeSpec) : _root_.Go.OpenSpec := { _root_.Go.OpenSpec.ofChange s with cond := some uptoSmall }

/-- 'redpenlaw10.LabelNew', WHERE WHAT IT READS IS OF BULK AT MOST 1048576: true; the input reads as it did. -/
def labelNewUptoRow : OpenClaim := { program := "ytecpmgbahknneaa", sum := "c2550e72c7cb9bd8f0f01a32c86a3b53b32aee569d794a2270d22c1696541bdf", func := "redpen/redpenlaw10.LabelNew", spec := "labelNew", apart := false, narrowed := true }
def LabelNewUptoSaid : Prop := labelNewUptoRow.holds Try.pinned (OpenSpec.upto labelNewSpec)

/-- 'redpenlaw10.LabelLast', WHERE WHAT IT READS IS OF BULK AT MOST 1048576: true; the input reads as it did. -/
def labelLastUptoRow : OpenClaim := { program := "ytecpmgbahknneaa", sum := "c2550e72c7cb9bd8f0f01a32c86a3b53b32aee569d794a2270d22c1696541bdf", func := "redpen/redpenlaw10.LabelLast", spec := "labelLast", apart := false, narrowed := true }
def LabelLastUptoSaid : Prop := labelLastUptoRow.holds Try.pinned (OpenSpec.upto labelLastSpec)

/-- 'redpenlaw10.LabelPlays', WHERE WHAT IT READS IS OF BULK AT MOST 1048576: true; the input reads as it did. -/
def labelPlaysUptoRow : OpenClaim := { program := "ytecpmgbahknneaa", sum := "c2550e72c7cb9bd8f0f01a32c86a3b53b32aee569d794a2270d22c1696541bdf", func := "redpen/redpenlaw10.LabelPlays", spec := "labelPlays", unfollowed := true, recurses := true, apart := false, narrowed := true }
def LabelPlaysUptoSaid : Prop := labelPlaysUptoRow.holds Try.pinned (OpenSpec.upto labelPlaysSpec)

/-- 'redpenlaw10.LabelNil', WHERE WHAT IT READS IS OF BULK AT MOST 1048576: true; the input reads as it did. -/
def labelNilUptoRow : OpenClaim := { program := "ytecpmgbahknneaa", sum := "c2550e72c7cb9bd8f0f01a32c86a3b53b32aee569d794a2270d22c1696541bdf", func := "redpen/redpenlaw10.LabelNil", spec := "labelNil", apart := false, narrowed := true }
def LabelNilUptoSaid : Prop := labelNilUptoRow.holds Try.pinned (OpenSpec.upto labelNilSpec)

/-- 'redpenlaw10.LabelCover', WHERE WHAT IT READS IS OF BULK AT MOST 1048576: true; the input reads as it did. -/
def labelCoverUptoRow : OpenClaim := { program := "ytecpmgbahknneaa", sum := "c2550e72c7cb9bd8f0f01a32c86a3b53b32aee569d794a2270d22c1696541bdf", func := "redpen/redpenlaw10.LabelCover", spec := "labelCover", apart := false, narrowed := true }
def LabelCoverUptoSaid : Prop := labelCoverUptoRow.holds Try.pinned (OpenSpec.upto labelCoverSpec)

end Rows
end Go.Proofs.Ytecpmgbahknneaa
