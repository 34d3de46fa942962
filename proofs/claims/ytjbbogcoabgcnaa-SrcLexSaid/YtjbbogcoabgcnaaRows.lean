/-
  No cell of these rows narrows 'for every input' (looked for: loops, veiled, ifaces, maps, wideKeys, modest, calm, conditions, laid).
  DERIVED. THE GIVEN ROWS OF THIS SEAT. 6 by the template 'for every input the law returns true; each argument reads behind the call as it read before'; 0 by the template 'total and deterministic' (their statements: YtjbbogcoabgcnaaTotals.lean).
  GIVEN WITH THE SEED: the statements are not yours to turn. If you find one false, say at which input.
  Laid BY PROGRAM, IN A SANDBOX (cutbox-rows.mjs): the forced cells as the released guide's own fill.sh prints them over the translation f2d6acd3d86cdd1a… (all of the seat's roots in one cut). By AI agents, Wed Nov 11 2026. No macro, syntax, notation, axiom, sorry.
-/
import Derived.Test.YtjbbogcoabgcnaaChecked
import GoSem.Claim
import GoSem.ClaimJoined
import GoSem.ClaimMapViews
import Derived.JoinedTies
import Derived.KernelRfl
namespace Go.Proofs.Ytjbbogcoabgcnaa
/- THE CELL 'sum', in the pinned program and in every row, IS THE sha256 OF THE DUMP (.gsa) THAT YtjbbogcoabgcnaaProg.lean LOADS. Nothing in Lean hashes anything: it is a label: what it is worth is what the hold of that sum in a sandbox is worth. -/
noncomputable def Try.pinned : Pinned := { name := "ytjbbogcoabgcnaa", sum := "f2d6acd3d86cdd1a7e4470f5c5e5c3cafd5b7ce33fd88953662a7b4aabfae468", checked := Try.checked }
namespace Rows
def none {H : Type} : Left H := { results := [], args := [] }

/-- 'redpenlaw14.SrcLex': WHATEVER THE INPUT: true; the input reads as it did. -/
def srcLexSpec : ChangeSpec := { name := "srcLex", fn := fun _ => fun
  | [d1, d2, d3] => { results := [.lit (.bool true)], args := [d1, d2, d3] }
  | _ => none }
def srcLexRow : OpenClaim := { program := "ytjbbogcoabgcnaa", sum := "f2d6acd3d86cdd1a7e4470f5c5e5c3cafd5b7ce33fd88953662a7b4aabfae468", func := "redpen/redpenlaw14.SrcLex", spec := "srcLex", inPlace := ["internal/bytealg.IndexByte"], apart := false }
def SrcLexSaid : Prop := srcLexRow.holds Try.pinned (OpenSpec.ofChange srcLexSpec)

/-- ITS FALSE NEIGHBOUR: 'it returns false'. Refute it at one input. -/
def srcLexWrong : ChangeSpec := { name := "srcLex", fn := fun _ => fun
  | [d1, d2, d3] => { results := [.lit (.bool false)], args := [d1, d2, d3] }
  | _ => none }
def SrcLexWrongFalsely : Prop := srcLexRow.holds Try.pinned (OpenSpec.ofChange srcLexWrong)

/-- 'redpenlaw14.SrcNests': WHATEVER THE INPUT: true; the input reads as it did. -/
def srcNestsSpec : ChangeSpec := { name := "srcNests", fn := fun _ => fun
  | [d1, d2, d3] => { results := [.lit (.bool true)], args := [d1, d2, d3] }
  | _ => none }
def srcNestsRow : OpenClaim := { program := "ytjbbogcoabgcnaa", sum := "f2d6acd3d86cdd1a7e4470f5c5e5c3cafd5b7ce33fd88953662a7b4aabfae468", func := "redpen/redpenlaw14.SrcNests", spec := "srcNests", inPlace := ["internal/bytealg.IndexByte"], apart := false }
def SrcNestsSaid : Prop := srcNestsRow.holds Try.pinned (OpenSpec.ofChange srcNestsSpec)

/-- ITS FALSE NEIGHBOUR: 'it returns false'. Refute it at one input. -/
def srcNestsWrong : ChangeSpec := { name := "srcNests", fn := fun _ => fun
  | [d1, d2, d3] => { results := [.lit (.bool false)], args := [d1, d2, d3] }
  | _ => none }
def SrcNestsWrongFalsely : Prop := srcNestsRow.holds Try.pinned (OpenSpec.ofChange srcNestsWrong)

/-- 'redpenlaw14.SrcStrings': WHATEVER THE INPUT: true; the input reads as it did. -/
def srcStringsSpec : ChangeSpec := { name := "srcStrings", fn := fun _ => fun
  | [d1, d2, d3] => { results := [.lit (.bool true)], args := [d1, d2, d3] }
  | _ => none }
def srcStringsRow : OpenClaim := { program := "ytjbbogcoabgcnaa", sum := "f2d6acd3d86cdd1a7e4470f5c5e5c3cafd5b7ce33fd88953662a7b4aabfae468", func := "redpen/redpenlaw14.SrcStrings", spec := "srcStrings", inPlace := ["internal/bytealg.IndexByte"], apart := false }
def SrcStringsSaid : Prop := srcStringsRow.holds Try.pinned (OpenSpec.ofChange srcStringsSpec)

/-- ITS FALSE NEIGHBOUR: 'it returns false'. Refute it at one input. -/
def srcStringsWrong : ChangeSpec := { name := "srcStrings", fn := fun _ => fun
  | [d1, d2, d3] => { results := [.lit (.bool false)], args := [d1, d2, d3] }
  | _ => none }
def SrcStringsWrongFalsely : Prop := srcStringsRow.holds Try.pinned (OpenSpec.ofChange srcStringsWrong)

/-- 'redpenlaw14.SrcRaw': WHATEVER THE INPUT: true; the input reads as it did. -/
def srcRawSpec : ChangeSpec := { name := "srcRaw", fn := fun _ => fun
  | [d1, d2, d3] => { results := [.lit (.bool true)], args := [d1, d2, d3] }
  | _ => none }
def srcRawRow : OpenClaim := { program := "ytjbbogcoabgcnaa", sum := "f2d6acd3d86cdd1a7e4470f5c5e5c3cafd5b7ce33fd88953662a7b4aabfae468", func := "redpen/redpenlaw14.SrcRaw", spec := "srcRaw", inPlace := ["internal/bytealg.IndexByte"], apart := false }
def SrcRawSaid : Prop := srcRawRow.holds Try.pinned (OpenSpec.ofChange srcRawSpec)

/-- ITS FALSE NEIGHBOUR: 'it returns false'. Refute it at one input. -/
def srcRawWrong : ChangeSpec := { name := "srcRaw", fn := fun _ => fun
  | [d1, d2, d3] => { results := [.lit (.bool false)], args := [d1, d2, d3] }
  | _ => none }
def SrcRawWrongFalsely : Prop := srcRawRow.holds Try.pinned (OpenSpec.ofChange srcRawWrong)

/-- 'redpenlaw14.SrcLines': WHATEVER THE INPUT: true; the input reads as it did. -/
def srcLinesSpec : ChangeSpec := { name := "srcLines", fn := fun _ => fun
  | [d1, d2, d3] => { results := [.lit (.bool true)], args := [d1, d2, d3] }
  | _ => none }
def srcLinesRow : OpenClaim := { program := "ytjbbogcoabgcnaa", sum := "f2d6acd3d86cdd1a7e4470f5c5e5c3cafd5b7ce33fd88953662a7b4aabfae468", func := "redpen/redpenlaw14.SrcLines", spec := "srcLines", inPlace := ["internal/bytealg.IndexByte"], apart := false }
def SrcLinesSaid : Prop := srcLinesRow.holds Try.pinned (OpenSpec.ofChange srcLinesSpec)

/-- ITS FALSE NEIGHBOUR: 'it returns false'. Refute it at one input. -/
def srcLinesWrong : ChangeSpec := { name := "srcLines", fn := fun _ => fun
  | [d1, d2, d3] => { results := [.lit (.bool false)], args := [d1, d2, d3] }
  | _ => none }
def SrcLinesWrongFalsely : Prop := srcLinesRow.holds Try.pinned (OpenSpec.ofChange srcLinesWrong)

/-- 'redpenlaw14.SrcPlain': WHATEVER THE INPUT: true; the input reads as it did. -/
def srcPlainSpec : ChangeSpec := { name := "srcPlain", fn := fun _ => fun
  | [d1, d2, d3] => { results := [.lit (.bool true)], args := [d1, d2, d3] }
  | _ => none }
def srcPlainRow : OpenClaim := { program := "ytjbbogcoabgcnaa", sum := "f2d6acd3d86cdd1a7e4470f5c5e5c3cafd5b7ce33fd88953662a7b4aabfae468", func := "redpen/redpenlaw14.SrcPlain", spec := "srcPlain", inPlace := ["internal/bytealg.IndexByte"], apart := false }
def SrcPlainSaid : Prop := srcPlainRow.holds Try.pinned (OpenSpec.ofChange srcPlainSpec)

/-- ITS FALSE NEIGHBOUR: 'it returns false'. Refute it at one input. -/
def srcPlainWrong : ChangeSpec := { name := "srcPlain", fn := fun _ => fun
  | [d1, d2, d3] => { results := [.lit (.bool false)], args := [d1, d2, d3] }
  | _ => none }
def SrcPlainWrongFalsely : Prop := srcPlainRow.holds Try.pinned (OpenSpec.ofChange srcPlainWrong)

/- THE SECOND FORM. 'bulk': how many values and letters a reading holds, each counted each time it is reached (what is shared counts as often as it is met; a slice's spare places count too). A statement '..UptoSaid' is the law's where the arguments, and the package variables that the reading takes, are together of bulk at most 1048576: NARROWER than '..Said'. Prove '..Said' where nothing that the law and all that it calls make is longer than what came in: it says more and counts as full. Else prove '..UptoSaid'. A law counts once. -/
mutual
def uptoBulk {H : Type} : DataW H → Nat
  | .lit (.string bytes) => bytes.length + 1
  | .lit _ => 1
  | .nil => 1
  | .ptr d => uptoBulk d + 1
  | .slice elems spare => uptoBulkAll elems + uptoBulkAll spare + 1
  | .agg parts => uptoBulkAll parts + 1
  | .iface _ d => uptoBulk d + 1
  | .map entries => uptoBulkEntries entries + 1
  | .held _ => 1
def uptoBulkAll {H : Type} : List (DataW H) → Nat
  | [] => 0
  | d :: r => uptoBulk d + uptoBulkAll r
def uptoBulkEntries {H : Type} : List (Lit × DataW H) → Nat
  | [] => 0
  | x :: r => uptoBulkEntry x + uptoBulkEntries r
def uptoBulkEntry {H : Type} : Lit × DataW H → Nat
  | (.string bytes, d) => bytes.length + uptoBulk d + 1
  | (_, d) => uptoBulk d + 1
 end
def uptoSmall : (H : Type) → List (DataW H) → Bool := fun _ ds => decide (uptoBulkAll ds ≤ 1048576)
def OpenSpec.upto (s : _root_.Go.ChangeSpec) : _root_.Go.OpenSpec := { _root_.Go.OpenSpec.ofChange s with cond := some uptoSmall }

/-- 'redpenlaw14.SrcLex', WHERE WHAT IT READS IS OF BULK AT MOST 1048576: true; the input reads as it did. -/
def srcLexUptoRow : OpenClaim := { program := "ytjbbogcoabgcnaa", sum := "f2d6acd3d86cdd1a7e4470f5c5e5c3cafd5b7ce33fd88953662a7b4aabfae468", func := "redpen/redpenlaw14.SrcLex", spec := "srcLex", inPlace := ["internal/bytealg.IndexByte"], apart := false, narrowed := true }
def SrcLexUptoSaid : Prop := srcLexUptoRow.holds Try.pinned (OpenSpec.upto srcLexSpec)

/-- 'redpenlaw14.SrcNests', WHERE WHAT IT READS IS OF BULK AT MOST 1048576: true; the input reads as it did. -/
def srcNestsUptoRow : OpenClaim := { program := "ytjbbogcoabgcnaa", sum := "f2d6acd3d86cdd1a7e4470f5c5e5c3cafd5b7ce33fd88953662a7b4aabfae468", func := "redpen/redpenlaw14.SrcNests", spec := "srcNests", inPlace := ["internal/bytealg.IndexByte"], apart := false, narrowed := true }
def SrcNestsUptoSaid : Prop := srcNestsUptoRow.holds Try.pinned (OpenSpec.upto srcNestsSpec)

/-- 'redpenlaw14.SrcStrings', WHERE WHAT IT READS IS OF BULK AT MOST 1048576: true; the input reads as it did. -/
def srcStringsUptoRow : OpenClaim := { program := "ytjbbogcoabgcnaa", sum := "f2d6acd3d86cdd1a7e4470f5c5e5c3cafd5b7ce33fd88953662a7b4aabfae468", func := "redpen/redpenlaw14.SrcStrings", spec := "srcStrings", inPlace := ["internal/bytealg.IndexByte"], apart := false, narrowed := true }
def SrcStringsUptoSaid : Prop := srcStringsUptoRow.holds Try.pinned (OpenSpec.upto srcStringsSpec)

/-- 'redpenlaw14.SrcRaw', WHERE WHAT IT READS IS OF BULK AT MOST 1048576: true; the input reads as it did. -/
def srcRawUptoRow : OpenClaim := { program := "ytjbbogcoabgcnaa", sum := "f2d6acd3d86cdd1a7e4470f5c5e5c3cafd5b7ce33fd88953662a7b4aabfae468", func := "redpen/redpenlaw14.SrcRaw", spec := "srcRaw", inPlace := ["internal/bytealg.IndexByte"], apart := false, narrowed := true }
def SrcRawUptoSaid : Prop := srcRawUptoRow.holds Try.pinned (OpenSpec.upto srcRawSpec)

/-- 'redpenlaw14.SrcLines', WHERE WHAT IT READS IS OF BULK AT MOST 1048576: true; the input reads as it did. -/
def srcLinesUptoRow : OpenClaim := { program := "ytjbbogcoabgcnaa", sum := "f2d6acd3d86cdd1a7e4470f5c5e5c3cafd5b7ce33fd88953662a7b4aabfae468", func := "redpen/redpenlaw14.SrcLines", spec := "srcLines", inPlace := ["internal/bytealg.IndexByte"], apart := false, narrowed := true }
def SrcLinesUptoSaid : Prop := srcLinesUptoRow.holds Try.pinned (OpenSpec.upto srcLinesSpec)

/-- 'redpenlaw14.SrcPlain', WHERE WHAT IT READS IS OF BULK AT MOST 1048576: true; the input reads as it did. -/
def srcPlainUptoRow : OpenClaim := { program := "ytjbbogcoabgcnaa", sum := "f2d6acd3d86cdd1a7e4470f5c5e5c3cafd5b7ce33fd88953662a7b4aabfae468", func := "redpen/redpenlaw14.SrcPlain", spec := "srcPlain", inPlace := ["internal/bytealg.IndexByte"], apart := false, narrowed := true }
def SrcPlainUptoSaid : Prop := srcPlainUptoRow.holds Try.pinned (OpenSpec.upto srcPlainSpec)

end Rows
end Go.Proofs.Ytjbbogcoabgcnaa
