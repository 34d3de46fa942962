/-
  NARROWER THAN 'FOR EVERY INPUT', by the rows' own cells (each row's printed sentence says how): TexWords: laid · TexLex: laid · TexVerbatim: laid · TexMath: laid · TexGroups: laid · TexSigns: laid.
  DERIVED. THE GIVEN ROWS OF THIS SEAT. 6 by the template 'for every input the law returns true; each argument reads behind the call as it read before'; 0 by the template 'total and deterministic' (their statements: YtkicpaodcmepmaaDoorTotals.lean).
  GIVEN WITH THE SEED: the statements are not yours to turn. If you find one false, say at which input.
  Laid BY PROGRAM, IN A SANDBOX (cutbox-rows.mjs): the forced cells as the released guide's own fill.sh prints them over the translation e0d1d9184a3ecb8d… (all of the seat's roots in one cut). By AI agents, Wed Nov 11 2026. No macro, syntax, notation, axiom, sorry.
-/
import Derived.Test.YtkicpaodcmepmaaDoorChecked
import GoSem.Claim
import GoSem.ClaimJoined
import GoSem.ClaimMapViews
import Derived.JoinedTies
import Derived.KernelRfl
namespace Go.Proofs.YtkicpaodcmepmaaDoor
/- THE CELL 'sum', in the pinned program and in every row, IS THE sha256 OF THE DUMP (.gsa) THAT YtkicpaodcmepmaaDoorProg.lean LOADS. Nothing in Lean hashes anything: it is a label: what it is worth is what the hold of that sum in a sandbox is worth. -/
noncomputable def Tryd.pinned : Pinned := { name := "ytkicpaodcmepmaadoor", sum := "e0d1d9184a3ecb8d95e5a697740176c32cc64e25ad9579f7af92866482ed0652", checked := Tryd.checked }
namespace Rows
def none {H : Type} : Left H := { results := [], args := [] }

/- WHAT THE LISTED PACKAGE-LEVEL VARIABLES READ AS WHEN THE CALL BEGINS. Each datum BY PROGRAM (the guide's laid-datum.mjs) off the statement by which the dump's own 'gosem.cut.vars' lays the variable. In a bare row this is a premise. The card (YtkicpaodcmepmaaDoorCards.lean) ties it to the program's text. -/
def laid_redpen_tex_bare {H : Type} : DataW H := .slice [.lit (.string [98, 101, 103, 105, 110]), .lit (.string [98, 105, 98, 108, 105, 111, 103, 114, 97, 112, 104, 121]), .lit (.string [98, 105, 98, 108, 105, 111, 103, 114, 97, 112, 104, 121, 115, 116, 121, 108, 101]), .lit (.string [99, 105, 116, 101]), .lit (.string [100, 111, 99, 117, 109, 101, 110, 116, 99, 108, 97, 115, 115]), .lit (.string [101, 110, 100]), .lit (.string [105, 110, 99, 108, 117, 100, 101]), .lit (.string [105, 110, 99, 108, 117, 100, 101, 103, 114, 97, 112, 104, 105, 99, 115]), .lit (.string [105, 110, 112, 117, 116]), .lit (.string [108, 97, 98, 101, 108]), .lit (.string [112, 97, 103, 101, 114, 101, 102]), .lit (.string [114, 101, 102]), .lit (.string [117, 115, 101, 112, 97, 99, 107, 97, 103, 101])] []
def laid_redpen_tex_whole {H : Type} : DataW H := .slice [.lit (.string [97, 108, 105, 103, 110]), .lit (.string [97, 108, 105, 103, 110, 42]), .lit (.string [101, 113, 117, 97, 116, 105, 111, 110]), .lit (.string [101, 113, 117, 97, 116, 105, 111, 110, 42]), .lit (.string [108, 115, 116, 108, 105, 115, 116, 105, 110, 103]), .lit (.string [118, 101, 114, 98, 97, 116, 105, 109])] []

/-- 'redpenlaw13.TexWords': WHATEVER THE INPUT: true; the input reads as it did. -/
def texWordsSpec : ChangeSpec := { name := "texWords", fn := fun _ => fun
  | [d1, d2] => { results := [.lit (.bool true)], args := [d1, d2] }
  | _ => none }
def texWordsRow : OpenClaim := { program := "ytkicpaodcmepmaadoor", sum := "e0d1d9184a3ecb8d95e5a697740176c32cc64e25ad9579f7af92866482ed0652", func := "redpen/redpenlaw13.TexWords", spec := "texWords", inPlace := ["internal/bytealg.IndexByte", "internal/bytealg.Index"], unfollowed := true, recurses := true, named := ["redpen/tex.bare", "redpen/tex.whole", "internal/bytealg.MaxLen"], apart := false, laid := [("redpen/tex.bare", laid_redpen_tex_bare), ("redpen/tex.whole", laid_redpen_tex_whole)] }
def TexWordsSaid : Prop := texWordsRow.holds Tryd.pinned (OpenSpec.ofChange texWordsSpec)

/-- ITS FALSE NEIGHBOUR: 'it returns false'. Refute it at one input. -/
def texWordsWrong : ChangeSpec := { name := "texWords", fn := fun _ => fun
  | [d1, d2] => { results := [.lit (.bool false)], args := [d1, d2] }
  | _ => none }
def TexWordsWrongFalsely : Prop := texWordsRow.holds Tryd.pinned (OpenSpec.ofChange texWordsWrong)

/-- 'redpenlaw13.TexLex': WHATEVER THE INPUT: true; the input reads as it did. -/
def texLexSpec : ChangeSpec := { name := "texLex", fn := fun _ => fun
  | [d1, d2] => { results := [.lit (.bool true)], args := [d1, d2] }
  | _ => none }
def texLexRow : OpenClaim := { program := "ytkicpaodcmepmaadoor", sum := "e0d1d9184a3ecb8d95e5a697740176c32cc64e25ad9579f7af92866482ed0652", func := "redpen/redpenlaw13.TexLex", spec := "texLex", inPlace := ["internal/bytealg.IndexByte", "internal/bytealg.Index"], unfollowed := true, recurses := true, named := ["redpen/tex.bare", "redpen/tex.whole", "internal/bytealg.MaxLen"], apart := false, laid := [("redpen/tex.bare", laid_redpen_tex_bare), ("redpen/tex.whole", laid_redpen_tex_whole)] }
def TexLexSaid : Prop := texLexRow.holds Tryd.pinned (OpenSpec.ofChange texLexSpec)

/-- ITS FALSE NEIGHBOUR: 'it returns false'. Refute it at one input. -/
def texLexWrong : ChangeSpec := { name := "texLex", fn := fun _ => fun
  | [d1, d2] => { results := [.lit (.bool false)], args := [d1, d2] }
  | _ => none }
def TexLexWrongFalsely : Prop := texLexRow.holds Tryd.pinned (OpenSpec.ofChange texLexWrong)

/-- 'redpenlaw13.TexVerbatim': WHATEVER THE INPUT: true; the input reads as it did. -/
def texVerbatimSpec : ChangeSpec := { name := "texVerbatim", fn := fun _ => fun
  | [d1, d2, d3] => { results := [.lit (.bool true)], args := [d1, d2, d3] }
  | _ => none }
def texVerbatimRow : OpenClaim := { program := "ytkicpaodcmepmaadoor", sum := "e0d1d9184a3ecb8d95e5a697740176c32cc64e25ad9579f7af92866482ed0652", func := "redpen/redpenlaw13.TexVerbatim", spec := "texVerbatim", inPlace := ["internal/bytealg.IndexByte", "internal/bytealg.Index"], unfollowed := true, recurses := true, named := ["redpen/tex.bare", "redpen/tex.whole", "internal/bytealg.MaxLen"], apart := false, laid := [("redpen/tex.bare", laid_redpen_tex_bare), ("redpen/tex.whole", laid_redpen_tex_whole)] }
def TexVerbatimSaid : Prop := texVerbatimRow.holds Tryd.pinned (OpenSpec.ofChange texVerbatimSpec)

/-- ITS FALSE NEIGHBOUR: 'it returns false'. Refute it at one input. -/
def texVerbatimWrong : ChangeSpec := { name := "texVerbatim", fn := fun _ => fun
  | [d1, d2, d3] => { results := [.lit (.bool false)], args := [d1, d2, d3] }
  | _ => none }
def TexVerbatimWrongFalsely : Prop := texVerbatimRow.holds Tryd.pinned (OpenSpec.ofChange texVerbatimWrong)

/-- 'redpenlaw13.TexMath': WHATEVER THE INPUT: true; the input reads as it did. -/
def texMathSpec : ChangeSpec := { name := "texMath", fn := fun _ => fun
  | [d1, d2, d3] => { results := [.lit (.bool true)], args := [d1, d2, d3] }
  | _ => none }
def texMathRow : OpenClaim := { program := "ytkicpaodcmepmaadoor", sum := "e0d1d9184a3ecb8d95e5a697740176c32cc64e25ad9579f7af92866482ed0652", func := "redpen/redpenlaw13.TexMath", spec := "texMath", inPlace := ["internal/bytealg.IndexByte", "internal/bytealg.Index"], unfollowed := true, recurses := true, named := ["redpen/tex.bare", "redpen/tex.whole", "internal/bytealg.MaxLen"], apart := false, laid := [("redpen/tex.bare", laid_redpen_tex_bare), ("redpen/tex.whole", laid_redpen_tex_whole)] }
def TexMathSaid : Prop := texMathRow.holds Tryd.pinned (OpenSpec.ofChange texMathSpec)

/-- ITS FALSE NEIGHBOUR: 'it returns false'. Refute it at one input. -/
def texMathWrong : ChangeSpec := { name := "texMath", fn := fun _ => fun
  | [d1, d2, d3] => { results := [.lit (.bool false)], args := [d1, d2, d3] }
  | _ => none }
def TexMathWrongFalsely : Prop := texMathRow.holds Tryd.pinned (OpenSpec.ofChange texMathWrong)

/-- 'redpenlaw13.TexGroups': WHATEVER THE INPUT: true; the input reads as it did. -/
def texGroupsSpec : ChangeSpec := { name := "texGroups", fn := fun _ => fun
  | [d1, d2, d3, d4] => { results := [.lit (.bool true)], args := [d1, d2, d3, d4] }
  | _ => none }
def texGroupsRow : OpenClaim := { program := "ytkicpaodcmepmaadoor", sum := "e0d1d9184a3ecb8d95e5a697740176c32cc64e25ad9579f7af92866482ed0652", func := "redpen/redpenlaw13.TexGroups", spec := "texGroups", inPlace := ["internal/bytealg.IndexByte", "internal/bytealg.Index"], unfollowed := true, recurses := true, named := ["redpen/tex.bare", "redpen/tex.whole", "internal/bytealg.MaxLen"], apart := false, laid := [("redpen/tex.bare", laid_redpen_tex_bare), ("redpen/tex.whole", laid_redpen_tex_whole)] }
def TexGroupsSaid : Prop := texGroupsRow.holds Tryd.pinned (OpenSpec.ofChange texGroupsSpec)

/-- ITS FALSE NEIGHBOUR: 'it returns false'. Refute it at one input. -/
def texGroupsWrong : ChangeSpec := { name := "texGroups", fn := fun _ => fun
  | [d1, d2, d3, d4] => { results := [.lit (.bool false)], args := [d1, d2, d3, d4] }
  | _ => none }
def TexGroupsWrongFalsely : Prop := texGroupsRow.holds Tryd.pinned (OpenSpec.ofChange texGroupsWrong)

/-- 'redpenlaw13.TexSigns': WHATEVER THE INPUT: true; the input reads as it did. -/
def texSignsSpec : ChangeSpec := { name := "texSigns", fn := fun _ => fun
  | [d1, d2] => { results := [.lit (.bool true)], args := [d1, d2] }
  | _ => none }
def texSignsRow : OpenClaim := { program := "ytkicpaodcmepmaadoor", sum := "e0d1d9184a3ecb8d95e5a697740176c32cc64e25ad9579f7af92866482ed0652", func := "redpen/redpenlaw13.TexSigns", spec := "texSigns", inPlace := ["internal/bytealg.IndexByte", "internal/bytealg.Index"], unfollowed := true, recurses := true, named := ["redpen/tex.bare", "redpen/tex.whole", "internal/bytealg.MaxLen"], apart := false, laid := [("redpen/tex.bare", laid_redpen_tex_bare), ("redpen/tex.whole", laid_redpen_tex_whole)] }
def TexSignsSaid : Prop := texSignsRow.holds Tryd.pinned (OpenSpec.ofChange texSignsSpec)

/-- ITS FALSE NEIGHBOUR: 'it returns false'. Refute it at one input. -/
def texSignsWrong : ChangeSpec := { name := "texSigns", fn := fun _ => fun
  | [d1, d2] => { results := [.lit (.bool false)], args := [d1, d2] }
  | _ => none }
def TexSignsWrongFalsely : Prop := texSignsRow.holds Tryd.pinned (OpenSpec.ofChange texSignsWrong)

/- THE SECOND FORM. 'bulk': how many values and letters a reading holds, each counted each time it is reached (what is shared counts as often as it is met; a slice's spare places count too). A statement '..UptoSaid' is the law's where the arguments, and the package variables that the reading takes, are together of bulk at most 1048576: NARROWER than '..Said'. Prove '..Said' where nothing that the law and all that it calls make is longer than what came in: it says more and counts as full. Else prove '..UptoSaid'. A law counts once. -/
mutual
def uptoBulk {H : Type} : DataW H → Nat
  | .lit (.string bytes) => bytes.length + 1
  | .lit _ => 1
  | .nil => 1
  | .ptr d => uptoBulk d + 1
  | .slice elems spare => uptoBulkAll elems + uptoBulkAll spare + 1
  | .agg parts => uptoBulkAll parts + 1
  | .iface _ d => uptoBulk d + 1
  | .map entries => uptoBulkEntries entries + 1
  | .held _ => 1
def uptoBulkAll {H : Type} : List (DataW H) → Nat
  | [] => 0
  | d :: r => uptoBulk d + uptoBulkAll r
def uptoBulkEntries {H : Type} : List (Lit × DataW H) → Nat
  | [] => 0
  | x :: r => uptoBulkEntry x + uptoBulkEntries r
def uptoBulkEntry {H : Type} : Lit × DataW H → Nat
  | (.string bytes, d) => bytes.length + uptoBulk d + 1
  | (_, d) => uptoBulk d + 1
 end
def uptoSmall : (H : Type) → List (DataW H) → Bool := fun _ ds => decide (uptoBulkAll ds ≤ 1048576)
def OpenSpec.upto (s : _root_.Go.ChangeSpec) : _root_.Go.OpenSpec := { _root_.Go.OpenSpec.ofChange s with cond := some uptoSmall }

/-- 'redpenlaw13.TexWords', WHERE WHAT IT READS IS OF BULK AT MOST 1048576: true; the input reads as it did. -/
def texWordsUptoRow : OpenClaim := { program := "ytkicpaodcmepmaadoor", sum := "e0d1d9184a3ecb8d95e5a697740176c32cc64e25ad9579f7af92866482ed0652", func := "redpen/redpenlaw13.TexWords", spec := "texWords", inPlace := ["internal/bytealg.IndexByte", "internal/bytealg.Index"], unfollowed := true, recurses := true, named := ["redpen/tex.bare", "redpen/tex.whole", "internal/bytealg.MaxLen"], apart := false, laid := [("redpen/tex.bare", laid_redpen_tex_bare), ("redpen/tex.whole", laid_redpen_tex_whole)], narrowed := true }
def TexWordsUptoSaid : Prop := texWordsUptoRow.holds Tryd.pinned (OpenSpec.upto texWordsSpec)

/-- 'redpenlaw13.TexLex', WHERE WHAT IT READS IS OF BULK AT MOST 1048576: true; the input reads as it did. -/
def texLexUptoRow : OpenClaim := { program := "ytkicpaodcmepmaadoor", sum := "e0d1d9184a3ecb8d95e5a697740176c32cc64e25ad9579f7af92866482ed0652", func := "redpen/redpenlaw13.TexLex", spec := "texLex", inPlace := ["internal/bytealg.IndexByte", "internal/bytealg.Index"], unfollowed := true, recurses := true, named := ["redpen/tex.bare", "redpen/tex.whole", "internal/bytealg.MaxLen"], apart := false, laid := [("redpen/tex.bare", laid_redpen_tex_bare), ("redpen/tex.whole", laid_redpen_tex_whole)], narrowed := true }
def TexLexUptoSaid : Prop := texLexUptoRow.holds Tryd.pinned (OpenSpec.upto texLexSpec)

/-- 'redpenlaw13.TexVerbatim', WHERE WHAT IT READS IS OF BULK AT MOST 1048576: true; the input reads as it did. -/
def texVerbatimUptoRow : OpenClaim := { program := "ytkicpaodcmepmaadoor", sum := "e0d1d9184a3ecb8d95e5a697740176c32cc64e25ad9579f7af92866482ed0652", func := "redpen/redpenlaw13.TexVerbatim", spec := "texVerbatim", inPlace := ["internal/bytealg.IndexByte", "internal/bytealg.Index"], unfollowed := true, recurses := true, named := ["redpen/tex.bare", "redpen/tex.whole", "internal/bytealg.MaxLen"], apart := false, laid := [("redpen/tex.bare", laid_redpen_tex_bare), ("redpen/tex.whole", laid_redpen_tex_whole)], narrowed := true }
def TexVerbatimUptoSaid : Prop := texVerbatimUptoRow.holds Tryd.pinned (OpenSpec.upto texVerbatimSpec)

/-- 'redpenlaw13.TexMath', WHERE WHAT IT READS IS OF BULK AT MOST 1048576: true; the input reads as it did. -/
def texMathUptoRow : OpenClaim := { program := "ytkicpaodcmepmaadoor", sum := "e0d1d9184a3ecb8d95e5a697740176c32cc64e25ad9579f7af92866482ed0652", func := "redpen/redpenlaw13.TexMath", spec := "texMath", inPlace := ["internal/bytealg.IndexByte", "internal/bytealg.Index"], unfollowed := true, recurses := true, named := ["redpen/tex.bare", "redpen/tex.whole", "internal/bytealg.MaxLen"], apart := false, laid := [("redpen/tex.bare", laid_redpen_tex_bare), ("redpen/tex.whole", laid_redpen_tex_whole)], narrowed := true }
def TexMathUptoSaid : Prop := texMathUptoRow.holds Tryd.pinned (OpenSpec.upto texMathSpec)

/-- 'redpenlaw13.TexGroups', WHERE WHAT IT READS IS OF BULK AT MOST 1048576: true; the input reads as it did. -/
def texGroupsUptoRow : OpenClaim := { program := "ytkicpaodcmepmaadoor", sum := "e0d1d9184a3ecb8d95e5a697740176c32cc64e25ad9579f7af92866482ed0652", func := "redpen/redpenlaw13.TexGroups", spec := "texGroups", inPlace := ["internal/bytealg.IndexByte", "internal/bytealg.Index"], unfollowed := true, recurses := true, named := ["redpen/tex.bare", "redpen/tex.whole", "internal/bytealg.MaxLen"], apart := false, laid := [("redpen/tex.bare", laid_redpen_tex_bare), ("redpen/tex.whole", laid_redpen_tex_whole)], narrowed := true }
def TexGroupsUptoSaid : Prop := texGroupsUptoRow.holds Tryd.pinned (OpenSpec.upto texGroupsSpec)

/-- 'redpenlaw13.TexSigns', WHERE WHAT IT READS IS OF BULK AT MOST 1048576: true; the input reads as it did. -/
def texSignsUptoRow : OpenClaim := { program := "ytkicpaodcmepmaadoor", sum := "e0d1d9184a3ecb8d95e5a697740176c32cc64e25ad9579f7af92866482ed0652", func := "redpen/redpenlaw13.TexSigns", spec := "texSigns", inPlace := ["internal/bytealg.IndexByte", "internal/bytealg.Index"], unfollowed := true, recurses := true, named := ["redpen/tex.bare", "redpen/tex.whole", "internal/bytealg.MaxLen"], apart := false, laid := [("redpen/tex.bare", laid_redpen_tex_bare), ("redpen/tex.whole", laid_redpen_tex_whole)], narrowed := true }
def TexSignsUptoSaid : Prop := texSignsUptoRow.holds Tryd.pinned (OpenSpec.upto texSignsSpec)

end Rows
end Go.Proofs.YtkicpaodcmepmaaDoor
