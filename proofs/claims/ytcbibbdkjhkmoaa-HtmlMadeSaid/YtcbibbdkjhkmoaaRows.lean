/-
  No cell of these rows narrows 'for every input' (looked for: loops, veiled, ifaces, maps, wideKeys, modest, calm, conditions, laid).
  DERIVED. THE GIVEN ROWS OF THIS SEAT. 6 by the template 'for every input the law returns true; each argument reads behind the call as it read before'; 0 by the template 'total and deterministic' (their statements: YtcbibbdkjhkmoaaTotals.lean).
  GIVEN WITH THE SEED: the statements are not yours to turn. If you find one false, say at which input.
  Laid BY PROGRAM, IN A SANDBOX (cutbox-rows.mjs): the forced cells as the released guide's own fill.sh prints them over the translation d2c5056f0616653e… (all of the seat's roots in one cut). By AI agents, Wed Nov 11 2026. No macro, syntax, notation, axiom, sorry.
-/
import Derived.Test.YtcbibbdkjhkmoaaChecked
import GoSem.Claim
import GoSem.ClaimJoined
import GoSem.ClaimMapViews
import Derived.JoinedTies
import Derived.KernelRfl
namespace Go.Proofs.Ytcbibbdkjhkmoaa
/- THE CELL 'sum', in the pinned program and in every row, IS THE sha256 OF THE DUMP (.gsa) THAT YtcbibbdkjhkmoaaProg.lean LOADS. Nothing in Lean hashes anything: it is a label: what it is worth is what the hold of that sum in a sandbox is worth. -/
noncomputable def Try.pinned : Pinned := { name := "ytcbibbdkjhkmoaa", sum := "d2c5056f0616653e1aa2067b704fe8a053c9bbc5d021394b91841385c3ae92d5", checked := Try.checked }
namespace Rows
def none {H : Type} : Left H := { results := [], args := [] }

/-- 'redpenlaw11.HtmlLex': WHATEVER THE INPUT: true; the input reads as it did. -/
def htmlLexSpec : ChangeSpec := { name := "htmlLex", fn := fun _ => fun
  | [d1, d2] => { results := [.lit (.bool true)], args := [d1, d2] }
  | _ => none }
def htmlLexRow : OpenClaim := { program := "ytcbibbdkjhkmoaa", sum := "d2c5056f0616653e1aa2067b704fe8a053c9bbc5d021394b91841385c3ae92d5", func := "redpen/redpenlaw11.HtmlLex", spec := "htmlLex", inPlace := ["internal/bytealg.IndexByte", "internal/bytealg.Index"], unfollowed := true, recurses := true, named := ["internal/bytealg.MaxLen"], apart := false }
def HtmlLexSaid : Prop := htmlLexRow.holds Try.pinned (OpenSpec.ofChange htmlLexSpec)

/-- ITS FALSE NEIGHBOUR: 'it returns false'. Refute it at one input. -/
def htmlLexWrong : ChangeSpec := { name := "htmlLex", fn := fun _ => fun
  | [d1, d2] => { results := [.lit (.bool false)], args := [d1, d2] }
  | _ => none }
def HtmlLexWrongFalsely : Prop := htmlLexRow.holds Try.pinned (OpenSpec.ofChange htmlLexWrong)

/-- 'redpenlaw11.HtmlTags': WHATEVER THE INPUT: true; the input reads as it did. -/
def htmlTagsSpec : ChangeSpec := { name := "htmlTags", fn := fun _ => fun
  | [d1, d2, d3] => { results := [.lit (.bool true)], args := [d1, d2, d3] }
  | _ => none }
def htmlTagsRow : OpenClaim := { program := "ytcbibbdkjhkmoaa", sum := "d2c5056f0616653e1aa2067b704fe8a053c9bbc5d021394b91841385c3ae92d5", func := "redpen/redpenlaw11.HtmlTags", spec := "htmlTags", inPlace := ["internal/bytealg.IndexByte", "internal/bytealg.Index"], unfollowed := true, recurses := true, named := ["internal/bytealg.MaxLen"], apart := false }
def HtmlTagsSaid : Prop := htmlTagsRow.holds Try.pinned (OpenSpec.ofChange htmlTagsSpec)

/-- ITS FALSE NEIGHBOUR: 'it returns false'. Refute it at one input. -/
def htmlTagsWrong : ChangeSpec := { name := "htmlTags", fn := fun _ => fun
  | [d1, d2, d3] => { results := [.lit (.bool false)], args := [d1, d2, d3] }
  | _ => none }
def HtmlTagsWrongFalsely : Prop := htmlTagsRow.holds Try.pinned (OpenSpec.ofChange htmlTagsWrong)

/-- 'redpenlaw11.HtmlGreat': WHATEVER THE INPUT: true; the input reads as it did. -/
def htmlGreatSpec : ChangeSpec := { name := "htmlGreat", fn := fun _ => fun
  | [d] => { results := [.lit (.bool true)], args := [d] }
  | _ => none }
def htmlGreatRow : OpenClaim := { program := "ytcbibbdkjhkmoaa", sum := "d2c5056f0616653e1aa2067b704fe8a053c9bbc5d021394b91841385c3ae92d5", func := "redpen/redpenlaw11.HtmlGreat", spec := "htmlGreat", inPlace := ["internal/bytealg.IndexByte", "internal/bytealg.Index"], unfollowed := true, recurses := true, named := ["internal/bytealg.MaxLen"], apart := false }
def HtmlGreatSaid : Prop := htmlGreatRow.holds Try.pinned (OpenSpec.ofChange htmlGreatSpec)

/-- ITS FALSE NEIGHBOUR: 'it returns false'. Refute it at one input. -/
def htmlGreatWrong : ChangeSpec := { name := "htmlGreat", fn := fun _ => fun
  | [d] => { results := [.lit (.bool false)], args := [d] }
  | _ => none }
def HtmlGreatWrongFalsely : Prop := htmlGreatRow.holds Try.pinned (OpenSpec.ofChange htmlGreatWrong)

/-- 'redpenlaw11.HtmlMade': WHATEVER THE INPUT: true; the input reads as it did. -/
def htmlMadeSpec : ChangeSpec := { name := "htmlMade", fn := fun _ => fun
  | [d1, d2, d3, d4] => { results := [.lit (.bool true)], args := [d1, d2, d3, d4] }
  | _ => none }
def htmlMadeRow : OpenClaim := { program := "ytcbibbdkjhkmoaa", sum := "d2c5056f0616653e1aa2067b704fe8a053c9bbc5d021394b91841385c3ae92d5", func := "redpen/redpenlaw11.HtmlMade", spec := "htmlMade", inPlace := ["internal/bytealg.IndexByte", "internal/bytealg.Index"], unfollowed := true, recurses := true, named := ["internal/bytealg.MaxLen"], apart := false }
def HtmlMadeSaid : Prop := htmlMadeRow.holds Try.pinned (OpenSpec.ofChange htmlMadeSpec)

/-- ITS FALSE NEIGHBOUR: 'it returns false'. Refute it at one input. -/
def htmlMadeWrong : ChangeSpec := { name := "htmlMade", fn := fun _ => fun
  | [d1, d2, d3, d4] => { results := [.lit (.bool false)], args := [d1, d2, d3, d4] }
  | _ => none }
def HtmlMadeWrongFalsely : Prop := htmlMadeRow.holds Try.pinned (OpenSpec.ofChange htmlMadeWrong)

/-- 'redpenlaw11.HtmlRaw': WHATEVER THE INPUT: true; the input reads as it did. -/
def htmlRawSpec : ChangeSpec := { name := "htmlRaw", fn := fun _ => fun
  | [d1, d2, d3] => { results := [.lit (.bool true)], args := [d1, d2, d3] }
  | _ => none }
def htmlRawRow : OpenClaim := { program := "ytcbibbdkjhkmoaa", sum := "d2c5056f0616653e1aa2067b704fe8a053c9bbc5d021394b91841385c3ae92d5", func := "redpen/redpenlaw11.HtmlRaw", spec := "htmlRaw", inPlace := ["internal/bytealg.IndexByte", "internal/bytealg.Index"], unfollowed := true, recurses := true, named := ["internal/bytealg.MaxLen"], apart := false }
def HtmlRawSaid : Prop := htmlRawRow.holds Try.pinned (OpenSpec.ofChange htmlRawSpec)

/-- ITS FALSE NEIGHBOUR: 'it returns false'. Refute it at one input. -/
def htmlRawWrong : ChangeSpec := { name := "htmlRaw", fn := fun _ => fun
  | [d1, d2, d3] => { results := [.lit (.bool false)], args := [d1, d2, d3] }
  | _ => none }
def HtmlRawWrongFalsely : Prop := htmlRawRow.holds Try.pinned (OpenSpec.ofChange htmlRawWrong)

/-- 'redpenlaw11.HtmlPlain': WHATEVER THE INPUT: true; the input reads as it did. -/
def htmlPlainSpec : ChangeSpec := { name := "htmlPlain", fn := fun _ => fun
  | [d1, d2, d3] => { results := [.lit (.bool true)], args := [d1, d2, d3] }
  | _ => none }
def htmlPlainRow : OpenClaim := { program := "ytcbibbdkjhkmoaa", sum := "d2c5056f0616653e1aa2067b704fe8a053c9bbc5d021394b91841385c3ae92d5", func := "redpen/redpenlaw11.HtmlPlain", spec := "htmlPlain", inPlace := ["internal/bytealg.IndexByte", "internal/bytealg.Index"], unfollowed := true, recurses := true, named := ["internal/bytealg.MaxLen"], apart := false }
def HtmlPlainSaid : Prop := htmlPlainRow.holds Try.pinned (OpenSpec.ofChange htmlPlainSpec)

/-- ITS FALSE NEIGHBOUR: 'it returns false'. Refute it at one input. -/
def htmlPlainWrong : ChangeSpec := { name := "htmlPlain", fn := fun _ => fun
  | [d1, d2, d3] => { results := [.lit (.bool false)], args := [d1, d2, d3] }
  | _ => none }
def HtmlPlainWrongFalsely : Prop := htmlPlainRow.holds Try.pinned (OpenSpec.ofChange htmlPlainWrong)

/- THE SECOND FORM. 'bulk': how many values and letters a reading holds, each counted each time it is reached (what is shared counts as often as it is met; a slice's spare places count too). A statement '..UptoSaid' is the law's where the arguments, and the package variables that the reading takes, are together of bulk at most 1048576: NARROWER than '..Said'. Prove '..Said' where nothing that the law and all that it calls make is longer than what came in: it says more and counts as full. Else prove '..UptoSaid'. A law counts once. -/
mutual
def uptoBulk {H : Type} : DataW H → Nat
  | .lit (.string bytes) => bytes.length + 1
  | .lit _ => 1
  | .nil => 1
  | .ptr d => uptoBulk d + 1
  | .slice elems spare => uptoBulkAll elems + uptoBulkAll spare + 1
  | .agg parts => uptoBulkAll parts + 1
  | .iface _ d => uptoBulk d + 1
  | .map entries => uptoBulkEntries entries + 1
  | .held _ => 1
def uptoBulkAll {H : Type} : List (DataW H) → Nat
  | [] => 0
  | d :: r => uptoBulk d + uptoBulkAll r
def uptoBulkEntries {H : Type} : List (Lit × DataW H) → Nat
  | [] => 0
  | x :: r => uptoBulkEntry x + uptoBulkEntries r
def uptoBulkEntry {H : Type} : Lit × DataW H → Nat
  | (.string bytes, d) => bytes.length + uptoBulk d + 1
  | (_, d) => uptoBulk d + 1
 end
def uptoSmall : (H : Type) → List (DataW H) → Bool := fun _ ds => decide (uptoBulkAll ds ≤ 1048576)
def OpenSpec.upto (s : _root_.Go.ChangeSpec) : _root_.Go.OpenSpec := { _root_.Go.OpenSpec.ofChange s with cond := some uptoSmall }

/-- 'redpenlaw11.HtmlLex', WHERE WHAT IT READS IS OF BULK AT MOST 1048576: true; the input reads as it did. -/
def htmlLexUptoRow : OpenClaim := { program := "ytcbibbdkjhkmoaa", sum := "d2c5056f0616653e1aa2067b704fe8a053c9bbc5d021394b91841385c3ae92d5", func := "redpen/redpenlaw11.HtmlLex", spec := "htmlLex", inPlace := ["internal/bytealg.IndexByte", "internal/bytealg.Index"], unfollowed := true, recurses := true, named := ["internal/bytealg.MaxLen"], apart := false, narrowed := true }
def HtmlLexUptoSaid : Prop := htmlLexUptoRow.holds Try.pinned (OpenSpec.upto htmlLexSpec)

/-- 'redpenlaw11.HtmlTags', WHERE WHAT IT READS IS OF BULK AT MOST 1048576: true; the input reads as it did. -/
def htmlTagsUptoRow : OpenClaim := { program := "ytcbibbdkjhkmoaa", sum := "d2c5056f0616653e1aa2067b704fe8a053c9bbc5d021394b91841385c3ae92d5", func := "redpen/redpenlaw11.HtmlTags", spec := "htmlTags", inPlace := ["internal/bytealg.IndexByte", "internal/bytealg.Index"], unfollowed := true, recurses := true, named := ["internal/bytealg.MaxLen"], apart := false, narrowed := true }
def HtmlTagsUptoSaid : Prop := htmlTagsUptoRow.holds Try.pinned (OpenSpec.upto htmlTagsSpec)

/-- 'redpenlaw11.HtmlGreat', WHERE WHAT IT READS IS OF BULK AT MOST 1048576: true; the input reads as it did. -/
def htmlGreatUptoRow : OpenClaim := { program := "ytcbibbdkjhkmoaa", sum := "d2c5056f0616653e1aa2067b704fe8a053c9bbc5d021394b91841385c3ae92d5", func := "redpen/redpenlaw11.HtmlGreat", spec := "htmlGreat", inPlace := ["internal/bytealg.IndexByte", "internal/bytealg.Index"], unfollowed := true, recurses := true, named := ["internal/bytealg.MaxLen"], apart := false, narrowed := true }
def HtmlGreatUptoSaid : Prop := htmlGreatUptoRow.holds Try.pinned (OpenSpec.upto htmlGreatSpec)

/-- 'redpenlaw11.HtmlMade', WHERE WHAT IT READS IS OF BULK AT MOST 1048576: true; the input reads as it did. -/
def htmlMadeUptoRow : OpenClaim := { program := "ytcbibbdkjhkmoaa", sum := "d2c5056f0616653e1aa2067b704fe8a053c9bbc5d021394b91841385c3ae92d5", func := "redpen/redpenlaw11.HtmlMade", spec := "htmlMade", inPlace := ["internal/bytealg.IndexByte", "internal/bytealg.Index"], unfollowed := true, recurses := true, named := ["internal/bytealg.MaxLen"], apart := false, narrowed := true }
def HtmlMadeUptoSaid : Prop := htmlMadeUptoRow.holds Try.pinned (OpenSpec.upto htmlMadeSpec)

/-- 'redpenlaw11.HtmlRaw', WHERE WHAT IT READS IS OF BULK AT MOST 1048576: true; the input reads as it did. -/
def htmlRawUptoRow : OpenClaim := { program := "ytcbibbdkjhkmoaa", sum := "d2c5056f0616653e1aa2067b704fe8a053c9bbc5d021394b91841385c3ae92d5", func := "redpen/redpenlaw11.HtmlRaw", spec := "htmlRaw", inPlace := ["internal/bytealg.IndexByte", "internal/bytealg.Index"], unfollowed := true, recurses := true, named := ["internal/bytealg.MaxLen"], apart := false, narrowed := true }
def HtmlRawUptoSaid : Prop := htmlRawUptoRow.holds Try.pinned (OpenSpec.upto htmlRawSpec)

/-- 'redpenlaw11.HtmlPlain', WHERE WHAT IT READS IS OF BULK AT MOST 1048576: true; the input reads as it did. -/
def htmlPlainUptoRow : OpenClaim := { program := "ytcbibbdkjhkmoaa", sum := "d2c5056f0616653e1aa2067b704fe8a053c9bbc5d021394b91841385c3ae92d5", func := "redpen/redpenlaw11.HtmlPlain", spec := "htmlPlain", inPlace := ["internal/bytealg.IndexByte", "internal/bytealg.Index"], unfollowed := true, recurses := true, named := ["internal/bytealg.MaxLen"], apart := false, narrowed := true }
def HtmlPlainUptoSaid : Prop := htmlPlainUptoRow.holds Try.pinned (OpenSpec.upto htmlPlainSpec)

end Rows
end Go.Proofs.Ytcbibbdkjhkmoaa
