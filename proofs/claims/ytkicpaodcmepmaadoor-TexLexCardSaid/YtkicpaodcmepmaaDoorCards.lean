/-
  DERIVED. GIVEN WITH THE SEED: THE CARDS: each row of YtkicpaodcmepmaaDoorRows.lean that lists a variable, with what it lists TIED to the program's text (the seventh form; the later family's looks); each row that meets fmt, with fmt's text TOLD by the authors' own Lean function (tested against real Go, not proved from fmt's source: count such statements apart). THE CARD IS WHAT COUNTS. Prove the row's statement (the work); the ties are given (YtkicpaodcmepmaaDoorTie.lean); close each card by the builder's one call (the guide's Derived/Test/ToyasCard.lean, 'card_holds'). Laid BY PROGRAM, IN A SANDBOX (cutbox-door.mjs). By AI agents, Wed Nov 11 2026. No macro, syntax, notation, axiom, sorry.
-/
import Derived.Test.YtkicpaodcmepmaaDoorRows
import GoSem.ClaimSeven
namespace Go.Proofs.YtkicpaodcmepmaaDoor
namespace Rows

/-- THE TIED CARD OF 'redpenlaw13.TexWords'. -/
def texWordsCard : Claim7 := { stood := { row := texWordsRow, standIns := [], harness := (true, "33bec777a5474338b677a23ec26b1bf9bf0e4b46863ef75881ce3bc578af6b41"), looks := false }, kinds := [], alts := [], laidByText := true, laidKinds := [.widerDeep, .widerDeep], laidTests := true, laidLooks := .later }
def TexWordsCardSaid : Prop := Claim7.holds Tryd.pinned (.plain (OpenSpec.ofChange texWordsSpec)) texWordsCard

/-- THE TIED CARD OF 'redpenlaw13.TexLex'. -/
def texLexCard : Claim7 := { stood := { row := texLexRow, standIns := [], harness := (true, "33bec777a5474338b677a23ec26b1bf9bf0e4b46863ef75881ce3bc578af6b41"), looks := false }, kinds := [], alts := [], laidByText := true, laidKinds := [.widerDeep, .widerDeep], laidTests := true, laidLooks := .later }
def TexLexCardSaid : Prop := Claim7.holds Tryd.pinned (.plain (OpenSpec.ofChange texLexSpec)) texLexCard

/-- THE TIED CARD OF 'redpenlaw13.TexVerbatim'. -/
def texVerbatimCard : Claim7 := { stood := { row := texVerbatimRow, standIns := [], harness := (true, "33bec777a5474338b677a23ec26b1bf9bf0e4b46863ef75881ce3bc578af6b41"), looks := false }, kinds := [], alts := [], laidByText := true, laidKinds := [.widerDeep, .widerDeep], laidTests := true, laidLooks := .later }
def TexVerbatimCardSaid : Prop := Claim7.holds Tryd.pinned (.plain (OpenSpec.ofChange texVerbatimSpec)) texVerbatimCard

/-- THE TIED CARD OF 'redpenlaw13.TexMath'. -/
def texMathCard : Claim7 := { stood := { row := texMathRow, standIns := [], harness := (true, "33bec777a5474338b677a23ec26b1bf9bf0e4b46863ef75881ce3bc578af6b41"), looks := false }, kinds := [], alts := [], laidByText := true, laidKinds := [.widerDeep, .widerDeep], laidTests := true, laidLooks := .later }
def TexMathCardSaid : Prop := Claim7.holds Tryd.pinned (.plain (OpenSpec.ofChange texMathSpec)) texMathCard

/-- THE TIED CARD OF 'redpenlaw13.TexGroups'. -/
def texGroupsCard : Claim7 := { stood := { row := texGroupsRow, standIns := [], harness := (true, "33bec777a5474338b677a23ec26b1bf9bf0e4b46863ef75881ce3bc578af6b41"), looks := false }, kinds := [], alts := [], laidByText := true, laidKinds := [.widerDeep, .widerDeep], laidTests := true, laidLooks := .later }
def TexGroupsCardSaid : Prop := Claim7.holds Tryd.pinned (.plain (OpenSpec.ofChange texGroupsSpec)) texGroupsCard

/-- THE TIED CARD OF 'redpenlaw13.TexSigns'. -/
def texSignsCard : Claim7 := { stood := { row := texSignsRow, standIns := [], harness := (true, "33bec777a5474338b677a23ec26b1bf9bf0e4b46863ef75881ce3bc578af6b41"), looks := false }, kinds := [], alts := [], laidByText := true, laidKinds := [.widerDeep, .widerDeep], laidTests := true, laidLooks := .later }
def TexSignsCardSaid : Prop := Claim7.holds Tryd.pinned (.plain (OpenSpec.ofChange texSignsSpec)) texSignsCard

/-- THE SECOND FORM's CARD OF 'redpenlaw13.TexWords'. -/
def texWordsUptoCard : Claim7 := { stood := { row := texWordsUptoRow, standIns := [], harness := (true, "33bec777a5474338b677a23ec26b1bf9bf0e4b46863ef75881ce3bc578af6b41"), looks := false }, kinds := [], alts := [], laidByText := true, laidKinds := [.widerDeep, .widerDeep], laidTests := true, laidLooks := .later }
def TexWordsUptoCardSaid : Prop := Claim7.holds Tryd.pinned (.plain (OpenSpec.upto texWordsSpec)) texWordsUptoCard

/-- THE SECOND FORM's CARD OF 'redpenlaw13.TexLex'. -/
def texLexUptoCard : Claim7 := { stood := { row := texLexUptoRow, standIns := [], harness := (true, "33bec777a5474338b677a23ec26b1bf9bf0e4b46863ef75881ce3bc578af6b41"), looks := false }, kinds := [], alts := [], laidByText := true, laidKinds := [.widerDeep, .widerDeep], laidTests := true, laidLooks := .later }
def TexLexUptoCardSaid : Prop := Claim7.holds Tryd.pinned (.plain (OpenSpec.upto texLexSpec)) texLexUptoCard

/-- THE SECOND FORM's CARD OF 'redpenlaw13.TexVerbatim'. -/
def texVerbatimUptoCard : Claim7 := { stood := { row := texVerbatimUptoRow, standIns := [], harness := (true, "33bec777a5474338b677a23ec26b1bf9bf0e4b46863ef75881ce3bc578af6b41"), looks := false }, kinds := [], alts := [], laidByText := true, laidKinds := [.widerDeep, .widerDeep], laidTests := true, laidLooks := .later }
def TexVerbatimUptoCardSaid : Prop := Claim7.holds Tryd.pinned (.plain (OpenSpec.upto texVerbatimSpec)) texVerbatimUptoCard

/-- THE SECOND FORM's CARD OF 'redpenlaw13.TexMath'. -/
def texMathUptoCard : Claim7 := { stood := { row := texMathUptoRow, standIns := [], harness := (true, "33bec777a5474338b677a23ec26b1bf9bf0e4b46863ef75881ce3bc578af6b41"), looks := false }, kinds := [], alts := [], laidByText := true, laidKinds := [.widerDeep, .widerDeep], laidTests := true, laidLooks := .later }
def TexMathUptoCardSaid : Prop := Claim7.holds Tryd.pinned (.plain (OpenSpec.upto texMathSpec)) texMathUptoCard

/-- THE SECOND FORM's CARD OF 'redpenlaw13.TexGroups'. -/
def texGroupsUptoCard : Claim7 := { stood := { row := texGroupsUptoRow, standIns := [], harness := (true, "33bec777a5474338b677a23ec26b1bf9bf0e4b46863ef75881ce3bc578af6b41"), looks := false }, kinds := [], alts := [], laidByText := true, laidKinds := [.widerDeep, .widerDeep], laidTests := true, laidLooks := .later }
def TexGroupsUptoCardSaid : Prop := Claim7.holds Tryd.pinned (.plain (OpenSpec.upto texGroupsSpec)) texGroupsUptoCard

/-- THE SECOND FORM's CARD OF 'redpenlaw13.TexSigns'. -/
def texSignsUptoCard : Claim7 := { stood := { row := texSignsUptoRow, standIns := [], harness := (true, "33bec777a5474338b677a23ec26b1bf9bf0e4b46863ef75881ce3bc578af6b41"), looks := false }, kinds := [], alts := [], laidByText := true, laidKinds := [.widerDeep, .widerDeep], laidTests := true, laidLooks := .later }
def TexSignsUptoCardSaid : Prop := Claim7.holds Tryd.pinned (.plain (OpenSpec.upto texSignsSpec)) texSignsUptoCard
end Rows
end Go.Proofs.YtkicpaodcmepmaaDoor
