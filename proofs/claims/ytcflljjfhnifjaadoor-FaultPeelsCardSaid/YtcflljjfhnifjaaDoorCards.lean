/-
  DERIVED. GIVEN WITH THE SEED: THE CARDS: each row of YtcflljjfhnifjaaDoorRows.lean that lists a variable, with what it lists TIED to the program's text (the seventh form; the later family's looks); each row that meets fmt, with fmt's text TOLD by the authors' own Lean function (tested against real Go, not proved from fmt's source: count such statements apart). THE CARD IS WHAT COUNTS. Prove the row's statement (the work); the ties are given (YtcflljjfhnifjaaDoorTie.lean); close each card by the builder's one call (the guide's Derived/Test/ToyasCard.lean, 'card_holds'). Laid BY PROGRAM, IN A SANDBOX (cutbox-door.mjs). By AI agents, Wed Nov 11 2026. No macro, syntax, notation, axiom, sorry.
-/
import Derived.Test.YtcflljjfhnifjaaDoorRows
import GoSem.ClaimSeven
namespace Go.Proofs.YtcflljjfhnifjaaDoor
namespace Rows

/-- THE TIED CARD OF 'redpenlaw05.FaultWhere'. -/
def faultWhereCard : Claim7 := { stood := { row := faultWhereRow, standIns := [], harness := (true, "debfe31d4764afaec3b8c299e7c6073b01814558021e8ee67d372a9c1c616be8"), looks := true }, kinds := [], alts := [], laidByText := true, laidKinds := [.handle], laidTests := true, laidLooks := .later }
def FaultWhereCardSaid : Prop := Claim7.holds Tryd.pinned (.plain (OpenSpec.ofChange faultWhereSpec)) faultWhereCard

/-- THE TIED CARD OF 'redpenlaw05.FaultMakes'. -/
def faultMakesCard : Claim7 := { stood := { row := faultMakesRow, standIns := [], harness := (true, "debfe31d4764afaec3b8c299e7c6073b01814558021e8ee67d372a9c1c616be8"), looks := true }, kinds := [], alts := [], laidByText := true, laidKinds := [.handle], laidTests := true, laidLooks := .later }
def FaultMakesCardSaid : Prop := Claim7.holds Tryd.pinned (.plain (OpenSpec.ofChange faultMakesSpec)) faultMakesCard

/-- THE TIED CARD OF 'redpenlaw05.FaultCodes'. -/
def faultCodesCard : Claim7 := { stood := { row := faultCodesRow, standIns := [], harness := (true, "debfe31d4764afaec3b8c299e7c6073b01814558021e8ee67d372a9c1c616be8"), looks := true }, kinds := [], alts := [], laidByText := true, laidKinds := [.handle], laidTests := true, laidLooks := .later }
def FaultCodesCardSaid : Prop := Claim7.holds Tryd.pinned (.plain (OpenSpec.ofChange faultCodesSpec)) faultCodesCard

/-- THE TIED CARD OF 'redpenlaw05.FaultPeels'. -/
def faultPeelsCard : Claim7 := { stood := { row := faultPeelsRow, standIns := [], harness := (true, "debfe31d4764afaec3b8c299e7c6073b01814558021e8ee67d372a9c1c616be8"), looks := true }, kinds := [], alts := [], laidByText := true, laidKinds := [.handle], laidTests := true, laidLooks := .later }
def FaultPeelsCardSaid : Prop := Claim7.holds Tryd.pinned (.plain (OpenSpec.ofChange faultPeelsSpec)) faultPeelsCard

/-- THE SECOND FORM's CARD OF 'redpenlaw05.FaultWhere'. -/
def faultWhereUptoCard : Claim7 := { stood := { row := faultWhereUptoRow, standIns := [], harness := (true, "debfe31d4764afaec3b8c299e7c6073b01814558021e8ee67d372a9c1c616be8"), looks := true }, kinds := [], alts := [], laidByText := true, laidKinds := [.handle], laidTests := true, laidLooks := .later }
def FaultWhereUptoCardSaid : Prop := Claim7.holds Tryd.pinned (.plain (OpenSpec.upto faultWhereSpec)) faultWhereUptoCard

/-- THE SECOND FORM's CARD OF 'redpenlaw05.FaultMakes'. -/
def faultMakesUptoCard : Claim7 := { stood := { row := faultMakesUptoRow, standIns := [], harness := (true, "debfe31d4764afaec3b8c299e7c6073b01814558021e8ee67d372a9c1c616be8"), looks := true }, kinds := [], alts := [], laidByText := true, laidKinds := [.handle], laidTests := true, laidLooks := .later }
def FaultMakesUptoCardSaid : Prop := Claim7.holds Tryd.pinned (.plain (OpenSpec.upto faultMakesSpec)) faultMakesUptoCard

/-- THE SECOND FORM's CARD OF 'redpenlaw05.FaultCodes'. -/
def faultCodesUptoCard : Claim7 := { stood := { row := faultCodesUptoRow, standIns := [], harness := (true, "debfe31d4764afaec3b8c299e7c6073b01814558021e8ee67d372a9c1c616be8"), looks := true }, kinds := [], alts := [], laidByText := true, laidKinds := [.handle], laidTests := true, laidLooks := .later }
def FaultCodesUptoCardSaid : Prop := Claim7.holds Tryd.pinned (.plain (OpenSpec.upto faultCodesSpec)) faultCodesUptoCard

/-- THE SECOND FORM's CARD OF 'redpenlaw05.FaultPeels'. -/
def faultPeelsUptoCard : Claim7 := { stood := { row := faultPeelsUptoRow, standIns := [], harness := (true, "debfe31d4764afaec3b8c299e7c6073b01814558021e8ee67d372a9c1c616be8"), looks := true }, kinds := [], alts := [], laidByText := true, laidKinds := [.handle], laidTests := true, laidLooks := .later }
def FaultPeelsUptoCardSaid : Prop := Claim7.holds Tryd.pinned (.plain (OpenSpec.upto faultPeelsSpec)) faultPeelsUptoCard
end Rows
end Go.Proofs.YtcflljjfhnifjaaDoor
