/-
  DERIVED. GIVEN WITH THE SEED: THE CARDS: each row of YtmblnacckboggaaDoorRows.lean that lists a variable, with what it lists TIED to the program's text (the seventh form; the later family's looks); each row that meets fmt, with fmt's text TOLD by the authors' own Lean function (tested against real Go, not proved from fmt's source: count such statements apart). THE CARD IS WHAT COUNTS. Prove the row's statement (the work); the ties are given (YtmblnacckboggaaDoorTie.lean); close each card by the builder's one call (the guide's Derived/Test/ToyasCard.lean, 'card_holds'). Laid BY PROGRAM, IN A SANDBOX (cutbox-door.mjs). By AI agents, Wed Nov 11 2026. No macro, syntax, notation, axiom, sorry.
-/
import Derived.Test.YtmblnacckboggaaDoorRows
import GoSem.ClaimSeven
namespace Go.Proofs.YtmblnacckboggaaDoor
namespace Rows

/-- THE TIED CARD OF 'acheronlaw35.SecureRecords'. -/
def secureRecordsCard : Claim7 := { stood := { row := secureRecordsRow, standIns := [], harness := (true, "e5011d5ff0d0c9457e0c410276bcbfa98c543b8350316502665bc58088fce058"), looks := false }, kinds := [], alts := [], laidByText := true, laidKinds := [.data, .data, .data, .data, .data], laidTests := true, laidLooks := .later }
def SecureRecordsCardSaid : Prop := Claim7.holds Tryd.pinned (.plain (OpenSpec.ofChange secureRecordsSpec)) secureRecordsCard

/-- THE TIED CARD OF 'acheronlaw35.SecureWhole'. -/
def secureWholeCard : Claim7 := { stood := { row := secureWholeRow, standIns := [], harness := (true, "e5011d5ff0d0c9457e0c410276bcbfa98c543b8350316502665bc58088fce058"), looks := false }, kinds := [], alts := [], laidByText := true, laidKinds := [.data, .data, .data, .data, .data], laidTests := true, laidLooks := .later }
def SecureWholeCardSaid : Prop := Claim7.holds Tryd.pinned (.plain (OpenSpec.ofChange secureWholeSpec)) secureWholeCard

/-- THE TIED CARD OF 'acheronlaw35.SecureChanges'. -/
def secureChangesCard : Claim7 := { stood := { row := secureChangesRow, standIns := [], harness := (true, "e5011d5ff0d0c9457e0c410276bcbfa98c543b8350316502665bc58088fce058"), looks := false }, kinds := [], alts := [], laidByText := true, laidKinds := [.data, .data, .data, .data, .data], laidTests := true, laidLooks := .later }
def SecureChangesCardSaid : Prop := Claim7.holds Tryd.pinned (.plain (OpenSpec.ofChange secureChangesSpec)) secureChangesCard

/-- THE TIED CARD OF 'acheronlaw35.SecurePlays'. -/
def securePlaysCard : Claim7 := { stood := { row := securePlaysRow, standIns := [], harness := (true, "e5011d5ff0d0c9457e0c410276bcbfa98c543b8350316502665bc58088fce058"), looks := false }, kinds := [], alts := [], laidByText := true, laidKinds := [.data, .data, .data, .data, .data], laidTests := true, laidLooks := .later }
def SecurePlaysCardSaid : Prop := Claim7.holds Tryd.pinned (.plain (OpenSpec.ofChange securePlaysSpec)) securePlaysCard

/-- THE TIED CARD OF 'acheronlaw35.SecureNil'. -/
def secureNilCard : Claim7 := { stood := { row := secureNilRow, standIns := [], harness := (true, "e5011d5ff0d0c9457e0c410276bcbfa98c543b8350316502665bc58088fce058"), looks := false }, kinds := [], alts := [], laidByText := true, laidKinds := [.data, .data, .data, .data, .data], laidTests := true, laidLooks := .later }
def SecureNilCardSaid : Prop := Claim7.holds Tryd.pinned (.plain (OpenSpec.ofChange secureNilSpec)) secureNilCard

/-- THE SECOND FORM's CARD OF 'acheronlaw35.SecureRecords'. -/
def secureRecordsUptoCard : Claim7 := { stood := { row := secureRecordsUptoRow, standIns := [], harness := (true, "e5011d5ff0d0c9457e0c410276bcbfa98c543b8350316502665bc58088fce058"), looks := false }, kinds := [], alts := [], laidByText := true, laidKinds := [.data, .data, .data, .data, .data], laidTests := true, laidLooks := .later }
def SecureRecordsUptoCardSaid : Prop := Claim7.holds Tryd.pinned (.plain (OpenSpec.upto secureRecordsSpec)) secureRecordsUptoCard

/-- THE SECOND FORM's CARD OF 'acheronlaw35.SecureWhole'. -/
def secureWholeUptoCard : Claim7 := { stood := { row := secureWholeUptoRow, standIns := [], harness := (true, "e5011d5ff0d0c9457e0c410276bcbfa98c543b8350316502665bc58088fce058"), looks := false }, kinds := [], alts := [], laidByText := true, laidKinds := [.data, .data, .data, .data, .data], laidTests := true, laidLooks := .later }
def SecureWholeUptoCardSaid : Prop := Claim7.holds Tryd.pinned (.plain (OpenSpec.upto secureWholeSpec)) secureWholeUptoCard

/-- THE SECOND FORM's CARD OF 'acheronlaw35.SecureChanges'. -/
def secureChangesUptoCard : Claim7 := { stood := { row := secureChangesUptoRow, standIns := [], harness := (true, "e5011d5ff0d0c9457e0c410276bcbfa98c543b8350316502665bc58088fce058"), looks := false }, kinds := [], alts := [], laidByText := true, laidKinds := [.data, .data, .data, .data, .data], laidTests := true, laidLooks := .later }
def SecureChangesUptoCardSaid : Prop := Claim7.holds Tryd.pinned (.plain (OpenSpec.upto secureChangesSpec)) secureChangesUptoCard

/-- THE SECOND FORM's CARD OF 'acheronlaw35.SecurePlays'. -/
def securePlaysUptoCard : Claim7 := { stood := { row := securePlaysUptoRow, standIns := [], harness := (true, "e5011d5ff0d0c9457e0c410276bcbfa98c543b8350316502665bc58088fce058"), looks := false }, kinds := [], alts := [], laidByText := true, laidKinds := [.data, .data, .data, .data, .data], laidTests := true, laidLooks := .later }
def SecurePlaysUptoCardSaid : Prop := Claim7.holds Tryd.pinned (.plain (OpenSpec.upto securePlaysSpec)) securePlaysUptoCard

/-- THE SECOND FORM's CARD OF 'acheronlaw35.SecureNil'. -/
def secureNilUptoCard : Claim7 := { stood := { row := secureNilUptoRow, standIns := [], harness := (true, "e5011d5ff0d0c9457e0c410276bcbfa98c543b8350316502665bc58088fce058"), looks := false }, kinds := [], alts := [], laidByText := true, laidKinds := [.data, .data, .data, .data, .data], laidTests := true, laidLooks := .later }
def SecureNilUptoCardSaid : Prop := Claim7.holds Tryd.pinned (.plain (OpenSpec.upto secureNilSpec)) secureNilUptoCard
end Rows
end Go.Proofs.YtmblnacckboggaaDoor
