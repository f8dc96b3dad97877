/-
  DERIVED. GIVEN WITH THE SEED: THE CARDS: each row of YtklikkmnemooeaaDoorRows.lean that lists a variable, with what it lists TIED to the program's text (the seventh form; the later family's looks); each row that meets fmt, with fmt's text TOLD by the authors' own Lean function (tested against real Go, not proved from fmt's source: count such statements apart). THE CARD IS WHAT COUNTS. Prove the row's statement (the work); the ties are given (YtklikkmnemooeaaDoorTie.lean); close each card by the builder's one call (the guide's Derived/Test/ToyasCard.lean, 'card_holds'). Laid BY PROGRAM, IN A SANDBOX (cutbox-door.mjs). By AI agents, Wed Nov 11 2026. No macro, syntax, notation, axiom, sorry.
-/
import Derived.Test.YtklikkmnemooeaaDoorRows
import GoSem.ClaimSeven
namespace Go.Proofs.YtklikkmnemooeaaDoor
namespace Rows

/-- THE TIED CARD OF 'acheronlaw03.DigestSums'. -/
def digestSumsCard : Claim7 := { stood := { row := digestSumsRow, standIns := [], harness := (true, "41d57a7049d0c7bc141ad1bb89016d821d415bc04ddcba425425d0ff7aa01ea2"), looks := false }, kinds := [], alts := [], laidByText := true, laidKinds := [.data, .data], laidTests := true, laidLooks := .later }
def DigestSumsCardSaid : Prop := Claim7.holds Tryd.pinned (.plain (OpenSpec.ofChange digestSumsSpec)) digestSumsCard

/-- THE TIED CARD OF 'acheronlaw03.DigestMacs'. -/
def digestMacsCard : Claim7 := { stood := { row := digestMacsRow, standIns := [], harness := (true, "41d57a7049d0c7bc141ad1bb89016d821d415bc04ddcba425425d0ff7aa01ea2"), looks := false }, kinds := [], alts := [], laidByText := true, laidKinds := [.data, .data], laidTests := true, laidLooks := .later }
def DigestMacsCardSaid : Prop := Claim7.holds Tryd.pinned (.plain (OpenSpec.ofChange digestMacsSpec)) digestMacsCard

/-- THE TIED CARD OF 'acheronlaw03.DigestChecks'. -/
def digestChecksCard : Claim7 := { stood := { row := digestChecksRow, standIns := [], harness := (true, "41d57a7049d0c7bc141ad1bb89016d821d415bc04ddcba425425d0ff7aa01ea2"), looks := false }, kinds := [], alts := [], laidByText := true, laidKinds := [.data, .data], laidTests := true, laidLooks := .later }
def DigestChecksCardSaid : Prop := Claim7.holds Tryd.pinned (.plain (OpenSpec.ofChange digestChecksSpec)) digestChecksCard

/-- THE TIED CARD OF 'acheronlaw03.DigestKeys'. -/
def digestKeysCard : Claim7 := { stood := { row := digestKeysRow, standIns := [], harness := (true, "41d57a7049d0c7bc141ad1bb89016d821d415bc04ddcba425425d0ff7aa01ea2"), looks := false }, kinds := [], alts := [], laidByText := true, laidKinds := [.data, .data], laidTests := true, laidLooks := .later }
def DigestKeysCardSaid : Prop := Claim7.holds Tryd.pinned (.plain (OpenSpec.ofChange digestKeysSpec)) digestKeysCard

/-- THE TIED CARD OF 'acheronlaw03.DigestGroup'. -/
def digestGroupCard : Claim7 := { stood := { row := digestGroupRow, standIns := [], harness := (true, "41d57a7049d0c7bc141ad1bb89016d821d415bc04ddcba425425d0ff7aa01ea2"), looks := false }, kinds := [], alts := [], laidByText := true, laidKinds := [.data, .data], laidTests := true, laidLooks := .later }
def DigestGroupCardSaid : Prop := Claim7.holds Tryd.pinned (.plain (OpenSpec.ofChange digestGroupSpec)) digestGroupCard

/-- THE TIED CARD OF 'acheronlaw03.DigestHexes'. -/
def digestHexesCard : Claim7 := { stood := { row := digestHexesRow, standIns := [], harness := (true, "41d57a7049d0c7bc141ad1bb89016d821d415bc04ddcba425425d0ff7aa01ea2"), looks := false }, kinds := [], alts := [], laidByText := true, laidKinds := [.data, .data], laidTests := true, laidLooks := .later }
def DigestHexesCardSaid : Prop := Claim7.holds Tryd.pinned (.plain (OpenSpec.ofChange digestHexesSpec)) digestHexesCard

/-- THE TIED CARD OF 'acheronlaw03.DigestStreams'. -/
def digestStreamsCard : Claim7 := { stood := { row := digestStreamsRow, standIns := [], harness := (true, "41d57a7049d0c7bc141ad1bb89016d821d415bc04ddcba425425d0ff7aa01ea2"), looks := false }, kinds := [], alts := [], laidByText := true, laidKinds := [.data, .data], laidTests := true, laidLooks := .later }
def DigestStreamsCardSaid : Prop := Claim7.holds Tryd.pinned (.plain (OpenSpec.ofChange digestStreamsSpec)) digestStreamsCard

/-- THE TIED CARD OF 'acheronlaw03.DigestSigns'. -/
def digestSignsCard : Claim7 := { stood := { row := digestSignsRow, standIns := [], harness := (true, "41d57a7049d0c7bc141ad1bb89016d821d415bc04ddcba425425d0ff7aa01ea2"), looks := false }, kinds := [], alts := [], laidByText := true, laidKinds := [.data, .data], laidTests := true, laidLooks := .later }
def DigestSignsCardSaid : Prop := Claim7.holds Tryd.pinned (.plain (OpenSpec.ofChange digestSignsSpec)) digestSignsCard

/-- THE SECOND FORM's CARD OF 'acheronlaw03.DigestSums'. -/
def digestSumsUptoCard : Claim7 := { stood := { row := digestSumsUptoRow, standIns := [], harness := (true, "41d57a7049d0c7bc141ad1bb89016d821d415bc04ddcba425425d0ff7aa01ea2"), looks := false }, kinds := [], alts := [], laidByText := true, laidKinds := [.data, .data], laidTests := true, laidLooks := .later }
def DigestSumsUptoCardSaid : Prop := Claim7.holds Tryd.pinned (.plain (OpenSpec.upto digestSumsSpec)) digestSumsUptoCard

/-- THE SECOND FORM's CARD OF 'acheronlaw03.DigestMacs'. -/
def digestMacsUptoCard : Claim7 := { stood := { row := digestMacsUptoRow, standIns := [], harness := (true, "41d57a7049d0c7bc141ad1bb89016d821d415bc04ddcba425425d0ff7aa01ea2"), looks := false }, kinds := [], alts := [], laidByText := true, laidKinds := [.data, .data], laidTests := true, laidLooks := .later }
def DigestMacsUptoCardSaid : Prop := Claim7.holds Tryd.pinned (.plain (OpenSpec.upto digestMacsSpec)) digestMacsUptoCard

/-- THE SECOND FORM's CARD OF 'acheronlaw03.DigestChecks'. -/
def digestChecksUptoCard : Claim7 := { stood := { row := digestChecksUptoRow, standIns := [], harness := (true, "41d57a7049d0c7bc141ad1bb89016d821d415bc04ddcba425425d0ff7aa01ea2"), looks := false }, kinds := [], alts := [], laidByText := true, laidKinds := [.data, .data], laidTests := true, laidLooks := .later }
def DigestChecksUptoCardSaid : Prop := Claim7.holds Tryd.pinned (.plain (OpenSpec.upto digestChecksSpec)) digestChecksUptoCard

/-- THE SECOND FORM's CARD OF 'acheronlaw03.DigestKeys'. -/
def digestKeysUptoCard : Claim7 := { stood := { row := digestKeysUptoRow, standIns := [], harness := (true, "41d57a7049d0c7bc141ad1bb89016d821d415bc04ddcba425425d0ff7aa01ea2"), looks := false }, kinds := [], alts := [], laidByText := true, laidKinds := [.data, .data], laidTests := true, laidLooks := .later }
def DigestKeysUptoCardSaid : Prop := Claim7.holds Tryd.pinned (.plain (OpenSpec.upto digestKeysSpec)) digestKeysUptoCard

/-- THE SECOND FORM's CARD OF 'acheronlaw03.DigestGroup'. -/
def digestGroupUptoCard : Claim7 := { stood := { row := digestGroupUptoRow, standIns := [], harness := (true, "41d57a7049d0c7bc141ad1bb89016d821d415bc04ddcba425425d0ff7aa01ea2"), looks := false }, kinds := [], alts := [], laidByText := true, laidKinds := [.data, .data], laidTests := true, laidLooks := .later }
def DigestGroupUptoCardSaid : Prop := Claim7.holds Tryd.pinned (.plain (OpenSpec.upto digestGroupSpec)) digestGroupUptoCard

/-- THE SECOND FORM's CARD OF 'acheronlaw03.DigestHexes'. -/
def digestHexesUptoCard : Claim7 := { stood := { row := digestHexesUptoRow, standIns := [], harness := (true, "41d57a7049d0c7bc141ad1bb89016d821d415bc04ddcba425425d0ff7aa01ea2"), looks := false }, kinds := [], alts := [], laidByText := true, laidKinds := [.data, .data], laidTests := true, laidLooks := .later }
def DigestHexesUptoCardSaid : Prop := Claim7.holds Tryd.pinned (.plain (OpenSpec.upto digestHexesSpec)) digestHexesUptoCard

/-- THE SECOND FORM's CARD OF 'acheronlaw03.DigestStreams'. -/
def digestStreamsUptoCard : Claim7 := { stood := { row := digestStreamsUptoRow, standIns := [], harness := (true, "41d57a7049d0c7bc141ad1bb89016d821d415bc04ddcba425425d0ff7aa01ea2"), looks := false }, kinds := [], alts := [], laidByText := true, laidKinds := [.data, .data], laidTests := true, laidLooks := .later }
def DigestStreamsUptoCardSaid : Prop := Claim7.holds Tryd.pinned (.plain (OpenSpec.upto digestStreamsSpec)) digestStreamsUptoCard

/-- THE SECOND FORM's CARD OF 'acheronlaw03.DigestSigns'. -/
def digestSignsUptoCard : Claim7 := { stood := { row := digestSignsUptoRow, standIns := [], harness := (true, "41d57a7049d0c7bc141ad1bb89016d821d415bc04ddcba425425d0ff7aa01ea2"), looks := false }, kinds := [], alts := [], laidByText := true, laidKinds := [.data, .data], laidTests := true, laidLooks := .later }
def DigestSignsUptoCardSaid : Prop := Claim7.holds Tryd.pinned (.plain (OpenSpec.upto digestSignsSpec)) digestSignsUptoCard
end Rows
end Go.Proofs.YtklikkmnemooeaaDoor
