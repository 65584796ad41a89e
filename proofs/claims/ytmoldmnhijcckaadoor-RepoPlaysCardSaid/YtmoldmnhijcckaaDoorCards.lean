/-
  DERIVED. GIVEN WITH THE SEED: THE CARDS: each row of YtmoldmnhijcckaaDoorRows.lean that lists a variable, with what it lists TIED to the program's text (the seventh form; the later family's looks); each row that meets fmt, with fmt's text TOLD by the authors' own Lean function (tested against real Go, not proved from fmt's source: count such statements apart). THE CARD IS WHAT COUNTS. Prove the row's statement (the work); the ties are given (YtmoldmnhijcckaaDoorTie.lean); close each card by the builder's one call (the guide's Derived/Test/ToyasCard.lean, 'card_holds'). Laid BY PROGRAM, IN A SANDBOX (cutbox-door.mjs). By AI agents, Wed Nov 11 2026. No macro, syntax, notation, axiom, sorry.
-/
import Derived.Test.YtmoldmnhijcckaaDoorRows
import GoSem.ClaimSeven
namespace Go.Proofs.YtmoldmnhijcckaaDoor
namespace Rows

/-- THE TIED CARD OF 'lanyardlaw21.RepoFirst'. -/
def repoFirstCard : Claim7 := { stood := { row := repoFirstRow, standIns := [], harness := (true, "577da9d6b6c386b7aae00d836c33106c86a0728056baac0f80005aed1b2cd3c3"), looks := true }, kinds := [], alts := [], laidByText := true, laidKinds := [.data, .pinned], laidTests := true, laidLooks := .later }
def RepoFirstCardSaid : Prop := Claim7.holds Tryd.pinned (.plain (OpenSpec.ofChange repoFirstSpec)) repoFirstCard

/-- THE TIED CARD OF 'lanyardlaw21.RepoNames'. -/
def repoNamesCard : Claim7 := { stood := { row := repoNamesRow, standIns := [], harness := (true, "577da9d6b6c386b7aae00d836c33106c86a0728056baac0f80005aed1b2cd3c3"), looks := true }, kinds := [], alts := [], laidByText := true, laidKinds := [.data, .pinned], laidTests := true, laidLooks := .later }
def RepoNamesCardSaid : Prop := Claim7.holds Tryd.pinned (.plain (OpenSpec.ofChange repoNamesSpec)) repoNamesCard

/-- THE TIED CARD OF 'lanyardlaw21.RepoPlays'. -/
def repoPlaysCard : Claim7 := { stood := { row := repoPlaysRow, standIns := [], harness := (true, "577da9d6b6c386b7aae00d836c33106c86a0728056baac0f80005aed1b2cd3c3"), looks := true }, kinds := [], alts := [], laidByText := true, laidKinds := [.data, .pinned], laidTests := true, laidLooks := .later }
def RepoPlaysCardSaid : Prop := Claim7.holds Tryd.pinned (.plain (OpenSpec.ofChange repoPlaysSpec)) repoPlaysCard

/-- THE TIED CARD OF 'lanyardlaw21.RepoOnly'. -/
def repoOnlyCard : Claim7 := { stood := { row := repoOnlyRow, standIns := [], harness := (true, "577da9d6b6c386b7aae00d836c33106c86a0728056baac0f80005aed1b2cd3c3"), looks := true }, kinds := [], alts := [], laidByText := true, laidKinds := [.data, .pinned], laidTests := true, laidLooks := .later }
def RepoOnlyCardSaid : Prop := Claim7.holds Tryd.pinned (.plain (OpenSpec.ofChange repoOnlySpec)) repoOnlyCard

/-- THE TIED CARD OF 'lanyardlaw10.AddrTexts'. -/
def addrTextsCard : Claim7 := { stood := { row := addrTextsRow, standIns := [], harness := (true, "577da9d6b6c386b7aae00d836c33106c86a0728056baac0f80005aed1b2cd3c3"), looks := true }, kinds := [], alts := [], laidByText := true, laidKinds := [.data, .data, .data, .data, .sentinel, .sentinel, .pinned], laidTests := true, laidLooks := .later }
def AddrTextsCardSaid : Prop := Claim7.holds Tryd.pinned (.plain (OpenSpec.ofChange addrTextsSpec)) addrTextsCard

/-- THE TIED CARD OF 'lanyardlaw10.AddrBack'. -/
def addrBackCard : Claim7 := { stood := { row := addrBackRow, standIns := [], harness := (true, "577da9d6b6c386b7aae00d836c33106c86a0728056baac0f80005aed1b2cd3c3"), looks := true }, kinds := [], alts := [], laidByText := true, laidKinds := [.data, .data, .data, .data, .sentinel, .sentinel, .pinned], laidTests := true, laidLooks := .later }
def AddrBackCardSaid : Prop := Claim7.holds Tryd.pinned (.plain (OpenSpec.ofChange addrBackSpec)) addrBackCard

/-- THE TIED CARD OF 'lanyardlaw10.AddrCuts'. -/
def addrCutsCard : Claim7 := { stood := { row := addrCutsRow, standIns := [], harness := (true, "577da9d6b6c386b7aae00d836c33106c86a0728056baac0f80005aed1b2cd3c3"), looks := true }, kinds := [], alts := [], laidByText := true, laidKinds := [.data, .data, .data, .data, .sentinel, .sentinel, .pinned], laidTests := true, laidLooks := .later }
def AddrCutsCardSaid : Prop := Claim7.holds Tryd.pinned (.plain (OpenSpec.ofChange addrCutsSpec)) addrCutsCard

/-- THE TIED CARD OF 'lanyardlaw10.AddrTells'. -/
def addrTellsCard : Claim7 := { stood := { row := addrTellsRow, standIns := [], harness := (true, "577da9d6b6c386b7aae00d836c33106c86a0728056baac0f80005aed1b2cd3c3"), looks := true }, kinds := [], alts := [], laidByText := true, laidKinds := [.data, .data, .data, .data, .sentinel, .sentinel, .pinned], laidTests := true, laidLooks := .later }
def AddrTellsCardSaid : Prop := Claim7.holds Tryd.pinned (.plain (OpenSpec.ofChange addrTellsSpec)) addrTellsCard

/-- THE TIED CARD OF 'lanyardlaw10.AddrCovers'. -/
def addrCoversCard : Claim7 := { stood := { row := addrCoversRow, standIns := [], harness := (true, "577da9d6b6c386b7aae00d836c33106c86a0728056baac0f80005aed1b2cd3c3"), looks := true }, kinds := [], alts := [], laidByText := true, laidKinds := [.data, .data, .data, .data, .sentinel, .sentinel, .pinned], laidTests := true, laidLooks := .later }
def AddrCoversCardSaid : Prop := Claim7.holds Tryd.pinned (.plain (OpenSpec.ofChange addrCoversSpec)) addrCoversCard

/-- THE TIED CARD OF 'lanyardlaw10.AddrOrder'. -/
def addrOrderCard : Claim7 := { stood := { row := addrOrderRow, standIns := [], harness := (true, "577da9d6b6c386b7aae00d836c33106c86a0728056baac0f80005aed1b2cd3c3"), looks := true }, kinds := [], alts := [], laidByText := true, laidKinds := [.data, .data, .data, .data, .sentinel, .sentinel, .pinned], laidTests := true, laidLooks := .later }
def AddrOrderCardSaid : Prop := Claim7.holds Tryd.pinned (.plain (OpenSpec.ofChange addrOrderSpec)) addrOrderCard

/-- THE TIED CARD OF 'lanyardlaw23.VrpOrder'. -/
def vrpOrderCard : Claim7 := { stood := { row := vrpOrderRow, standIns := [], harness := (true, "577da9d6b6c386b7aae00d836c33106c86a0728056baac0f80005aed1b2cd3c3"), looks := true }, kinds := [], alts := [], laidByText := true, laidKinds := [.data, .data, .data], laidTests := true, laidLooks := .later }
def VrpOrderCardSaid : Prop := Claim7.holds Tryd.pinned (.plain (OpenSpec.ofChange vrpOrderSpec)) vrpOrderCard

/-- THE TIED CARD OF 'lanyardlaw23.VrpBack'. -/
def vrpBackCard : Claim7 := { stood := { row := vrpBackRow, standIns := [], harness := (true, "577da9d6b6c386b7aae00d836c33106c86a0728056baac0f80005aed1b2cd3c3"), looks := true }, kinds := [], alts := [], laidByText := true, laidKinds := [.data, .data, .data], laidTests := true, laidLooks := .later }
def VrpBackCardSaid : Prop := Claim7.holds Tryd.pinned (.plain (OpenSpec.ofChange vrpBackSpec)) vrpBackCard

/-- THE SECOND FORM's CARD OF 'lanyardlaw21.RepoFirst'. -/
def repoFirstUptoCard : Claim7 := { stood := { row := repoFirstUptoRow, standIns := [], harness := (true, "577da9d6b6c386b7aae00d836c33106c86a0728056baac0f80005aed1b2cd3c3"), looks := true }, kinds := [], alts := [], laidByText := true, laidKinds := [.data, .pinned], laidTests := true, laidLooks := .later }
def RepoFirstUptoCardSaid : Prop := Claim7.holds Tryd.pinned (.plain (OpenSpec.upto repoFirstSpec)) repoFirstUptoCard

/-- THE SECOND FORM's CARD OF 'lanyardlaw21.RepoNames'. -/
def repoNamesUptoCard : Claim7 := { stood := { row := repoNamesUptoRow, standIns := [], harness := (true, "577da9d6b6c386b7aae00d836c33106c86a0728056baac0f80005aed1b2cd3c3"), looks := true }, kinds := [], alts := [], laidByText := true, laidKinds := [.data, .pinned], laidTests := true, laidLooks := .later }
def RepoNamesUptoCardSaid : Prop := Claim7.holds Tryd.pinned (.plain (OpenSpec.upto repoNamesSpec)) repoNamesUptoCard

/-- THE SECOND FORM's CARD OF 'lanyardlaw21.RepoPlays'. -/
def repoPlaysUptoCard : Claim7 := { stood := { row := repoPlaysUptoRow, standIns := [], harness := (true, "577da9d6b6c386b7aae00d836c33106c86a0728056baac0f80005aed1b2cd3c3"), looks := true }, kinds := [], alts := [], laidByText := true, laidKinds := [.data, .pinned], laidTests := true, laidLooks := .later }
def RepoPlaysUptoCardSaid : Prop := Claim7.holds Tryd.pinned (.plain (OpenSpec.upto repoPlaysSpec)) repoPlaysUptoCard

/-- THE SECOND FORM's CARD OF 'lanyardlaw21.RepoOnly'. -/
def repoOnlyUptoCard : Claim7 := { stood := { row := repoOnlyUptoRow, standIns := [], harness := (true, "577da9d6b6c386b7aae00d836c33106c86a0728056baac0f80005aed1b2cd3c3"), looks := true }, kinds := [], alts := [], laidByText := true, laidKinds := [.data, .pinned], laidTests := true, laidLooks := .later }
def RepoOnlyUptoCardSaid : Prop := Claim7.holds Tryd.pinned (.plain (OpenSpec.upto repoOnlySpec)) repoOnlyUptoCard

/-- THE SECOND FORM's CARD OF 'lanyardlaw10.AddrTexts'. -/
def addrTextsUptoCard : Claim7 := { stood := { row := addrTextsUptoRow, standIns := [], harness := (true, "577da9d6b6c386b7aae00d836c33106c86a0728056baac0f80005aed1b2cd3c3"), looks := true }, kinds := [], alts := [], laidByText := true, laidKinds := [.data, .data, .data, .data, .sentinel, .sentinel, .pinned], laidTests := true, laidLooks := .later }
def AddrTextsUptoCardSaid : Prop := Claim7.holds Tryd.pinned (.plain (OpenSpec.upto addrTextsSpec)) addrTextsUptoCard

/-- THE SECOND FORM's CARD OF 'lanyardlaw10.AddrBack'. -/
def addrBackUptoCard : Claim7 := { stood := { row := addrBackUptoRow, standIns := [], harness := (true, "577da9d6b6c386b7aae00d836c33106c86a0728056baac0f80005aed1b2cd3c3"), looks := true }, kinds := [], alts := [], laidByText := true, laidKinds := [.data, .data, .data, .data, .sentinel, .sentinel, .pinned], laidTests := true, laidLooks := .later }
def AddrBackUptoCardSaid : Prop := Claim7.holds Tryd.pinned (.plain (OpenSpec.upto addrBackSpec)) addrBackUptoCard

/-- THE SECOND FORM's CARD OF 'lanyardlaw10.AddrCuts'. -/
def addrCutsUptoCard : Claim7 := { stood := { row := addrCutsUptoRow, standIns := [], harness := (true, "577da9d6b6c386b7aae00d836c33106c86a0728056baac0f80005aed1b2cd3c3"), looks := true }, kinds := [], alts := [], laidByText := true, laidKinds := [.data, .data, .data, .data, .sentinel, .sentinel, .pinned], laidTests := true, laidLooks := .later }
def AddrCutsUptoCardSaid : Prop := Claim7.holds Tryd.pinned (.plain (OpenSpec.upto addrCutsSpec)) addrCutsUptoCard

/-- THE SECOND FORM's CARD OF 'lanyardlaw10.AddrTells'. -/
def addrTellsUptoCard : Claim7 := { stood := { row := addrTellsUptoRow, standIns := [], harness := (true, "577da9d6b6c386b7aae00d836c33106c86a0728056baac0f80005aed1b2cd3c3"), looks := true }, kinds := [], alts := [], laidByText := true, laidKinds := [.data, .data, .data, .data, .sentinel, .sentinel, .pinned], laidTests := true, laidLooks := .later }
def AddrTellsUptoCardSaid : Prop := Claim7.holds Tryd.pinned (.plain (OpenSpec.upto addrTellsSpec)) addrTellsUptoCard

/-- THE SECOND FORM's CARD OF 'lanyardlaw10.AddrCovers'. -/
def addrCoversUptoCard : Claim7 := { stood := { row := addrCoversUptoRow, standIns := [], harness := (true, "577da9d6b6c386b7aae00d836c33106c86a0728056baac0f80005aed1b2cd3c3"), looks := true }, kinds := [], alts := [], laidByText := true, laidKinds := [.data, .data, .data, .data, .sentinel, .sentinel, .pinned], laidTests := true, laidLooks := .later }
def AddrCoversUptoCardSaid : Prop := Claim7.holds Tryd.pinned (.plain (OpenSpec.upto addrCoversSpec)) addrCoversUptoCard

/-- THE SECOND FORM's CARD OF 'lanyardlaw10.AddrOrder'. -/
def addrOrderUptoCard : Claim7 := { stood := { row := addrOrderUptoRow, standIns := [], harness := (true, "577da9d6b6c386b7aae00d836c33106c86a0728056baac0f80005aed1b2cd3c3"), looks := true }, kinds := [], alts := [], laidByText := true, laidKinds := [.data, .data, .data, .data, .sentinel, .sentinel, .pinned], laidTests := true, laidLooks := .later }
def AddrOrderUptoCardSaid : Prop := Claim7.holds Tryd.pinned (.plain (OpenSpec.upto addrOrderSpec)) addrOrderUptoCard

/-- THE SECOND FORM's CARD OF 'lanyardlaw23.VrpOrder'. -/
def vrpOrderUptoCard : Claim7 := { stood := { row := vrpOrderUptoRow, standIns := [], harness := (true, "577da9d6b6c386b7aae00d836c33106c86a0728056baac0f80005aed1b2cd3c3"), looks := true }, kinds := [], alts := [], laidByText := true, laidKinds := [.data, .data, .data], laidTests := true, laidLooks := .later }
def VrpOrderUptoCardSaid : Prop := Claim7.holds Tryd.pinned (.plain (OpenSpec.upto vrpOrderSpec)) vrpOrderUptoCard

/-- THE SECOND FORM's CARD OF 'lanyardlaw23.VrpBack'. -/
def vrpBackUptoCard : Claim7 := { stood := { row := vrpBackUptoRow, standIns := [], harness := (true, "577da9d6b6c386b7aae00d836c33106c86a0728056baac0f80005aed1b2cd3c3"), looks := true }, kinds := [], alts := [], laidByText := true, laidKinds := [.data, .data, .data], laidTests := true, laidLooks := .later }
def VrpBackUptoCardSaid : Prop := Claim7.holds Tryd.pinned (.plain (OpenSpec.upto vrpBackSpec)) vrpBackUptoCard
end Rows
end Go.Proofs.YtmoldmnhijcckaaDoor
