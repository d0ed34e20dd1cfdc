/-
  DERIVED. GIVEN WITH THE SEED: THE CARDS: each row of YtglohconhbcchaaGreatDoorRows.lean that lists a variable, with what it lists TIED to the program's text (the seventh form; the later family's looks); each row that meets fmt, with fmt's text TOLD by the authors' own Lean function (tested against real Go, not proved from fmt's source: count such statements apart). THE CARD IS WHAT COUNTS. Prove the row's statement (the work); the ties are given (YtglohconhbcchaaGreatDoorTie.lean); close each card by the builder's one call (the guide's Derived/Test/ToyasCard.lean, 'card_holds'). Laid BY PROGRAM, IN A SANDBOX (cutbox-door.mjs). By AI agents, Wed Nov 11 2026. No macro, syntax, notation, axiom, sorry.
-/
import Derived.Test.YtglohconhbcchaaGreatDoorRows
import GoSem.ClaimSeven
namespace Go.Proofs.YtglohconhbcchaaGreatDoor
namespace Rows

/-- THE TIED CARD OF 'silhouettelaw17.FillAnew'. -/
def fillAnewCard : Claim7 := { stood := { row := fillAnewRow, standIns := [], harness := (true, "bb32e1dbf88711b2f7ff2f8d4b4879ffada1a15279e8f0cea0992fbabc110813"), looks := true }, kinds := [], alts := [], laidByText := true, laidKinds := [.handle], laidTests := true, laidLooks := .later }
def FillAnewCardSaid : Prop := Claim7.holds Tryz.pinned (.plain (OpenSpec.ofChange fillAnewSpec)) fillAnewCard

/-- THE TIED CARD OF 'silhouettelaw17.FillRoom'. -/
def fillRoomCard : Claim7 := { stood := { row := fillRoomRow, standIns := [], harness := (true, "bb32e1dbf88711b2f7ff2f8d4b4879ffada1a15279e8f0cea0992fbabc110813"), looks := true }, kinds := [], alts := [], laidByText := true, laidKinds := [.handle], laidTests := true, laidLooks := .later }
def FillRoomCardSaid : Prop := Claim7.holds Tryz.pinned (.plain (OpenSpec.ofChange fillRoomSpec)) fillRoomCard

/-- THE TIED CARD OF 'silhouettelaw17.FillTables'. -/
def fillTablesCard : Claim7 := { stood := { row := fillTablesRow, standIns := [], harness := (true, "bb32e1dbf88711b2f7ff2f8d4b4879ffada1a15279e8f0cea0992fbabc110813"), looks := true }, kinds := [], alts := [], laidByText := true, laidKinds := [.handle], laidTests := true, laidLooks := .later }
def FillTablesCardSaid : Prop := Claim7.holds Tryz.pinned (.plain (OpenSpec.ofChange fillTablesSpec)) fillTablesCard

/-- THE TIED CARD OF 'silhouettelaw17.FillDirty'. -/
def fillDirtyCard : Claim7 := { stood := { row := fillDirtyRow, standIns := [], harness := (true, "bb32e1dbf88711b2f7ff2f8d4b4879ffada1a15279e8f0cea0992fbabc110813"), looks := true }, kinds := [], alts := [], laidByText := true, laidKinds := [.handle], laidTests := true, laidLooks := .later }
def FillDirtyCardSaid : Prop := Claim7.holds Tryz.pinned (.plain (OpenSpec.ofChange fillDirtySpec)) fillDirtyCard

/-- THE TIED CARD OF 'silhouettelaw17.FillPool'. -/
def fillPoolCard : Claim7 := { stood := { row := fillPoolRow, standIns := [], harness := (true, "bb32e1dbf88711b2f7ff2f8d4b4879ffada1a15279e8f0cea0992fbabc110813"), looks := true }, kinds := [], alts := [], laidByText := true, laidKinds := [.handle], laidTests := true, laidLooks := .later }
def FillPoolCardSaid : Prop := Claim7.holds Tryz.pinned (.plain (OpenSpec.ofChange fillPoolSpec)) fillPoolCard

/-- THE TIED CARD OF 'silhouettelaw17.FillFinds'. -/
def fillFindsCard : Claim7 := { stood := { row := fillFindsRow, standIns := [], harness := (true, "bb32e1dbf88711b2f7ff2f8d4b4879ffada1a15279e8f0cea0992fbabc110813"), looks := true }, kinds := [], alts := [], laidByText := true, laidKinds := [.handle], laidTests := true, laidLooks := .later }
def FillFindsCardSaid : Prop := Claim7.holds Tryz.pinned (.plain (OpenSpec.ofChange fillFindsSpec)) fillFindsCard

/-- THE TIED CARD OF 'silhouettelaw17.FillPlays'. -/
def fillPlaysCard : Claim7 := { stood := { row := fillPlaysRow, standIns := [], harness := (true, "bb32e1dbf88711b2f7ff2f8d4b4879ffada1a15279e8f0cea0992fbabc110813"), looks := true }, kinds := [], alts := [], laidByText := true, laidKinds := [.handle], laidTests := true, laidLooks := .later }
def FillPlaysCardSaid : Prop := Claim7.holds Tryz.pinned (.plain (OpenSpec.ofChange fillPlaysSpec)) fillPlaysCard

/-- THE SECOND FORM's CARD OF 'silhouettelaw17.FillAnew'. -/
def fillAnewUptoCard : Claim7 := { stood := { row := fillAnewUptoRow, standIns := [], harness := (true, "bb32e1dbf88711b2f7ff2f8d4b4879ffada1a15279e8f0cea0992fbabc110813"), looks := true }, kinds := [], alts := [], laidByText := true, laidKinds := [.handle], laidTests := true, laidLooks := .later }
def FillAnewUptoCardSaid : Prop := Claim7.holds Tryz.pinned (.plain (OpenSpec.upto fillAnewSpec)) fillAnewUptoCard

/-- THE SECOND FORM's CARD OF 'silhouettelaw17.FillRoom'. -/
def fillRoomUptoCard : Claim7 := { stood := { row := fillRoomUptoRow, standIns := [], harness := (true, "bb32e1dbf88711b2f7ff2f8d4b4879ffada1a15279e8f0cea0992fbabc110813"), looks := true }, kinds := [], alts := [], laidByText := true, laidKinds := [.handle], laidTests := true, laidLooks := .later }
def FillRoomUptoCardSaid : Prop := Claim7.holds Tryz.pinned (.plain (OpenSpec.upto fillRoomSpec)) fillRoomUptoCard

/-- THE SECOND FORM's CARD OF 'silhouettelaw17.FillTables'. -/
def fillTablesUptoCard : Claim7 := { stood := { row := fillTablesUptoRow, standIns := [], harness := (true, "bb32e1dbf88711b2f7ff2f8d4b4879ffada1a15279e8f0cea0992fbabc110813"), looks := true }, kinds := [], alts := [], laidByText := true, laidKinds := [.handle], laidTests := true, laidLooks := .later }
def FillTablesUptoCardSaid : Prop := Claim7.holds Tryz.pinned (.plain (OpenSpec.upto fillTablesSpec)) fillTablesUptoCard

/-- THE SECOND FORM's CARD OF 'silhouettelaw17.FillDirty'. -/
def fillDirtyUptoCard : Claim7 := { stood := { row := fillDirtyUptoRow, standIns := [], harness := (true, "bb32e1dbf88711b2f7ff2f8d4b4879ffada1a15279e8f0cea0992fbabc110813"), looks := true }, kinds := [], alts := [], laidByText := true, laidKinds := [.handle], laidTests := true, laidLooks := .later }
def FillDirtyUptoCardSaid : Prop := Claim7.holds Tryz.pinned (.plain (OpenSpec.upto fillDirtySpec)) fillDirtyUptoCard

/-- THE SECOND FORM's CARD OF 'silhouettelaw17.FillPool'. -/
def fillPoolUptoCard : Claim7 := { stood := { row := fillPoolUptoRow, standIns := [], harness := (true, "bb32e1dbf88711b2f7ff2f8d4b4879ffada1a15279e8f0cea0992fbabc110813"), looks := true }, kinds := [], alts := [], laidByText := true, laidKinds := [.handle], laidTests := true, laidLooks := .later }
def FillPoolUptoCardSaid : Prop := Claim7.holds Tryz.pinned (.plain (OpenSpec.upto fillPoolSpec)) fillPoolUptoCard

/-- THE SECOND FORM's CARD OF 'silhouettelaw17.FillFinds'. -/
def fillFindsUptoCard : Claim7 := { stood := { row := fillFindsUptoRow, standIns := [], harness := (true, "bb32e1dbf88711b2f7ff2f8d4b4879ffada1a15279e8f0cea0992fbabc110813"), looks := true }, kinds := [], alts := [], laidByText := true, laidKinds := [.handle], laidTests := true, laidLooks := .later }
def FillFindsUptoCardSaid : Prop := Claim7.holds Tryz.pinned (.plain (OpenSpec.upto fillFindsSpec)) fillFindsUptoCard

/-- THE SECOND FORM's CARD OF 'silhouettelaw17.FillPlays'. -/
def fillPlaysUptoCard : Claim7 := { stood := { row := fillPlaysUptoRow, standIns := [], harness := (true, "bb32e1dbf88711b2f7ff2f8d4b4879ffada1a15279e8f0cea0992fbabc110813"), looks := true }, kinds := [], alts := [], laidByText := true, laidKinds := [.handle], laidTests := true, laidLooks := .later }
def FillPlaysUptoCardSaid : Prop := Claim7.holds Tryz.pinned (.plain (OpenSpec.upto fillPlaysSpec)) fillPlaysUptoCard
end Rows
end Go.Proofs.YtglohconhbcchaaGreatDoor
