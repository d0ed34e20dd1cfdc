/-
  DERIVED. GIVEN WITH THE SEED: THE CARDS: each row of YtgaififhhffpfaaGreatDoorRows.lean that lists a variable, with what it lists TIED to the program's text (the seventh form; the later family's looks); each row that meets fmt, with fmt's text TOLD by the authors' own Lean function (tested against real Go, not proved from fmt's source: count such statements apart). THE CARD IS WHAT COUNTS. Prove the row's statement (the work); the ties are given (YtgaififhhffpfaaGreatDoorTie.lean); close each card by the builder's one call (the guide's Derived/Test/ToyasCard.lean, 'card_holds'). Laid BY PROGRAM, IN A SANDBOX (cutbox-door.mjs). By AI agents, Wed Nov 11 2026. No macro, syntax, notation, axiom, sorry.
-/
import Derived.Test.YtgaififhhffpfaaGreatDoorRows
import GoSem.ClaimSeven
namespace Go.Proofs.YtgaififhhffpfaaGreatDoor
namespace Rows

/-- THE TIED CARD OF 'silhouettelaw10.ModelFresh'. -/
def modelFreshCard : Claim7 := { stood := { row := modelFreshRow, standIns := [], harness := (true, "886104976841bd7cc749a3d90cbdbc61b007e99071e643568359e201d9f06825"), looks := true }, kinds := [], alts := [], laidByText := true, laidKinds := [.handle], laidTests := true, laidLooks := .later }
def ModelFreshCardSaid : Prop := Claim7.holds Tryz.pinned (.plain (OpenSpec.ofChange modelFreshSpec)) modelFreshCard

/-- THE TIED CARD OF 'silhouettelaw10.ModelPlays'. -/
def modelPlaysCard : Claim7 := { stood := { row := modelPlaysRow, standIns := [], harness := (true, "886104976841bd7cc749a3d90cbdbc61b007e99071e643568359e201d9f06825"), looks := true }, kinds := [], alts := [], laidByText := true, laidKinds := [.handle], laidTests := true, laidLooks := .later }
def ModelPlaysCardSaid : Prop := Claim7.holds Tryz.pinned (.plain (OpenSpec.ofChange modelPlaysSpec)) modelPlaysCard

/-- THE TIED CARD OF 'silhouettelaw10.ModelKnown'. -/
def modelKnownCard : Claim7 := { stood := { row := modelKnownRow, standIns := [], harness := (true, "886104976841bd7cc749a3d90cbdbc61b007e99071e643568359e201d9f06825"), looks := true }, kinds := [], alts := [], laidByText := true, laidKinds := [.handle], laidTests := true, laidLooks := .later }
def ModelKnownCardSaid : Prop := Claim7.holds Tryz.pinned (.plain (OpenSpec.ofChange modelKnownSpec)) modelKnownCard

/-- THE TIED CARD OF 'silhouettelaw10.ModelFinds'. -/
def modelFindsCard : Claim7 := { stood := { row := modelFindsRow, standIns := [], harness := (true, "886104976841bd7cc749a3d90cbdbc61b007e99071e643568359e201d9f06825"), looks := true }, kinds := [], alts := [], laidByText := true, laidKinds := [.handle], laidTests := true, laidLooks := .later }
def ModelFindsCardSaid : Prop := Claim7.holds Tryz.pinned (.plain (OpenSpec.ofChange modelFindsSpec)) modelFindsCard

/-- THE TIED CARD OF 'silhouettelaw10.ModelRoots'. -/
def modelRootsCard : Claim7 := { stood := { row := modelRootsRow, standIns := [], harness := (true, "886104976841bd7cc749a3d90cbdbc61b007e99071e643568359e201d9f06825"), looks := true }, kinds := [], alts := [], laidByText := true, laidKinds := [.handle], laidTests := true, laidLooks := .later }
def ModelRootsCardSaid : Prop := Claim7.holds Tryz.pinned (.plain (OpenSpec.ofChange modelRootsSpec)) modelRootsCard

/-- THE TIED CARD OF 'silhouettelaw11.ChoicePage'. -/
def choicePageCard : Claim7 := { stood := { row := choicePageRow, standIns := [], harness := (true, "886104976841bd7cc749a3d90cbdbc61b007e99071e643568359e201d9f06825"), looks := true }, kinds := [], alts := [], laidByText := true, laidKinds := [.handle], laidTests := true, laidLooks := .later }
def ChoicePageCardSaid : Prop := Claim7.holds Tryz.pinned (.plain (OpenSpec.ofChange choicePageSpec)) choicePageCard

/-- THE TIED CARD OF 'silhouettelaw11.ChoiceRow'. -/
def choiceRowCard : Claim7 := { stood := { row := choiceRowRow, standIns := [], harness := (true, "886104976841bd7cc749a3d90cbdbc61b007e99071e643568359e201d9f06825"), looks := true }, kinds := [], alts := [], laidByText := true, laidKinds := [.handle], laidTests := true, laidLooks := .later }
def ChoiceRowCardSaid : Prop := Claim7.holds Tryz.pinned (.plain (OpenSpec.ofChange choiceRowSpec)) choiceRowCard

/-- THE TIED CARD OF 'silhouettelaw11.ChoiceFinds'. -/
def choiceFindsCard : Claim7 := { stood := { row := choiceFindsRow, standIns := [], harness := (true, "886104976841bd7cc749a3d90cbdbc61b007e99071e643568359e201d9f06825"), looks := true }, kinds := [], alts := [], laidByText := true, laidKinds := [.handle], laidTests := true, laidLooks := .later }
def ChoiceFindsCardSaid : Prop := Claim7.holds Tryz.pinned (.plain (OpenSpec.ofChange choiceFindsSpec)) choiceFindsCard

/-- THE TIED CARD OF 'silhouettelaw11.ChoiceTells'. -/
def choiceTellsCard : Claim7 := { stood := { row := choiceTellsRow, standIns := [], harness := (true, "886104976841bd7cc749a3d90cbdbc61b007e99071e643568359e201d9f06825"), looks := true }, kinds := [], alts := [], laidByText := true, laidKinds := [.handle], laidTests := true, laidLooks := .later }
def ChoiceTellsCardSaid : Prop := Claim7.holds Tryz.pinned (.plain (OpenSpec.ofChange choiceTellsSpec)) choiceTellsCard

/-- THE TIED CARD OF 'silhouettelaw11.ChoiceMemory'. -/
def choiceMemoryCard : Claim7 := { stood := { row := choiceMemoryRow, standIns := [], harness := (true, "886104976841bd7cc749a3d90cbdbc61b007e99071e643568359e201d9f06825"), looks := true }, kinds := [], alts := [], laidByText := true, laidKinds := [.handle], laidTests := true, laidLooks := .later }
def ChoiceMemoryCardSaid : Prop := Claim7.holds Tryz.pinned (.plain (OpenSpec.ofChange choiceMemorySpec)) choiceMemoryCard

/-- THE TIED CARD OF 'silhouettelaw11.ChoiceFree'. -/
def choiceFreeCard : Claim7 := { stood := { row := choiceFreeRow, standIns := [], harness := (true, "886104976841bd7cc749a3d90cbdbc61b007e99071e643568359e201d9f06825"), looks := true }, kinds := [], alts := [], laidByText := true, laidKinds := [.handle], laidTests := true, laidLooks := .later }
def ChoiceFreeCardSaid : Prop := Claim7.holds Tryz.pinned (.plain (OpenSpec.ofChange choiceFreeSpec)) choiceFreeCard

/-- THE SECOND FORM's CARD OF 'silhouettelaw10.ModelFresh'. -/
def modelFreshUptoCard : Claim7 := { stood := { row := modelFreshUptoRow, standIns := [], harness := (true, "886104976841bd7cc749a3d90cbdbc61b007e99071e643568359e201d9f06825"), looks := true }, kinds := [], alts := [], laidByText := true, laidKinds := [.handle], laidTests := true, laidLooks := .later }
def ModelFreshUptoCardSaid : Prop := Claim7.holds Tryz.pinned (.plain (OpenSpec.upto modelFreshSpec)) modelFreshUptoCard

/-- THE SECOND FORM's CARD OF 'silhouettelaw10.ModelPlays'. -/
def modelPlaysUptoCard : Claim7 := { stood := { row := modelPlaysUptoRow, standIns := [], harness := (true, "886104976841bd7cc749a3d90cbdbc61b007e99071e643568359e201d9f06825"), looks := true }, kinds := [], alts := [], laidByText := true, laidKinds := [.handle], laidTests := true, laidLooks := .later }
def ModelPlaysUptoCardSaid : Prop := Claim7.holds Tryz.pinned (.plain (OpenSpec.upto modelPlaysSpec)) modelPlaysUptoCard

/-- THE SECOND FORM's CARD OF 'silhouettelaw10.ModelKnown'. -/
def modelKnownUptoCard : Claim7 := { stood := { row := modelKnownUptoRow, standIns := [], harness := (true, "886104976841bd7cc749a3d90cbdbc61b007e99071e643568359e201d9f06825"), looks := true }, kinds := [], alts := [], laidByText := true, laidKinds := [.handle], laidTests := true, laidLooks := .later }
def ModelKnownUptoCardSaid : Prop := Claim7.holds Tryz.pinned (.plain (OpenSpec.upto modelKnownSpec)) modelKnownUptoCard

/-- THE SECOND FORM's CARD OF 'silhouettelaw10.ModelFinds'. -/
def modelFindsUptoCard : Claim7 := { stood := { row := modelFindsUptoRow, standIns := [], harness := (true, "886104976841bd7cc749a3d90cbdbc61b007e99071e643568359e201d9f06825"), looks := true }, kinds := [], alts := [], laidByText := true, laidKinds := [.handle], laidTests := true, laidLooks := .later }
def ModelFindsUptoCardSaid : Prop := Claim7.holds Tryz.pinned (.plain (OpenSpec.upto modelFindsSpec)) modelFindsUptoCard

/-- THE SECOND FORM's CARD OF 'silhouettelaw10.ModelRoots'. -/
def modelRootsUptoCard : Claim7 := { stood := { row := modelRootsUptoRow, standIns := [], harness := (true, "886104976841bd7cc749a3d90cbdbc61b007e99071e643568359e201d9f06825"), looks := true }, kinds := [], alts := [], laidByText := true, laidKinds := [.handle], laidTests := true, laidLooks := .later }
def ModelRootsUptoCardSaid : Prop := Claim7.holds Tryz.pinned (.plain (OpenSpec.upto modelRootsSpec)) modelRootsUptoCard

/-- THE SECOND FORM's CARD OF 'silhouettelaw11.ChoicePage'. -/
def choicePageUptoCard : Claim7 := { stood := { row := choicePageUptoRow, standIns := [], harness := (true, "886104976841bd7cc749a3d90cbdbc61b007e99071e643568359e201d9f06825"), looks := true }, kinds := [], alts := [], laidByText := true, laidKinds := [.handle], laidTests := true, laidLooks := .later }
def ChoicePageUptoCardSaid : Prop := Claim7.holds Tryz.pinned (.plain (OpenSpec.upto choicePageSpec)) choicePageUptoCard

/-- THE SECOND FORM's CARD OF 'silhouettelaw11.ChoiceRow'. -/
def choiceRowUptoCard : Claim7 := { stood := { row := choiceRowUptoRow, standIns := [], harness := (true, "886104976841bd7cc749a3d90cbdbc61b007e99071e643568359e201d9f06825"), looks := true }, kinds := [], alts := [], laidByText := true, laidKinds := [.handle], laidTests := true, laidLooks := .later }
def ChoiceRowUptoCardSaid : Prop := Claim7.holds Tryz.pinned (.plain (OpenSpec.upto choiceRowSpec)) choiceRowUptoCard

/-- THE SECOND FORM's CARD OF 'silhouettelaw11.ChoiceFinds'. -/
def choiceFindsUptoCard : Claim7 := { stood := { row := choiceFindsUptoRow, standIns := [], harness := (true, "886104976841bd7cc749a3d90cbdbc61b007e99071e643568359e201d9f06825"), looks := true }, kinds := [], alts := [], laidByText := true, laidKinds := [.handle], laidTests := true, laidLooks := .later }
def ChoiceFindsUptoCardSaid : Prop := Claim7.holds Tryz.pinned (.plain (OpenSpec.upto choiceFindsSpec)) choiceFindsUptoCard

/-- THE SECOND FORM's CARD OF 'silhouettelaw11.ChoiceTells'. -/
def choiceTellsUptoCard : Claim7 := { stood := { row := choiceTellsUptoRow, standIns := [], harness := (true, "886104976841bd7cc749a3d90cbdbc61b007e99071e643568359e201d9f06825"), looks := true }, kinds := [], alts := [], laidByText := true, laidKinds := [.handle], laidTests := true, laidLooks := .later }
def ChoiceTellsUptoCardSaid : Prop := Claim7.holds Tryz.pinned (.plain (OpenSpec.upto choiceTellsSpec)) choiceTellsUptoCard

/-- THE SECOND FORM's CARD OF 'silhouettelaw11.ChoiceMemory'. -/
def choiceMemoryUptoCard : Claim7 := { stood := { row := choiceMemoryUptoRow, standIns := [], harness := (true, "886104976841bd7cc749a3d90cbdbc61b007e99071e643568359e201d9f06825"), looks := true }, kinds := [], alts := [], laidByText := true, laidKinds := [.handle], laidTests := true, laidLooks := .later }
def ChoiceMemoryUptoCardSaid : Prop := Claim7.holds Tryz.pinned (.plain (OpenSpec.upto choiceMemorySpec)) choiceMemoryUptoCard

/-- THE SECOND FORM's CARD OF 'silhouettelaw11.ChoiceFree'. -/
def choiceFreeUptoCard : Claim7 := { stood := { row := choiceFreeUptoRow, standIns := [], harness := (true, "886104976841bd7cc749a3d90cbdbc61b007e99071e643568359e201d9f06825"), looks := true }, kinds := [], alts := [], laidByText := true, laidKinds := [.handle], laidTests := true, laidLooks := .later }
def ChoiceFreeUptoCardSaid : Prop := Claim7.holds Tryz.pinned (.plain (OpenSpec.upto choiceFreeSpec)) choiceFreeUptoCard
end Rows
end Go.Proofs.YtgaififhhffpfaaGreatDoor
