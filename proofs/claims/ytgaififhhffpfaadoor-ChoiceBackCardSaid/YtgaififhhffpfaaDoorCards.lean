/-
  DERIVED. GIVEN WITH THE SEED: THE CARDS: each row of YtgaififhhffpfaaDoorRows.lean that lists a variable, with what it lists TIED to the program's text (the seventh form; the later family's looks); each row that meets fmt, with fmt's text TOLD by the authors' own Lean function (tested against real Go, not proved from fmt's source: count such statements apart). THE CARD IS WHAT COUNTS. Prove the row's statement (the work); the ties are given (YtgaififhhffpfaaDoorTie.lean); close each card by the builder's one call (the guide's Derived/Test/ToyasCard.lean, 'card_holds'). Laid BY PROGRAM, IN A SANDBOX (cutbox-door.mjs). By AI agents, Wed Nov 11 2026. No macro, syntax, notation, axiom, sorry.
-/
import Derived.Test.YtgaififhhffpfaaDoorRows
import GoSem.ClaimSeven
namespace Go.Proofs.YtgaififhhffpfaaDoor
namespace Rows

/-- THE TIED CARD OF 'silhouettelaw11.ChoiceBack'. -/
def choiceBackCard : Claim7 := { stood := { row := choiceBackRow, standIns := [], harness := (true, "f7a9fb08e8d80ee0a5bcbc78b3565157588e80546af4037cf5072564fc4f59b4"), looks := true }, kinds := [], alts := [], laidByText := true, laidKinds := [.handle], laidTests := true, laidLooks := .later }
def ChoiceBackCardSaid : Prop := Claim7.holds Tryd.pinned (.plain (OpenSpec.ofChange choiceBackSpec)) choiceBackCard

/-- THE TIED CARD OF 'silhouettelaw10.ModelTwo'. -/
def modelTwoCard : Claim7 := { stood := { row := modelTwoRow, standIns := [], harness := (true, "f7a9fb08e8d80ee0a5bcbc78b3565157588e80546af4037cf5072564fc4f59b4"), looks := true }, kinds := [], alts := [], laidByText := true, laidKinds := [.handle], laidTests := true, laidLooks := .later }
def ModelTwoCardSaid : Prop := Claim7.holds Tryd.pinned (.plain (OpenSpec.ofChange modelTwoSpec)) modelTwoCard

/-- THE TIED CARD OF 'silhouettelaw10.ModelMemory'. -/
def modelMemoryCard : Claim7 := { stood := { row := modelMemoryRow, standIns := [], harness := (true, "f7a9fb08e8d80ee0a5bcbc78b3565157588e80546af4037cf5072564fc4f59b4"), looks := true }, kinds := [], alts := [], laidByText := true, laidKinds := [.handle], laidTests := true, laidLooks := .later }
def ModelMemoryCardSaid : Prop := Claim7.holds Tryd.pinned (.plain (OpenSpec.ofChange modelMemorySpec)) modelMemoryCard

/-- THE TIED CARD OF 'silhouettelaw10.ModelAgain'. -/
def modelAgainCard : Claim7 := { stood := { row := modelAgainRow, standIns := [], harness := (true, "f7a9fb08e8d80ee0a5bcbc78b3565157588e80546af4037cf5072564fc4f59b4"), looks := true }, kinds := [], alts := [], laidByText := true, laidKinds := [.handle], laidTests := true, laidLooks := .later }
def ModelAgainCardSaid : Prop := Claim7.holds Tryd.pinned (.plain (OpenSpec.ofChange modelAgainSpec)) modelAgainCard

/-- THE SECOND FORM's CARD OF 'silhouettelaw11.ChoiceBack'. -/
def choiceBackUptoCard : Claim7 := { stood := { row := choiceBackUptoRow, standIns := [], harness := (true, "f7a9fb08e8d80ee0a5bcbc78b3565157588e80546af4037cf5072564fc4f59b4"), looks := true }, kinds := [], alts := [], laidByText := true, laidKinds := [.handle], laidTests := true, laidLooks := .later }
def ChoiceBackUptoCardSaid : Prop := Claim7.holds Tryd.pinned (.plain (OpenSpec.upto choiceBackSpec)) choiceBackUptoCard

/-- THE SECOND FORM's CARD OF 'silhouettelaw10.ModelTwo'. -/
def modelTwoUptoCard : Claim7 := { stood := { row := modelTwoUptoRow, standIns := [], harness := (true, "f7a9fb08e8d80ee0a5bcbc78b3565157588e80546af4037cf5072564fc4f59b4"), looks := true }, kinds := [], alts := [], laidByText := true, laidKinds := [.handle], laidTests := true, laidLooks := .later }
def ModelTwoUptoCardSaid : Prop := Claim7.holds Tryd.pinned (.plain (OpenSpec.upto modelTwoSpec)) modelTwoUptoCard

/-- THE SECOND FORM's CARD OF 'silhouettelaw10.ModelMemory'. -/
def modelMemoryUptoCard : Claim7 := { stood := { row := modelMemoryUptoRow, standIns := [], harness := (true, "f7a9fb08e8d80ee0a5bcbc78b3565157588e80546af4037cf5072564fc4f59b4"), looks := true }, kinds := [], alts := [], laidByText := true, laidKinds := [.handle], laidTests := true, laidLooks := .later }
def ModelMemoryUptoCardSaid : Prop := Claim7.holds Tryd.pinned (.plain (OpenSpec.upto modelMemorySpec)) modelMemoryUptoCard

/-- THE SECOND FORM's CARD OF 'silhouettelaw10.ModelAgain'. -/
def modelAgainUptoCard : Claim7 := { stood := { row := modelAgainUptoRow, standIns := [], harness := (true, "f7a9fb08e8d80ee0a5bcbc78b3565157588e80546af4037cf5072564fc4f59b4"), looks := true }, kinds := [], alts := [], laidByText := true, laidKinds := [.handle], laidTests := true, laidLooks := .later }
def ModelAgainUptoCardSaid : Prop := Claim7.holds Tryd.pinned (.plain (OpenSpec.upto modelAgainSpec)) modelAgainUptoCard
end Rows
end Go.Proofs.YtgaififhhffpfaaDoor
