/-
  DERIVED. GIVEN WITH THE SEED: THE CARDS: each row of YtlldbfpccdmclaaDoorRows.lean that lists a variable, with what it lists TIED to the program's text (the seventh form; the later family's looks); each row that meets fmt, with fmt's text TOLD by the authors' own Lean function (tested against real Go, not proved from fmt's source: count such statements apart). THE CARD IS WHAT COUNTS. Prove the row's statement (the work); the ties are given (YtlldbfpccdmclaaDoorTie.lean); close each card by the builder's one call (the guide's Derived/Test/ToyasCard.lean, 'card_holds'). Laid BY PROGRAM, IN A SANDBOX (cutbox-door.mjs). By AI agents, Wed Nov 11 2026. No macro, syntax, notation, axiom, sorry.
-/
import Derived.Test.YtlldbfpccdmclaaDoorRows
import GoSem.ClaimSeven
namespace Go.Proofs.YtlldbfpccdmclaaDoor
namespace Rows

/-- THE TIED CARD OF 'silhouettelaw08.WalkWithin'. -/
def walkWithinCard : Claim7 := { stood := { row := walkWithinRow, standIns := [], harness := (true, "b496b2536bb576831d651eb41e7655549be1230f82eddaa732a79d6af94d373e"), looks := true }, kinds := [], alts := [], laidByText := true, laidKinds := [.handle], laidTests := true, laidLooks := .later }
def WalkWithinCardSaid : Prop := Claim7.holds Tryd.pinned (.plain (OpenSpec.ofChange walkWithinSpec)) walkWithinCard

/-- THE TIED CARD OF 'silhouettelaw08.WalkKinds'. -/
def walkKindsCard : Claim7 := { stood := { row := walkKindsRow, standIns := [], harness := (true, "b496b2536bb576831d651eb41e7655549be1230f82eddaa732a79d6af94d373e"), looks := true }, kinds := [], alts := [], laidByText := true, laidKinds := [.handle], laidTests := true, laidLooks := .later }
def WalkKindsCardSaid : Prop := Claim7.holds Tryd.pinned (.plain (OpenSpec.ofChange walkKindsSpec)) walkKindsCard

/-- THE TIED CARD OF 'silhouettelaw08.WalkLarge'. -/
def walkLargeCard : Claim7 := { stood := { row := walkLargeRow, standIns := [], harness := (true, "b496b2536bb576831d651eb41e7655549be1230f82eddaa732a79d6af94d373e"), looks := true }, kinds := [], alts := [], laidByText := true, laidKinds := [.handle], laidTests := true, laidLooks := .later }
def WalkLargeCardSaid : Prop := Claim7.holds Tryd.pinned (.plain (OpenSpec.ofChange walkLargeSpec)) walkLargeCard

/-- THE TIED CARD OF 'silhouettelaw08.WalkRoots'. -/
def walkRootsCard : Claim7 := { stood := { row := walkRootsRow, standIns := [], harness := (true, "b496b2536bb576831d651eb41e7655549be1230f82eddaa732a79d6af94d373e"), looks := true }, kinds := [], alts := [], laidByText := true, laidKinds := [.handle], laidTests := true, laidLooks := .later }
def WalkRootsCardSaid : Prop := Claim7.holds Tryd.pinned (.plain (OpenSpec.ofChange walkRootsSpec)) walkRootsCard

/-- THE TIED CARD OF 'silhouettelaw08.WalkMoves'. -/
def walkMovesCard : Claim7 := { stood := { row := walkMovesRow, standIns := [], harness := (true, "b496b2536bb576831d651eb41e7655549be1230f82eddaa732a79d6af94d373e"), looks := true }, kinds := [], alts := [], laidByText := true, laidKinds := [.handle], laidTests := true, laidLooks := .later }
def WalkMovesCardSaid : Prop := Claim7.holds Tryd.pinned (.plain (OpenSpec.ofChange walkMovesSpec)) walkMovesCard

/-- THE TIED CARD OF 'silhouettelaw08.WalkTells'. -/
def walkTellsCard : Claim7 := { stood := { row := walkTellsRow, standIns := [], harness := (true, "b496b2536bb576831d651eb41e7655549be1230f82eddaa732a79d6af94d373e"), looks := true }, kinds := [], alts := [], laidByText := true, laidKinds := [.handle], laidTests := true, laidLooks := .later }
def WalkTellsCardSaid : Prop := Claim7.holds Tryd.pinned (.plain (OpenSpec.ofChange walkTellsSpec)) walkTellsCard

/-- THE TIED CARD OF 'silhouettelaw08.WalkStill'. -/
def walkStillCard : Claim7 := { stood := { row := walkStillRow, standIns := [], harness := (true, "b496b2536bb576831d651eb41e7655549be1230f82eddaa732a79d6af94d373e"), looks := true }, kinds := [], alts := [], laidByText := true, laidKinds := [.handle], laidTests := true, laidLooks := .later }
def WalkStillCardSaid : Prop := Claim7.holds Tryd.pinned (.plain (OpenSpec.ofChange walkStillSpec)) walkStillCard

/-- THE TIED CARD OF 'silhouettelaw08.WalkMarks'. -/
def walkMarksCard : Claim7 := { stood := { row := walkMarksRow, standIns := [], harness := (true, "b496b2536bb576831d651eb41e7655549be1230f82eddaa732a79d6af94d373e"), looks := true }, kinds := [], alts := [], laidByText := true, laidKinds := [.handle], laidTests := true, laidLooks := .later }
def WalkMarksCardSaid : Prop := Claim7.holds Tryd.pinned (.plain (OpenSpec.ofChange walkMarksSpec)) walkMarksCard

/-- THE SECOND FORM's CARD OF 'silhouettelaw08.WalkWithin'. -/
def walkWithinUptoCard : Claim7 := { stood := { row := walkWithinUptoRow, standIns := [], harness := (true, "b496b2536bb576831d651eb41e7655549be1230f82eddaa732a79d6af94d373e"), looks := true }, kinds := [], alts := [], laidByText := true, laidKinds := [.handle], laidTests := true, laidLooks := .later }
def WalkWithinUptoCardSaid : Prop := Claim7.holds Tryd.pinned (.plain (OpenSpec.upto walkWithinSpec)) walkWithinUptoCard

/-- THE SECOND FORM's CARD OF 'silhouettelaw08.WalkKinds'. -/
def walkKindsUptoCard : Claim7 := { stood := { row := walkKindsUptoRow, standIns := [], harness := (true, "b496b2536bb576831d651eb41e7655549be1230f82eddaa732a79d6af94d373e"), looks := true }, kinds := [], alts := [], laidByText := true, laidKinds := [.handle], laidTests := true, laidLooks := .later }
def WalkKindsUptoCardSaid : Prop := Claim7.holds Tryd.pinned (.plain (OpenSpec.upto walkKindsSpec)) walkKindsUptoCard

/-- THE SECOND FORM's CARD OF 'silhouettelaw08.WalkLarge'. -/
def walkLargeUptoCard : Claim7 := { stood := { row := walkLargeUptoRow, standIns := [], harness := (true, "b496b2536bb576831d651eb41e7655549be1230f82eddaa732a79d6af94d373e"), looks := true }, kinds := [], alts := [], laidByText := true, laidKinds := [.handle], laidTests := true, laidLooks := .later }
def WalkLargeUptoCardSaid : Prop := Claim7.holds Tryd.pinned (.plain (OpenSpec.upto walkLargeSpec)) walkLargeUptoCard

/-- THE SECOND FORM's CARD OF 'silhouettelaw08.WalkRoots'. -/
def walkRootsUptoCard : Claim7 := { stood := { row := walkRootsUptoRow, standIns := [], harness := (true, "b496b2536bb576831d651eb41e7655549be1230f82eddaa732a79d6af94d373e"), looks := true }, kinds := [], alts := [], laidByText := true, laidKinds := [.handle], laidTests := true, laidLooks := .later }
def WalkRootsUptoCardSaid : Prop := Claim7.holds Tryd.pinned (.plain (OpenSpec.upto walkRootsSpec)) walkRootsUptoCard

/-- THE SECOND FORM's CARD OF 'silhouettelaw08.WalkMoves'. -/
def walkMovesUptoCard : Claim7 := { stood := { row := walkMovesUptoRow, standIns := [], harness := (true, "b496b2536bb576831d651eb41e7655549be1230f82eddaa732a79d6af94d373e"), looks := true }, kinds := [], alts := [], laidByText := true, laidKinds := [.handle], laidTests := true, laidLooks := .later }
def WalkMovesUptoCardSaid : Prop := Claim7.holds Tryd.pinned (.plain (OpenSpec.upto walkMovesSpec)) walkMovesUptoCard

/-- THE SECOND FORM's CARD OF 'silhouettelaw08.WalkTells'. -/
def walkTellsUptoCard : Claim7 := { stood := { row := walkTellsUptoRow, standIns := [], harness := (true, "b496b2536bb576831d651eb41e7655549be1230f82eddaa732a79d6af94d373e"), looks := true }, kinds := [], alts := [], laidByText := true, laidKinds := [.handle], laidTests := true, laidLooks := .later }
def WalkTellsUptoCardSaid : Prop := Claim7.holds Tryd.pinned (.plain (OpenSpec.upto walkTellsSpec)) walkTellsUptoCard

/-- THE SECOND FORM's CARD OF 'silhouettelaw08.WalkStill'. -/
def walkStillUptoCard : Claim7 := { stood := { row := walkStillUptoRow, standIns := [], harness := (true, "b496b2536bb576831d651eb41e7655549be1230f82eddaa732a79d6af94d373e"), looks := true }, kinds := [], alts := [], laidByText := true, laidKinds := [.handle], laidTests := true, laidLooks := .later }
def WalkStillUptoCardSaid : Prop := Claim7.holds Tryd.pinned (.plain (OpenSpec.upto walkStillSpec)) walkStillUptoCard

/-- THE SECOND FORM's CARD OF 'silhouettelaw08.WalkMarks'. -/
def walkMarksUptoCard : Claim7 := { stood := { row := walkMarksUptoRow, standIns := [], harness := (true, "b496b2536bb576831d651eb41e7655549be1230f82eddaa732a79d6af94d373e"), looks := true }, kinds := [], alts := [], laidByText := true, laidKinds := [.handle], laidTests := true, laidLooks := .later }
def WalkMarksUptoCardSaid : Prop := Claim7.holds Tryd.pinned (.plain (OpenSpec.upto walkMarksSpec)) walkMarksUptoCard
end Rows
end Go.Proofs.YtlldbfpccdmclaaDoor
