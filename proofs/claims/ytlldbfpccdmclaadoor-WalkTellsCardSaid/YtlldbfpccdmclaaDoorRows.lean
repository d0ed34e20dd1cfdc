/-
  NARROWER THAN 'FOR EVERY INPUT', by the rows' own cells (each row's printed sentence says how): WalkWithin: laid · WalkKinds: laid · WalkLarge: laid · WalkRoots: laid · WalkMoves: laid · WalkTells: laid · WalkStill: laid · WalkMarks: laid.
  DERIVED. THE GIVEN ROWS OF THIS SEAT. 8 by the template 'for every input the law returns true; each argument reads behind the call as it read before'; 0 by the template 'total and deterministic' (their statements: YtlldbfpccdmclaaDoorTotals.lean).
  GIVEN WITH THE SEED: the statements are not yours to turn. If you find one false, say at which input.
  Laid BY PROGRAM, IN A SANDBOX (cutbox-rows.mjs): the forced cells as the released guide's own fill.sh prints them over the translation 75e7b661a2e89828… (all of the seat's roots in one cut). By AI agents, Wed Nov 11 2026. No macro, syntax, notation, axiom, sorry.
-/
import Derived.Test.YtlldbfpccdmclaaDoorChecked
import GoSem.Claim
import GoSem.ClaimJoined
import GoSem.ClaimMapViews
import Derived.JoinedTies
import Derived.KernelRfl
namespace Go.Proofs.YtlldbfpccdmclaaDoor
/- THE CELL 'sum', in the pinned program and in every row, IS THE sha256 OF THE DUMP (.gsa) THAT YtlldbfpccdmclaaDoorProg.lean LOADS. Nothing in Lean hashes anything: it is a label: what it is worth is what the hold of that sum in a sandbox is worth. -/
noncomputable def Tryd.pinned : Pinned := { name := "ytlldbfpccdmclaadoor", sum := "75e7b661a2e898286cf5fda0d2626929c0bae218210c3562a419e8bce092005b", checked := Tryd.checked }
namespace Rows
def none {H : Type} : Left H := { results := [], args := [] }

/- WHAT THE LISTED PACKAGE-LEVEL VARIABLES READ AS WHEN THE CALL BEGINS. Each datum BY PROGRAM (the guide's laid-datum.mjs) off the statement by which the dump's own 'gosem.cut.vars' lays the variable. In a bare row this is a premise. The card (YtlldbfpccdmclaaDoorCards.lean) ties it to the program's text. -/
def laid_errors_errorType {H : Type} : DataW H := .iface "internal/reflectlite.rtype" (.agg [.ptr (.lit (.string [101, 114, 114, 111, 114]))])

/-- 'silhouettelaw08.WalkWithin': WHATEVER THE INPUT: true; the input reads as it did. -/
def walkWithinSpec : ChangeSpec := { name := "walkWithin", fn := fun _ => fun
  | [d1, d2, d3, d4, d5] => { results := [.lit (.bool true)], args := [d1, d2, d3, d4, d5] }
  | _ => none }
def walkWithinRow : OpenClaim := { program := "ytlldbfpccdmclaadoor", sum := "75e7b661a2e898286cf5fda0d2626929c0bae218210c3562a419e8bce092005b", func := "silhouette/silhouettelaw08.WalkWithin", spec := "walkWithin", inPlace := ["internal/reflectlite.ValueOf", "(internal/reflectlite.Value).Type", "(internal/reflectlite.Value).IsNil", "internal/reflectlite.TypeOf", "(internal/reflectlite.Value).Elem", "(internal/reflectlite.Value).Set"], unfollowed := true, recurses := true, named := ["errors.errorType"], apart := false, laid := [("errors.errorType", laid_errors_errorType)] }
def WalkWithinSaid : Prop := walkWithinRow.holds Tryd.pinned (OpenSpec.ofChange walkWithinSpec)

/-- ITS FALSE NEIGHBOUR: 'it returns false'. Refute it at one input. -/
def walkWithinWrong : ChangeSpec := { name := "walkWithin", fn := fun _ => fun
  | [d1, d2, d3, d4, d5] => { results := [.lit (.bool false)], args := [d1, d2, d3, d4, d5] }
  | _ => none }
def WalkWithinWrongFalsely : Prop := walkWithinRow.holds Tryd.pinned (OpenSpec.ofChange walkWithinWrong)

/-- 'silhouettelaw08.WalkKinds': WHATEVER THE INPUT: true; the input reads as it did. -/
def walkKindsSpec : ChangeSpec := { name := "walkKinds", fn := fun _ => fun
  | [d1, d2, d3, d4] => { results := [.lit (.bool true)], args := [d1, d2, d3, d4] }
  | _ => none }
def walkKindsRow : OpenClaim := { program := "ytlldbfpccdmclaadoor", sum := "75e7b661a2e898286cf5fda0d2626929c0bae218210c3562a419e8bce092005b", func := "silhouette/silhouettelaw08.WalkKinds", spec := "walkKinds", inPlace := ["internal/reflectlite.ValueOf", "(internal/reflectlite.Value).Type", "(internal/reflectlite.Value).IsNil", "internal/reflectlite.TypeOf", "(internal/reflectlite.Value).Elem", "(internal/reflectlite.Value).Set"], unfollowed := true, recurses := true, named := ["errors.errorType"], apart := false, laid := [("errors.errorType", laid_errors_errorType)] }
def WalkKindsSaid : Prop := walkKindsRow.holds Tryd.pinned (OpenSpec.ofChange walkKindsSpec)

/-- ITS FALSE NEIGHBOUR: 'it returns false'. Refute it at one input. -/
def walkKindsWrong : ChangeSpec := { name := "walkKinds", fn := fun _ => fun
  | [d1, d2, d3, d4] => { results := [.lit (.bool false)], args := [d1, d2, d3, d4] }
  | _ => none }
def WalkKindsWrongFalsely : Prop := walkKindsRow.holds Tryd.pinned (OpenSpec.ofChange walkKindsWrong)

/-- 'silhouettelaw08.WalkLarge': WHATEVER THE INPUT: true; the input reads as it did. -/
def walkLargeSpec : ChangeSpec := { name := "walkLarge", fn := fun _ => fun
  | [d1, d2, d3] => { results := [.lit (.bool true)], args := [d1, d2, d3] }
  | _ => none }
def walkLargeRow : OpenClaim := { program := "ytlldbfpccdmclaadoor", sum := "75e7b661a2e898286cf5fda0d2626929c0bae218210c3562a419e8bce092005b", func := "silhouette/silhouettelaw08.WalkLarge", spec := "walkLarge", inPlace := ["internal/reflectlite.ValueOf", "(internal/reflectlite.Value).Type", "(internal/reflectlite.Value).IsNil", "internal/reflectlite.TypeOf", "(internal/reflectlite.Value).Elem", "(internal/reflectlite.Value).Set"], unfollowed := true, recurses := true, named := ["errors.errorType"], apart := false, laid := [("errors.errorType", laid_errors_errorType)] }
def WalkLargeSaid : Prop := walkLargeRow.holds Tryd.pinned (OpenSpec.ofChange walkLargeSpec)

/-- ITS FALSE NEIGHBOUR: 'it returns false'. Refute it at one input. -/
def walkLargeWrong : ChangeSpec := { name := "walkLarge", fn := fun _ => fun
  | [d1, d2, d3] => { results := [.lit (.bool false)], args := [d1, d2, d3] }
  | _ => none }
def WalkLargeWrongFalsely : Prop := walkLargeRow.holds Tryd.pinned (OpenSpec.ofChange walkLargeWrong)

/-- 'silhouettelaw08.WalkRoots': WHATEVER THE INPUT: true; the input reads as it did. -/
def walkRootsSpec : ChangeSpec := { name := "walkRoots", fn := fun _ => fun
  | [d1, d2, d3, d4, d5] => { results := [.lit (.bool true)], args := [d1, d2, d3, d4, d5] }
  | _ => none }
def walkRootsRow : OpenClaim := { program := "ytlldbfpccdmclaadoor", sum := "75e7b661a2e898286cf5fda0d2626929c0bae218210c3562a419e8bce092005b", func := "silhouette/silhouettelaw08.WalkRoots", spec := "walkRoots", inPlace := ["internal/reflectlite.ValueOf", "(internal/reflectlite.Value).Type", "(internal/reflectlite.Value).IsNil", "internal/reflectlite.TypeOf", "(internal/reflectlite.Value).Elem", "(internal/reflectlite.Value).Set"], unfollowed := true, recurses := true, named := ["errors.errorType"], apart := false, laid := [("errors.errorType", laid_errors_errorType)] }
def WalkRootsSaid : Prop := walkRootsRow.holds Tryd.pinned (OpenSpec.ofChange walkRootsSpec)

/-- ITS FALSE NEIGHBOUR: 'it returns false'. Refute it at one input. -/
def walkRootsWrong : ChangeSpec := { name := "walkRoots", fn := fun _ => fun
  | [d1, d2, d3, d4, d5] => { results := [.lit (.bool false)], args := [d1, d2, d3, d4, d5] }
  | _ => none }
def WalkRootsWrongFalsely : Prop := walkRootsRow.holds Tryd.pinned (OpenSpec.ofChange walkRootsWrong)

/-- 'silhouettelaw08.WalkMoves': WHATEVER THE INPUT: true; the input reads as it did. -/
def walkMovesSpec : ChangeSpec := { name := "walkMoves", fn := fun _ => fun
  | [d1, d2, d3, d4, d5, d6] => { results := [.lit (.bool true)], args := [d1, d2, d3, d4, d5, d6] }
  | _ => none }
def walkMovesRow : OpenClaim := { program := "ytlldbfpccdmclaadoor", sum := "75e7b661a2e898286cf5fda0d2626929c0bae218210c3562a419e8bce092005b", func := "silhouette/silhouettelaw08.WalkMoves", spec := "walkMoves", inPlace := ["internal/reflectlite.ValueOf", "(internal/reflectlite.Value).Type", "(internal/reflectlite.Value).IsNil", "internal/reflectlite.TypeOf", "(internal/reflectlite.Value).Elem", "(internal/reflectlite.Value).Set"], unfollowed := true, recurses := true, named := ["errors.errorType"], apart := false, laid := [("errors.errorType", laid_errors_errorType)] }
def WalkMovesSaid : Prop := walkMovesRow.holds Tryd.pinned (OpenSpec.ofChange walkMovesSpec)

/-- ITS FALSE NEIGHBOUR: 'it returns false'. Refute it at one input. -/
def walkMovesWrong : ChangeSpec := { name := "walkMoves", fn := fun _ => fun
  | [d1, d2, d3, d4, d5, d6] => { results := [.lit (.bool false)], args := [d1, d2, d3, d4, d5, d6] }
  | _ => none }
def WalkMovesWrongFalsely : Prop := walkMovesRow.holds Tryd.pinned (OpenSpec.ofChange walkMovesWrong)

/-- 'silhouettelaw08.WalkTells': WHATEVER THE INPUT: true; the input reads as it did. -/
def walkTellsSpec : ChangeSpec := { name := "walkTells", fn := fun _ => fun
  | [d1, d2, d3, d4, d5, d6] => { results := [.lit (.bool true)], args := [d1, d2, d3, d4, d5, d6] }
  | _ => none }
def walkTellsRow : OpenClaim := { program := "ytlldbfpccdmclaadoor", sum := "75e7b661a2e898286cf5fda0d2626929c0bae218210c3562a419e8bce092005b", func := "silhouette/silhouettelaw08.WalkTells", spec := "walkTells", inPlace := ["internal/reflectlite.ValueOf", "(internal/reflectlite.Value).Type", "(internal/reflectlite.Value).IsNil", "internal/reflectlite.TypeOf", "(internal/reflectlite.Value).Elem", "(internal/reflectlite.Value).Set"], unfollowed := true, recurses := true, named := ["errors.errorType"], apart := false, laid := [("errors.errorType", laid_errors_errorType)] }
def WalkTellsSaid : Prop := walkTellsRow.holds Tryd.pinned (OpenSpec.ofChange walkTellsSpec)

/-- ITS FALSE NEIGHBOUR: 'it returns false'. Refute it at one input. -/
def walkTellsWrong : ChangeSpec := { name := "walkTells", fn := fun _ => fun
  | [d1, d2, d3, d4, d5, d6] => { results := [.lit (.bool false)], args := [d1, d2, d3, d4, d5, d6] }
  | _ => none }
def WalkTellsWrongFalsely : Prop := walkTellsRow.holds Tryd.pinned (OpenSpec.ofChange walkTellsWrong)

/-- 'silhouettelaw08.WalkStill': WHATEVER THE INPUT: true; the input reads as it did. -/
def walkStillSpec : ChangeSpec := { name := "walkStill", fn := fun _ => fun
  | [d1, d2, d3, d4, d5, d6] => { results := [.lit (.bool true)], args := [d1, d2, d3, d4, d5, d6] }
  | _ => none }
def walkStillRow : OpenClaim := { program := "ytlldbfpccdmclaadoor", sum := "75e7b661a2e898286cf5fda0d2626929c0bae218210c3562a419e8bce092005b", func := "silhouette/silhouettelaw08.WalkStill", spec := "walkStill", inPlace := ["internal/reflectlite.ValueOf", "(internal/reflectlite.Value).Type", "(internal/reflectlite.Value).IsNil", "internal/reflectlite.TypeOf", "(internal/reflectlite.Value).Elem", "(internal/reflectlite.Value).Set"], unfollowed := true, recurses := true, named := ["errors.errorType"], apart := false, laid := [("errors.errorType", laid_errors_errorType)] }
def WalkStillSaid : Prop := walkStillRow.holds Tryd.pinned (OpenSpec.ofChange walkStillSpec)

/-- ITS FALSE NEIGHBOUR: 'it returns false'. Refute it at one input. -/
def walkStillWrong : ChangeSpec := { name := "walkStill", fn := fun _ => fun
  | [d1, d2, d3, d4, d5, d6] => { results := [.lit (.bool false)], args := [d1, d2, d3, d4, d5, d6] }
  | _ => none }
def WalkStillWrongFalsely : Prop := walkStillRow.holds Tryd.pinned (OpenSpec.ofChange walkStillWrong)

/-- 'silhouettelaw08.WalkMarks': WHATEVER THE INPUT: true; the input reads as it did. -/
def walkMarksSpec : ChangeSpec := { name := "walkMarks", fn := fun _ => fun
  | [d1, d2, d3, d4, d5, d6] => { results := [.lit (.bool true)], args := [d1, d2, d3, d4, d5, d6] }
  | _ => none }
def walkMarksRow : OpenClaim := { program := "ytlldbfpccdmclaadoor", sum := "75e7b661a2e898286cf5fda0d2626929c0bae218210c3562a419e8bce092005b", func := "silhouette/silhouettelaw08.WalkMarks", spec := "walkMarks", inPlace := ["internal/reflectlite.ValueOf", "(internal/reflectlite.Value).Type", "(internal/reflectlite.Value).IsNil", "internal/reflectlite.TypeOf", "(internal/reflectlite.Value).Elem", "(internal/reflectlite.Value).Set"], unfollowed := true, recurses := true, named := ["errors.errorType"], apart := false, laid := [("errors.errorType", laid_errors_errorType)] }
def WalkMarksSaid : Prop := walkMarksRow.holds Tryd.pinned (OpenSpec.ofChange walkMarksSpec)

/-- ITS FALSE NEIGHBOUR: 'it returns false'. Refute it at one input. -/
def walkMarksWrong : ChangeSpec := { name := "walkMarks", fn := fun _ => fun
  | [d1, d2, d3, d4, d5, d6] => { results := [.lit (.bool false)], args := [d1, d2, d3, d4, d5, d6] }
  | _ => none }
def WalkMarksWrongFalsely : Prop := walkMarksRow.holds Tryd.pinned (OpenSpec.ofChange walkMarksWrong)

/- THE SECOND FORM. 'bulk': how many values and letters a reading holds, each counted each time it is reached (what is shared counts as often as it is met; a slice's spare places count too). A statement '..UptoSaid' is the law's where the arguments, and the package variables that the reading takes, are together of bulk at most 1048576: NARROWER than '..Said'. Prove '..Said' where nothing that the law and all that it calls make is longer than what came in: it says more and counts as full. Else prove '..UptoSaid'. A law counts once. -/
mutual
def uptoBulk {H : Type} : DataW H → Nat
  | .lit (.string bytes) => bytes.length + 1
  | .lit _ => 1
  | .nil => 1
  | .ptr d => uptoBulk d + 1
  | .slice elems spare => uptoBulkAll elems + uptoBulkAll spare + 1
  | .agg parts => uptoBulkAll parts + 1
  | .iface _ d => uptoBulk d + 1
  | .map entries => uptoBulkEntries entries + 1
  | .held _ => 1
def uptoBulkAll {H : Type} : List (DataW H) → Nat
  | [] => 0
  | d :: r => uptoBulk d + uptoBulkAll r
def uptoBulkEntries {H : Type} : List (Lit × DataW H) → Nat
  | [] => 0
  | x :: r => uptoBulkEntry x + uptoBulkEntries r
def uptoBulkEntry {H : Type} : Lit × DataW H → Nat
  | (.string bytes, d) => bytes.length + uptoBulk d + 1
  | (_, d) => uptoBulk d + 1
 end
def uptoSmall : (H : Type) → List (DataW H) → Bool := fun _ ds => decide (uptoBulkAll ds ≤ 1048576)
def OpenSpec.upto (s : _root_.Go.ChangeSpec) : _root_.Go.OpenSpec := { _root_.Go.OpenSpec.ofChange s with cond := some uptoSmall }

/-- 'silhouettelaw08.WalkWithin', WHERE WHAT IT READS IS OF BULK AT MOST 1048576: true; the input reads as it did. -/
def walkWithinUptoRow : OpenClaim := { program := "ytlldbfpccdmclaadoor", sum := "75e7b661a2e898286cf5fda0d2626929c0bae218210c3562a419e8bce092005b", func := "silhouette/silhouettelaw08.WalkWithin", spec := "walkWithin", inPlace := ["internal/reflectlite.ValueOf", "(internal/reflectlite.Value).Type", "(internal/reflectlite.Value).IsNil", "internal/reflectlite.TypeOf", "(internal/reflectlite.Value).Elem", "(internal/reflectlite.Value).Set"], unfollowed := true, recurses := true, named := ["errors.errorType"], apart := false, laid := [("errors.errorType", laid_errors_errorType)], narrowed := true }
def WalkWithinUptoSaid : Prop := walkWithinUptoRow.holds Tryd.pinned (OpenSpec.upto walkWithinSpec)

/-- 'silhouettelaw08.WalkKinds', WHERE WHAT IT READS IS OF BULK AT MOST 1048576: true; the input reads as it did. -/
def walkKindsUptoRow : OpenClaim := { program := "ytlldbfpccdmclaadoor", sum := "75e7b661a2e898286cf5fda0d2626929c0bae218210c3562a419e8bce092005b", func := "silhouette/silhouettelaw08.WalkKinds", spec := "walkKinds", inPlace := ["internal/reflectlite.ValueOf", "(internal/reflectlite.Value).Type", "(internal/reflectlite.Value).IsNil", "internal/reflectlite.TypeOf", "(internal/reflectlite.Value).Elem", "(internal/reflectlite.Value).Set"], unfollowed := true, recurses := true, named := ["errors.errorType"], apart := false, laid := [("errors.errorType", laid_errors_errorType)], narrowed := true }
def WalkKindsUptoSaid : Prop := walkKindsUptoRow.holds Tryd.pinned (OpenSpec.upto walkKindsSpec)

/-- 'silhouettelaw08.WalkLarge', WHERE WHAT IT READS IS OF BULK AT MOST 1048576: true; the input reads as it did. -/
def walkLargeUptoRow : OpenClaim := { program := "ytlldbfpccdmclaadoor", sum := "75e7b661a2e898286cf5fda0d2626929c0bae218210c3562a419e8bce092005b", func := "silhouette/silhouettelaw08.WalkLarge", spec := "walkLarge", inPlace := ["internal/reflectlite.ValueOf", "(internal/reflectlite.Value).Type", "(internal/reflectlite.Value).IsNil", "internal/reflectlite.TypeOf", "(internal/reflectlite.Value).Elem", "(internal/reflectlite.Value).Set"], unfollowed := true, recurses := true, named := ["errors.errorType"], apart := false, laid := [("errors.errorType", laid_errors_errorType)], narrowed := true }
def WalkLargeUptoSaid : Prop := walkLargeUptoRow.holds Tryd.pinned (OpenSpec.upto walkLargeSpec)

/-- 'silhouettelaw08.WalkRoots', WHERE WHAT IT READS IS OF BULK AT MOST 1048576: true; the input reads as it did. -/
def walkRootsUptoRow : OpenClaim := { program := "ytlldbfpccdmclaadoor", sum := "75e7b661a2e898286cf5fda0d2626929c0bae218210c3562a419e8bce092005b", func := "silhouette/silhouettelaw08.WalkRoots", spec := "walkRoots", inPlace := ["internal/reflectlite.ValueOf", "(internal/reflectlite.Value).Type", "(internal/reflectlite.Value).IsNil", "internal/reflectlite.TypeOf", "(internal/reflectlite.Value).Elem", "(internal/reflectlite.Value).Set"], unfollowed := true, recurses := true, named := ["errors.errorType"], apart := false, laid := [("errors.errorType", laid_errors_errorType)], narrowed := true }
def WalkRootsUptoSaid : Prop := walkRootsUptoRow.holds Tryd.pinned (OpenSpec.upto walkRootsSpec)

/-- 'silhouettelaw08.WalkMoves', WHERE WHAT IT READS IS OF BULK AT MOST 1048576: true; the input reads as it did. -/
def walkMovesUptoRow : OpenClaim := { program := "ytlldbfpccdmclaadoor", sum := "75e7b661a2e898286cf5fda0d2626929c0bae218210c3562a419e8bce092005b", func := "silhouette/silhouettelaw08.WalkMoves", spec := "walkMoves", inPlace := ["internal/reflectlite.ValueOf", "(internal/reflectlite.Value).Type", "(internal/reflectlite.Value).IsNil", "internal/reflectlite.TypeOf", "(internal/reflectlite.Value).Elem", "(internal/reflectlite.Value).Set"], unfollowed := true, recurses := true, named := ["errors.errorType"], apart := false, laid := [("errors.errorType", laid_errors_errorType)], narrowed := true }
def WalkMovesUptoSaid : Prop := walkMovesUptoRow.holds Tryd.pinned (OpenSpec.upto walkMovesSpec)

/-- 'silhouettelaw08.WalkTells', WHERE WHAT IT READS IS OF BULK AT MOST 1048576: true; the input reads as it did. -/
def walkTellsUptoRow : OpenClaim := { program := "ytlldbfpccdmclaadoor", sum := "75e7b661a2e898286cf5fda0d2626929c0bae218210c3562a419e8bce092005b", func := "silhouette/silhouettelaw08.WalkTells", spec := "walkTells", inPlace := ["internal/reflectlite.ValueOf", "(internal/reflectlite.Value).Type", "(internal/reflectlite.Value).IsNil", "internal/reflectlite.TypeOf", "(internal/reflectlite.Value).Elem", "(internal/reflectlite.Value).Set"], unfollowed := true, recurses := true, named := ["errors.errorType"], apart := false, laid := [("errors.errorType", laid_errors_errorType)], narrowed := true }
def WalkTellsUptoSaid : Prop := walkTellsUptoRow.holds Tryd.pinned (OpenSpec.upto walkTellsSpec)

/-- 'silhouettelaw08.WalkStill', WHERE WHAT IT READS IS OF BULK AT MOST 1048576: true; the input reads as it did. -/
def walkStillUptoRow : OpenClaim := { program := "ytlldbfpccdmclaadoor", sum := "75e7b661a2e898286cf5fda0d2626929c0bae218210c3562a419e8bce092005b", func := "silhouette/silhouettelaw08.WalkStill", spec := "walkStill", inPlace := ["internal/reflectlite.ValueOf", "(internal/reflectlite.Value).Type", "(internal/reflectlite.Value).IsNil", "internal/reflectlite.TypeOf", "(internal/reflectlite.Value).Elem", "(internal/reflectlite.Value).Set"], unfollowed := true, recurses := true, named := ["errors.errorType"], apart := false, laid := [("errors.errorType", laid_errors_errorType)], narrowed := true }
def WalkStillUptoSaid : Prop := walkStillUptoRow.holds Tryd.pinned (OpenSpec.upto walkStillSpec)

/-- 'silhouettelaw08.WalkMarks', WHERE WHAT IT READS IS OF BULK AT MOST 1048576: true; the input reads as it did. -/
def walkMarksUptoRow : OpenClaim := { program := "ytlldbfpccdmclaadoor", sum := "75e7b661a2e898286cf5fda0d2626929c0bae218210c3562a419e8bce092005b", func := "silhouette/silhouettelaw08.WalkMarks", spec := "walkMarks", inPlace := ["internal/reflectlite.ValueOf", "(internal/reflectlite.Value).Type", "(internal/reflectlite.Value).IsNil", "internal/reflectlite.TypeOf", "(internal/reflectlite.Value).Elem", "(internal/reflectlite.Value).Set"], unfollowed := true, recurses := true, named := ["errors.errorType"], apart := false, laid := [("errors.errorType", laid_errors_errorType)], narrowed := true }
def WalkMarksUptoSaid : Prop := walkMarksUptoRow.holds Tryd.pinned (OpenSpec.upto walkMarksSpec)

end Rows
end Go.Proofs.YtlldbfpccdmclaaDoor
