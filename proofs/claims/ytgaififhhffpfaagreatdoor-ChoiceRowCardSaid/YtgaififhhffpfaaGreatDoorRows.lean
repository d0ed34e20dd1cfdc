/-
  NARROWER THAN 'FOR EVERY INPUT', by the rows' own cells (each row's printed sentence says how): ModelFresh: laid · ModelPlays: laid · ModelKnown: laid · ModelFinds: laid · ModelRoots: laid · ChoicePage: laid · ChoiceRow: laid · ChoiceFinds: laid · ChoiceTells: laid · ChoiceMemory: laid · ChoiceFree: laid.
  DERIVED. THE GIVEN ROWS OF THIS SEAT. 11 by the template 'for every input the law returns true; each argument reads behind the call as it read before'; 0 by the template 'total and deterministic' (their statements: YtgaififhhffpfaaGreatDoorTotals.lean).
  GIVEN WITH THE SEED: the statements are not yours to turn. If you find one false, say at which input.
  Laid BY PROGRAM, IN A SANDBOX (cutbox-rows.mjs): the forced cells as the released guide's own fill.sh prints them over the translation 18cd3d0623e04d74… (all of the seat's roots in one cut). By AI agents, Wed Nov 11 2026. No macro, syntax, notation, axiom, sorry.
-/
import Derived.Test.YtgaififhhffpfaaGreatDoorChecked
import GoSem.Claim
import GoSem.ClaimJoined
import GoSem.ClaimMapViews
import Derived.JoinedTies
import Derived.KernelRfl
namespace Go.Proofs.YtgaififhhffpfaaGreatDoor
/- THE CELL 'sum', in the pinned program and in every row, IS THE sha256 OF THE DUMP (.gsa) THAT YtgaififhhffpfaaGreatDoorProg.lean LOADS. Nothing in Lean hashes anything: it is a label: what it is worth is what the hold of that sum in a sandbox is worth. -/
noncomputable def Tryz.pinned : Pinned := { name := "ytgaififhhffpfaagreatdoor", sum := "18cd3d0623e04d7472960c6d819615a0a067a873475e8f94ffdaae58d9f877d2", checked := Tryz.checked }
namespace Rows
def none {H : Type} : Left H := { results := [], args := [] }

/- WHAT THE LISTED PACKAGE-LEVEL VARIABLES READ AS WHEN THE CALL BEGINS. Each datum BY PROGRAM (the guide's laid-datum.mjs) off the statement by which the dump's own 'gosem.cut.vars' lays the variable. In a bare row this is a premise. The card (YtgaififhhffpfaaGreatDoorCards.lean) ties it to the program's text. -/
def laid_errors_errorType {H : Type} : DataW H := .iface "internal/reflectlite.rtype" (.agg [.ptr (.lit (.string [101, 114, 114, 111, 114]))])

/-- 'silhouettelaw10.ModelFresh': WHATEVER THE INPUT: true; the input reads as it did. -/
def modelFreshSpec : ChangeSpec := { name := "modelFresh", fn := fun _ => fun
  | [d1, d2, d3, d4, d5, d6, d7, d8] => { results := [.lit (.bool true)], args := [d1, d2, d3, d4, d5, d6, d7, d8] }
  | _ => none }
def modelFreshRow : OpenClaim := { program := "ytgaififhhffpfaagreatdoor", sum := "18cd3d0623e04d7472960c6d819615a0a067a873475e8f94ffdaae58d9f877d2", func := "silhouette/silhouettelaw10.ModelFresh", spec := "modelFresh", inPlace := ["internal/reflectlite.ValueOf", "(internal/reflectlite.Value).Type", "(internal/reflectlite.Value).IsNil", "internal/reflectlite.TypeOf", "(internal/reflectlite.Value).Elem", "(internal/reflectlite.Value).Set"], unfollowed := true, recurses := true, named := ["errors.errorType"], apart := false, laid := [("errors.errorType", laid_errors_errorType)] }
def ModelFreshSaid : Prop := modelFreshRow.holds Tryz.pinned (OpenSpec.ofChange modelFreshSpec)

/-- ITS FALSE NEIGHBOUR: 'it returns false'. Refute it at one input. -/
def modelFreshWrong : ChangeSpec := { name := "modelFresh", fn := fun _ => fun
  | [d1, d2, d3, d4, d5, d6, d7, d8] => { results := [.lit (.bool false)], args := [d1, d2, d3, d4, d5, d6, d7, d8] }
  | _ => none }
def ModelFreshWrongFalsely : Prop := modelFreshRow.holds Tryz.pinned (OpenSpec.ofChange modelFreshWrong)

/-- 'silhouettelaw10.ModelPlays': WHATEVER THE INPUT: true; the input reads as it did. -/
def modelPlaysSpec : ChangeSpec := { name := "modelPlays", fn := fun _ => fun
  | [d1, d2, d3] => { results := [.lit (.bool true)], args := [d1, d2, d3] }
  | _ => none }
def modelPlaysRow : OpenClaim := { program := "ytgaififhhffpfaagreatdoor", sum := "18cd3d0623e04d7472960c6d819615a0a067a873475e8f94ffdaae58d9f877d2", func := "silhouette/silhouettelaw10.ModelPlays", spec := "modelPlays", inPlace := ["internal/reflectlite.ValueOf", "(internal/reflectlite.Value).Type", "(internal/reflectlite.Value).IsNil", "internal/reflectlite.TypeOf", "(internal/reflectlite.Value).Elem", "(internal/reflectlite.Value).Set"], unfollowed := true, recurses := true, named := ["errors.errorType"], apart := false, laid := [("errors.errorType", laid_errors_errorType)] }
def ModelPlaysSaid : Prop := modelPlaysRow.holds Tryz.pinned (OpenSpec.ofChange modelPlaysSpec)

/-- ITS FALSE NEIGHBOUR: 'it returns false'. Refute it at one input. -/
def modelPlaysWrong : ChangeSpec := { name := "modelPlays", fn := fun _ => fun
  | [d1, d2, d3] => { results := [.lit (.bool false)], args := [d1, d2, d3] }
  | _ => none }
def ModelPlaysWrongFalsely : Prop := modelPlaysRow.holds Tryz.pinned (OpenSpec.ofChange modelPlaysWrong)

/-- 'silhouettelaw10.ModelKnown': WHATEVER THE INPUT: true; the input reads as it did. -/
def modelKnownSpec : ChangeSpec := { name := "modelKnown", fn := fun _ => fun
  | [d1, d2, d3, d4, d5, d6] => { results := [.lit (.bool true)], args := [d1, d2, d3, d4, d5, d6] }
  | _ => none }
def modelKnownRow : OpenClaim := { program := "ytgaififhhffpfaagreatdoor", sum := "18cd3d0623e04d7472960c6d819615a0a067a873475e8f94ffdaae58d9f877d2", func := "silhouette/silhouettelaw10.ModelKnown", spec := "modelKnown", inPlace := ["internal/reflectlite.ValueOf", "(internal/reflectlite.Value).Type", "(internal/reflectlite.Value).IsNil", "internal/reflectlite.TypeOf", "(internal/reflectlite.Value).Elem", "(internal/reflectlite.Value).Set"], unfollowed := true, recurses := true, named := ["errors.errorType"], apart := false, laid := [("errors.errorType", laid_errors_errorType)] }
def ModelKnownSaid : Prop := modelKnownRow.holds Tryz.pinned (OpenSpec.ofChange modelKnownSpec)

/-- ITS FALSE NEIGHBOUR: 'it returns false'. Refute it at one input. -/
def modelKnownWrong : ChangeSpec := { name := "modelKnown", fn := fun _ => fun
  | [d1, d2, d3, d4, d5, d6] => { results := [.lit (.bool false)], args := [d1, d2, d3, d4, d5, d6] }
  | _ => none }
def ModelKnownWrongFalsely : Prop := modelKnownRow.holds Tryz.pinned (OpenSpec.ofChange modelKnownWrong)

/-- 'silhouettelaw10.ModelFinds': WHATEVER THE INPUT: true; the input reads as it did. -/
def modelFindsSpec : ChangeSpec := { name := "modelFinds", fn := fun _ => fun
  | [d1, d2, d3] => { results := [.lit (.bool true)], args := [d1, d2, d3] }
  | _ => none }
def modelFindsRow : OpenClaim := { program := "ytgaififhhffpfaagreatdoor", sum := "18cd3d0623e04d7472960c6d819615a0a067a873475e8f94ffdaae58d9f877d2", func := "silhouette/silhouettelaw10.ModelFinds", spec := "modelFinds", inPlace := ["internal/reflectlite.ValueOf", "(internal/reflectlite.Value).Type", "(internal/reflectlite.Value).IsNil", "internal/reflectlite.TypeOf", "(internal/reflectlite.Value).Elem", "(internal/reflectlite.Value).Set"], unfollowed := true, recurses := true, named := ["errors.errorType"], apart := false, laid := [("errors.errorType", laid_errors_errorType)] }
def ModelFindsSaid : Prop := modelFindsRow.holds Tryz.pinned (OpenSpec.ofChange modelFindsSpec)

/-- ITS FALSE NEIGHBOUR: 'it returns false'. Refute it at one input. -/
def modelFindsWrong : ChangeSpec := { name := "modelFinds", fn := fun _ => fun
  | [d1, d2, d3] => { results := [.lit (.bool false)], args := [d1, d2, d3] }
  | _ => none }
def ModelFindsWrongFalsely : Prop := modelFindsRow.holds Tryz.pinned (OpenSpec.ofChange modelFindsWrong)

/-- 'silhouettelaw10.ModelRoots': WHATEVER THE INPUT: true; the input reads as it did. -/
def modelRootsSpec : ChangeSpec := { name := "modelRoots", fn := fun _ => fun
  | [d1, d2, d3, d4, d5, d6] => { results := [.lit (.bool true)], args := [d1, d2, d3, d4, d5, d6] }
  | _ => none }
def modelRootsRow : OpenClaim := { program := "ytgaififhhffpfaagreatdoor", sum := "18cd3d0623e04d7472960c6d819615a0a067a873475e8f94ffdaae58d9f877d2", func := "silhouette/silhouettelaw10.ModelRoots", spec := "modelRoots", inPlace := ["internal/reflectlite.ValueOf", "(internal/reflectlite.Value).Type", "(internal/reflectlite.Value).IsNil", "internal/reflectlite.TypeOf", "(internal/reflectlite.Value).Elem", "(internal/reflectlite.Value).Set"], unfollowed := true, recurses := true, named := ["errors.errorType"], apart := false, laid := [("errors.errorType", laid_errors_errorType)] }
def ModelRootsSaid : Prop := modelRootsRow.holds Tryz.pinned (OpenSpec.ofChange modelRootsSpec)

/-- ITS FALSE NEIGHBOUR: 'it returns false'. Refute it at one input. -/
def modelRootsWrong : ChangeSpec := { name := "modelRoots", fn := fun _ => fun
  | [d1, d2, d3, d4, d5, d6] => { results := [.lit (.bool false)], args := [d1, d2, d3, d4, d5, d6] }
  | _ => none }
def ModelRootsWrongFalsely : Prop := modelRootsRow.holds Tryz.pinned (OpenSpec.ofChange modelRootsWrong)

/-- 'silhouettelaw11.ChoicePage': WHATEVER THE INPUT: true; the input reads as it did. -/
def choicePageSpec : ChangeSpec := { name := "choicePage", fn := fun _ => fun
  | [d1, d2, d3, d4] => { results := [.lit (.bool true)], args := [d1, d2, d3, d4] }
  | _ => none }
def choicePageRow : OpenClaim := { program := "ytgaififhhffpfaagreatdoor", sum := "18cd3d0623e04d7472960c6d819615a0a067a873475e8f94ffdaae58d9f877d2", func := "silhouette/silhouettelaw11.ChoicePage", spec := "choicePage", inPlace := ["internal/reflectlite.ValueOf", "(internal/reflectlite.Value).Type", "(internal/reflectlite.Value).IsNil", "internal/reflectlite.TypeOf", "(internal/reflectlite.Value).Elem", "(internal/reflectlite.Value).Set"], unfollowed := true, recurses := true, named := ["errors.errorType"], apart := false, laid := [("errors.errorType", laid_errors_errorType)] }
def ChoicePageSaid : Prop := choicePageRow.holds Tryz.pinned (OpenSpec.ofChange choicePageSpec)

/-- ITS FALSE NEIGHBOUR: 'it returns false'. Refute it at one input. -/
def choicePageWrong : ChangeSpec := { name := "choicePage", fn := fun _ => fun
  | [d1, d2, d3, d4] => { results := [.lit (.bool false)], args := [d1, d2, d3, d4] }
  | _ => none }
def ChoicePageWrongFalsely : Prop := choicePageRow.holds Tryz.pinned (OpenSpec.ofChange choicePageWrong)

/-- 'silhouettelaw11.ChoiceRow': WHATEVER THE INPUT: true; the input reads as it did. -/
def choiceRowSpec : ChangeSpec := { name := "choiceRow", fn := fun _ => fun
  | [d1, d2, d3, d4] => { results := [.lit (.bool true)], args := [d1, d2, d3, d4] }
  | _ => none }
def choiceRowRow : OpenClaim := { program := "ytgaififhhffpfaagreatdoor", sum := "18cd3d0623e04d7472960c6d819615a0a067a873475e8f94ffdaae58d9f877d2", func := "silhouette/silhouettelaw11.ChoiceRow", spec := "choiceRow", inPlace := ["internal/reflectlite.ValueOf", "(internal/reflectlite.Value).Type", "(internal/reflectlite.Value).IsNil", "internal/reflectlite.TypeOf", "(internal/reflectlite.Value).Elem", "(internal/reflectlite.Value).Set"], unfollowed := true, recurses := true, named := ["errors.errorType"], apart := false, laid := [("errors.errorType", laid_errors_errorType)] }
def ChoiceRowSaid : Prop := choiceRowRow.holds Tryz.pinned (OpenSpec.ofChange choiceRowSpec)

/-- ITS FALSE NEIGHBOUR: 'it returns false'. Refute it at one input. -/
def choiceRowWrong : ChangeSpec := { name := "choiceRow", fn := fun _ => fun
  | [d1, d2, d3, d4] => { results := [.lit (.bool false)], args := [d1, d2, d3, d4] }
  | _ => none }
def ChoiceRowWrongFalsely : Prop := choiceRowRow.holds Tryz.pinned (OpenSpec.ofChange choiceRowWrong)

/-- 'silhouettelaw11.ChoiceFinds': WHATEVER THE INPUT: true; the input reads as it did. -/
def choiceFindsSpec : ChangeSpec := { name := "choiceFinds", fn := fun _ => fun
  | [d1, d2, d3] => { results := [.lit (.bool true)], args := [d1, d2, d3] }
  | _ => none }
def choiceFindsRow : OpenClaim := { program := "ytgaififhhffpfaagreatdoor", sum := "18cd3d0623e04d7472960c6d819615a0a067a873475e8f94ffdaae58d9f877d2", func := "silhouette/silhouettelaw11.ChoiceFinds", spec := "choiceFinds", inPlace := ["internal/reflectlite.ValueOf", "(internal/reflectlite.Value).Type", "(internal/reflectlite.Value).IsNil", "internal/reflectlite.TypeOf", "(internal/reflectlite.Value).Elem", "(internal/reflectlite.Value).Set"], unfollowed := true, recurses := true, named := ["errors.errorType"], apart := false, laid := [("errors.errorType", laid_errors_errorType)] }
def ChoiceFindsSaid : Prop := choiceFindsRow.holds Tryz.pinned (OpenSpec.ofChange choiceFindsSpec)

/-- ITS FALSE NEIGHBOUR: 'it returns false'. Refute it at one input. -/
def choiceFindsWrong : ChangeSpec := { name := "choiceFinds", fn := fun _ => fun
  | [d1, d2, d3] => { results := [.lit (.bool false)], args := [d1, d2, d3] }
  | _ => none }
def ChoiceFindsWrongFalsely : Prop := choiceFindsRow.holds Tryz.pinned (OpenSpec.ofChange choiceFindsWrong)

/-- 'silhouettelaw11.ChoiceTells': WHATEVER THE INPUT: true; the input reads as it did. -/
def choiceTellsSpec : ChangeSpec := { name := "choiceTells", fn := fun _ => fun
  | [d1, d2, d3, d4] => { results := [.lit (.bool true)], args := [d1, d2, d3, d4] }
  | _ => none }
def choiceTellsRow : OpenClaim := { program := "ytgaififhhffpfaagreatdoor", sum := "18cd3d0623e04d7472960c6d819615a0a067a873475e8f94ffdaae58d9f877d2", func := "silhouette/silhouettelaw11.ChoiceTells", spec := "choiceTells", inPlace := ["internal/reflectlite.ValueOf", "(internal/reflectlite.Value).Type", "(internal/reflectlite.Value).IsNil", "internal/reflectlite.TypeOf", "(internal/reflectlite.Value).Elem", "(internal/reflectlite.Value).Set"], unfollowed := true, recurses := true, named := ["errors.errorType"], apart := false, laid := [("errors.errorType", laid_errors_errorType)] }
def ChoiceTellsSaid : Prop := choiceTellsRow.holds Tryz.pinned (OpenSpec.ofChange choiceTellsSpec)

/-- ITS FALSE NEIGHBOUR: 'it returns false'. Refute it at one input. -/
def choiceTellsWrong : ChangeSpec := { name := "choiceTells", fn := fun _ => fun
  | [d1, d2, d3, d4] => { results := [.lit (.bool false)], args := [d1, d2, d3, d4] }
  | _ => none }
def ChoiceTellsWrongFalsely : Prop := choiceTellsRow.holds Tryz.pinned (OpenSpec.ofChange choiceTellsWrong)

/-- 'silhouettelaw11.ChoiceMemory': WHATEVER THE INPUT: true; the input reads as it did. -/
def choiceMemorySpec : ChangeSpec := { name := "choiceMemory", fn := fun _ => fun
  | [d1, d2, d3] => { results := [.lit (.bool true)], args := [d1, d2, d3] }
  | _ => none }
def choiceMemoryRow : OpenClaim := { program := "ytgaififhhffpfaagreatdoor", sum := "18cd3d0623e04d7472960c6d819615a0a067a873475e8f94ffdaae58d9f877d2", func := "silhouette/silhouettelaw11.ChoiceMemory", spec := "choiceMemory", inPlace := ["internal/reflectlite.ValueOf", "(internal/reflectlite.Value).Type", "(internal/reflectlite.Value).IsNil", "internal/reflectlite.TypeOf", "(internal/reflectlite.Value).Elem", "(internal/reflectlite.Value).Set"], unfollowed := true, recurses := true, named := ["errors.errorType"], apart := false, laid := [("errors.errorType", laid_errors_errorType)] }
def ChoiceMemorySaid : Prop := choiceMemoryRow.holds Tryz.pinned (OpenSpec.ofChange choiceMemorySpec)

/-- ITS FALSE NEIGHBOUR: 'it returns false'. Refute it at one input. -/
def choiceMemoryWrong : ChangeSpec := { name := "choiceMemory", fn := fun _ => fun
  | [d1, d2, d3] => { results := [.lit (.bool false)], args := [d1, d2, d3] }
  | _ => none }
def ChoiceMemoryWrongFalsely : Prop := choiceMemoryRow.holds Tryz.pinned (OpenSpec.ofChange choiceMemoryWrong)

/-- 'silhouettelaw11.ChoiceFree': WHATEVER THE INPUT: true; the input reads as it did. -/
def choiceFreeSpec : ChangeSpec := { name := "choiceFree", fn := fun _ => fun
  | [d1, d2, d3, d4, d5] => { results := [.lit (.bool true)], args := [d1, d2, d3, d4, d5] }
  | _ => none }
def choiceFreeRow : OpenClaim := { program := "ytgaififhhffpfaagreatdoor", sum := "18cd3d0623e04d7472960c6d819615a0a067a873475e8f94ffdaae58d9f877d2", func := "silhouette/silhouettelaw11.ChoiceFree", spec := "choiceFree", inPlace := ["internal/reflectlite.ValueOf", "(internal/reflectlite.Value).Type", "(internal/reflectlite.Value).IsNil", "internal/reflectlite.TypeOf", "(internal/reflectlite.Value).Elem", "(internal/reflectlite.Value).Set"], unfollowed := true, recurses := true, named := ["errors.errorType"], apart := false, laid := [("errors.errorType", laid_errors_errorType)] }
def ChoiceFreeSaid : Prop := choiceFreeRow.holds Tryz.pinned (OpenSpec.ofChange choiceFreeSpec)

/-- ITS FALSE NEIGHBOUR: 'it returns false'. Refute it at one input. -/
def choiceFreeWrong : ChangeSpec := { name := "choiceFree", fn := fun _ => fun
  | [d1, d2, d3, d4, d5] => { results := [.lit (.bool false)], args := [d1, d2, d3, d4, d5] }
  | _ => none }
def ChoiceFreeWrongFalsely : Prop := choiceFreeRow.holds Tryz.pinned (OpenSpec.ofChange choiceFreeWrong)

/- THE SECOND FORM. 'bulk': how many values and letters a reading holds, each counted each time it is reached (what is shared counts as often as it is met; a slice's spare places count too). A statement '..UptoSaid' is the law's where the arguments, and the package variables that the reading takes, are together of bulk at most 1048576: NARROWER than '..Said'. Prove '..Said' where nothing that the law and all that it calls make is longer than what came in: it says more and counts as full. Else prove '..UptoSaid'. A law counts once. -/
mutual
def uptoBulk {H : Type} : DataW H → Nat
  | .lit (.string bytes) => bytes.length + 1
  | .lit _ => 1
  | .nil => 1
  | .ptr d => uptoBulk d + 1
  | .slice elems spare => uptoBulkAll elems + uptoBulkAll spare + 1
  | .agg parts => uptoBulkAll parts + 1
  | .iface _ d => uptoBulk d + 1
  | .map entries => uptoBulkEntries entries + 1
  | .held _ => 1
def uptoBulkAll {H : Type} : List (DataW H) → Nat
  | [] => 0
  | d :: r => uptoBulk d + uptoBulkAll r
def uptoBulkEntries {H : Type} : List (Lit × DataW H) → Nat
  | [] => 0
  | x :: r => uptoBulkEntry x + uptoBulkEntries r
def uptoBulkEntry {H : Type} : Lit × DataW H → Nat
  | (.string bytes, d) => bytes.length + uptoBulk d + 1
  | (_, d) => uptoBulk d + 1
 end
def uptoSmall : (H : Type) → List (DataW H) → Bool := fun _ ds => decide (uptoBulkAll ds ≤ 1048576)
def OpenSpec.upto (s : _root_.Go.ChangeSpec) : _root_.Go.OpenSpec := { _root_.Go.OpenSpec.ofChange s with cond := some uptoSmall }

/-- 'silhouettelaw10.ModelFresh', WHERE WHAT IT READS IS OF BULK AT MOST 1048576: true; the input reads as it did. -/
def modelFreshUptoRow : OpenClaim := { program := "ytgaififhhffpfaagreatdoor", sum := "18cd3d0623e04d7472960c6d819615a0a067a873475e8f94ffdaae58d9f877d2", func := "silhouette/silhouettelaw10.ModelFresh", spec := "modelFresh", inPlace := ["internal/reflectlite.ValueOf", "(internal/reflectlite.Value).Type", "(internal/reflectlite.Value).IsNil", "internal/reflectlite.TypeOf", "(internal/reflectlite.Value).Elem", "(internal/reflectlite.Value).Set"], unfollowed := true, recurses := true, named := ["errors.errorType"], apart := false, laid := [("errors.errorType", laid_errors_errorType)], narrowed := true }
def ModelFreshUptoSaid : Prop := modelFreshUptoRow.holds Tryz.pinned (OpenSpec.upto modelFreshSpec)

/-- 'silhouettelaw10.ModelPlays', WHERE WHAT IT READS IS OF BULK AT MOST 1048576: true; the input reads as it did. -/
def modelPlaysUptoRow : OpenClaim := { program := "ytgaififhhffpfaagreatdoor", sum := "18cd3d0623e04d7472960c6d819615a0a067a873475e8f94ffdaae58d9f877d2", func := "silhouette/silhouettelaw10.ModelPlays", spec := "modelPlays", inPlace := ["internal/reflectlite.ValueOf", "(internal/reflectlite.Value).Type", "(internal/reflectlite.Value).IsNil", "internal/reflectlite.TypeOf", "(internal/reflectlite.Value).Elem", "(internal/reflectlite.Value).Set"], unfollowed := true, recurses := true, named := ["errors.errorType"], apart := false, laid := [("errors.errorType", laid_errors_errorType)], narrowed := true }
def ModelPlaysUptoSaid : Prop := modelPlaysUptoRow.holds Tryz.pinned (OpenSpec.upto modelPlaysSpec)

/-- 'silhouettelaw10.ModelKnown', WHERE WHAT IT READS IS OF BULK AT MOST 1048576: true; the input reads as it did. -/
def modelKnownUptoRow : OpenClaim := { program := "ytgaififhhffpfaagreatdoor", sum := "18cd3d0623e04d7472960c6d819615a0a067a873475e8f94ffdaae58d9f877d2", func := "silhouette/silhouettelaw10.ModelKnown", spec := "modelKnown", inPlace := ["internal/reflectlite.ValueOf", "(internal/reflectlite.Value).Type", "(internal/reflectlite.Value).IsNil", "internal/reflectlite.TypeOf", "(internal/reflectlite.Value).Elem", "(internal/reflectlite.Value).Set"], unfollowed := true, recurses := true, named := ["errors.errorType"], apart := false, laid := [("errors.errorType", laid_errors_errorType)], narrowed := true }
def ModelKnownUptoSaid : Prop := modelKnownUptoRow.holds Tryz.pinned (OpenSpec.upto modelKnownSpec)

/-- 'silhouettelaw10.ModelFinds', WHERE WHAT IT READS IS OF BULK AT MOST 1048576: true; the input reads as it did. -/
def modelFindsUptoRow : OpenClaim := { program := "ytgaififhhffpfaagreatdoor", sum := "18cd3d0623e04d7472960c6d819615a0a067a873475e8f94ffdaae58d9f877d2", func := "silhouette/silhouettelaw10.ModelFinds", spec := "modelFinds", inPlace := ["internal/reflectlite.ValueOf", "(internal/reflectlite.Value).Type", "(internal/reflectlite.Value).IsNil", "internal/reflectlite.TypeOf", "(internal/reflectlite.Value).Elem", "(internal/reflectlite.Value).Set"], unfollowed := true, recurses := true, named := ["errors.errorType"], apart := false, laid := [("errors.errorType", laid_errors_errorType)], narrowed := true }
def ModelFindsUptoSaid : Prop := modelFindsUptoRow.holds Tryz.pinned (OpenSpec.upto modelFindsSpec)

/-- 'silhouettelaw10.ModelRoots', WHERE WHAT IT READS IS OF BULK AT MOST 1048576: true; the input reads as it did. -/
def modelRootsUptoRow : OpenClaim := { program := "ytgaififhhffpfaagreatdoor", sum := "18cd3d0623e04d7472960c6d819615a0a067a873475e8f94ffdaae58d9f877d2", func := "silhouette/silhouettelaw10.ModelRoots", spec := "modelRoots", inPlace := ["internal/reflectlite.ValueOf", "(internal/reflectlite.Value).Type", "(internal/reflectlite.Value).IsNil", "internal/reflectlite.TypeOf", "(internal/reflectlite.Value).Elem", "(internal/reflectlite.Value).Set"], unfollowed := true, recurses := true, named := ["errors.errorType"], apart := false, laid := [("errors.errorType", laid_errors_errorType)], narrowed := true }
def ModelRootsUptoSaid : Prop := modelRootsUptoRow.holds Tryz.pinned (OpenSpec.upto modelRootsSpec)

/-- 'silhouettelaw11.ChoicePage', WHERE WHAT IT READS IS OF BULK AT MOST 1048576: true; the input reads as it did. -/
def choicePageUptoRow : OpenClaim := { program := "ytgaififhhffpfaagreatdoor", sum := "18cd3d0623e04d7472960c6d819615a0a067a873475e8f94ffdaae58d9f877d2", func := "silhouette/silhouettelaw11.ChoicePage", spec := "choicePage", inPlace := ["internal/reflectlite.ValueOf", "(internal/reflectlite.Value).Type", "(internal/reflectlite.Value).IsNil", "internal/reflectlite.TypeOf", "(internal/reflectlite.Value).Elem", "(internal/reflectlite.Value).Set"], unfollowed := true, recurses := true, named := ["errors.errorType"], apart := false, laid := [("errors.errorType", laid_errors_errorType)], narrowed := true }
def ChoicePageUptoSaid : Prop := choicePageUptoRow.holds Tryz.pinned (OpenSpec.upto choicePageSpec)

/-- 'silhouettelaw11.ChoiceRow', WHERE WHAT IT READS IS OF BULK AT MOST 1048576: true; the input reads as it did. -/
def choiceRowUptoRow : OpenClaim := { program := "ytgaififhhffpfaagreatdoor", sum := "18cd3d0623e04d7472960c6d819615a0a067a873475e8f94ffdaae58d9f877d2", func := "silhouette/silhouettelaw11.ChoiceRow", spec := "choiceRow", inPlace := ["internal/reflectlite.ValueOf", "(internal/reflectlite.Value).Type", "(internal/reflectlite.Value).IsNil", "internal/reflectlite.TypeOf", "(internal/reflectlite.Value).Elem", "(internal/reflectlite.Value).Set"], unfollowed := true, recurses := true, named := ["errors.errorType"], apart := false, laid := [("errors.errorType", laid_errors_errorType)], narrowed := true }
def ChoiceRowUptoSaid : Prop := choiceRowUptoRow.holds Tryz.pinned (OpenSpec.upto choiceRowSpec)

/-- 'silhouettelaw11.ChoiceFinds', WHERE WHAT IT READS IS OF BULK AT MOST 1048576: true; the input reads as it did. -/
def choiceFindsUptoRow : OpenClaim := { program := "ytgaififhhffpfaagreatdoor", sum := "18cd3d0623e04d7472960c6d819615a0a067a873475e8f94ffdaae58d9f877d2", func := "silhouette/silhouettelaw11.ChoiceFinds", spec := "choiceFinds", inPlace := ["internal/reflectlite.ValueOf", "(internal/reflectlite.Value).Type", "(internal/reflectlite.Value).IsNil", "internal/reflectlite.TypeOf", "(internal/reflectlite.Value).Elem", "(internal/reflectlite.Value).Set"], unfollowed := true, recurses := true, named := ["errors.errorType"], apart := false, laid := [("errors.errorType", laid_errors_errorType)], narrowed := true }
def ChoiceFindsUptoSaid : Prop := choiceFindsUptoRow.holds Tryz.pinned (OpenSpec.upto choiceFindsSpec)

/-- 'silhouettelaw11.ChoiceTells', WHERE WHAT IT READS IS OF BULK AT MOST 1048576: true; the input reads as it did. -/
def choiceTellsUptoRow : OpenClaim := { program := "ytgaififhhffpfaagreatdoor", sum := "18cd3d0623e04d7472960c6d819615a0a067a873475e8f94ffdaae58d9f877d2", func := "silhouette/silhouettelaw11.ChoiceTells", spec := "choiceTells", inPlace := ["internal/reflectlite.ValueOf", "(internal/reflectlite.Value).Type", "(internal/reflectlite.Value).IsNil", "internal/reflectlite.TypeOf", "(internal/reflectlite.Value).Elem", "(internal/reflectlite.Value).Set"], unfollowed := true, recurses := true, named := ["errors.errorType"], apart := false, laid := [("errors.errorType", laid_errors_errorType)], narrowed := true }
def ChoiceTellsUptoSaid : Prop := choiceTellsUptoRow.holds Tryz.pinned (OpenSpec.upto choiceTellsSpec)

/-- 'silhouettelaw11.ChoiceMemory', WHERE WHAT IT READS IS OF BULK AT MOST 1048576: true; the input reads as it did. -/
def choiceMemoryUptoRow : OpenClaim := { program := "ytgaififhhffpfaagreatdoor", sum := "18cd3d0623e04d7472960c6d819615a0a067a873475e8f94ffdaae58d9f877d2", func := "silhouette/silhouettelaw11.ChoiceMemory", spec := "choiceMemory", inPlace := ["internal/reflectlite.ValueOf", "(internal/reflectlite.Value).Type", "(internal/reflectlite.Value).IsNil", "internal/reflectlite.TypeOf", "(internal/reflectlite.Value).Elem", "(internal/reflectlite.Value).Set"], unfollowed := true, recurses := true, named := ["errors.errorType"], apart := false, laid := [("errors.errorType", laid_errors_errorType)], narrowed := true }
def ChoiceMemoryUptoSaid : Prop := choiceMemoryUptoRow.holds Tryz.pinned (OpenSpec.upto choiceMemorySpec)

/-- 'silhouettelaw11.ChoiceFree', WHERE WHAT IT READS IS OF BULK AT MOST 1048576: true; the input reads as it did. -/
def choiceFreeUptoRow : OpenClaim := { program := "ytgaififhhffpfaagreatdoor", sum := "18cd3d0623e04d7472960c6d819615a0a067a873475e8f94ffdaae58d9f877d2", func := "silhouette/silhouettelaw11.ChoiceFree", spec := "choiceFree", inPlace := ["internal/reflectlite.ValueOf", "(internal/reflectlite.Value).Type", "(internal/reflectlite.Value).IsNil", "internal/reflectlite.TypeOf", "(internal/reflectlite.Value).Elem", "(internal/reflectlite.Value).Set"], unfollowed := true, recurses := true, named := ["errors.errorType"], apart := false, laid := [("errors.errorType", laid_errors_errorType)], narrowed := true }
def ChoiceFreeUptoSaid : Prop := choiceFreeUptoRow.holds Tryz.pinned (OpenSpec.upto choiceFreeSpec)

end Rows
end Go.Proofs.YtgaififhhffpfaaGreatDoor
