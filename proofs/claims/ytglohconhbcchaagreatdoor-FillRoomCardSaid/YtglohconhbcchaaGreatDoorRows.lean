/-
  NARROWER THAN 'FOR EVERY INPUT', by the rows' own cells (each row's printed sentence says how): FillAnew: laid · FillRoom: laid · FillTables: laid · FillDirty: laid · FillPool: laid · FillFinds: laid · FillPlays: laid.
  DERIVED. THE GIVEN ROWS OF THIS SEAT. 7 by the template 'for every input the law returns true; each argument reads behind the call as it read before'; 0 by the template 'total and deterministic' (their statements: YtglohconhbcchaaGreatDoorTotals.lean).
  GIVEN WITH THE SEED: the statements are not yours to turn. If you find one false, say at which input.
  Laid BY PROGRAM, IN A SANDBOX (cutbox-rows.mjs): the forced cells as the released guide's own fill.sh prints them over the translation 02ea1a708a8bfe9b… (all of the seat's roots in one cut). By AI agents, Wed Nov 11 2026. No macro, syntax, notation, axiom, sorry.
-/
import Derived.Test.YtglohconhbcchaaGreatDoorChecked
import GoSem.Claim
import GoSem.ClaimJoined
import GoSem.ClaimMapViews
import Derived.JoinedTies
import Derived.KernelRfl
namespace Go.Proofs.YtglohconhbcchaaGreatDoor
/- THE CELL 'sum', in the pinned program and in every row, IS THE sha256 OF THE DUMP (.gsa) THAT YtglohconhbcchaaGreatDoorProg.lean LOADS. Nothing in Lean hashes anything: it is a label: what it is worth is what the hold of that sum in a sandbox is worth. -/
noncomputable def Tryz.pinned : Pinned := { name := "ytglohconhbcchaagreatdoor", sum := "02ea1a708a8bfe9b40875ebcfced0cbf02870b707d30456e4ed39bde35472dd2", checked := Tryz.checked }
namespace Rows
def none {H : Type} : Left H := { results := [], args := [] }

/- WHAT THE LISTED PACKAGE-LEVEL VARIABLES READ AS WHEN THE CALL BEGINS. Each datum BY PROGRAM (the guide's laid-datum.mjs) off the statement by which the dump's own 'gosem.cut.vars' lays the variable. In a bare row this is a premise. The card (YtglohconhbcchaaGreatDoorCards.lean) ties it to the program's text. -/
def laid_errors_errorType {H : Type} : DataW H := .iface "internal/reflectlite.rtype" (.agg [.ptr (.lit (.string [101, 114, 114, 111, 114]))])

/-- 'silhouettelaw17.FillAnew': WHATEVER THE INPUT: true; the input reads as it did. -/
def fillAnewSpec : ChangeSpec := { name := "fillAnew", fn := fun _ => fun
  | [d1, d2, d3] => { results := [.lit (.bool true)], args := [d1, d2, d3] }
  | _ => none }
def fillAnewRow : OpenClaim := { program := "ytglohconhbcchaagreatdoor", sum := "02ea1a708a8bfe9b40875ebcfced0cbf02870b707d30456e4ed39bde35472dd2", func := "silhouette/silhouettelaw17.FillAnew", spec := "fillAnew", inPlace := ["internal/reflectlite.ValueOf", "(internal/reflectlite.Value).Type", "(internal/reflectlite.Value).IsNil", "internal/reflectlite.TypeOf", "(internal/reflectlite.Value).Elem", "(internal/reflectlite.Value).Set"], unfollowed := true, recurses := true, named := ["errors.errorType"], apart := false, laid := [("errors.errorType", laid_errors_errorType)] }
def FillAnewSaid : Prop := fillAnewRow.holds Tryz.pinned (OpenSpec.ofChange fillAnewSpec)

/-- ITS FALSE NEIGHBOUR: 'it returns false'. Refute it at one input. -/
def fillAnewWrong : ChangeSpec := { name := "fillAnew", fn := fun _ => fun
  | [d1, d2, d3] => { results := [.lit (.bool false)], args := [d1, d2, d3] }
  | _ => none }
def FillAnewWrongFalsely : Prop := fillAnewRow.holds Tryz.pinned (OpenSpec.ofChange fillAnewWrong)

/-- 'silhouettelaw17.FillRoom': WHATEVER THE INPUT: true; the input reads as it did. -/
def fillRoomSpec : ChangeSpec := { name := "fillRoom", fn := fun _ => fun
  | [d1, d2] => { results := [.lit (.bool true)], args := [d1, d2] }
  | _ => none }
def fillRoomRow : OpenClaim := { program := "ytglohconhbcchaagreatdoor", sum := "02ea1a708a8bfe9b40875ebcfced0cbf02870b707d30456e4ed39bde35472dd2", func := "silhouette/silhouettelaw17.FillRoom", spec := "fillRoom", inPlace := ["internal/reflectlite.ValueOf", "(internal/reflectlite.Value).Type", "(internal/reflectlite.Value).IsNil", "internal/reflectlite.TypeOf", "(internal/reflectlite.Value).Elem", "(internal/reflectlite.Value).Set"], unfollowed := true, recurses := true, named := ["errors.errorType"], apart := false, laid := [("errors.errorType", laid_errors_errorType)] }
def FillRoomSaid : Prop := fillRoomRow.holds Tryz.pinned (OpenSpec.ofChange fillRoomSpec)

/-- ITS FALSE NEIGHBOUR: 'it returns false'. Refute it at one input. -/
def fillRoomWrong : ChangeSpec := { name := "fillRoom", fn := fun _ => fun
  | [d1, d2] => { results := [.lit (.bool false)], args := [d1, d2] }
  | _ => none }
def FillRoomWrongFalsely : Prop := fillRoomRow.holds Tryz.pinned (OpenSpec.ofChange fillRoomWrong)

/-- 'silhouettelaw17.FillTables': WHATEVER THE INPUT: true; the input reads as it did. -/
def fillTablesSpec : ChangeSpec := { name := "fillTables", fn := fun _ => fun
  | [d1, d2] => { results := [.lit (.bool true)], args := [d1, d2] }
  | _ => none }
def fillTablesRow : OpenClaim := { program := "ytglohconhbcchaagreatdoor", sum := "02ea1a708a8bfe9b40875ebcfced0cbf02870b707d30456e4ed39bde35472dd2", func := "silhouette/silhouettelaw17.FillTables", spec := "fillTables", inPlace := ["internal/reflectlite.ValueOf", "(internal/reflectlite.Value).Type", "(internal/reflectlite.Value).IsNil", "internal/reflectlite.TypeOf", "(internal/reflectlite.Value).Elem", "(internal/reflectlite.Value).Set"], unfollowed := true, recurses := true, named := ["errors.errorType"], apart := false, laid := [("errors.errorType", laid_errors_errorType)] }
def FillTablesSaid : Prop := fillTablesRow.holds Tryz.pinned (OpenSpec.ofChange fillTablesSpec)

/-- ITS FALSE NEIGHBOUR: 'it returns false'. Refute it at one input. -/
def fillTablesWrong : ChangeSpec := { name := "fillTables", fn := fun _ => fun
  | [d1, d2] => { results := [.lit (.bool false)], args := [d1, d2] }
  | _ => none }
def FillTablesWrongFalsely : Prop := fillTablesRow.holds Tryz.pinned (OpenSpec.ofChange fillTablesWrong)

/-- 'silhouettelaw17.FillDirty': WHATEVER THE INPUT: true; the input reads as it did. -/
def fillDirtySpec : ChangeSpec := { name := "fillDirty", fn := fun _ => fun
  | [d1, d2, d3, d4] => { results := [.lit (.bool true)], args := [d1, d2, d3, d4] }
  | _ => none }
def fillDirtyRow : OpenClaim := { program := "ytglohconhbcchaagreatdoor", sum := "02ea1a708a8bfe9b40875ebcfced0cbf02870b707d30456e4ed39bde35472dd2", func := "silhouette/silhouettelaw17.FillDirty", spec := "fillDirty", inPlace := ["internal/reflectlite.ValueOf", "(internal/reflectlite.Value).Type", "(internal/reflectlite.Value).IsNil", "internal/reflectlite.TypeOf", "(internal/reflectlite.Value).Elem", "(internal/reflectlite.Value).Set"], unfollowed := true, recurses := true, named := ["errors.errorType"], apart := false, laid := [("errors.errorType", laid_errors_errorType)] }
def FillDirtySaid : Prop := fillDirtyRow.holds Tryz.pinned (OpenSpec.ofChange fillDirtySpec)

/-- ITS FALSE NEIGHBOUR: 'it returns false'. Refute it at one input. -/
def fillDirtyWrong : ChangeSpec := { name := "fillDirty", fn := fun _ => fun
  | [d1, d2, d3, d4] => { results := [.lit (.bool false)], args := [d1, d2, d3, d4] }
  | _ => none }
def FillDirtyWrongFalsely : Prop := fillDirtyRow.holds Tryz.pinned (OpenSpec.ofChange fillDirtyWrong)

/-- 'silhouettelaw17.FillPool': WHATEVER THE INPUT: true; the input reads as it did. -/
def fillPoolSpec : ChangeSpec := { name := "fillPool", fn := fun _ => fun
  | [d1, d2, d3] => { results := [.lit (.bool true)], args := [d1, d2, d3] }
  | _ => none }
def fillPoolRow : OpenClaim := { program := "ytglohconhbcchaagreatdoor", sum := "02ea1a708a8bfe9b40875ebcfced0cbf02870b707d30456e4ed39bde35472dd2", func := "silhouette/silhouettelaw17.FillPool", spec := "fillPool", inPlace := ["internal/reflectlite.ValueOf", "(internal/reflectlite.Value).Type", "(internal/reflectlite.Value).IsNil", "internal/reflectlite.TypeOf", "(internal/reflectlite.Value).Elem", "(internal/reflectlite.Value).Set"], unfollowed := true, recurses := true, named := ["errors.errorType"], apart := false, laid := [("errors.errorType", laid_errors_errorType)] }
def FillPoolSaid : Prop := fillPoolRow.holds Tryz.pinned (OpenSpec.ofChange fillPoolSpec)

/-- ITS FALSE NEIGHBOUR: 'it returns false'. Refute it at one input. -/
def fillPoolWrong : ChangeSpec := { name := "fillPool", fn := fun _ => fun
  | [d1, d2, d3] => { results := [.lit (.bool false)], args := [d1, d2, d3] }
  | _ => none }
def FillPoolWrongFalsely : Prop := fillPoolRow.holds Tryz.pinned (OpenSpec.ofChange fillPoolWrong)

/-- 'silhouettelaw17.FillFinds': WHATEVER THE INPUT: true; the input reads as it did. -/
def fillFindsSpec : ChangeSpec := { name := "fillFinds", fn := fun _ => fun
  | [d1, d2, d3, d4, d5, d6] => { results := [.lit (.bool true)], args := [d1, d2, d3, d4, d5, d6] }
  | _ => none }
def fillFindsRow : OpenClaim := { program := "ytglohconhbcchaagreatdoor", sum := "02ea1a708a8bfe9b40875ebcfced0cbf02870b707d30456e4ed39bde35472dd2", func := "silhouette/silhouettelaw17.FillFinds", spec := "fillFinds", inPlace := ["internal/reflectlite.ValueOf", "(internal/reflectlite.Value).Type", "(internal/reflectlite.Value).IsNil", "internal/reflectlite.TypeOf", "(internal/reflectlite.Value).Elem", "(internal/reflectlite.Value).Set"], unfollowed := true, recurses := true, named := ["errors.errorType"], apart := false, laid := [("errors.errorType", laid_errors_errorType)] }
def FillFindsSaid : Prop := fillFindsRow.holds Tryz.pinned (OpenSpec.ofChange fillFindsSpec)

/-- ITS FALSE NEIGHBOUR: 'it returns false'. Refute it at one input. -/
def fillFindsWrong : ChangeSpec := { name := "fillFinds", fn := fun _ => fun
  | [d1, d2, d3, d4, d5, d6] => { results := [.lit (.bool false)], args := [d1, d2, d3, d4, d5, d6] }
  | _ => none }
def FillFindsWrongFalsely : Prop := fillFindsRow.holds Tryz.pinned (OpenSpec.ofChange fillFindsWrong)

/-- 'silhouettelaw17.FillPlays': WHATEVER THE INPUT: true; the input reads as it did. -/
def fillPlaysSpec : ChangeSpec := { name := "fillPlays", fn := fun _ => fun
  | [d1, d2] => { results := [.lit (.bool true)], args := [d1, d2] }
  | _ => none }
def fillPlaysRow : OpenClaim := { program := "ytglohconhbcchaagreatdoor", sum := "02ea1a708a8bfe9b40875ebcfced0cbf02870b707d30456e4ed39bde35472dd2", func := "silhouette/silhouettelaw17.FillPlays", spec := "fillPlays", inPlace := ["internal/reflectlite.ValueOf", "(internal/reflectlite.Value).Type", "(internal/reflectlite.Value).IsNil", "internal/reflectlite.TypeOf", "(internal/reflectlite.Value).Elem", "(internal/reflectlite.Value).Set"], unfollowed := true, recurses := true, named := ["errors.errorType"], apart := false, laid := [("errors.errorType", laid_errors_errorType)] }
def FillPlaysSaid : Prop := fillPlaysRow.holds Tryz.pinned (OpenSpec.ofChange fillPlaysSpec)

/-- ITS FALSE NEIGHBOUR: 'it returns false'. Refute it at one input. -/
def fillPlaysWrong : ChangeSpec := { name := "fillPlays", fn := fun _ => fun
  | [d1, d2] => { results := [.lit (.bool false)], args := [d1, d2] }
  | _ => none }
def FillPlaysWrongFalsely : Prop := fillPlaysRow.holds Tryz.pinned (OpenSpec.ofChange fillPlaysWrong)

/- THE SECOND FORM. 'bulk': how many values and letters a reading holds, each counted each time it is reached (what is shared counts as often as it is met; a slice's spare places count too). A statement '..UptoSaid' is the law's where the arguments, and the package variables that the reading takes, are together of bulk at most 1048576: NARROWER than '..Said'. Prove '..Said' where nothing that the law and all that it calls make is longer than what came in: it says more and counts as full. Else prove '..UptoSaid'. A law counts once. -/
mutual
def uptoBulk {H : Type} : DataW H → Nat
  | .lit (.string bytes) => bytes.length + 1
  | .lit _ => 1
  | .nil => 1
  | .ptr d => uptoBulk d + 1
  | .slice elems spare => uptoBulkAll elems + uptoBulkAll spare + 1
  | .agg parts => uptoBulkAll parts + 1
  | .iface _ d => uptoBulk d + 1
  | .map entries => uptoBulkEntries entries + 1
  | .held _ => 1
def uptoBulkAll {H : Type} : List (DataW H) → Nat
  | [] => 0
  | d :: r => uptoBulk d + uptoBulkAll r
def uptoBulkEntries {H : Type} : List (Lit × DataW H) → Nat
  | [] => 0
  | x :: r => uptoBulkEntry x + uptoBulkEntries r
def uptoBulkEntry {H : Type} : Lit × DataW H → Nat
  | (.string bytes, d) => bytes.length + uptoBulk d + 1
  | (_, d) => uptoBulk d + 1
 end
def uptoSmall : (H : Type) → List (DataW H) → Bool := fun _ ds => decide (uptoBulkAll ds ≤ 1048576)
def OpenSpec.upto (s : _root_.Go.ChangeSpec) : _root_.Go.OpenSpec := { _root_.Go.OpenSpec.ofChange s with cond := some uptoSmall }

/-- 'silhouettelaw17.FillAnew', WHERE WHAT IT READS IS OF BULK AT MOST 1048576: true; the input reads as it did. -/
def fillAnewUptoRow : OpenClaim := { program := "ytglohconhbcchaagreatdoor", sum := "02ea1a708a8bfe9b40875ebcfced0cbf02870b707d30456e4ed39bde35472dd2", func := "silhouette/silhouettelaw17.FillAnew", spec := "fillAnew", inPlace := ["internal/reflectlite.ValueOf", "(internal/reflectlite.Value).Type", "(internal/reflectlite.Value).IsNil", "internal/reflectlite.TypeOf", "(internal/reflectlite.Value).Elem", "(internal/reflectlite.Value).Set"], unfollowed := true, recurses := true, named := ["errors.errorType"], apart := false, laid := [("errors.errorType", laid_errors_errorType)], narrowed := true }
def FillAnewUptoSaid : Prop := fillAnewUptoRow.holds Tryz.pinned (OpenSpec.upto fillAnewSpec)

/-- 'silhouettelaw17.FillRoom', WHERE WHAT IT READS IS OF BULK AT MOST 1048576: true; the input reads as it did. -/
def fillRoomUptoRow : OpenClaim := { program := "ytglohconhbcchaagreatdoor", sum := "02ea1a708a8bfe9b40875ebcfced0cbf02870b707d30456e4ed39bde35472dd2", func := "silhouette/silhouettelaw17.FillRoom", spec := "fillRoom", inPlace := ["internal/reflectlite.ValueOf", "(internal/reflectlite.Value).Type", "(internal/reflectlite.Value).IsNil", "internal/reflectlite.TypeOf", "(internal/reflectlite.Value).Elem", "(internal/reflectlite.Value).Set"], unfollowed := true, recurses := true, named := ["errors.errorType"], apart := false, laid := [("errors.errorType", laid_errors_errorType)], narrowed := true }
def FillRoomUptoSaid : Prop := fillRoomUptoRow.holds Tryz.pinned (OpenSpec.upto fillRoomSpec)

/-- 'silhouettelaw17.FillTables', WHERE WHAT IT READS IS OF BULK AT MOST 1048576: true; the input reads as it did. -/
def fillTablesUptoRow : OpenClaim := { program := "ytglohconhbcchaagreatdoor", sum := "02ea1a708a8bfe9b40875ebcfced0cbf02870b707d30456e4ed39bde35472dd2", func := "silhouette/silhouettelaw17.FillTables", spec := "fillTables", inPlace := ["internal/reflectlite.ValueOf", "(internal/reflectlite.Value).Type", "(internal/reflectlite.Value).IsNil", "internal/reflectlite.TypeOf", "(internal/reflectlite.Value).Elem", "(internal/reflectlite.Value).Set"], unfollowed := true, recurses := true, named := ["errors.errorType"], apart := false, laid := [("errors.errorType", laid_errors_errorType)], narrowed := true }
def FillTablesUptoSaid : Prop := fillTablesUptoRow.holds Tryz.pinned (OpenSpec.upto fillTablesSpec)

/-- 'silhouettelaw17.FillDirty', WHERE WHAT IT READS IS OF BULK AT MOST 1048576: true; the input reads as it did. -/
def fillDirtyUptoRow : OpenClaim := { program := "ytglohconhbcchaagreatdoor", sum := "02ea1a708a8bfe9b40875ebcfced0cbf02870b707d30456e4ed39bde35472dd2", func := "silhouette/silhouettelaw17.FillDirty", spec := "fillDirty", inPlace := ["internal/reflectlite.ValueOf", "(internal/reflectlite.Value).Type", "(internal/reflectlite.Value).IsNil", "internal/reflectlite.TypeOf", "(internal/reflectlite.Value).Elem", "(internal/reflectlite.Value).Set"], unfollowed := true, recurses := true, named := ["errors.errorType"], apart := false, laid := [("errors.errorType", laid_errors_errorType)], narrowed := true }
def FillDirtyUptoSaid : Prop := fillDirtyUptoRow.holds Tryz.pinned (OpenSpec.upto fillDirtySpec)

/-- 'silhouettelaw17.FillPool', WHERE WHAT IT READS IS OF BULK AT MOST 1048576: true; the input reads as it did. -/
def fillPoolUptoRow : OpenClaim := { program := "ytglohconhbcchaagreatdoor", sum := "02ea1a708a8bfe9b40875ebcfced0cbf02870b707d30456e4ed39bde35472dd2", func := "silhouette/silhouettelaw17.FillPool", spec := "fillPool", inPlace := ["internal/reflectlite.ValueOf", "(internal/reflectlite.Value).Type", "(internal/reflectlite.Value).IsNil", "internal/reflectlite.TypeOf", "(internal/reflectlite.Value).Elem", "(internal/reflectlite.Value).Set"], unfollowed := true, recurses := true, named := ["errors.errorType"], apart := false, laid := [("errors.errorType", laid_errors_errorType)], narrowed := true }
def FillPoolUptoSaid : Prop := fillPoolUptoRow.holds Tryz.pinned (OpenSpec.upto fillPoolSpec)

/-- 'silhouettelaw17.FillFinds', WHERE WHAT IT READS IS OF BULK AT MOST 1048576: true; the input reads as it did. -/
def fillFindsUptoRow : OpenClaim := { program := "ytglohconhbcchaagreatdoor", sum := "02ea1a708a8bfe9b40875ebcfced0cbf02870b707d30456e4ed39bde35472dd2", func := "silhouette/silhouettelaw17.FillFinds", spec := "fillFinds", inPlace := ["internal/reflectlite.ValueOf", "(internal/reflectlite.Value).Type", "(internal/reflectlite.Value).IsNil", "internal/reflectlite.TypeOf", "(internal/reflectlite.Value).Elem", "(internal/reflectlite.Value).Set"], unfollowed := true, recurses := true, named := ["errors.errorType"], apart := false, laid := [("errors.errorType", laid_errors_errorType)], narrowed := true }
def FillFindsUptoSaid : Prop := fillFindsUptoRow.holds Tryz.pinned (OpenSpec.upto fillFindsSpec)

/-- 'silhouettelaw17.FillPlays', WHERE WHAT IT READS IS OF BULK AT MOST 1048576: true; the input reads as it did. -/
def fillPlaysUptoRow : OpenClaim := { program := "ytglohconhbcchaagreatdoor", sum := "02ea1a708a8bfe9b40875ebcfced0cbf02870b707d30456e4ed39bde35472dd2", func := "silhouette/silhouettelaw17.FillPlays", spec := "fillPlays", inPlace := ["internal/reflectlite.ValueOf", "(internal/reflectlite.Value).Type", "(internal/reflectlite.Value).IsNil", "internal/reflectlite.TypeOf", "(internal/reflectlite.Value).Elem", "(internal/reflectlite.Value).Set"], unfollowed := true, recurses := true, named := ["errors.errorType"], apart := false, laid := [("errors.errorType", laid_errors_errorType)], narrowed := true }
def FillPlaysUptoSaid : Prop := fillPlaysUptoRow.holds Tryz.pinned (OpenSpec.upto fillPlaysSpec)

end Rows
end Go.Proofs.YtglohconhbcchaaGreatDoor
