/-
  No cell of these rows narrows 'for every input' (looked for: loops, veiled, ifaces, maps, wideKeys, modest, calm, conditions, laid).
  DERIVED. THE GIVEN ROWS OF THIS SEAT. 7 by the template 'for every input the law returns true; each argument reads behind the call as it read before'; 0 by the template 'total and deterministic' (their statements: YtldmlmojokicaaaTotals.lean).
  GIVEN WITH THE SEED: the statements are not yours to turn. If you find one false, say at which input.
  Laid BY PROGRAM, IN A SANDBOX (cutbox-rows.mjs): the forced cells as the released guide's own fill.sh prints them over the translation 33c166aec8651a1e… (all of the seat's roots in one cut). By AI agents, Wed Nov 11 2026. No macro, syntax, notation, axiom, sorry.
-/
import Derived.Test.YtldmlmojokicaaaChecked
import GoSem.Claim
import GoSem.ClaimJoined
import GoSem.ClaimMapViews
import Derived.JoinedTies
import Derived.KernelRfl
namespace Go.Proofs.Ytldmlmojokicaaa
/- THE CELL 'sum', in the pinned program and in every row, IS THE sha256 OF THE DUMP (.gsa) THAT YtldmlmojokicaaaProg.lean LOADS. Nothing in Lean hashes anything: it is a label: what it is worth is what the hold of that sum in a sandbox is worth. -/
noncomputable def Try.pinned : Pinned := { name := "ytldmlmojokicaaa", sum := "33c166aec8651a1e50d6568963c55cd1068e62b518c7716da0438197825219ac", checked := Try.checked }
namespace Rows
def none {H : Type} : Left H := { results := [], args := [] }

/-- 'silhouettelaw16.GuardLoose': WHATEVER THE INPUT: true; the input reads as it did. -/
def guardLooseSpec : ChangeSpec := { name := "guardLoose", fn := fun _ => fun
  | [d1, d2] => { results := [.lit (.bool true)], args := [d1, d2] }
  | _ => none }
def guardLooseRow : OpenClaim := { program := "ytldmlmojokicaaa", sum := "33c166aec8651a1e50d6568963c55cd1068e62b518c7716da0438197825219ac", func := "silhouette/silhouettelaw16.GuardLoose", spec := "guardLoose", unfollowed := true, recurses := true, apart := false }
def GuardLooseSaid : Prop := guardLooseRow.holds Try.pinned (OpenSpec.ofChange guardLooseSpec)

/-- ITS FALSE NEIGHBOUR: 'it returns false'. Refute it at one input. -/
def guardLooseWrong : ChangeSpec := { name := "guardLoose", fn := fun _ => fun
  | [d1, d2] => { results := [.lit (.bool false)], args := [d1, d2] }
  | _ => none }
def GuardLooseWrongFalsely : Prop := guardLooseRow.holds Try.pinned (OpenSpec.ofChange guardLooseWrong)

/-- 'silhouettelaw16.GuardForbids': WHATEVER THE INPUT: true; the input reads as it did. -/
def guardForbidsSpec : ChangeSpec := { name := "guardForbids", fn := fun _ => fun
  | [d1, d2, d3] => { results := [.lit (.bool true)], args := [d1, d2, d3] }
  | _ => none }
def guardForbidsRow : OpenClaim := { program := "ytldmlmojokicaaa", sum := "33c166aec8651a1e50d6568963c55cd1068e62b518c7716da0438197825219ac", func := "silhouette/silhouettelaw16.GuardForbids", spec := "guardForbids", unfollowed := true, recurses := true, apart := false }
def GuardForbidsSaid : Prop := guardForbidsRow.holds Try.pinned (OpenSpec.ofChange guardForbidsSpec)

/-- ITS FALSE NEIGHBOUR: 'it returns false'. Refute it at one input. -/
def guardForbidsWrong : ChangeSpec := { name := "guardForbids", fn := fun _ => fun
  | [d1, d2, d3] => { results := [.lit (.bool false)], args := [d1, d2, d3] }
  | _ => none }
def GuardForbidsWrongFalsely : Prop := guardForbidsRow.holds Try.pinned (OpenSpec.ofChange guardForbidsWrong)

/-- 'silhouettelaw16.GuardLooks': WHATEVER THE INPUT: true; the input reads as it did. -/
def guardLooksSpec : ChangeSpec := { name := "guardLooks", fn := fun _ => fun
  | [d1, d2, d3] => { results := [.lit (.bool true)], args := [d1, d2, d3] }
  | _ => none }
def guardLooksRow : OpenClaim := { program := "ytldmlmojokicaaa", sum := "33c166aec8651a1e50d6568963c55cd1068e62b518c7716da0438197825219ac", func := "silhouette/silhouettelaw16.GuardLooks", spec := "guardLooks", unfollowed := true, recurses := true, apart := false }
def GuardLooksSaid : Prop := guardLooksRow.holds Try.pinned (OpenSpec.ofChange guardLooksSpec)

/-- ITS FALSE NEIGHBOUR: 'it returns false'. Refute it at one input. -/
def guardLooksWrong : ChangeSpec := { name := "guardLooks", fn := fun _ => fun
  | [d1, d2, d3] => { results := [.lit (.bool false)], args := [d1, d2, d3] }
  | _ => none }
def GuardLooksWrongFalsely : Prop := guardLooksRow.holds Try.pinned (OpenSpec.ofChange guardLooksWrong)

/-- 'silhouettelaw16.GuardReach': WHATEVER THE INPUT: true; the input reads as it did. -/
def guardReachSpec : ChangeSpec := { name := "guardReach", fn := fun _ => fun
  | [d1, d2, d3, d4, d5, d6] => { results := [.lit (.bool true)], args := [d1, d2, d3, d4, d5, d6] }
  | _ => none }
def guardReachRow : OpenClaim := { program := "ytldmlmojokicaaa", sum := "33c166aec8651a1e50d6568963c55cd1068e62b518c7716da0438197825219ac", func := "silhouette/silhouettelaw16.GuardReach", spec := "guardReach", unfollowed := true, recurses := true, apart := false }
def GuardReachSaid : Prop := guardReachRow.holds Try.pinned (OpenSpec.ofChange guardReachSpec)

/-- ITS FALSE NEIGHBOUR: 'it returns false'. Refute it at one input. -/
def guardReachWrong : ChangeSpec := { name := "guardReach", fn := fun _ => fun
  | [d1, d2, d3, d4, d5, d6] => { results := [.lit (.bool false)], args := [d1, d2, d3, d4, d5, d6] }
  | _ => none }
def GuardReachWrongFalsely : Prop := guardReachRow.holds Try.pinned (OpenSpec.ofChange guardReachWrong)

/-- 'silhouettelaw16.GuardWords': WHATEVER THE INPUT: true; the input reads as it did. -/
def guardWordsSpec : ChangeSpec := { name := "guardWords", fn := fun _ => fun
  | [d1, d2, d3, d4] => { results := [.lit (.bool true)], args := [d1, d2, d3, d4] }
  | _ => none }
def guardWordsRow : OpenClaim := { program := "ytldmlmojokicaaa", sum := "33c166aec8651a1e50d6568963c55cd1068e62b518c7716da0438197825219ac", func := "silhouette/silhouettelaw16.GuardWords", spec := "guardWords", unfollowed := true, recurses := true, apart := false }
def GuardWordsSaid : Prop := guardWordsRow.holds Try.pinned (OpenSpec.ofChange guardWordsSpec)

/-- ITS FALSE NEIGHBOUR: 'it returns false'. Refute it at one input. -/
def guardWordsWrong : ChangeSpec := { name := "guardWords", fn := fun _ => fun
  | [d1, d2, d3, d4] => { results := [.lit (.bool false)], args := [d1, d2, d3, d4] }
  | _ => none }
def GuardWordsWrongFalsely : Prop := guardWordsRow.holds Try.pinned (OpenSpec.ofChange guardWordsWrong)

/-- 'silhouettelaw16.GuardDrops': WHATEVER THE INPUT: true; the input reads as it did. -/
def guardDropsSpec : ChangeSpec := { name := "guardDrops", fn := fun _ => fun
  | [d1, d2, d3] => { results := [.lit (.bool true)], args := [d1, d2, d3] }
  | _ => none }
def guardDropsRow : OpenClaim := { program := "ytldmlmojokicaaa", sum := "33c166aec8651a1e50d6568963c55cd1068e62b518c7716da0438197825219ac", func := "silhouette/silhouettelaw16.GuardDrops", spec := "guardDrops", unfollowed := true, recurses := true, apart := false }
def GuardDropsSaid : Prop := guardDropsRow.holds Try.pinned (OpenSpec.ofChange guardDropsSpec)

/-- ITS FALSE NEIGHBOUR: 'it returns false'. Refute it at one input. -/
def guardDropsWrong : ChangeSpec := { name := "guardDrops", fn := fun _ => fun
  | [d1, d2, d3] => { results := [.lit (.bool false)], args := [d1, d2, d3] }
  | _ => none }
def GuardDropsWrongFalsely : Prop := guardDropsRow.holds Try.pinned (OpenSpec.ofChange guardDropsWrong)

/-- 'silhouettelaw16.GuardStill': WHATEVER THE INPUT: true; the input reads as it did. -/
def guardStillSpec : ChangeSpec := { name := "guardStill", fn := fun _ => fun
  | [d1, d2] => { results := [.lit (.bool true)], args := [d1, d2] }
  | _ => none }
def guardStillRow : OpenClaim := { program := "ytldmlmojokicaaa", sum := "33c166aec8651a1e50d6568963c55cd1068e62b518c7716da0438197825219ac", func := "silhouette/silhouettelaw16.GuardStill", spec := "guardStill", unfollowed := true, recurses := true, apart := false }
def GuardStillSaid : Prop := guardStillRow.holds Try.pinned (OpenSpec.ofChange guardStillSpec)

/-- ITS FALSE NEIGHBOUR: 'it returns false'. Refute it at one input. -/
def guardStillWrong : ChangeSpec := { name := "guardStill", fn := fun _ => fun
  | [d1, d2] => { results := [.lit (.bool false)], args := [d1, d2] }
  | _ => none }
def GuardStillWrongFalsely : Prop := guardStillRow.holds Try.pinned (OpenSpec.ofChange guardStillWrong)

/- THE SECOND FORM. 'bulk': how many values and letters a reading holds, each counted each time it is reached (what is shared counts as often as it is met; a slice's spare places count too). A statement '..UptoSaid' is the law's where the arguments, and the package variables that the reading takes, are together of bulk at most 1048576: NARROWER than '..Said'. Prove '..Said' where nothing that the law and all that it calls make is longer than what came in: it says more and counts as full. Else prove '..UptoSaid'. A law counts once. -/
mutual
def uptoBulk {H : Type} : DataW H → Nat
  | .lit (.string bytes) => bytes.length + 1
  | .lit _ => 1
  | .nil => 1
  | .ptr d => uptoBulk d + 1
  | .slice elems spare => uptoBulkAll elems + uptoBulkAll spare + 1
  | .agg parts => uptoBulkAll parts + 1
  | .iface _ d => uptoBulk d + 1
  | .map entries => uptoBulkEntries entries + 1
  | .held _ => 1
def uptoBulkAll {H : Type} : List (DataW H) → Nat
  | [] => 0
  | d :: r => uptoBulk d + uptoBulkAll r
def uptoBulkEntries {H : Type} : List (Lit × DataW H) → Nat
  | [] => 0
  | x :: r => uptoBulkEntry x + uptoBulkEntries r
def uptoBulkEntry {H : Type} : Lit × DataW H → Nat
  | (.string bytes, d) => bytes.length + uptoBulk d + 1
  | (_, d) => uptoBulk d + 1
 end
def uptoSmall : (H : Type) → List (DataW H) → Bool := fun _ ds => decide (uptoBulkAll ds ≤ 1048576)
def OpenSpec.upto (s : _root_.Go.ChangeSpec) : _root_.Go.OpenSpec := { _root_.Go.OpenSpec.ofChange s with cond := some uptoSmall }

/-- 'silhouettelaw16.GuardLoose', WHERE WHAT IT READS IS OF BULK AT MOST 1048576: true; the input reads as it did. -/
def guardLooseUptoRow : OpenClaim := { program := "ytldmlmojokicaaa", sum := "33c166aec8651a1e50d6568963c55cd1068e62b518c7716da0438197825219ac", func := "silhouette/silhouettelaw16.GuardLoose", spec := "guardLoose", unfollowed := true, recurses := true, apart := false, narrowed := true }
def GuardLooseUptoSaid : Prop := guardLooseUptoRow.holds Try.pinned (OpenSpec.upto guardLooseSpec)

/-- 'silhouettelaw16.GuardForbids', WHERE WHAT IT READS IS OF BULK AT MOST 1048576: true; the input reads as it did. -/
def guardForbidsUptoRow : OpenClaim := { program := "ytldmlmojokicaaa", sum := "33c166aec8651a1e50d6568963c55cd1068e62b518c7716da0438197825219ac", func := "silhouette/silhouettelaw16.GuardForbids", spec := "guardForbids", unfollowed := true, recurses := true, apart := false, narrowed := true }
def GuardForbidsUptoSaid : Prop := guardForbidsUptoRow.holds Try.pinned (OpenSpec.upto guardForbidsSpec)

/-- 'silhouettelaw16.GuardLooks', WHERE WHAT IT READS IS OF BULK AT MOST 1048576: true; the input reads as it did. -/
def guardLooksUptoRow : OpenClaim := { program := "ytldmlmojokicaaa", sum := "33c166aec8651a1e50d6568963c55cd1068e62b518c7716da0438197825219ac", func := "silhouette/silhouettelaw16.GuardLooks", spec := "guardLooks", unfollowed := true, recurses := true, apart := false, narrowed := true }
def GuardLooksUptoSaid : Prop := guardLooksUptoRow.holds Try.pinned (OpenSpec.upto guardLooksSpec)

/-- 'silhouettelaw16.GuardReach', WHERE WHAT IT READS IS OF BULK AT MOST 1048576: true; the input reads as it did. -/
def guardReachUptoRow : OpenClaim := { program := "ytldmlmojokicaaa", sum := "33c166aec8651a1e50d6568963c55cd1068e62b518c7716da0438197825219ac", func := "silhouette/silhouettelaw16.GuardReach", spec := "guardReach", unfollowed := true, recurses := true, apart := false, narrowed := true }
def GuardReachUptoSaid : Prop := guardReachUptoRow.holds Try.pinned (OpenSpec.upto guardReachSpec)

/-- 'silhouettelaw16.GuardWords', WHERE WHAT IT READS IS OF BULK AT MOST 1048576: true; the input reads as it did. -/
def guardWordsUptoRow : OpenClaim := { program := "ytldmlmojokicaaa", sum := "33c166aec8651a1e50d6568963c55cd1068e62b518c7716da0438197825219ac", func := "silhouette/silhouettelaw16.GuardWords", spec := "guardWords", unfollowed := true, recurses := true, apart := false, narrowed := true }
def GuardWordsUptoSaid : Prop := guardWordsUptoRow.holds Try.pinned (OpenSpec.upto guardWordsSpec)

/-- 'silhouettelaw16.GuardDrops', WHERE WHAT IT READS IS OF BULK AT MOST 1048576: true; the input reads as it did. -/
def guardDropsUptoRow : OpenClaim := { program := "ytldmlmojokicaaa", sum := "33c166aec8651a1e50d6568963c55cd1068e62b518c7716da0438197825219ac", func := "silhouette/silhouettelaw16.GuardDrops", spec := "guardDrops", unfollowed := true, recurses := true, apart := false, narrowed := true }
def GuardDropsUptoSaid : Prop := guardDropsUptoRow.holds Try.pinned (OpenSpec.upto guardDropsSpec)

/-- 'silhouettelaw16.GuardStill', WHERE WHAT IT READS IS OF BULK AT MOST 1048576: true; the input reads as it did. -/
def guardStillUptoRow : OpenClaim := { program := "ytldmlmojokicaaa", sum := "33c166aec8651a1e50d6568963c55cd1068e62b518c7716da0438197825219ac", func := "silhouette/silhouettelaw16.GuardStill", spec := "guardStill", unfollowed := true, recurses := true, apart := false, narrowed := true }
def GuardStillUptoSaid : Prop := guardStillUptoRow.holds Try.pinned (OpenSpec.upto guardStillSpec)

end Rows
end Go.Proofs.Ytldmlmojokicaaa
