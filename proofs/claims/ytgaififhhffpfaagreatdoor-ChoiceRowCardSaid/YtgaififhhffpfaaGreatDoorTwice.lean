/- The laws' twice: is a place of a path another one too? -/
import Derived.Test.YtgaififhhffpfaaGreatDoorSame
namespace Go.Proofs.YtgaififhhffpfaaGreatDoor
open Go.RowKit

/-- is a place among those ahead of it? -/
def ahead (l : List (Int × Int)) (i : Nat) : Bool := (List.range i).any fun k => decide (l.getD i (0, 0) = l.getD k (0, 0))
def dup (l : List (Int × Int)) : Bool := (List.range l.length).any (ahead l)

end Go.Proofs.YtgaififhhffpfaaGreatDoor
