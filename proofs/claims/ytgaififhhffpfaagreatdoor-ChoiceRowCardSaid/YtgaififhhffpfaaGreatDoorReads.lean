/- silhouettelaw08.reads: the places that a walk reads. -/
import Derived.Test.YtgaififhhffpfaaGreatDoorAll
import Derived.Test.YtgaififhhffpfaaGreatDoorHead
import Derived.Test.YtgaififhhffpfaaGreatDoorRefE
namespace Go.Proofs.YtgaififhhffpfaaGreatDoor
open Go.RowKit

def goneE (e : Pte) : Bool := !e.p || e.ps || e.bad
def readsFrom (get : Int → Int → Option Nat) (page : Int) : Nat → Int → List (Int × Int)
  | 0, _ => []
  | n + 1, g => match get g (ix page ((n + 1 : Nat) : Int)) with
    | none => []
    | some v => (g, ix page ((n + 1 : Nat) : Int)) :: (if goneE (pte v) then [] else readsFrom get page n ((pte v).f : Int))
theorem readsFrom_len (get : Int → Int → Option Nat) (page : Int) : ∀ (n : Nat) (g : Int), (readsFrom get page n g).length ≤ n := by
  intro n
  induction n with
  | zero => intro g; simp [readsFrom]
  | succ n ih =>
    intro g
    simp only [readsFrom]
    split
    · simp
    · split
      · simp
      · have := ih ((pte ‹Nat›).f : Int)
        simp only [List.length_cons]; omega
theorem own_past {w w' : World} {base : Nat} {e : TypeId} {size : Nat} {v : Value} {n : Nat} {xs : List Value} (h : w.ownsRow base e size v n xs) (hb : Below w.heap.size w w') : w'.ownsRow base e size v n xs :=
  h.kept (grownBy_of_below hb) (by cases v.ownBlock <;> simp)

theorem row_snoc {W : World} {base : Nat} {v : Value} {done : List (Int × Int)} {g i : Int} (h : W.ownsRow base 53 2 v (done.length + 1) (atCells done ++ [.int .i64 g, .int .i64 i])) :
    W.ownsRow base 53 2 v (done ++ [(g, i)]).length (atCells (done ++ [(g, i)])) := by rw [atCells_snoc]; simpa using h
end Go.Proofs.YtgaififhhffpfaaGreatDoor
