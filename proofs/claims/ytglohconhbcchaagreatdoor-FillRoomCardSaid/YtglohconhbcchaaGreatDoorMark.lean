/- slices.ContainsFunc at a path's places; pte.Used; walk.Mark and walk.Marked. walk.Mark. The reference's Same of two paths. -/
import Derived.Test.YtglohconhbcchaaGreatDoorPath
import Derived.Deep.RegionHeld3
import Derived.Shelf.Abstract
import Derived.RangeFuncNested
import Derived.Deep.QuietTactic
import Derived.Laws.StructEq
namespace Go.Proofs.YtglohconhbcchaaGreatDoor
open Go.RowKit Go.Shelf

theorem getD_at {α : Type} {l : List α} {k : Nat} (d : α) (h : k < l.length) : l.getD k d = l[k] := by simp [List.getD, List.getElem?_eq_getElem h]

/-- A word told as used. -/
def usedW (v : Nat) (b : Bool) : Nat := if b then (v ||| 32) ||| 64 else v ||| 32
theorem or_lt {v m : Nat} (hv : v < 2 ^ 64) (hm : m < 2 ^ 64) : v ||| m < 2 ^ 64 := Nat.or_lt_two_pow hv hm
theorem usedW_lt {v : Nat} (hv : v < 2 ^ 64) (b : Bool) : usedW v b < 2 ^ 64 := by
  unfold usedW; split
  · exact or_lt (or_lt hv (by decide)) (by decide)
  · exact or_lt hv (by decide)
theorem field_a (e : Pte) (w : World) : (Instr.field 134 (.agg #[.bool e.p, .bool e.w, .bool e.u, .bool e.a, .bool e.d, .bool e.ps, .bool e.nx, .bool e.bad, .int .i64 (e.f : Int)]) 3).run Tryz.prog w = .ok (.bool e.a) w := by kernel_rfl
/-- what Marked asks of a place -/
def unused (hosts mem : List Nat) (x : Int × Int) : Bool := match rd hosts mem x.1 x.2 with | none => true | some v => !(pte v).a
end Go.Proofs.YtglohconhbcchaaGreatDoor

namespace Go.Proofs.YtglohconhbcchaaGreatDoor
open Go.RowKit Go.Shelf

/-- The words behind the marking of the first k of the places l. -/
def markTo (hosts : List Nat) (l : List (Int × Int)) (written : Bool) (mem : List Nat) : Nat → List Nat
  | 0 => mem
  | k + 1 => let m := markTo hosts l written mem k
    let x := l.getD k (0, 0)
    wr hosts m x.1 x.2 (usedW ((rd hosts m x.1 x.2).getD 0) (written && decide (k + 1 = l.length)))
def markMem (hosts : List Nat) (l : List (Int × Int)) (written : Bool) (mem : List Nat) : List Nat := markTo hosts l written mem l.length
/-- are all the places there? -/
def allIn (hosts mem : List Nat) (l : List (Int × Int)) : Bool := !(l.any fun x => (rd hosts mem x.1 x.2).isNone)

theorem Kept.undrew {B : Nat} {S : Nat → Prop} {a w : World} {n : Nat} (h : Kept B S (a.drewN n) w) : Kept B S a w := ⟨h.os, h.tape, h.output, h.size, h.block⟩
end Go.Proofs.YtglohconhbcchaaGreatDoor

namespace Go.Proofs.YtglohconhbcchaaGreatDoor
open Go.RowKit

end Go.Proofs.YtglohconhbcchaaGreatDoor
