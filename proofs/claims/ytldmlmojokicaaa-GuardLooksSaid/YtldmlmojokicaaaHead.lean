/- The live question: it is answered true. -/
import Derived.Test.YtldmlmojokicaaaWalk
import Derived.Test.YtldmlmojokicaaaMade
import Derived.Test.YtldmlmojokicaaaMark
namespace Go.Proofs.Ytldmlmojokicaaa
open Go.RowKit

def headL : List (Int × Int × Nat) := [(1, 0, 8199), (2, 0, 12295), (3, 5, 36929), (2, 1, 32903), (2, 2, 36999)]
def headM : List Nat := puts headL
theorem hw1 : out (wk (rd h16 headM) h16.length 1 5 0 false) = (⟨[(1, 0), (2, 0), (3, 5)], 9, ⟨false, false, true⟩, false, true⟩, 0, 0) := by decide +kernel
theorem hw2 : out (wk (rd h16 headM) h16.length 1 5 1 true) = (Path.none, 1, 7) := by decide +kernel
theorem hw3 : out (wk (rd h16 headM) h16.length 1 11 2 true) = (⟨[(1, 0), (2, 1)], 11, ⟨true, true, true⟩, true, false⟩, 0, 0) := by decide +kernel
theorem hw4 : out (wk (rd h16 headM) h16.length 1 16 0 false) = (Path.none, 1, 9) := by decide +kernel
theorem hw5 : out (wk (rd h16 headM) h16.length 1 6 2 false) = (Path.none, 1, 16) := by decide +kernel
theorem hw6 : out (wk (rd h16 headM) h16.length 16 6 2 false) = (Path.none, 3, 0) := by decide +kernel
def headP : List (Int × Int) := [(1, 0), (2, 0), (3, 5)]
theorem hm1 : (!(headP.any (unused h16 headM))) = false := by decide +kernel
theorem hm2 : allIn h16 headM headP = true := by decide +kernel
theorem hm3 : (!(headP.any (unused h16 (markMem h16 headP true headM)))) = true := by decide +kernel
theorem hm4 : rd h16 (markMem h16 headP true headM) 3 5 = some 36961 := by decide +kernel

def putCells (x : Int × Int × Nat) : List Value := [.int .i64 x.1, .int .i64 x.2.1, .int .u64 (x.2.2 : Int)]
theorem head_ps (w : World) : Ps (w.alloc (.cells #[.int .i64 1, .int .i64 0, .int .u64 8199, .int .i64 2, .int .i64 0, .int .u64 12295, .int .i64 3, .int .i64 5, .int .u64 36929, .int .i64 2, .int .i64 1, .int .u64 32903, .int .i64 2, .int .i64 2, .int .u64 36999] 59)) (some ⟨w.heap.size, 0, none⟩) headL := by
  have hb := Blk.new w 59 [.int .i64 1, .int .i64 0, .int .u64 8199, .int .i64 2, .int .i64 0, .int .u64 12295, .int .i64 3, .int .i64 5, .int .u64 36929, .int .i64 2, .int .i64 1, .int .u64 32903, .int .i64 2, .int .i64 2, .int .u64 36999]
  refine .inr ⟨w.heap.size, 0, rfl, by simp, fun j hj => ?_⟩
  match j, hj with
  | 0, _ => exact ⟨by decide, hb.cell rfl, hb.cell rfl, hb.cell rfl⟩
  | 1, _ => exact ⟨by decide, hb.cell rfl, hb.cell rfl, hb.cell rfl⟩
  | 2, _ => exact ⟨by decide, hb.cell rfl, hb.cell rfl, hb.cell rfl⟩
  | 3, _ => exact ⟨by decide, hb.cell rfl, hb.cell rfl, hb.cell rfl⟩
  | 4, _ => exact ⟨by decide, hb.cell rfl, hb.cell rfl, hb.cell rfl⟩
  | j + 5, h => simp [headL] at h; omega

theorem hGt {w : World} {p fb : Nat} (M : GM w p fb h16 16 (markMem h16 headP true headM)) :
    Calls Try.prog 28 #[.pointer (some ⟨p, 0, none⟩), .int .i64 3, .int .i64 5] w
      fun e w' => e = .returned (.tuple #[.int .u64 36961, .bool true]) ∧ w = w' := gm_get M 3 5 (some 36961) hm4
theorem step {w w' : World} {o : Obj} (h : Below (w.alloc o).heap.size (w.alloc o) w') : Below w.heap.size w w' := ((Below.refl _ w).alloc (Nat.le_refl _) o).trans (h.mono (by simp))
/-- an alloc behind a world -/
theorem bal (w : World) (o : Obj) : Below w.heap.size w (w.alloc o) := (Below.refl _ _).alloc (Nat.le_refl _) _
end Go.Proofs.Ytldmlmojokicaaa
