/- The live question: it is answered true. -/
import Derived.Test.YtglohconhbcchaaGreatDoorWalk
import Derived.Test.YtglohconhbcchaaGreatDoorMade
import Derived.Test.YtglohconhbcchaaGreatDoorMark
namespace Go.Proofs.YtglohconhbcchaaGreatDoor
open Go.RowKit

/-- errors.errorType's cell -/
def EC (w : World) : Prop := w.cell? ⟨0, 0, none⟩ = some (.iface 266 (.agg #[.pointer (some ⟨1, 147, none⟩)]))
theorem EC.past {w w' : World} (h : EC w) (hb : Below w.heap.size w w') : EC w' := (hb.cell (p := ⟨0, 0, none⟩) (lt_of_cell h)).trans h
theorem EC.kept {w w' : World} {fb : Nat} (h : EC w) (hn : 0 < fb) (hk : Kept w.heap.size (fun k => k = fb) w w') : EC w' :=
  ((hk.mono (B' := 1) (S' := fun k => k = fb) (lt_of_cell h) (fun _ _ h => h)).below (fun k hk e => by omega)).cell (p := ⟨0, 0, none⟩) (by show 0 < 1; omega) |>.trans h

theorem gm_walk {w : World} {p fb n : Nat} {hosts mem : List Nat} (M : GM w p fb hosts n mem) (hg : EC w) (root page kind : Int) (user : Bool) (P : Path) (h k : Int) (ho : out (wk (rd hosts mem) hosts.length root page kind user) = (P, h, k)) :
    Calls Tryz.prog 25 #[.pointer (some ⟨p, 0, none⟩), .int .i64 root, .int .i64 page, .int .i64 kind, .bool user] w
      fun e w' => Below w.heap.size w w' ∧ ∃ a c, e = .returned (.tuple #[.agg #[.slice a P.ats.length c, .int .i64 P.g, .bool P.r.w, .bool P.r.u, .bool P.r.x, .bool P.large, .bool P.dirty], .int .i64 h, .int .i64 k]) ∧ Sl w' a P.ats := by
  obtain ⟨gp, hb', mb, fp, cap, H, G⟩ := M
  refine (walk_any w p gp hb' mb fp fb hosts mem cap n root page kind user H G hg).mono ?_
  rintro e w' ⟨h1, a, c, P', h', k', h2, h3, h4⟩
  rw [ho] at h2
  simp only [Prod.mk.injEq] at h2
  obtain ⟨rfl, rfl, rfl⟩ := h2
  exact ⟨h1, a, c, h3, h4⟩

def headL : List (Int × Int × Nat) := [(1, 0, 8199), (2, 0, 12295), (3, 5, 36929), (2, 1, 32903), (2, 2, 36999)]
def headM : List Nat := puts headL
theorem hw1 : out (wk (rd h16 headM) h16.length 1 5 0 false) = (⟨[(1, 0), (2, 0), (3, 5)], 9, ⟨false, false, true⟩, false, true⟩, 0, 0) := by decide +kernel
theorem hw2 : out (wk (rd h16 headM) h16.length 1 5 1 true) = (Path.none, 1, 7) := by decide +kernel
theorem hw3 : out (wk (rd h16 headM) h16.length 1 11 2 true) = (⟨[(1, 0), (2, 1)], 11, ⟨true, true, true⟩, true, false⟩, 0, 0) := by decide +kernel
theorem hw4 : out (wk (rd h16 headM) h16.length 1 16 0 false) = (Path.none, 1, 9) := by decide +kernel
theorem hw5 : out (wk (rd h16 headM) h16.length 1 6 2 false) = (Path.none, 1, 16) := by decide +kernel
theorem hw6 : out (wk (rd h16 headM) h16.length 16 6 2 false) = (Path.none, 3, 0) := by decide +kernel
def headP : List (Int × Int) := [(1, 0), (2, 0), (3, 5)]
theorem hm1 : (!(headP.any (unused h16 headM))) = false := by decide +kernel
theorem hm2 : allIn h16 headM headP = true := by decide +kernel
theorem hm3 : (!(headP.any (unused h16 (markMem h16 headP true headM)))) = true := by decide +kernel
theorem hm4 : rd h16 (markMem h16 headP true headM) 3 5 = some 36961 := by decide +kernel

def putCells (x : Int × Int × Nat) : List Value := [.int .i64 x.1, .int .i64 x.2.1, .int .u64 (x.2.2 : Int)]
theorem head_ps (w : World) : Ps (w.alloc (.cells #[.int .i64 1, .int .i64 0, .int .u64 8199, .int .i64 2, .int .i64 0, .int .u64 12295, .int .i64 3, .int .i64 5, .int .u64 36929, .int .i64 2, .int .i64 1, .int .u64 32903, .int .i64 2, .int .i64 2, .int .u64 36999] 107)) (some ⟨w.heap.size, 0, none⟩) headL := by
  have hb := Blk.new w 107 [.int .i64 1, .int .i64 0, .int .u64 8199, .int .i64 2, .int .i64 0, .int .u64 12295, .int .i64 3, .int .i64 5, .int .u64 36929, .int .i64 2, .int .i64 1, .int .u64 32903, .int .i64 2, .int .i64 2, .int .u64 36999]
  refine .inr ⟨w.heap.size, 0, rfl, by simp, fun j hj => ?_⟩
  match j, hj with
  | 0, _ => exact ⟨by decide, hb.cell rfl, hb.cell rfl, hb.cell rfl⟩
  | 1, _ => exact ⟨by decide, hb.cell rfl, hb.cell rfl, hb.cell rfl⟩
  | 2, _ => exact ⟨by decide, hb.cell rfl, hb.cell rfl, hb.cell rfl⟩
  | 3, _ => exact ⟨by decide, hb.cell rfl, hb.cell rfl, hb.cell rfl⟩
  | 4, _ => exact ⟨by decide, hb.cell rfl, hb.cell rfl, hb.cell rfl⟩
  | j + 5, h => simp [headL] at h; omega

theorem hW {w : World} {p fb : Nat} (M : GM w p fb h16 16 headM) (hg : EC w) (root page kind : Int) (user : Bool) (P : Path) (h k : Int) (n : Nat) (ho : out (wk (rd h16 headM) h16.length root page kind user) = (P, h, k)) (hn : P.ats.length = n) :
    Calls Tryz.prog 25 #[.pointer (some ⟨p, 0, none⟩), .int .i64 root, .int .i64 page, .int .i64 kind, .bool user] w
      fun e w' => Below w.heap.size w w' ∧ ∃ a c, e = .returned (.tuple #[.agg #[.slice a n c, .int .i64 P.g, .bool P.r.w, .bool P.r.u, .bool P.r.x, .bool P.large, .bool P.dirty], .int .i64 h, .int .i64 k]) ∧ Sl w' a P.ats :=
  hn ▸ gm_walk M hg root page kind user P h k ho
theorem hGt {w : World} {p fb : Nat} (M : GM w p fb h16 16 (markMem h16 headP true headM)) :
    Calls Tryz.prog 74 #[.pointer (some ⟨p, 0, none⟩), .int .i64 3, .int .i64 5] w
      fun e w' => e = .returned (.tuple #[.int .u64 36961, .bool true]) ∧ w = w' := gm_get M 3 5 (some 36961) hm4
theorem step {w w' : World} {o : Obj} (h : Below (w.alloc o).heap.size (w.alloc o) w') : Below w.heap.size w w' := ((Below.refl _ w).alloc (Nat.le_refl _) o).trans (h.mono (by simp))
/-- what is carried from walk to walk -/
structure HS (w W : World) (p fb : Nat) : Prop where
  m : GM W p fb h16 16 headM
  e : EC W
  b : Below w.heap.size w W
theorem HS.past {w W W' : World} {p fb : Nat} (h : HS w W p fb) (hb : Below W.heap.size W W') : HS w W' p fb := ⟨h.m.past hb, h.e.past hb, h.b.trans (hb.mono h.b.size)⟩
/-- an alloc behind a world -/
theorem bal (w : World) (o : Obj) : Below w.heap.size w (w.alloc o) := (Below.refl _ _).alloc (Nat.le_refl _) _
end Go.Proofs.YtglohconhbcchaaGreatDoor
