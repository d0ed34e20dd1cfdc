/- The live question: it is answered true. -/
import Derived.Test.YtlldbfpccdmclaaDoorWalk
import Derived.Test.YtlldbfpccdmclaaDoorMade
import Derived.Test.YtlldbfpccdmclaaDoorMark2
import Derived.Test.YtlldbfpccdmclaaDoorSame
namespace Go.Proofs.YtlldbfpccdmclaaDoor
open Go.RowKit

/-- errors.errorType's cell -/
def EC (w : World) : Prop := w.cell? ⟨0, 0, none⟩ = some (.iface 148 (.agg #[.pointer (some ⟨1, 81, none⟩)]))
theorem EC.past {w w' : World} (h : EC w) (hb : Below w.heap.size w w') : EC w' := (hb.cell (p := ⟨0, 0, none⟩) (lt_of_cell h)).trans h
theorem EC.kept {w w' : World} {fb : Nat} (h : EC w) (hn : 0 < fb) (hk : Kept w.heap.size (fun k => k = fb) w w') : EC w' :=
  ((hk.mono (B' := 1) (S' := fun k => k = fb) (lt_of_cell h) (fun _ _ h => h)).below (fun k hk e => by omega)).cell (p := ⟨0, 0, none⟩) (by show 0 < 1; omega) |>.trans h

theorem gm_walk {w : World} {p fb n : Nat} {hosts mem : List Nat} (M : GM w p fb hosts n mem) (hg : EC w) (root page kind : Int) (user : Bool) (P : Path) (h k : Int) (ho : out (wk (rd hosts mem) hosts.length root page kind user) = (P, h, k)) :
    Calls Tryd.prog 13 #[.pointer (some ⟨p, 0, none⟩), .int .i64 root, .int .i64 page, .int .i64 kind, .bool user] w
      fun e w' => Below w.heap.size w w' ∧ ∃ a c, e = .returned (.tuple #[.agg #[.slice a P.ats.length c, .int .i64 P.g, .bool P.r.w, .bool P.r.u, .bool P.r.x, .bool P.large, .bool P.dirty], .int .i64 h, .int .i64 k]) ∧ Sl w' a P.ats := by
  obtain ⟨gp, hb', mb, fp, cap, H, G⟩ := M
  refine (walk_any w p gp hb' mb fp fb hosts mem cap n root page kind user H G hg).mono ?_
  rintro e w' ⟨h1, a, c, P', h', k', h2, h3, h4⟩
  rw [ho] at h2
  simp only [Prod.mk.injEq] at h2
  obtain ⟨rfl, rfl, rfl⟩ := h2
  exact ⟨h1, a, c, h3, h4⟩

def headL : List (Int × Int × Nat) := [(1, 0, 8199), (2, 0, 12295), (3, 5, 36929), (2, 1, 32903), (2, 2, 36999)]
def headM : List Nat := puts headL
theorem hw1 : out (wk (rd h16 headM) h16.length 1 5 0 false) = (⟨[(1, 0), (2, 0), (3, 5)], 9, ⟨false, false, true⟩, false, true⟩, 0, 0) := by decide +kernel
theorem hw2 : out (wk (rd h16 headM) h16.length 1 5 1 true) = (Path.none, 1, 7) := by decide +kernel
theorem hw3 : out (wk (rd h16 headM) h16.length 1 11 2 true) = (⟨[(1, 0), (2, 1)], 11, ⟨true, true, true⟩, true, false⟩, 0, 0) := by decide +kernel
theorem hw4 : out (wk (rd h16 headM) h16.length 1 16 0 false) = (Path.none, 1, 9) := by decide +kernel
theorem hw5 : out (wk (rd h16 headM) h16.length 1 6 2 false) = (Path.none, 1, 16) := by decide +kernel
theorem hw6 : out (wk (rd h16 headM) h16.length 16 6 2 false) = (Path.none, 3, 0) := by decide +kernel
def headP : List (Int × Int) := [(1, 0), (2, 0), (3, 5)]
theorem hm1 : (!(headP.any (unused h16 headM))) = false := by decide +kernel
theorem hm2 : allIn h16 headM headP = true := by decide +kernel
theorem hm3 : (!(headP.any (unused h16 (markMem h16 headP true headM)))) = true := by decide +kernel
theorem hm4 : rd h16 (markMem h16 headP true headM) 3 5 = some 36961 := by decide +kernel

def putCells (x : Int × Int × Nat) : List Value := [.int .i64 x.1, .int .i64 x.2.1, .int .u64 (x.2.2 : Int)]
theorem head_ps (w : World) : Ps (w.alloc (.cells #[.int .i64 1, .int .i64 0, .int .u64 8199, .int .i64 2, .int .i64 0, .int .u64 12295, .int .i64 3, .int .i64 5, .int .u64 36929, .int .i64 2, .int .i64 1, .int .u64 32903, .int .i64 2, .int .i64 2, .int .u64 36999] 73)) (some ⟨w.heap.size, 0, none⟩) headL := by
  have hb := Blk.new w 73 [.int .i64 1, .int .i64 0, .int .u64 8199, .int .i64 2, .int .i64 0, .int .u64 12295, .int .i64 3, .int .i64 5, .int .u64 36929, .int .i64 2, .int .i64 1, .int .u64 32903, .int .i64 2, .int .i64 2, .int .u64 36999]
  refine .inr ⟨w.heap.size, 0, rfl, by simp, fun j hj => ?_⟩
  match j, hj with
  | 0, _ => exact ⟨by decide, hb.cell rfl, hb.cell rfl, hb.cell rfl⟩
  | 1, _ => exact ⟨by decide, hb.cell rfl, hb.cell rfl, hb.cell rfl⟩
  | 2, _ => exact ⟨by decide, hb.cell rfl, hb.cell rfl, hb.cell rfl⟩
  | 3, _ => exact ⟨by decide, hb.cell rfl, hb.cell rfl, hb.cell rfl⟩
  | 4, _ => exact ⟨by decide, hb.cell rfl, hb.cell rfl, hb.cell rfl⟩
  | j + 5, h => simp [headL] at h; omega

theorem hW {w : World} {p fb : Nat} (M : GM w p fb h16 16 headM) (hg : EC w) (root page kind : Int) (user : Bool) (P : Path) (h k : Int) (n : Nat) (ho : out (wk (rd h16 headM) h16.length root page kind user) = (P, h, k)) (hn : P.ats.length = n) :
    Calls Tryd.prog 13 #[.pointer (some ⟨p, 0, none⟩), .int .i64 root, .int .i64 page, .int .i64 kind, .bool user] w
      fun e w' => Below w.heap.size w w' ∧ ∃ a c, e = .returned (.tuple #[.agg #[.slice a n c, .int .i64 P.g, .bool P.r.w, .bool P.r.u, .bool P.r.x, .bool P.large, .bool P.dirty], .int .i64 h, .int .i64 k]) ∧ Sl w' a P.ats :=
  hn ▸ gm_walk M hg root page kind user P h k ho
theorem hMd {w : World} {p fb : Nat} {mem : List Nat} (M : GM w p fb h16 16 mem) (a : Option Addr) (c : Nat) (hs : Sl w a headP) (b : Bool) (hb : (!(headP.any (unused h16 mem))) = b) :
    Calls Tryd.prog 27 #[.pointer (some ⟨p, 0, none⟩), .agg #[.slice a 3 c, .int .i64 9, .bool false, .bool false, .bool true, .bool false, .bool true]] w
      fun e w' => e = .returned (.bool b) ∧ Below w.heap.size w w' :=
  hb ▸ marked_any w p fb 16 h16 mem a ⟨headP, 9, ⟨false, false, true⟩, false, true⟩ c M hs (by decide)
theorem hMk {w : World} {p fb : Nat} (M : GM w p fb h16 16 headM) (a : Option Addr) (c : Nat) (hs : Sl w a headP) :
    Calls Tryd.prog 29 #[.pointer (some ⟨p, 0, none⟩), .agg #[.slice a 3 c, .int .i64 9, .bool false, .bool false, .bool true, .bool false, .bool true], .bool true] w
      fun e w' => e = .returned (.bool true) ∧ GM w' p fb h16 16 (markMem h16 headP true headM) ∧ Kept w.heap.size (fun k => k = fb) w w' := by
  refine (mark_any w p fb 16 h16 headM a ⟨headP, 9, ⟨false, false, true⟩, false, true⟩ c true M hs (by decide)).mono ?_
  dsimp only
  rw [hm2]
  exact fun e w' h => h
theorem hGt {w : World} {p fb : Nat} (M : GM w p fb h16 16 (markMem h16 headP true headM)) :
    Calls Tryd.prog 16 #[.pointer (some ⟨p, 0, none⟩), .int .i64 3, .int .i64 5] w
      fun e w' => e = .returned (.tuple #[.int .u64 36961, .bool true]) ∧ w = w' := gm_get M 3 5 (some 36961) hm4
theorem hSm (w : World) (a : Option Addr) (c : Nat) (hs : Sl w a headP) :
    Calls Tryd.prog 14 #[.agg #[.slice a 3 c, .int .i64 9, .bool false, .bool false, .bool true, .bool false, .bool true], .agg #[.slice (some ⟨w.heap.size, 0, none⟩) 3 3, .int .i64 9, .bool false, .bool false, .bool true, .bool false, .bool true]] (w.alloc (.cells #[.int .i64 1, .int .i64 0, .int .i64 2, .int .i64 0, .int .i64 3, .int .i64 5] 40))
      fun e w' => e = .returned (.bool true) ∧ Below w.heap.size w w' := by
  refine (same_any (w.alloc (.cells #[.int .i64 1, .int .i64 0, .int .i64 2, .int .i64 0, .int .i64 3, .int .i64 5] 40)) a (some ⟨w.heap.size, 0, none⟩) c 3 ⟨headP, 9, ⟨false, false, true⟩, false, true⟩ ⟨headP, 9, ⟨false, false, true⟩, false, true⟩
    (hs.past ((Below.refl _ _).alloc (Nat.le_refl _) _)) (.inr ⟨w.heap.size, [], rfl, Blk.new w 40 [.int .i64 1, .int .i64 0, .int .i64 2, .int .i64 0, .int .i64 3, .int .i64 5]⟩) (by decide) (by decide)).mono ?_
  rintro e w' ⟨rfl, hb⟩
  exact ⟨by simp, ((Below.refl _ w).alloc (Nat.le_refl _) _).trans (hb.mono (by simp))⟩
theorem step {w w' : World} {o : Obj} (h : Below (w.alloc o).heap.size (w.alloc o) w') : Below w.heap.size w w' := ((Below.refl _ w).alloc (Nat.le_refl _) o).trans (h.mono (by simp))
/-- what is carried from walk to walk -/
structure HS (w W : World) (p fb : Nat) : Prop where
  m : GM W p fb h16 16 headM
  e : EC W
  b : Below w.heap.size w W
theorem HS.past {w W W' : World} {p fb : Nat} (h : HS w W p fb) (hb : Below W.heap.size W W') : HS w W' p fb := ⟨h.m.past hb, h.e.past hb, h.b.trans (hb.mono h.b.size)⟩
/-- an alloc behind a world -/
theorem bal (w : World) (o : Obj) : Below w.heap.size w (w.alloc o) := (Below.refl _ _).alloc (Nat.le_refl _) _
set_option maxRecDepth 100000 in
set_option maxHeartbeats 4000000 in
theorem head_any (w : World) (hg : EC w) :
    Calls Tryd.prog 11 #[] w fun e w' => e = .returned (.bool true) ∧ Below w.heap.size w w' := by
  have hm := fun c => made_any (w.alloc (.cells #[.int .i64 1, .int .i64 0, .int .u64 8199, .int .i64 2, .int .i64 0, .int .u64 12295, .int .i64 3, .int .i64 5, .int .u64 36929, .int .i64 2, .int .i64 1, .int .u64 32903, .int .i64 2, .int .i64 2, .int .u64 36999] 73)) (some ⟨w.heap.size, 0, none⟩) c headL (head_ps w) (by decide)
  have h0 := lt_of_cell hg
  have HM := Lib.hid hm
  have HG := Lib.hid hg
  clear hm hg
  go_enter Tryd.func11, Tryd.ntmps11
  go_wp2_with (first
    | (go_at_call 12; refine (HM.out 5).mono ?_; rintro e W0 ⟨⟨p, fb, rfl, M0, q1, q2⟩, B0⟩))
  have S0 : HS w W0 p fb := ⟨M0, (HG.out.past (bal _ _)).past B0, (bal w _).trans (B0.mono (by simp))⟩
  simp at q1 q2
  have hw1' := fun W (S : HS w W p fb) => hW S.m S.e 1 5 0 false ⟨[(1, 0), (2, 0), (3, 5)], 9, ⟨false, false, true⟩, false, true⟩ 0 0 3 hw1 rfl
  have hw2' := fun W (S : HS w W p fb) => hW S.m S.e 1 5 1 true Path.none 1 7 0 hw2 rfl
  have hw3' := fun W (S : HS w W p fb) => hW S.m S.e 1 11 2 true ⟨[(1, 0), (2, 1)], 11, ⟨true, true, true⟩, true, false⟩ 0 0 2 hw3 rfl
  have hw4' := fun W (S : HS w W p fb) => hW S.m S.e 1 16 0 false Path.none 1 9 0 hw4 rfl
  have hw5' := fun W (S : HS w W p fb) => hW S.m S.e 1 6 2 false Path.none 1 16 0 hw5 rfl
  have hw6' := fun W (S : HS w W p fb) => hW S.m S.e 16 6 2 false Path.none 3 0 0 hw6 rfl
  have H1 := Lib.hid hw1'
  have H2 := Lib.hid hw2'
  have H3 := Lib.hid hw3'
  have H4 := Lib.hid hw4'
  have H5 := Lib.hid hw5'
  have H6 := Lib.hid hw6'
  clear hw1' hw2' hw3' hw4' hw5' hw6' B0 M0 HM HG
  go_wp2_with (first
    | (go_at_call 13; (with_reducible refine (H1.out W0 S0).mono ?_); rintro e W1 ⟨b1, a1, c1, rfl, s1⟩; have S1 := S0.past b1)
    | (go_at_call 13; (with_reducible refine (H2.out _ (S1.past (bal _ _))).mono ?_); rintro e W2 ⟨b2, a2, c2, rfl, s2⟩; have S2 := (S1.past (bal _ _)).past b2)
    | (go_at_call 13; (with_reducible refine (H3.out _ (S2.past (bal _ _))).mono ?_); rintro e W3 ⟨b3, a3, c3, rfl, s3⟩; have S3 := (S2.past (bal _ _)).past b3)
    | (go_at_call 13; (with_reducible refine (H4.out _ (S3.past (bal _ _))).mono ?_); rintro e W4 ⟨b4, a4, c4, rfl, s4⟩; have S4 := (S3.past (bal _ _)).past b4)
    | (go_at_call 13; (with_reducible refine (H5.out _ (S4.past (bal _ _))).mono ?_); rintro e W5 ⟨b5, a5, c5, rfl, s5⟩; have S5 := (S4.past (bal _ _)).past b5)
    | (go_at_call 13; (with_reducible refine (H6.out _ (S5.past (bal _ _))).mono ?_); rintro e W6 ⟨b6, a6, c6, rfl, s6⟩; have S6 := (S5.past (bal _ _)).past b6; have d12 := step b2; have d23 := step b3; have d34 := step b4; have d45 := step b5; have d56 := step b6; have D36 := d34.trans ((d45.trans (d56.mono d45.size)).mono d34.size); have D26 := d23.trans (D36.mono d23.size); have bp := ((Blk.new W1 31 [.slice a1 3 c1, .int .i64 9, .bool false, .bool false, .bool true, .bool false, .bool true]).past b2).past D26; have bq := (((Blk.new W3 31 [.slice a3 2 c3, .int .i64 11, .bool true, .bool true, .bool true, .bool true, .bool false]).past b4).past (d45.trans (d56.mono d45.size))); have sp := (s1.past d12).past D26; clear d12 d23 d34 d45 d56 D26 D36 b1 b2 b3 b4 b5 b6 S0 S1 S2 S3 S4 S5 H1 H2 H3 H4 H5 H6 s1 s2 s3 s4 s5 s6; have x0 := bp.cell (k := 0) rfl; have x1 := bp.cell (k := 1) rfl; have x2 := bp.cell (k := 2) rfl; have x3 := bp.cell (k := 3) rfl; have x4 := bp.cell (k := 4) rfl; have x5 := bp.cell (k := 5) rfl; have x6 := bp.cell (k := 6) rfl; have lp := bp.lt)
    | (go_at_call 27; (with_reducible refine (hMd (S6.past (bal _ _)).m _ _ (sp.past (bal _ _)) false hm1).mono ?_); rintro e W7 ⟨rfl, b7⟩; have S7 := (S6.past (bal _ _)).past b7; have d67 := step b7; have bp7 := bp.past d67; have bq7 := bq.past d67; have sp7 := sp.past d67; clear x0 x1 x2 x3 x4 x5 x6 lp bp bq sp S6 b7 d67; have x0 := bp7.cell (k := 0) rfl; have x1 := bp7.cell (k := 1) rfl; have x2 := bp7.cell (k := 2) rfl; have x3 := bp7.cell (k := 3) rfl; have x4 := bp7.cell (k := 4) rfl; have x5 := bp7.cell (k := 5) rfl; have x6 := bp7.cell (k := 6) rfl)
    | (go_at_call 29; (with_reducible refine (hMk S7.m _ _ sp7).mono ?_); rintro e W8 ⟨rfl, M8, k8⟩; have bp8 := S7.m.keptB bp7 (by decide) k8; have bq8 := S7.m.keptB bq7 (by decide) k8; have sp8 := S7.m.keptS sp7 k8; have A8 := S7.b.trans ((k8.mono (B' := w.heap.size) (S' := fun k => k = fb) S7.b.size (fun _ _ h => h)).below (fun k hk e => by omega)); clear x0 x1 x2 x3 x4 x5 x6 bp7 bq7 sp7 S7 k8; have x0 := bp8.cell (k := 0) rfl; have x1 := bp8.cell (k := 1) rfl; have x2 := bp8.cell (k := 2) rfl; have x3 := bp8.cell (k := 3) rfl; have x4 := bp8.cell (k := 4) rfl; have x5 := bp8.cell (k := 5) rfl; have x6 := bp8.cell (k := 6) rfl)
    | (go_at_call 16; (with_reducible refine (hGt M8).mono ?_); rintro e Wg ⟨rfl, rfl⟩)
    | (go_at_call 14; (with_reducible refine (hSm W8 _ _ sp8).mono ?_); rintro e W9 ⟨rfl, b9⟩; have M9 := M8.past b9; have bp9 := bp8.past b9; have bq9 := bq8.past b9; have sp9 := sp8.past b9; have A9 := A8.trans (b9.mono A8.size); clear x0 x1 x2 x3 x4 x5 x6 bp8 bq8 sp8 A8 M8 b9; have x0 := bp9.cell (k := 0) rfl; have x1 := bp9.cell (k := 1) rfl; have x2 := bp9.cell (k := 2) rfl; have x3 := bp9.cell (k := 3) rfl; have x4 := bp9.cell (k := 4) rfl; have x5 := bp9.cell (k := 5) rfl; have x6 := bp9.cell (k := 6) rfl; have z0 := bq9.cell (k := 0) rfl; have z1 := bq9.cell (k := 1) rfl; have z5 := bq9.cell (k := 5) rfl)
    | (go_at_call 27; (with_reducible refine (hMd M9 _ _ sp9 true hm3).mono ?_); rintro e W10 ⟨rfl, b10⟩; have A10 := A9.trans (b10.mono A9.size)))
  go_ret
  exact ⟨rfl, A10⟩
end Go.Proofs.YtlldbfpccdmclaaDoor
