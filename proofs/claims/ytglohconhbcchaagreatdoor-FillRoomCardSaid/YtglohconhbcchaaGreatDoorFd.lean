/- Layer 17's law: its filler is made; an operation of it; Great. -/
import Derived.Test.YtglohconhbcchaaGreatDoorFl
import Derived.Test.YtglohconhbcchaaGreatDoorFm
import Derived.Test.YtglohconhbcchaaGreatDoorGop
import Derived.Test.YtglohconhbcchaaGreatDoorHead
import Derived.Test.YtglohconhbcchaaGreatDoorFfX
namespace Go.Proofs.YtglohconhbcchaaGreatDoor
open Go.RowKit Go.Shelf Go.Maps

set_option linter.unusedSimpArgs false
set_option linter.unusedVariables false
theorem HG.nil1 {w0 w : World} {A : GAd} {P : Pm} {V : GVl} {G : GS} {ts : List Thing} (H : HG w0 w A P V G ts) : HG w0 w A P V G (ints (.slice none 0 0) [] :: ts) :=
  H.add (Below.refl _ _) (ints (.slice none 0 0) []) (RowI.nil _) (fun b h => by simp [ints, Value.ownBlock] at h)
theorem HG.ec {w0 w : World} {A : GAd} {P : Pm} {V : GVl} {G : GS} {ts : List Thing} (H : HG w0 w A P V G ts) (hE : EC w0) (h0 : 1 ≤ w0.heap.size) : EC w := (H.below.cell (p := ⟨0, 0, none⟩) (by show 0 < w0.heap.size; omega)).trans hE
theorem HG.unbox1 {w0 w : World} {A : GAd} {P : Pm} {V : GVl} {G : GS} {F : FA} {x b : Thing} {ts : List Thing} (H : HG w0 w A P V G (x :: fths F A P (b :: ts))) : HG w0 w A P V G (x :: fths F A P ts) :=
  Hold.sub H (List.Sublist.append_left (List.Sublist.cons_cons x (List.Sublist.cons_cons _ (List.Sublist.cons_cons _ (List.sublist_cons_self b ts)))) _)
theorem wk_err {get : Int → Int → Option Nat} {frames : Nat} {root page kind : Int} {user : Bool} {e : Int × Int} (h : wk get frames root page kind user = .error e) : e.1 ≠ 0 := by
  have ho : out (wk get frames root page kind user) = (Path.none, e.1, e.2) := by rw [h]; rfl
  rcases wk_forms get frames root page with x | x | x | ⟨h0, x⟩
  · rw [x] at ho; simp at ho; omega
  · rw [x] at ho; simp at ho; omega
  · rw [x] at ho; simp at ho; omega
  · have hk := h
    rw [x] at ho
    split at ho
    · simp at ho; omega
    · split at ho
      · simp at ho; omega
      · rename_i h1 h2
        intro e0
        have h3 := (Prod.mk.inj ho).1
        obtain ⟨q, s, hq⟩ := stepsFrom_ne get page cd0 2 root
        have : (endP page (foldP (stepsFrom get page cd0 3 root))).ats = [] := by rw [h3]; rfl
        rcases steps_forms h0 with ⟨s3, s2, hl, _⟩ | ⟨s3, s2, s1, hl, _⟩
        · rw [hl] at this; simp [endP, foldP, Path.step] at this
        · rw [hl] at this; simp [endP, foldP, Path.step] at this
set_option maxRecDepth 100000 in
set_option maxHeartbeats 4000000 in
theorem made17 {w0 w : World} {A : GAd} {V : GVl} {G : GS} {ts : List Thing} {wb : Nat} (H : HG w0 w A P24 V G (wld wb A :: ts)) :
    Calls Tryz.prog 13 #[.pointer (some ⟨wb, 0, none⟩)] w
      fun e w' => ∃ F : FA, e = .returned (.pointer (some ⟨F.fl, 0, none⟩)) ∧ HG w0 w' A P24 V G (fths F A P24 (wld wb A :: ts)) := by
  have HH := Lib.hid H
  clear H
  go_enter Tryz.func13, Tryz.ntmps13
  go_wp2_with (first
    | (go_at_call 35; (with_reducible refine (list17 _).mono ?_); rintro e W2 ⟨⟨g, cp, rest, rfl, hr, _⟩, b2⟩; have HR := Lib.hid hr; have HB2 := Lib.hid b2; clear hr b2)
    | (go_at_call 47; (with_reducible refine (gmapNew24 _ g cp rest HR.out).mono ?_); rintro e W3 ⟨⟨gp, hb, mb, cap, sp, rfl, hg1, hg2, q3, q4⟩, b3⟩; have h3 : HG w0 W3 A P24 V G (mapt gp hb mb cap h24 :: wld wb A :: ts) := (HH.out.past HB2.out).add b3 (mapt gp hb mb cap h24) ⟨hg1, ⟨sp, hg2⟩, by decide⟩ (fun b e => e.elim (fun e => e ▸ q3) (fun e => e ▸ q4)); have y1 := (show Blk W3 wb 42 (wldC A) from Hold.at h3 6 rfl).cell (k := 1) rfl; have y2 := (show Blk W3 wb 42 (wldC A) from Hold.at h3 6 rfl).cell (k := 2) rfl; have y4 := (show Blk W3 wb 42 (wldC A) from Hold.at h3 6 rfl).cell (k := 4) rfl; have yl := (show Blk W3 wb 42 (wldC A) from Hold.at h3 6 rfl).lt; have HH3 := Lib.hid h3; clear h3 hg1 hg2 q3 q4 b3))
  go_region_held3 (fun w' => w'.cell? ⟨wb, 1, none⟩ = some (.pointer (some ⟨A.p, 0, none⟩)) ∧ w'.cell? ⟨wb, 2, none⟩ = some (.pointer (some ⟨A.sp, 0, none⟩)) ∧ w'.cell? ⟨wb, 4, none⟩ = some (.pointer (some ⟨A.dp, 0, none⟩))) (go_keep) (first
    | (go_at_call 53; (with_reducible refine (fillNew _ A gp).mono ?_); rintro e W4 ⟨rfl, hW4⟩; have h4 := (HH3.out.past (Below.refl _ _).drew).add (bal W3.drew (.cells (fcells A gp).toArray 156)) (box W3.heap.size 156 (fcells A gp)) (Blk.new W3.drew 156 (fcells A gp)) (fun b e => Nat.le_of_eq e.symm); rw [← hW4] at h4; clear hW4; have z1 := (show Blk W4 wb 42 (wldC A) from Hold.at h4 7 rfl).cell (k := 1) rfl; have z2 := (show Blk W4 wb 42 (wldC A) from Hold.at h4 7 rfl).cell (k := 2) rfl; have z4 := (show Blk W4 wb 42 (wldC A) from Hold.at h4 7 rfl).cell (k := 4) rfl; have zl := (show Blk W4 wb 42 (wldC A) from Hold.at h4 7 rfl).lt; have HH4 := Lib.hid h4; clear h4))
  all_goals
    go_wp2_with fail
    go_ret
    exact ⟨⟨W3.heap.size, gp, hb, mb, cap⟩, rfl, HH4.out⟩
theorem great17 (w : World) (a1 a2 : Option Addr) (c1 c2 n m : Nat) (hn : n ≤ 9223372036854775807) (hm : m ≤ 9223372036854775807) :
    Calls Tryz.prog 12 #[.slice a1 n c1, .slice a2 m c2] w fun e w' => e = .returned (.bool (decide (600 < n) || decide (60 < m))) ∧ w = w' := by
  by_cases h1 : 600 < n
  · have f1 : decide ((n : Int) > 600) = true := decide_eq_true (by omega)
    have f2 : decide (600 < n) = true := decide_eq_true h1
    rw [f2]
    clear f2
    go_enter Tryz.func12, Tryz.ntmps12
    go_wp2
    go_ret
    exact ⟨rfl, rfl⟩
  · have f1 : decide ((n : Int) > 600) = false := decide_eq_false (by omega)
    have f2 : decide (600 < n) = false := decide_eq_false h1
    rw [f2]
    clear f2 h1
    go_enter Tryz.func12, Tryz.ntmps12
    go_wp2
    go_ret
    exact ⟨by simp; omega, rfl⟩
set_option maxRecDepth 100000 in
set_option maxHeartbeats 4000000 in
theorem fdo_4 {w0 w : World} {A : GAd} {P : Pm} {V : GVl} {G : GS} {F : FA} {ts : List Thing} {wb : Nat} (H : HG w0 w A P V G (fths F A P (wld wb A :: ts))) (hl : G.loose.length ≤ 1000) (root page kind : Int) (user : Bool) (g i : Int) (v : Nat) (n : Int) :
    Calls Tryz.prog 16 #[.pointer (some ⟨wb, 0, none⟩), .pointer (some ⟨F.fl, 0, none⟩), .agg #[.int .i64 4, .int .i64 root, .int .i64 page, .int .i64 kind, .bool user, .int .i64 g, .int .i64 i, .int .u64 (v : Int), .int .i64 n]] w
      fun e w' => ∃ u, e = .returned (.tuple #[u, .bool ((gloosen G g).1), .int .i64 (0)]) ∧ ∃ V', HG w0 w' A P V' ((gloosen G g).2) (ints u ([]) :: fths F A P (wld wb A :: ts)) := by
  have b0 := bal w (.cells #[.int .i64 4, .int .i64 root, .int .i64 page, .int .i64 kind, .bool user, .int .i64 g, .int .i64 i, .int .u64 (v : Int), .int .i64 n] 26)
  have hz := Blk.new w 26 [.int .i64 4, .int .i64 root, .int .i64 page, .int .i64 kind, .bool user, .int .i64 g, .int .i64 i, .int .u64 (v : Int), .int .i64 n]
  obtain ⟨wz, hwz⟩ : ∃ wz, w.alloc (.cells #[.int .i64 4, .int .i64 root, .int .i64 page, .int .i64 kind, .bool user, .int .i64 g, .int .i64 i, .int .u64 (v : Int), .int .i64 n] 26) = wz := ⟨_, rfl⟩
  rw [show (w.alloc (.cells ([.int .i64 4, .int .i64 root, .int .i64 page, .int .i64 kind, .bool user, .int .i64 g, .int .i64 i, .int .u64 (v : Int), .int .i64 n] : List Value).toArray 26)) = wz from hwz] at hz
  rw [hwz] at b0
  have H1 := H.add b0 (box w.heap.size 26 [.int .i64 4, .int .i64 root, .int .i64 page, .int .i64 kind, .bool user, .int .i64 g, .int .i64 i, .int .u64 (v : Int), .int .i64 n]) hz (fun b e => Nat.le_of_eq e.symm)
  obtain ⟨zb, hzb⟩ : ∃ zb, w.heap.size = zb := ⟨_, rfl⟩
  rw [hzb] at H1
  have z0 := (show Blk wz zb 26 [.int .i64 4, .int .i64 root, .int .i64 page, .int .i64 kind, .bool user, .int .i64 g, .int .i64 i, .int .u64 (v : Int), .int .i64 n] from Hold.at H1 5 rfl).cell (k := 0) rfl
  have z5 := (show Blk wz zb 26 [.int .i64 4, .int .i64 root, .int .i64 page, .int .i64 kind, .bool user, .int .i64 g, .int .i64 i, .int .u64 (v : Int), .int .i64 n] from Hold.at H1 5 rfl).cell (k := 5) rfl
  have zl := (show Blk wz zb 26 [.int .i64 4, .int .i64 root, .int .i64 page, .int .i64 kind, .bool user, .int .i64 g, .int .i64 i, .int .u64 (v : Int), .int .i64 n] from Hold.at H1 5 rfl).lt
  have w4 := (show Blk wz wb 42 (wldC A) from Hold.at H1 8 rfl).cell (k := 4) rfl
  have wl := (show Blk wz wb 42 (wldC A) from Hold.at H1 8 rfl).lt
  have hc := loosen_h (H1.past (Below.refl _ _).drew) hl g
  have HC := Lib.hid hc
  have HW := Lib.hid hwz
  have HZB := Lib.hid hzb
  clear hc H1 H hwz hzb b0 hz
  go_enter Tryz.func16, Tryz.ntmps16
  go_upto_region 1 with (fail)
  rw [HW.out, HZB.out]
  go_wp2_with fail
  go_region_held3 (fun w' => w'.cell? ⟨wb, 4, none⟩ = some (.pointer (some ⟨A.dp, 0, none⟩)) ∧ w'.cell? ⟨zb, 5, none⟩ = some (.int .i64 g)) (go_keep) (first
    | (go_at_call 54; (with_reducible refine HC.out.mono ?_); rintro e W3 ⟨rfl, V3, h3⟩; have cz5 := (show Blk W3 zb 26 [.int .i64 4, .int .i64 root, .int .i64 page, .int .i64 kind, .bool user, .int .i64 g, .int .i64 i, .int .u64 (v : Int), .int .i64 n] from Hold.at h3 5 rfl).cell (k := 5) rfl; have czl := (show Blk W3 zb 26 [.int .i64 4, .int .i64 root, .int .i64 page, .int .i64 kind, .bool user, .int .i64 g, .int .i64 i, .int .u64 (v : Int), .int .i64 n] from Hold.at h3 5 rfl).lt; have cw4 := (show Blk W3 wb 42 (wldC A) from Hold.at h3 8 rfl).cell (k := 4) rfl; have cwl := (show Blk W3 wb 42 (wldC A) from Hold.at h3 8 rfl).lt; have HH3 := Lib.hid h3; clear h3))
  all_goals go_wp2_with fail
  all_goals go_ret3
  all_goals exact ⟨_, rfl, V3, HH3.out.tail.nil1⟩
set_option maxRecDepth 100000 in
set_option maxHeartbeats 4000000 in
theorem fdo_5 {w0 w : World} {A : GAd} {P : Pm} {V : GVl} {G : GS} {F : FA} {ts : List Thing} {wb : Nat} (H : HG w0 w A P V G (fths F A P (wld wb A :: ts)))  (root page kind : Int) (user : Bool) (g i : Int) (v : Nat) (n : Int) (hv : v < 2 ^ 64) :
    Calls Tryz.prog 16 #[.pointer (some ⟨wb, 0, none⟩), .pointer (some ⟨F.fl, 0, none⟩), .agg #[.int .i64 5, .int .i64 root, .int .i64 page, .int .i64 kind, .bool user, .int .i64 g, .int .i64 i, .int .u64 (v : Int), .int .i64 n]] w
      fun e w' => ∃ u, e = .returned (.tuple #[u, .bool ((place P.hosts g i).isSome), .int .i64 (0)]) ∧ ∃ V', HG w0 w' A P V' ({ G with s := { G.s with mem := wr P.hosts G.s.mem g i v } }) (ints u ([]) :: fths F A P (wld wb A :: ts)) := by
  have b0 := bal w (.cells #[.int .i64 5, .int .i64 root, .int .i64 page, .int .i64 kind, .bool user, .int .i64 g, .int .i64 i, .int .u64 (v : Int), .int .i64 n] 26)
  have hz := Blk.new w 26 [.int .i64 5, .int .i64 root, .int .i64 page, .int .i64 kind, .bool user, .int .i64 g, .int .i64 i, .int .u64 (v : Int), .int .i64 n]
  obtain ⟨wz, hwz⟩ : ∃ wz, w.alloc (.cells #[.int .i64 5, .int .i64 root, .int .i64 page, .int .i64 kind, .bool user, .int .i64 g, .int .i64 i, .int .u64 (v : Int), .int .i64 n] 26) = wz := ⟨_, rfl⟩
  rw [show (w.alloc (.cells ([.int .i64 5, .int .i64 root, .int .i64 page, .int .i64 kind, .bool user, .int .i64 g, .int .i64 i, .int .u64 (v : Int), .int .i64 n] : List Value).toArray 26)) = wz from hwz] at hz
  rw [hwz] at b0
  have H1 := H.add b0 (box w.heap.size 26 [.int .i64 5, .int .i64 root, .int .i64 page, .int .i64 kind, .bool user, .int .i64 g, .int .i64 i, .int .u64 (v : Int), .int .i64 n]) hz (fun b e => Nat.le_of_eq e.symm)
  obtain ⟨zb, hzb⟩ : ∃ zb, w.heap.size = zb := ⟨_, rfl⟩
  rw [hzb] at H1
  have z0 := (show Blk wz zb 26 [.int .i64 5, .int .i64 root, .int .i64 page, .int .i64 kind, .bool user, .int .i64 g, .int .i64 i, .int .u64 (v : Int), .int .i64 n] from Hold.at H1 5 rfl).cell (k := 0) rfl
  have z5 := (show Blk wz zb 26 [.int .i64 5, .int .i64 root, .int .i64 page, .int .i64 kind, .bool user, .int .i64 g, .int .i64 i, .int .u64 (v : Int), .int .i64 n] from Hold.at H1 5 rfl).cell (k := 5) rfl
  have z6 := (show Blk wz zb 26 [.int .i64 5, .int .i64 root, .int .i64 page, .int .i64 kind, .bool user, .int .i64 g, .int .i64 i, .int .u64 (v : Int), .int .i64 n] from Hold.at H1 5 rfl).cell (k := 6) rfl
  have z7 := (show Blk wz zb 26 [.int .i64 5, .int .i64 root, .int .i64 page, .int .i64 kind, .bool user, .int .i64 g, .int .i64 i, .int .u64 (v : Int), .int .i64 n] from Hold.at H1 5 rfl).cell (k := 7) rfl
  have zl := (show Blk wz zb 26 [.int .i64 5, .int .i64 root, .int .i64 page, .int .i64 kind, .bool user, .int .i64 g, .int .i64 i, .int .u64 (v : Int), .int .i64 n] from Hold.at H1 5 rfl).lt
  have w1 := (show Blk wz wb 42 (wldC A) from Hold.at H1 8 rfl).cell (k := 1) rfl
  have wl := (show Blk wz wb 42 (wldC A) from Hold.at H1 8 rfl).lt
  have hc := gset_h (H1.past (Below.refl _ _).drew) g i v hv
  have HC := Lib.hid hc
  have HW := Lib.hid hwz
  have HZB := Lib.hid hzb
  clear hc H1 H hwz hzb b0 hz
  go_enter Tryz.func16, Tryz.ntmps16
  go_upto_region 1 with (fail)
  rw [HW.out, HZB.out]
  go_wp2_with fail
  go_region_held3 (fun w' => w'.cell? ⟨wb, 1, none⟩ = some (.pointer (some ⟨A.p, 0, none⟩)) ∧ w'.cell? ⟨zb, 5, none⟩ = some (.int .i64 g) ∧ w'.cell? ⟨zb, 6, none⟩ = some (.int .i64 i) ∧ w'.cell? ⟨zb, 7, none⟩ = some (.int .u64 (v : Int))) (go_keep) (first
    | (go_at_call 52; (with_reducible refine HC.out.mono ?_); rintro e W3 ⟨rfl, h3⟩; have cz5 := (show Blk W3 zb 26 [.int .i64 5, .int .i64 root, .int .i64 page, .int .i64 kind, .bool user, .int .i64 g, .int .i64 i, .int .u64 (v : Int), .int .i64 n] from Hold.at h3 5 rfl).cell (k := 5) rfl; have cz6 := (show Blk W3 zb 26 [.int .i64 5, .int .i64 root, .int .i64 page, .int .i64 kind, .bool user, .int .i64 g, .int .i64 i, .int .u64 (v : Int), .int .i64 n] from Hold.at h3 5 rfl).cell (k := 6) rfl; have cz7 := (show Blk W3 zb 26 [.int .i64 5, .int .i64 root, .int .i64 page, .int .i64 kind, .bool user, .int .i64 g, .int .i64 i, .int .u64 (v : Int), .int .i64 n] from Hold.at h3 5 rfl).cell (k := 7) rfl; have czl := (show Blk W3 zb 26 [.int .i64 5, .int .i64 root, .int .i64 page, .int .i64 kind, .bool user, .int .i64 g, .int .i64 i, .int .u64 (v : Int), .int .i64 n] from Hold.at h3 5 rfl).lt; have cw1 := (show Blk W3 wb 42 (wldC A) from Hold.at h3 8 rfl).cell (k := 1) rfl; have cwl := (show Blk W3 wb 42 (wldC A) from Hold.at h3 8 rfl).lt; have HH3 := Lib.hid h3; clear h3))
  all_goals go_wp2_with fail
  all_goals go_ret3
  all_goals exact ⟨_, rfl, V, HH3.out.tail.nil1⟩
set_option maxRecDepth 100000 in
set_option maxHeartbeats 4000000 in
theorem fdo_6 {w0 w : World} {A : GAd} {P : Pm} {V : GVl} {G : GS} {F : FA} {ts : List Thing} {wb : Nat} (H : HG w0 w A P V G (fths F A P (wld wb A :: ts))) (hl : G.loose.length ≤ 1000) (root page kind : Int) (user : Bool) (g i : Int) (v : Nat) (n : Int) :
    Calls Tryz.prog 16 #[.pointer (some ⟨wb, 0, none⟩), .pointer (some ⟨F.fl, 0, none⟩), .agg #[.int .i64 6, .int .i64 root, .int .i64 page, .int .i64 kind, .bool user, .int .i64 g, .int .i64 i, .int .u64 (v : Int), .int .i64 n]] w
      fun e w' => ∃ u, e = .returned (.tuple #[u, .bool (true), .int .i64 (0)]) ∧ ∃ V', HG w0 w' A P V' (gall P G) (ints u ([]) :: fths F A P (wld wb A :: ts)) := by
  have b0 := bal w (.cells #[.int .i64 6, .int .i64 root, .int .i64 page, .int .i64 kind, .bool user, .int .i64 g, .int .i64 i, .int .u64 (v : Int), .int .i64 n] 26)
  have hz := Blk.new w 26 [.int .i64 6, .int .i64 root, .int .i64 page, .int .i64 kind, .bool user, .int .i64 g, .int .i64 i, .int .u64 (v : Int), .int .i64 n]
  obtain ⟨wz, hwz⟩ : ∃ wz, w.alloc (.cells #[.int .i64 6, .int .i64 root, .int .i64 page, .int .i64 kind, .bool user, .int .i64 g, .int .i64 i, .int .u64 (v : Int), .int .i64 n] 26) = wz := ⟨_, rfl⟩
  rw [show (w.alloc (.cells ([.int .i64 6, .int .i64 root, .int .i64 page, .int .i64 kind, .bool user, .int .i64 g, .int .i64 i, .int .u64 (v : Int), .int .i64 n] : List Value).toArray 26)) = wz from hwz] at hz
  rw [hwz] at b0
  have H1 := H.add b0 (box w.heap.size 26 [.int .i64 6, .int .i64 root, .int .i64 page, .int .i64 kind, .bool user, .int .i64 g, .int .i64 i, .int .u64 (v : Int), .int .i64 n]) hz (fun b e => Nat.le_of_eq e.symm)
  obtain ⟨zb, hzb⟩ : ∃ zb, w.heap.size = zb := ⟨_, rfl⟩
  rw [hzb] at H1
  have z0 := (show Blk wz zb 26 [.int .i64 6, .int .i64 root, .int .i64 page, .int .i64 kind, .bool user, .int .i64 g, .int .i64 i, .int .u64 (v : Int), .int .i64 n] from Hold.at H1 5 rfl).cell (k := 0) rfl
  have zl := (show Blk wz zb 26 [.int .i64 6, .int .i64 root, .int .i64 page, .int .i64 kind, .bool user, .int .i64 g, .int .i64 i, .int .u64 (v : Int), .int .i64 n] from Hold.at H1 5 rfl).lt
  have w4 := (show Blk wz wb 42 (wldC A) from Hold.at H1 8 rfl).cell (k := 4) rfl
  have wl := (show Blk wz wb 42 (wldC A) from Hold.at H1 8 rfl).lt
  have hc := all_h H1 hl
  have HC := Lib.hid hc
  have HW := Lib.hid hwz
  have HZB := Lib.hid hzb
  clear hc H1 H hwz hzb b0 hz
  go_enter Tryz.func16, Tryz.ntmps16
  go_upto_region 1 with (fail)
  rw [HW.out, HZB.out]
  go_wp2_with (go_at_call 55; (with_reducible refine HC.out.mono ?_); rintro e W3 ⟨⟨r3, rfl⟩, V3, h3⟩; have HH3 := Lib.hid h3; clear h3)
  go_ret3
  exact ⟨_, rfl, V3, HH3.out.tail.nil1⟩
set_option maxRecDepth 100000 in
set_option maxHeartbeats 4000000 in
theorem fdo_8 {w0 w : World} {A : GAd} {P : Pm} {V : GVl} {G : GS} {F : FA} {ts : List Thing} {wb : Nat} (H : HG w0 w A P V G (fths F A P (wld wb A :: ts)))  (root page kind : Int) (user : Bool) (g i : Int) (v : Nat) (n : Int) :
    Calls Tryz.prog 16 #[.pointer (some ⟨wb, 0, none⟩), .pointer (some ⟨F.fl, 0, none⟩), .agg #[.int .i64 8, .int .i64 root, .int .i64 page, .int .i64 kind, .bool user, .int .i64 g, .int .i64 i, .int .u64 (v : Int), .int .i64 n]] w
      fun e w' => ∃ u, e = .returned (.tuple #[u, .bool (true), .int .i64 (0)]) ∧ ∃ V', HG w0 w' A P V' (gword G g i) (ints u ([]) :: fths F A P (wld wb A :: ts)) := by
  have b0 := bal w (.cells #[.int .i64 8, .int .i64 root, .int .i64 page, .int .i64 kind, .bool user, .int .i64 g, .int .i64 i, .int .u64 (v : Int), .int .i64 n] 26)
  have hz := Blk.new w 26 [.int .i64 8, .int .i64 root, .int .i64 page, .int .i64 kind, .bool user, .int .i64 g, .int .i64 i, .int .u64 (v : Int), .int .i64 n]
  obtain ⟨wz, hwz⟩ : ∃ wz, w.alloc (.cells #[.int .i64 8, .int .i64 root, .int .i64 page, .int .i64 kind, .bool user, .int .i64 g, .int .i64 i, .int .u64 (v : Int), .int .i64 n] 26) = wz := ⟨_, rfl⟩
  rw [show (w.alloc (.cells ([.int .i64 8, .int .i64 root, .int .i64 page, .int .i64 kind, .bool user, .int .i64 g, .int .i64 i, .int .u64 (v : Int), .int .i64 n] : List Value).toArray 26)) = wz from hwz] at hz
  rw [hwz] at b0
  have H1 := H.add b0 (box w.heap.size 26 [.int .i64 8, .int .i64 root, .int .i64 page, .int .i64 kind, .bool user, .int .i64 g, .int .i64 i, .int .u64 (v : Int), .int .i64 n]) hz (fun b e => Nat.le_of_eq e.symm)
  obtain ⟨zb, hzb⟩ : ∃ zb, w.heap.size = zb := ⟨_, rfl⟩
  rw [hzb] at H1
  have z0 := (show Blk wz zb 26 [.int .i64 8, .int .i64 root, .int .i64 page, .int .i64 kind, .bool user, .int .i64 g, .int .i64 i, .int .u64 (v : Int), .int .i64 n] from Hold.at H1 5 rfl).cell (k := 0) rfl
  have z5 := (show Blk wz zb 26 [.int .i64 8, .int .i64 root, .int .i64 page, .int .i64 kind, .bool user, .int .i64 g, .int .i64 i, .int .u64 (v : Int), .int .i64 n] from Hold.at H1 5 rfl).cell (k := 5) rfl
  have z6 := (show Blk wz zb 26 [.int .i64 8, .int .i64 root, .int .i64 page, .int .i64 kind, .bool user, .int .i64 g, .int .i64 i, .int .u64 (v : Int), .int .i64 n] from Hold.at H1 5 rfl).cell (k := 6) rfl
  have zl := (show Blk wz zb 26 [.int .i64 8, .int .i64 root, .int .i64 page, .int .i64 kind, .bool user, .int .i64 g, .int .i64 i, .int .u64 (v : Int), .int .i64 n] from Hold.at H1 5 rfl).lt
  have w4 := (show Blk wz wb 42 (wldC A) from Hold.at H1 8 rfl).cell (k := 4) rfl
  have wl := (show Blk wz wb 42 (wldC A) from Hold.at H1 8 rfl).lt
  have hc := word_h (H1.past (Below.refl _ _).drew) g i
  have HC := Lib.hid hc
  have HW := Lib.hid hwz
  have HZB := Lib.hid hzb
  clear hc H1 H hwz hzb b0 hz
  go_enter Tryz.func16, Tryz.ntmps16
  go_upto_region 1 with (fail)
  rw [HW.out, HZB.out]
  go_wp2_with fail
  go_region_held3 (fun w' => w'.cell? ⟨wb, 4, none⟩ = some (.pointer (some ⟨A.dp, 0, none⟩)) ∧ w'.cell? ⟨zb, 5, none⟩ = some (.int .i64 g) ∧ w'.cell? ⟨zb, 6, none⟩ = some (.int .i64 i)) (go_keep) (first
    | (go_at_call 57; (with_reducible refine HC.out.mono ?_); rintro e W3 ⟨⟨r3, rfl⟩, V3, h3⟩; have cz5 := (show Blk W3 zb 26 [.int .i64 8, .int .i64 root, .int .i64 page, .int .i64 kind, .bool user, .int .i64 g, .int .i64 i, .int .u64 (v : Int), .int .i64 n] from Hold.at h3 5 rfl).cell (k := 5) rfl; have cz6 := (show Blk W3 zb 26 [.int .i64 8, .int .i64 root, .int .i64 page, .int .i64 kind, .bool user, .int .i64 g, .int .i64 i, .int .u64 (v : Int), .int .i64 n] from Hold.at h3 5 rfl).cell (k := 6) rfl; have czl := (show Blk W3 zb 26 [.int .i64 8, .int .i64 root, .int .i64 page, .int .i64 kind, .bool user, .int .i64 g, .int .i64 i, .int .u64 (v : Int), .int .i64 n] from Hold.at h3 5 rfl).lt; have cw4 := (show Blk W3 wb 42 (wldC A) from Hold.at h3 8 rfl).cell (k := 4) rfl; have cwl := (show Blk W3 wb 42 (wldC A) from Hold.at h3 8 rfl).lt; have HH3 := Lib.hid h3; clear h3))
  all_goals go_wp2_with fail
  all_goals go_ret3
  all_goals exact ⟨_, rfl, V3, HH3.out.tail.nil1⟩
set_option maxRecDepth 100000 in
set_option maxHeartbeats 4000000 in
theorem fdo_9 {w0 w : World} {A : GAd} {P : Pm} {V : GVl} {G : GS} {F : FA} {ts : List Thing} {wb : Nat} (H : HG w0 w A P V G (fths F A P (wld wb A :: ts)))  (root page kind : Int) (user : Bool) (g i : Int) (v : Nat) (n : Int) :
    Calls Tryz.prog 16 #[.pointer (some ⟨wb, 0, none⟩), .pointer (some ⟨F.fl, 0, none⟩), .agg #[.int .i64 9, .int .i64 root, .int .i64 page, .int .i64 kind, .bool user, .int .i64 g, .int .i64 i, .int .u64 (v : Int), .int .i64 n]] w
      fun e w' => ∃ u, e = .returned (.tuple #[u, .bool ((glook P G g).1), .int .i64 (0)]) ∧ ∃ V', HG w0 w' A P V' ((glook P G g).2) (ints u ([]) :: fths F A P (wld wb A :: ts)) := by
  have b0 := bal w (.cells #[.int .i64 9, .int .i64 root, .int .i64 page, .int .i64 kind, .bool user, .int .i64 g, .int .i64 i, .int .u64 (v : Int), .int .i64 n] 26)
  have hz := Blk.new w 26 [.int .i64 9, .int .i64 root, .int .i64 page, .int .i64 kind, .bool user, .int .i64 g, .int .i64 i, .int .u64 (v : Int), .int .i64 n]
  obtain ⟨wz, hwz⟩ : ∃ wz, w.alloc (.cells #[.int .i64 9, .int .i64 root, .int .i64 page, .int .i64 kind, .bool user, .int .i64 g, .int .i64 i, .int .u64 (v : Int), .int .i64 n] 26) = wz := ⟨_, rfl⟩
  rw [show (w.alloc (.cells ([.int .i64 9, .int .i64 root, .int .i64 page, .int .i64 kind, .bool user, .int .i64 g, .int .i64 i, .int .u64 (v : Int), .int .i64 n] : List Value).toArray 26)) = wz from hwz] at hz
  rw [hwz] at b0
  have H1 := H.add b0 (box w.heap.size 26 [.int .i64 9, .int .i64 root, .int .i64 page, .int .i64 kind, .bool user, .int .i64 g, .int .i64 i, .int .u64 (v : Int), .int .i64 n]) hz (fun b e => Nat.le_of_eq e.symm)
  obtain ⟨zb, hzb⟩ : ∃ zb, w.heap.size = zb := ⟨_, rfl⟩
  rw [hzb] at H1
  have z0 := (show Blk wz zb 26 [.int .i64 9, .int .i64 root, .int .i64 page, .int .i64 kind, .bool user, .int .i64 g, .int .i64 i, .int .u64 (v : Int), .int .i64 n] from Hold.at H1 5 rfl).cell (k := 0) rfl
  have z5 := (show Blk wz zb 26 [.int .i64 9, .int .i64 root, .int .i64 page, .int .i64 kind, .bool user, .int .i64 g, .int .i64 i, .int .u64 (v : Int), .int .i64 n] from Hold.at H1 5 rfl).cell (k := 5) rfl
  have zl := (show Blk wz zb 26 [.int .i64 9, .int .i64 root, .int .i64 page, .int .i64 kind, .bool user, .int .i64 g, .int .i64 i, .int .u64 (v : Int), .int .i64 n] from Hold.at H1 5 rfl).lt
  have w4 := (show Blk wz wb 42 (wldC A) from Hold.at H1 8 rfl).cell (k := 4) rfl
  have wl := (show Blk wz wb 42 (wldC A) from Hold.at H1 8 rfl).lt
  have hc := look_h (H1.past (Below.refl _ _).drew) g
  have HC := Lib.hid hc
  have HW := Lib.hid hwz
  have HZB := Lib.hid hzb
  clear hc H1 H hwz hzb b0 hz
  go_enter Tryz.func16, Tryz.ntmps16
  go_upto_region 1 with (fail)
  rw [HW.out, HZB.out]
  go_wp2_with fail
  go_region_held3 (fun w' => w'.cell? ⟨wb, 4, none⟩ = some (.pointer (some ⟨A.dp, 0, none⟩)) ∧ w'.cell? ⟨zb, 5, none⟩ = some (.int .i64 g)) (go_keep) (first
    | (go_at_call 58; (with_reducible refine HC.out.mono ?_); rintro e W3 ⟨rfl, V3, h3⟩; have cz5 := (show Blk W3 zb 26 [.int .i64 9, .int .i64 root, .int .i64 page, .int .i64 kind, .bool user, .int .i64 g, .int .i64 i, .int .u64 (v : Int), .int .i64 n] from Hold.at h3 5 rfl).cell (k := 5) rfl; have czl := (show Blk W3 zb 26 [.int .i64 9, .int .i64 root, .int .i64 page, .int .i64 kind, .bool user, .int .i64 g, .int .i64 i, .int .u64 (v : Int), .int .i64 n] from Hold.at h3 5 rfl).lt; have cw4 := (show Blk W3 wb 42 (wldC A) from Hold.at h3 8 rfl).cell (k := 4) rfl; have cwl := (show Blk W3 wb 42 (wldC A) from Hold.at h3 8 rfl).lt; have HH3 := Lib.hid h3; clear h3))
  all_goals go_wp2_with fail
  all_goals go_ret3
  all_goals exact ⟨_, rfl, V3, HH3.out.tail.nil1⟩
set_option maxRecDepth 100000 in
set_option maxHeartbeats 4000000 in
theorem fdo_7y {w0 w : World} {A : GAd} {P : Pm} {V : GVl} {G : GS} {F : FA} {ts : List Thing} {wb : Nat} (H : HG w0 w A P V G (fths F A P (wld wb A :: ts)))  (root page kind : Int) (user : Bool) (g i : Int) (v : Nat) (n : Int) (hy : 0 < (sall G.s.ps).length) (hn : 0 ≤ n) :
    Calls Tryz.prog 16 #[.pointer (some ⟨wb, 0, none⟩), .pointer (some ⟨F.fl, 0, none⟩), .agg #[.int .i64 7, .int .i64 root, .int .i64 page, .int .i64 kind, .bool user, .int .i64 g, .int .i64 i, .int .u64 (v : Int), .int .i64 n]] w
      fun e w' => ∃ u, e = .returned (.tuple #[u, .bool ((gdrop G ((sall G.s.ps).getD (n % ((sall G.s.ps).length : Int)).toNat 0)).1), .int .i64 (0)]) ∧ ∃ V', HG w0 w' A P V' ((gdrop G ((sall G.s.ps).getD (n % ((sall G.s.ps).length : Int)).toNat 0)).2) (ints u ([]) :: fths F A P (wld wb A :: ts)) := by
  obtain ⟨m, rfl⟩ := Int.eq_ofNat_of_zero_le hn
  have b0 := bal w (.cells #[.int .i64 7, .int .i64 root, .int .i64 page, .int .i64 kind, .bool user, .int .i64 g, .int .i64 i, .int .u64 (v : Int), .int .i64 (m : Int)] 26)
  have hz := Blk.new w 26 [.int .i64 7, .int .i64 root, .int .i64 page, .int .i64 kind, .bool user, .int .i64 g, .int .i64 i, .int .u64 (v : Int), .int .i64 (m : Int)]
  obtain ⟨wz, hwz⟩ : ∃ wz, w.alloc (.cells #[.int .i64 7, .int .i64 root, .int .i64 page, .int .i64 kind, .bool user, .int .i64 g, .int .i64 i, .int .u64 (v : Int), .int .i64 (m : Int)] 26) = wz := ⟨_, rfl⟩
  rw [show (w.alloc (.cells ([.int .i64 7, .int .i64 root, .int .i64 page, .int .i64 kind, .bool user, .int .i64 g, .int .i64 i, .int .u64 (v : Int), .int .i64 (m : Int)] : List Value).toArray 26)) = wz from hwz] at hz
  rw [hwz] at b0
  have H1 := H.add b0 (box w.heap.size 26 [.int .i64 7, .int .i64 root, .int .i64 page, .int .i64 kind, .bool user, .int .i64 g, .int .i64 i, .int .u64 (v : Int), .int .i64 (m : Int)]) hz (fun b e => Nat.le_of_eq e.symm)
  obtain ⟨zb, hzb⟩ : ∃ zb, w.heap.size = zb := ⟨_, rfl⟩
  rw [hzb] at H1
  have z0 := (show Blk wz zb 26 [.int .i64 7, .int .i64 root, .int .i64 page, .int .i64 kind, .bool user, .int .i64 g, .int .i64 i, .int .u64 (v : Int), .int .i64 (m : Int)] from Hold.at H1 5 rfl).cell (k := 0) rfl
  have z8 := (show Blk wz zb 26 [.int .i64 7, .int .i64 root, .int .i64 page, .int .i64 kind, .bool user, .int .i64 g, .int .i64 i, .int .u64 (v : Int), .int .i64 (m : Int)] from Hold.at H1 5 rfl).cell (k := 8) rfl
  have zl := (show Blk wz zb 26 [.int .i64 7, .int .i64 root, .int .i64 page, .int .i64 kind, .bool user, .int .i64 g, .int .i64 i, .int .u64 (v : Int), .int .i64 (m : Int)] from Hold.at H1 5 rfl).lt
  have w2 := (show Blk wz wb 42 (wldC A) from Hold.at H1 8 rfl).cell (k := 2) rfl
  have wl := (show Blk wz wb 42 (wldC A) from Hold.at H1 8 rfl).lt
  have hle := (HG.inv H1).le
  have hc := sall_any H1.sx
  obtain ⟨L, hL⟩ : ∃ x, sall G.s.ps = x := ⟨_, rfl⟩
  have hll : L.length ≤ 256 := by rw [← hL]; unfold sall; rw [List.length_map]; omega
  rw [hL] at hc hy ⊢
  obtain ⟨ln, hln⟩ : ∃ x, L.length = x := ⟨_, rfl⟩
  rw [hln] at hll hy ⊢
  have HC := Lib.hid hc
  have HH1 := Lib.hid H1
  have HLn := Lib.hid hln
  have HW := Lib.hid hwz
  have HZB := Lib.hid hzb
  have hq : (((m : Int)) % (ln : Int)).toNat = m % ln := by omega
  rw [hq]
  obtain ⟨r, hr⟩ : ∃ x, m % ln = x := ⟨_, rfl⟩
  have hrl : r < ln := by rw [← hr]; exact Nat.mod_lt _ hy
  have ht : Int.tmod (m : Int) (ln : Int) = (r : Int) := by rw [← hr]; exact (Int.ofNat_tmod m ln).symm
  have hwr : IntKind.i64.wrap (r : Int) = (r : Int) := by rw [IntKind.wrap_i64]; omega
  rw [hr]
  obtain ⟨q, hqq⟩ : ∃ x, L.getD r 0 = x := ⟨_, rfl⟩
  rw [hqq]
  have HQ := Lib.hid hqq
  have fl0 : decide ((ln : Int) > 0) = true := decide_eq_true (by omega)
  have fl1 : (ln == 0) = false := beq_eq_false_iff_ne.2 (by omega)
  have fl2 : decide (0 < ln) = true := decide_eq_true hy
  have fm0 : decide ((m : Int) ≥ 0) = true := decide_eq_true (by omega)
  have hrL : r < L.length := by rw [HLn.out]; exact hrl
  have hlz : ¬ ln = 0 := by omega
  have HRL := Lib.hid hrL
  clear hq hr hqq hn hrL
  clear hc H1 H hwz hzb b0 hz hL hln hle
  go_enter Tryz.func16, Tryz.ntmps16
  go_upto_region 1 with (fail)
  rw [HW.out, HZB.out]
  go_wp2_with (go_at_call 20; (with_reducible refine HC.out.mono ?_); rintro e W4 ⟨⟨v4, rfl, hv4⟩, b4⟩; have h5 := HH1.out.add b4 (ints v4 L) hv4.row (fun b hb => hv4.lo b hb); obtain ⟨gb, gc, rfl, lgb, dgb⟩ := RowI.at hv4.row r HRL.out; rw [HLn.out] at h5 ⊢; clear lgb dgb; have h4 : HG w0 W4 A P V G (box zb 26 [.int .i64 7, .int .i64 root, .int .i64 page, .int .i64 kind, .bool user, .int .i64 g, .int .i64 i, .int .u64 (v : Int), .int .i64 (m : Int)] :: ints (.slice (some ⟨gb, 0, none⟩) ln gc) L :: fths F A P (wld wb A :: ts)) := HG.swap h5; have HH4 := Lib.hid h4; clear h4 h5 hv4; have h4 := HH4.out; have cz8 := (show Blk W4 zb 26 [.int .i64 7, .int .i64 root, .int .i64 page, .int .i64 kind, .bool user, .int .i64 g, .int .i64 i, .int .u64 (v : Int), .int .i64 (m : Int)] from Hold.at h4 5 rfl).cell (k := 8) rfl; have czl := (show Blk W4 zb 26 [.int .i64 7, .int .i64 root, .int .i64 page, .int .i64 kind, .bool user, .int .i64 g, .int .i64 i, .int .u64 (v : Int), .int .i64 (m : Int)] from Hold.at h4 5 rfl).lt; have cw4 := (show Blk W4 wb 42 (wldC A) from Hold.at h4 9 rfl).cell (k := 4) rfl; have cwl := (show Blk W4 wb 42 (wldC A) from Hold.at h4 9 rfl).lt; clear h4)
  have h4 := HH4.out
  have r4 := ints_at (show RowI W4 (.slice (some ⟨gb, 0, none⟩) ln gc) L from Hold.at h4 6 rfl) r HRL.out HQ.out
  have rl4 := lt_of_cell r4
  have hgd := gdrop_h (h4.past (Below.refl _ _).drew) q
  have HGd := Lib.hid hgd
  clear hgd h4
  go_region_held3 (fun w' => w'.cell? ⟨wb, 4, none⟩ = some (.pointer (some ⟨A.dp, 0, none⟩)) ∧ w'.cell? ⟨zb, 8, none⟩ = some (.int .i64 (m : Int)) ∧ w'.cell? ⟨gb, r, none⟩ = some (.int .i64 q)) (go_keep) (first
    | (go_at_call 56; (with_reducible refine HGd.out.mono ?_); rintro e W6 ⟨rfl, V6, h6'⟩; have h6 : HG w0 W6 A P V6 (gdrop G q).2 (ints (.slice (some ⟨gb, 0, none⟩) ln gc) L :: box zb 26 [.int .i64 7, .int .i64 root, .int .i64 page, .int .i64 kind, .bool user, .int .i64 g, .int .i64 i, .int .u64 (v : Int), .int .i64 (m : Int)] :: fths F A P (wld wb A :: ts)) := HG.swap h6'; have dz8 := (show Blk W6 zb 26 [.int .i64 7, .int .i64 root, .int .i64 page, .int .i64 kind, .bool user, .int .i64 g, .int .i64 i, .int .u64 (v : Int), .int .i64 (m : Int)] from Hold.at h6 6 rfl).cell (k := 8) rfl; have dzl := (show Blk W6 zb 26 [.int .i64 7, .int .i64 root, .int .i64 page, .int .i64 kind, .bool user, .int .i64 g, .int .i64 i, .int .u64 (v : Int), .int .i64 (m : Int)] from Hold.at h6 6 rfl).lt; have dw4 := (show Blk W6 wb 42 (wldC A) from Hold.at h6 9 rfl).cell (k := 4) rfl; have dwl := (show Blk W6 wb 42 (wldC A) from Hold.at h6 9 rfl).lt; have r6 := ints_at (show RowI W6 (.slice (some ⟨gb, 0, none⟩) ln gc) L from Hold.at h6 5 rfl) r HRL.out HQ.out; have rl6 := lt_of_cell r6; have HH6 := Lib.hid h6; clear h6 h6'))
  all_goals go_wp2_with fail
  all_goals go_ret3
  all_goals exact ⟨_, rfl, V6, HH6.out.tail.tail.nil1⟩
set_option maxRecDepth 100000 in
set_option maxHeartbeats 4000000 in
theorem fdo_7n {w0 w : World} {A : GAd} {P : Pm} {V : GVl} {G : GS} {F : FA} {ts : List Thing} {wb : Nat} (H : HG w0 w A P V G (fths F A P (wld wb A :: ts)))  (root page kind : Int) (user : Bool) (g i : Int) (v : Nat) (n : Int) (hy : ¬ (0 < (sall G.s.ps).length ∧ 0 ≤ n)) :
    Calls Tryz.prog 16 #[.pointer (some ⟨wb, 0, none⟩), .pointer (some ⟨F.fl, 0, none⟩), .agg #[.int .i64 7, .int .i64 root, .int .i64 page, .int .i64 kind, .bool user, .int .i64 g, .int .i64 i, .int .u64 (v : Int), .int .i64 n]] w
      fun e w' => ∃ u, e = .returned (.tuple #[u, .bool (true), .int .i64 (0)]) ∧ ∃ V', HG w0 w' A P V' (G) (ints u ([]) :: fths F A P (wld wb A :: ts)) := by
  have b0 := bal w (.cells #[.int .i64 7, .int .i64 root, .int .i64 page, .int .i64 kind, .bool user, .int .i64 g, .int .i64 i, .int .u64 (v : Int), .int .i64 n] 26)
  have hz := Blk.new w 26 [.int .i64 7, .int .i64 root, .int .i64 page, .int .i64 kind, .bool user, .int .i64 g, .int .i64 i, .int .u64 (v : Int), .int .i64 n]
  obtain ⟨wz, hwz⟩ : ∃ wz, w.alloc (.cells #[.int .i64 7, .int .i64 root, .int .i64 page, .int .i64 kind, .bool user, .int .i64 g, .int .i64 i, .int .u64 (v : Int), .int .i64 n] 26) = wz := ⟨_, rfl⟩
  rw [show (w.alloc (.cells ([.int .i64 7, .int .i64 root, .int .i64 page, .int .i64 kind, .bool user, .int .i64 g, .int .i64 i, .int .u64 (v : Int), .int .i64 n] : List Value).toArray 26)) = wz from hwz] at hz
  rw [hwz] at b0
  have H1 := H.add b0 (box w.heap.size 26 [.int .i64 7, .int .i64 root, .int .i64 page, .int .i64 kind, .bool user, .int .i64 g, .int .i64 i, .int .u64 (v : Int), .int .i64 n]) hz (fun b e => Nat.le_of_eq e.symm)
  obtain ⟨zb, hzb⟩ : ∃ zb, w.heap.size = zb := ⟨_, rfl⟩
  rw [hzb] at H1
  have z0 := (show Blk wz zb 26 [.int .i64 7, .int .i64 root, .int .i64 page, .int .i64 kind, .bool user, .int .i64 g, .int .i64 i, .int .u64 (v : Int), .int .i64 n] from Hold.at H1 5 rfl).cell (k := 0) rfl
  have z8 := (show Blk wz zb 26 [.int .i64 7, .int .i64 root, .int .i64 page, .int .i64 kind, .bool user, .int .i64 g, .int .i64 i, .int .u64 (v : Int), .int .i64 n] from Hold.at H1 5 rfl).cell (k := 8) rfl
  have zl := (show Blk wz zb 26 [.int .i64 7, .int .i64 root, .int .i64 page, .int .i64 kind, .bool user, .int .i64 g, .int .i64 i, .int .u64 (v : Int), .int .i64 n] from Hold.at H1 5 rfl).lt
  have w2 := (show Blk wz wb 42 (wldC A) from Hold.at H1 8 rfl).cell (k := 2) rfl
  have wl := (show Blk wz wb 42 (wldC A) from Hold.at H1 8 rfl).lt
  have hle := (HG.inv H1).le
  have hc := sall_any H1.sx
  obtain ⟨L, hL⟩ : ∃ x, sall G.s.ps = x := ⟨_, rfl⟩
  have hll : L.length ≤ 256 := by rw [← hL]; unfold sall; rw [List.length_map]; omega
  rw [hL] at hc hy
  obtain ⟨ln, hln⟩ : ∃ x, L.length = x := ⟨_, rfl⟩
  rw [hln] at hll hy
  have HC := Lib.hid hc
  have HH1 := Lib.hid H1
  have HLn := Lib.hid hln
  have HW := Lib.hid hwz
  have HZB := Lib.hid hzb
  clear hc H1 H hwz hzb b0 hz hL hln hle
  by_cases hl0 : 0 < ln
  · have hn0 : n < 0 := by omega
    have fl0 : decide ((ln : Int) > 0) = true := decide_eq_true (by omega)
    have fl2 : decide (0 < ln) = true := decide_eq_true hl0
    have fm0 : decide (n ≥ 0) = false := decide_eq_false (by omega)
    clear hy hl0
    go_enter Tryz.func16, Tryz.ntmps16
    go_upto_region 1 with (fail)
    rw [HW.out, HZB.out]
    go_wp2_with (go_at_call 20; (with_reducible refine HC.out.mono ?_); rintro e W4 ⟨⟨v4, rfl, hv4⟩, b4⟩; obtain ⟨a4, c4, rfl⟩ := hv4.form; rw [HLn.out]; have h4 := HH1.out.past b4; have HH4 := Lib.hid h4; have cz8 := (show Blk W4 zb 26 [.int .i64 7, .int .i64 root, .int .i64 page, .int .i64 kind, .bool user, .int .i64 g, .int .i64 i, .int .u64 (v : Int), .int .i64 n] from Hold.at h4 5 rfl).cell (k := 8) rfl; have czl := (show Blk W4 zb 26 [.int .i64 7, .int .i64 root, .int .i64 page, .int .i64 kind, .bool user, .int .i64 g, .int .i64 i, .int .u64 (v : Int), .int .i64 n] from Hold.at h4 5 rfl).lt; have cw4 := (show Blk W4 wb 42 (wldC A) from Hold.at h4 8 rfl).cell (k := 4) rfl; have cwl := (show Blk W4 wb 42 (wldC A) from Hold.at h4 8 rfl).lt; clear h4 hv4)
    go_ret3
    exact ⟨_, rfl, V, HH4.out.tail.nil1⟩
  · obtain rfl : ln = 0 := by omega
    clear hy hl0
    go_enter Tryz.func16, Tryz.ntmps16
    go_upto_region 1 with (fail)
    rw [HW.out, HZB.out]
    go_wp2_with (go_at_call 20; (with_reducible refine HC.out.mono ?_); rintro e W4 ⟨⟨v4, rfl, hv4⟩, b4⟩; obtain ⟨a4, c4, rfl⟩ := hv4.form; rw [HLn.out]; have h4 := HH1.out.past b4; have HH4 := Lib.hid h4; have cz8 := (show Blk W4 zb 26 [.int .i64 7, .int .i64 root, .int .i64 page, .int .i64 kind, .bool user, .int .i64 g, .int .i64 i, .int .u64 (v : Int), .int .i64 n] from Hold.at h4 5 rfl).cell (k := 8) rfl; have czl := (show Blk W4 zb 26 [.int .i64 7, .int .i64 root, .int .i64 page, .int .i64 kind, .bool user, .int .i64 g, .int .i64 i, .int .u64 (v : Int), .int .i64 n] from Hold.at h4 5 rfl).lt; have cw4 := (show Blk W4 wb 42 (wldC A) from Hold.at h4 8 rfl).cell (k := 4) rfl; have cwl := (show Blk W4 wb 42 (wldC A) from Hold.at h4 8 rfl).lt; clear h4 hv4)
    go_ret3
    exact ⟨_, rfl, V, HH4.out.tail.nil1⟩
set_option maxRecDepth 100000 in
set_option maxHeartbeats 4000000 in
theorem fdo_w {w0 w : World} {A : GAd} {P : Pm} {V : GVl} {G : GS} {F : FA} {ts : List Thing} {wb : Nat} (H : HG w0 w A P V G (fths F A P (wld wb A :: ts))) (hE : EC w0) (h0 : 1 ≤ w0.heap.size) (k : Int) (n4 : k ≠ 4) (n5 : k ≠ 5) (n6 : k ≠ 6) (n7 : k ≠ 7) (n8 : k ≠ 8) (n9 : k ≠ 9) (root page kind : Int) (user : Bool) (g i : Int) (v : Nat) (n : Int) :
    Calls Tryz.prog 16 #[.pointer (some ⟨wb, 0, none⟩), .pointer (some ⟨F.fl, 0, none⟩), .agg #[.int .i64 k, .int .i64 root, .int .i64 page, .int .i64 kind, .bool user, .int .i64 g, .int .i64 i, .int .u64 (v : Int), .int .i64 n]] w
      fun e w' => ∃ u, e = .returned (.tuple #[u, .bool ((fwalk P G ⟨k, root, page, kind, user, g, i, v, n⟩).1.is), .int .i64 ((fwalk P G ⟨k, root, page, kind, user, g, i, v, n⟩).1.how)]) ∧ ∃ V', HG w0 w' A P V' ((fwalk P G ⟨k, root, page, kind, user, g, i, v, n⟩).2) (ints u ((fwalk P G ⟨k, root, page, kind, user, g, i, v, n⟩).1.anew) :: fths F A P (wld wb A :: ts)) := by
  have b0 := bal w (.cells #[.int .i64 k, .int .i64 root, .int .i64 page, .int .i64 kind, .bool user, .int .i64 g, .int .i64 i, .int .u64 (v : Int), .int .i64 n] 26)
  have hz := Blk.new w 26 [.int .i64 k, .int .i64 root, .int .i64 page, .int .i64 kind, .bool user, .int .i64 g, .int .i64 i, .int .u64 (v : Int), .int .i64 n]
  obtain ⟨wz, hwz⟩ : ∃ wz, w.alloc (.cells #[.int .i64 k, .int .i64 root, .int .i64 page, .int .i64 kind, .bool user, .int .i64 g, .int .i64 i, .int .u64 (v : Int), .int .i64 n] 26) = wz := ⟨_, rfl⟩
  rw [show (w.alloc (.cells ([.int .i64 k, .int .i64 root, .int .i64 page, .int .i64 kind, .bool user, .int .i64 g, .int .i64 i, .int .u64 (v : Int), .int .i64 n] : List Value).toArray 26)) = wz from hwz] at hz
  rw [hwz] at b0
  have H1 := H.add b0 (box w.heap.size 26 [.int .i64 k, .int .i64 root, .int .i64 page, .int .i64 kind, .bool user, .int .i64 g, .int .i64 i, .int .u64 (v : Int), .int .i64 n]) hz (fun b e => Nat.le_of_eq e.symm)
  obtain ⟨zb, hzb⟩ : ∃ zb, w.heap.size = zb := ⟨_, rfl⟩
  rw [hzb] at H1
  have z0 := (show Blk wz zb 26 [.int .i64 k, .int .i64 root, .int .i64 page, .int .i64 kind, .bool user, .int .i64 g, .int .i64 i, .int .u64 (v : Int), .int .i64 n] from Hold.at H1 5 rfl).cell (k := 0) rfl
  have z1 := (show Blk wz zb 26 [.int .i64 k, .int .i64 root, .int .i64 page, .int .i64 kind, .bool user, .int .i64 g, .int .i64 i, .int .u64 (v : Int), .int .i64 n] from Hold.at H1 5 rfl).cell (k := 1) rfl
  have z2 := (show Blk wz zb 26 [.int .i64 k, .int .i64 root, .int .i64 page, .int .i64 kind, .bool user, .int .i64 g, .int .i64 i, .int .u64 (v : Int), .int .i64 n] from Hold.at H1 5 rfl).cell (k := 2) rfl
  have z3 := (show Blk wz zb 26 [.int .i64 k, .int .i64 root, .int .i64 page, .int .i64 kind, .bool user, .int .i64 g, .int .i64 i, .int .u64 (v : Int), .int .i64 n] from Hold.at H1 5 rfl).cell (k := 3) rfl
  have z4 := (show Blk wz zb 26 [.int .i64 k, .int .i64 root, .int .i64 page, .int .i64 kind, .bool user, .int .i64 g, .int .i64 i, .int .u64 (v : Int), .int .i64 n] from Hold.at H1 5 rfl).cell (k := 4) rfl
  have zl := (show Blk wz zb 26 [.int .i64 k, .int .i64 root, .int .i64 page, .int .i64 kind, .bool user, .int .i64 g, .int .i64 i, .int .u64 (v : Int), .int .i64 n] from Hold.at H1 5 rfl).lt
  have w1 := (show Blk wz wb 42 (wldC A) from Hold.at H1 8 rfl).cell (k := 1) rfl
  have wl := (show Blk wz wb 42 (wldC A) from Hold.at H1 8 rfl).lt
  have g4 : (k == 4) = false := beq_eq_false_iff_ne.2 n4
  have g5 : (k == 5) = false := beq_eq_false_iff_ne.2 n5
  have g6 : (k == 6) = false := beq_eq_false_iff_ne.2 n6
  have g7 : (k == 7) = false := beq_eq_false_iff_ne.2 n7
  have g8 : (k == 8) = false := beq_eq_false_iff_ne.2 n8
  have g9 : (k == 9) = false := beq_eq_false_iff_ne.2 n9
  have hec := fun W (hW : Below wz.heap.size wz W) => HG.ec (H1.past hW) hE h0
  have hgm : ∀ W, Below wz.heap.size wz W → GM W A.p A.fb P.hosts P.n G.s.mem := fun W hW => ⟨_, _, _, _, _, (H1.past hW).host, (H1.past hW).guest⟩
  obtain ⟨R, hR⟩ : ∃ x, fwalk P G ⟨k, root, page, kind, user, g, i, v, n⟩ = x := ⟨_, rfl⟩
  rw [hR]
  obtain ⟨⟨pth, h, cd⟩, ho⟩ : ∃ x, out (wk (rd P.hosts G.s.mem) P.hosts.length root page kind user) = x := ⟨_, rfl⟩
  have hwk := fun W (hW : Below wz.heap.size wz W) => gm_walk (hgm W hW) (hec W hW) root page kind user pth h cd ho
  have hfw : (h ≠ 0 ∧ R = (⟨[], false, h⟩, G)) ∨ (h = 0 ∧ (pth.ats.length = 3 ∨ (pth.ats.length = 2 ∧ pth.large = true)) ∧ R = (⟨(jfill P G root page pth (decide (kind = 1))).1.1, (jfill P G root page pth (decide (kind = 1))).1.2, 0⟩, (jfill P G root page pth (decide (kind = 1))).2)) := by
    rw [← hR]
    unfold fwalk
    dsimp only
    cases hw : wk (rd P.hosts G.s.mem) P.hosts.length root page kind user with
    | error e =>
      rw [hw] at ho
      have e1 : e.1 = h := (Prod.mk.inj (Prod.mk.inj ho).2).1
      exact .inl ⟨e1 ▸ wk_err hw, by obtain ⟨e0, e2⟩ := e; dsimp only at e1 ⊢; rw [e1]⟩
    | ok p =>
      rw [hw] at ho
      have e1 : p = pth := (Prod.mk.inj ho).1
      have e2 : 0 = h := (Prod.mk.inj (Prod.mk.inj ho).2).1
      subst e1
      exact .inr ⟨e2.symm, wk_ats hw, rfl⟩
  rw [← ibeq kind 1] at hfw
  obtain ⟨pats, pg, ⟨pw, pu, px⟩, pl, pd⟩ := pth
  dsimp only at hwk hfw
  have nwb : wb ≠ wz.heap.size := by omega
  have nwb' : wz.heap.size ≠ wb := by omega
  have nzb : zb ≠ wz.heap.size := by omega
  have nzb' : wz.heap.size ≠ zb := by omega
  obtain ⟨pn, hpn⟩ : ∃ x, pats.length = x := ⟨_, rfl⟩
  rw [hpn] at hwk
  have HWk := Lib.hid hwk
  have HPn := Lib.hid hpn
  have HH1 := Lib.hid H1
  have HW := Lib.hid hwz
  have HZB := Lib.hid hzb
  clear hwk hec hgm H1 H hwz hzb b0 hz hR ho hpn hE n4 n5 n6 n7 n8 n9
  go_enter Tryz.func16, Tryz.ntmps16
  go_upto_region 1 with (fail)
  rw [HW.out, HZB.out]
  go_wp2_with fail
  go_region_held3 (fun w' => w'.cell? ⟨wb, 1, none⟩ = some (.pointer (some ⟨A.p, 0, none⟩)) ∧ w'.cell? ⟨zb, 1, none⟩ = some (.int .i64 root) ∧ w'.cell? ⟨zb, 2, none⟩ = some (.int .i64 page) ∧ w'.cell? ⟨zb, 3, none⟩ = some (.int .i64 kind) ∧ w'.cell? ⟨zb, 4, none⟩ = some (.bool user)) (go_keep) (first
    | (go_at_call 25; (with_reducible refine (HWk.out wz.drew (Below.refl wz.heap.size wz).drew).mono ?_); rintro e W4 ⟨b4, a4, c4, rfl, hs4⟩; have q4 := (Below.refl wz.heap.size wz).drew.trans b4; have h4 := HH1.out.past q4; have cz1 := (show Blk W4 zb 26 [.int .i64 k, .int .i64 root, .int .i64 page, .int .i64 kind, .bool user, .int .i64 g, .int .i64 i, .int .u64 (v : Int), .int .i64 n] from Hold.at h4 5 rfl).cell (k := 1) rfl; have cz2 := (show Blk W4 zb 26 [.int .i64 k, .int .i64 root, .int .i64 page, .int .i64 kind, .bool user, .int .i64 g, .int .i64 i, .int .u64 (v : Int), .int .i64 n] from Hold.at h4 5 rfl).cell (k := 2) rfl; have cz3 := (show Blk W4 zb 26 [.int .i64 k, .int .i64 root, .int .i64 page, .int .i64 kind, .bool user, .int .i64 g, .int .i64 i, .int .u64 (v : Int), .int .i64 n] from Hold.at h4 5 rfl).cell (k := 3) rfl; have cz4 := (show Blk W4 zb 26 [.int .i64 k, .int .i64 root, .int .i64 page, .int .i64 kind, .bool user, .int .i64 g, .int .i64 i, .int .u64 (v : Int), .int .i64 n] from Hold.at h4 5 rfl).cell (k := 4) rfl; have czl := (show Blk W4 zb 26 [.int .i64 k, .int .i64 root, .int .i64 page, .int .i64 kind, .bool user, .int .i64 g, .int .i64 i, .int .u64 (v : Int), .int .i64 n] from Hold.at h4 5 rfl).lt; have cw1 := (show Blk W4 wb 42 (wldC A) from Hold.at h4 8 rfl).cell (k := 1) rfl; have cwl := (show Blk W4 wb 42 (wldC A) from Hold.at h4 8 rfl).lt; have HS4 := Lib.hid hs4; clear hs4 h4)
    | (go_at_call 25; (with_reducible refine (HWk.out (wz.alloc (.cells #[.slice none 0 0, .int .i64 0, .bool false, .bool false, .bool false, .bool false, .bool false] 71)).drew (bal wz (.cells #[.slice none 0 0, .int .i64 0, .bool false, .bool false, .bool false, .bool false, .bool false] 71)).drew).mono ?_); rintro e W4 ⟨b4, a4, c4, rfl, hs4⟩; have q4 := (bal wz (.cells #[.slice none 0 0, .int .i64 0, .bool false, .bool false, .bool false, .bool false, .bool false] 71)).drew.trans (b4.mono (by simp)); have h4 := HH1.out.past q4; have cz1 := (show Blk W4 zb 26 [.int .i64 k, .int .i64 root, .int .i64 page, .int .i64 kind, .bool user, .int .i64 g, .int .i64 i, .int .u64 (v : Int), .int .i64 n] from Hold.at h4 5 rfl).cell (k := 1) rfl; have cz2 := (show Blk W4 zb 26 [.int .i64 k, .int .i64 root, .int .i64 page, .int .i64 kind, .bool user, .int .i64 g, .int .i64 i, .int .u64 (v : Int), .int .i64 n] from Hold.at h4 5 rfl).cell (k := 2) rfl; have cz3 := (show Blk W4 zb 26 [.int .i64 k, .int .i64 root, .int .i64 page, .int .i64 kind, .bool user, .int .i64 g, .int .i64 i, .int .u64 (v : Int), .int .i64 n] from Hold.at h4 5 rfl).cell (k := 3) rfl; have cz4 := (show Blk W4 zb 26 [.int .i64 k, .int .i64 root, .int .i64 page, .int .i64 kind, .bool user, .int .i64 g, .int .i64 i, .int .u64 (v : Int), .int .i64 n] from Hold.at h4 5 rfl).cell (k := 4) rfl; have czl := (show Blk W4 zb 26 [.int .i64 k, .int .i64 root, .int .i64 page, .int .i64 kind, .bool user, .int .i64 g, .int .i64 i, .int .u64 (v : Int), .int .i64 n] from Hold.at h4 5 rfl).lt; have cw1 := (show Blk W4 wb 42 (wldC A) from Hold.at h4 8 rfl).cell (k := 1) rfl; have cwl := (show Blk W4 wb 42 (wldC A) from Hold.at h4 8 rfl).lt; have HS4 := Lib.hid hs4; have ZP := (Blk.new wz 71 [.slice none 0 0, .int .i64 0, .bool false, .bool false, .bool false, .bool false, .bool false]).drew.past b4; have zc0 := ZP.cell (k := 0) rfl; have zc1 := ZP.cell (k := 1) rfl; have zc2 := ZP.cell (k := 2) rfl; have zc3 := ZP.cell (k := 3) rfl; have zc4 := ZP.cell (k := 4) rfl; have zc5 := ZP.cell (k := 5) rfl; have zc6 := ZP.cell (k := 6) rfl; have zcf := fun j => ZP.free j; have zcl := ZP.lt; clear hs4 h4))
  all_goals clear z0 z1 z2 z3 z4 zl w1 wl cz1 cz2 cz3 cz4 czl cw1 cwl g4 g5 g6 g7 g8 g9
  all_goals (first
    | (have P5 : Blk (((((((W4.setCell ⟨wz.heap.size, 0, none⟩ (.slice a4 pn c4)).setCell ⟨wz.heap.size, 1, none⟩ (.int .i64 pg)).setCell ⟨wz.heap.size, 2, none⟩ (.bool pw)).setCell ⟨wz.heap.size, 3, none⟩ (.bool pu)).setCell ⟨wz.heap.size, 4, none⟩ (.bool px)).setCell ⟨wz.heap.size, 5, none⟩ (.bool pl)).setCell ⟨wz.heap.size, 6, none⟩ (.bool pd)) wz.heap.size 71 [.slice a4 pn c4, .int .i64 pg, .bool pw, .bool pu, .bool px, .bool pl, .bool pd] := ((((((ZP.set 0 (.slice a4 pn c4)).set 1 (.int .i64 pg)).set 2 (.bool pw)).set 3 (.bool pu)).set 4 (.bool px)).set 5 (.bool pl)).set 6 (.bool pd)
       have q5 : Below wz.heap.size wz (((((((W4.setCell ⟨wz.heap.size, 0, none⟩ (.slice a4 pn c4)).setCell ⟨wz.heap.size, 1, none⟩ (.int .i64 pg)).setCell ⟨wz.heap.size, 2, none⟩ (.bool pw)).setCell ⟨wz.heap.size, 3, none⟩ (.bool pu)).setCell ⟨wz.heap.size, 4, none⟩ (.bool px)).setCell ⟨wz.heap.size, 5, none⟩ (.bool pl)).setCell ⟨wz.heap.size, 6, none⟩ (.bool pd)) := below_set1 (below_set1 (below_set1 (below_set1 (below_set1 (below_set1 (below_set1 q4 (Nat.le_refl _) _) (Nat.le_refl _) _) (Nat.le_refl _) _) (Nat.le_refl _) _) (Nat.le_refl _) _) (Nat.le_refl _) _) (Nat.le_refl _) _
       have hs5 : Sl (((((((W4.setCell ⟨wz.heap.size, 0, none⟩ (.slice a4 pn c4)).setCell ⟨wz.heap.size, 1, none⟩ (.int .i64 pg)).setCell ⟨wz.heap.size, 2, none⟩ (.bool pw)).setCell ⟨wz.heap.size, 3, none⟩ (.bool pu)).setCell ⟨wz.heap.size, 4, none⟩ (.bool px)).setCell ⟨wz.heap.size, 5, none⟩ (.bool pl)).setCell ⟨wz.heap.size, 6, none⟩ (.bool pd)) a4 pats := (by
         rcases HS4.out with x | ⟨b, rest, x1, x2⟩
         · exact .inl x
         · have hn := x2.ne ZP (by decide)
           exact .inr ⟨b, rest, x1, ((((((x2.other (a := ⟨wz.heap.size, 0, none⟩) hn _).other (a := ⟨wz.heap.size, 1, none⟩) hn _).other (a := ⟨wz.heap.size, 2, none⟩) hn _).other (a := ⟨wz.heap.size, 3, none⟩) hn _).other (a := ⟨wz.heap.size, 4, none⟩) hn _).other (a := ⟨wz.heap.size, 5, none⟩) hn _).other (a := ⟨wz.heap.size, 6, none⟩) hn _⟩)
       obtain ⟨pb, hpb⟩ : ∃ x, wz.heap.size = x := ⟨_, rfl⟩
       obtain ⟨W5, hW5⟩ : ∃ W', (((((((W4.setCell ⟨wz.heap.size, 0, none⟩ (.slice a4 pn c4)).setCell ⟨wz.heap.size, 1, none⟩ (.int .i64 pg)).setCell ⟨wz.heap.size, 2, none⟩ (.bool pw)).setCell ⟨wz.heap.size, 3, none⟩ (.bool pu)).setCell ⟨wz.heap.size, 4, none⟩ (.bool px)).setCell ⟨wz.heap.size, 5, none⟩ (.bool pl)).setCell ⟨wz.heap.size, 6, none⟩ (.bool pd)) = W' := ⟨_, rfl⟩
       rw [hW5] at P5 q5 hs5
       rw [hpb] at P5
       rw [hW5, hpb]
       clear hW5 hpb ZP zc0 zc1 zc2 zc3 zc4 zc5 zc6 zcf zcl b4 q4 HS4 nwb nwb' nzb nzb')
    | (have P5 := Blk.new W4 71 [.slice a4 pn c4, .int .i64 pg, .bool pw, .bool pu, .bool px, .bool pl, .bool pd]
       have bn := bal W4 (.cells #[.slice a4 pn c4, .int .i64 pg, .bool pw, .bool pu, .bool px, .bool pl, .bool pd] 71)
       have q5 := q4.trans (bn.mono q4.size)
       have hs5 := HS4.out.past bn
       obtain ⟨pb, hpb⟩ : ∃ x, W4.heap.size = x := ⟨_, rfl⟩
       obtain ⟨W5, hW5⟩ : ∃ W', W4.alloc (.cells #[.slice a4 pn c4, .int .i64 pg, .bool pw, .bool pu, .bool px, .bool pl, .bool pd] 71) = W' := ⟨_, rfl⟩
       rw [show (W4.alloc (.cells ([.slice a4 pn c4, .int .i64 pg, .bool pw, .bool pu, .bool px, .bool pl, .bool pd] : List Value).toArray 71)) = W5 from hW5, hpb] at P5
       rw [hW5] at q5 hs5
       rw [hW5, hpb]
       clear hW5 hpb bn b4 q4 HS4 nwb nwb' nzb nzb'))
  all_goals
    rcases hfw with ⟨hne, hR⟩ | ⟨h0', hats, hR⟩
    · subst hR
      have f0 : (h != 0) = true := bne_iff_ne.2 hne
      clear hs5 P5 hne
      have HQ := Lib.hid q5
      clear q5
      go_wp2_with fail
      go_ret3
      exact ⟨_, rfl, V, (HH1.out.past HQ.out).tail.nil1⟩
    · subst hR
      subst h0'
      have h5 := HH1.out.past q5
      have h5f : HG w0 W5 A P V G (fths F A P (box zb 26 [.int .i64 k, .int .i64 root, .int .i64 page, .int .i64 kind, .bool user, .int .i64 g, .int .i64 i, .int .u64 (v : Int), .int .i64 n] :: wld wb A :: ts)) := HG.fbox (bs := [box zb 26 [.int .i64 k, .int .i64 root, .int .i64 page, .int .i64 kind, .bool user, .int .i64 g, .int .i64 i, .int .u64 (v : Int), .int .i64 n]]) h5
      obtain ⟨ab, rest0, rfl, hab⟩ : ∃ ab rest0, a4 = some ⟨ab, 0, none⟩ ∧ Blk W5 ab 78 (atCells pats ++ rest0) := by
        rcases hs5 with ⟨_, x⟩ | ⟨b, rest, x1, x2⟩
        · rw [x] at hats; simp at hats
        · exact ⟨b, rest, x1, x2⟩
      have hfi := fill_j h5f root page ab c4 rest0 ⟨pats, pg, ⟨pw, pu, px⟩, pl, pd⟩ hab hats (kind == 1)
      dsimp only at hfi
      rw [HPn.out] at hfi
      have ez1 := (show Blk W5 zb 26 [.int .i64 k, .int .i64 root, .int .i64 page, .int .i64 kind, .bool user, .int .i64 g, .int .i64 i, .int .u64 (v : Int), .int .i64 n] from Hold.at h5 5 rfl).cell (k := 1) rfl
      have ez2 := (show Blk W5 zb 26 [.int .i64 k, .int .i64 root, .int .i64 page, .int .i64 kind, .bool user, .int .i64 g, .int .i64 i, .int .u64 (v : Int), .int .i64 n] from Hold.at h5 5 rfl).cell (k := 2) rfl
      have ez3 := (show Blk W5 zb 26 [.int .i64 k, .int .i64 root, .int .i64 page, .int .i64 kind, .bool user, .int .i64 g, .int .i64 i, .int .u64 (v : Int), .int .i64 n] from Hold.at h5 5 rfl).cell (k := 3) rfl
      have ezl := (show Blk W5 zb 26 [.int .i64 k, .int .i64 root, .int .i64 page, .int .i64 kind, .bool user, .int .i64 g, .int .i64 i, .int .u64 (v : Int), .int .i64 n] from Hold.at h5 5 rfl).lt
      have p0 := P5.cell (k := 0) rfl
      have p1 := P5.cell (k := 1) rfl
      have p2 := P5.cell (k := 2) rfl
      have p3 := P5.cell (k := 3) rfl
      have p4 := P5.cell (k := 4) rfl
      have p5 := P5.cell (k := 5) rfl
      have p6 := P5.cell (k := 6) rfl
      have pbl := P5.lt
      have HFi := Lib.hid hfi
      clear hfi h5 h5f hab hs5 hats q5 P5
      go_wp2_with (go_at_call 26; (with_reducible refine HFi.out.mono ?_); rintro e W6 ⟨v6, rfl, V6, h6⟩; have HH6 := Lib.hid h6; clear h6)
      go_ret3
      exact ⟨_, rfl, V6, HG.unbox1 (b := box zb 26 [.int .i64 k, .int .i64 root, .int .i64 page, .int .i64 kind, .bool user, .int .i64 g, .int .i64 i, .int .u64 (v : Int), .int .i64 n]) HH6.out⟩
end Go.Proofs.YtglohconhbcchaaGreatDoor
