/- The law WalkMoves: the walk. -/
import Derived.Test.YtlldbfpccdmclaaDoorMovesP
import Derived.Test.YtlldbfpccdmclaaDoorKindsW
namespace Go.Proofs.YtlldbfpccdmclaaDoor
open Go.RowKit

theorem wr_len (hosts mem : List Nat) (g i : Int) (v : Nat) : (wr hosts mem g i v).length = mem.length := by
  unfold wr; split <;> simp
theorem puts_len (l : List (Int × Int × Nat)) : (puts l).length = 128 := by
  unfold puts
  have : ∀ (l : List (Int × Int × Nat)) (m : List Nat), (l.foldl put1 m).length = m.length := by
    intro l
    induction l with
    | nil => intro m; rfl
    | cons x l ih => intro m; rw [List.foldl_cons, ih]; unfold put1; exact wr_len _ _ _ _ _
  rw [this]; simp
set_option maxRecDepth 100000 in
set_option maxHeartbeats 4000000 in
theorem moves_no (w : World) (hg : EC w) (a : Option Addr) (c : Nat) (l : List (Int × Int × Nat)) (hp : Ps w a l) (hlen : l.length ≤ 9223372036854775807) (root page kind tgt : Nat) (user : Bool) (hrt : root < 256) (hpg : page < 65536) (hkd : kind < 256) (_hto : tgt < 256) (P : Path) (h k : Int)
    (ho : out (wk (rd h16 (puts l)) h16.length ((root % 16 : Nat) : Int) ((page % 512 : Nat) : Int) ((kind % 3 : Nat) : Int) user) = (P, h, k)) (hh : h = 3 ∨ h = 1 ∨ (h = 0 ∧ dup P.ats = true)) :
    Calls Tryd.prog 7 #[.slice a l.length c, .int .u8 (root : Int), .int .u16 (page : Int), .int .u8 (kind : Int), .bool user, .int .u8 (tgt : Int)] w fun e w' => e = .returned (.bool true) ∧ Below w.heap.size w w' := by
  have hd := head_any w hg
  have hm := fun W (hb : Below w.heap.size w W) => made_any W a c l (hp.below hb) hlen
  obtain ⟨len, hl⟩ : ∃ len, l.length = len := ⟨_, rfl⟩
  obtain ⟨mem, hmem⟩ : ∃ mem, puts l = mem := ⟨_, rfl⟩
  rw [hmem] at ho
  obtain ⟨n, hn⟩ : ∃ n : Int, ((page % 512 : Nat) : Int) = n := ⟨_, rfl⟩
  obtain ⟨r, hr⟩ : ∃ k : Int, ((root % 16 : Nat) : Int) = k := ⟨_, rfl⟩
  obtain ⟨kd, hk⟩ : ∃ k : Int, ((kind % 3 : Nat) : Int) = k := ⟨_, rfl⟩
  rw [hn, hr, hk] at ho
  have hpl : P.ats.length ≤ 1000 := by have := wk_len ho; omega
  obtain ⟨pn, hpn⟩ : ∃ n, P.ats.length = n := ⟨_, rfl⟩
  obtain ⟨dp, hdp⟩ : ∃ b, dup P.ats = b := ⟨_, rfl⟩
  rw [hdp] at hh
  have ht : ∀ W a c, Sl W a P.ats → Calls Tryd.prog 23 #[.slice a pn c] W fun e w' => e = .returned (.bool dp) ∧ Below W.heap.size W w' := fun W a c hs => by
    have := twice_any W a c P.ats hs hpl
    rw [hpn, hdp] at this; exact this
  have hw : ∀ W p fb, GM W p fb h16 16 mem → EC W → Calls Tryd.prog 13 #[.pointer (some ⟨p, 0, none⟩), .int .i64 r, .int .i64 n, .int .i64 kd, .bool user] W
      fun e w' => Below W.heap.size W w' ∧ ∃ a c, e = .returned (.tuple #[.agg #[.slice a pn c, .int .i64 P.g, .bool P.r.w, .bool P.r.u, .bool P.r.x, .bool P.large, .bool P.dirty], .int .i64 h, .int .i64 k]) ∧ Sl w' a P.ats := fun W p fb M E => by
    have := gm_walk M E r n kd user P h k ho
    rw [hpn] at this; exact this
  have hn1 : (page : Int) % 512 = n := by rw [← hn]; rfl
  have hr1 : (root : Int) % 16 = r := by rw [← hr]; rfl
  have hk1 : (kind : Int) % 3 = kd := by rw [← hk]; rfl
  have hn2 : 0 ≤ n ∧ n < 512 := by omega
  have hr2 : 0 ≤ r ∧ r < 16 := by omega
  have hk2 : 0 ≤ kd ∧ kd < 3 := by omega
  obtain ⟨hn3, hn4⟩ := hn2
  obtain ⟨hr3, hr4⟩ := hr2
  obtain ⟨hk3, hk4⟩ := hk2
  rw [hl] at hm ⊢
  rw [hmem] at hm
  have HW := Lib.hid hw
  have HT := Lib.hid ht
  have HH := Lib.hid hd
  have HM := Lib.hid hm
  have HG := Lib.hid hg
  clear hd hm hg hw ht ho hl hmem hlen hp hn hr hk hpn hpl hdp
  by_cases h600 : (600 : Int) < (len : Int)
  · clear hh
    go_enter Tryd.func7, Tryd.ntmps7
    go_wp2_with (first
      | (go_at_call 11; (with_reducible refine HH.out.mono ?_); rintro e W0 ⟨rfl, b0⟩)
      | (go_at_call 12; (with_reducible refine (HM.out _ b0).mono ?_); rintro e W1 ⟨⟨p, fb, rfl, M1, q1, q2⟩, b1⟩))
    go_ret
    exact ⟨rfl, b0.trans (b1.mono b0.size)⟩
  · have h600' : decide ((600 : Int) < (len : Int)) = false := by rw [decide_eq_false_iff_not]; exact h600
    clear h600
    rcases hh with rfl | rfl | ⟨rfl, rfl⟩
    · go_enter Tryd.func7, Tryd.ntmps7
      go_wp2_with (first
        | (go_at_call 11; (with_reducible refine HH.out.mono ?_); rintro e W0 ⟨rfl, b0⟩)
        | (go_at_call 12; (with_reducible refine (HM.out _ b0).mono ?_); rintro e W1 ⟨⟨p, fb, rfl, M1, q1, q2⟩, b1⟩; have A1 := b0.trans (b1.mono b0.size); have E1 := HG.out.past A1; clear q1 q2 b0 b1)
        | (go_at_call 13; (with_reducible refine (HW.out W1 _ _ M1 E1).mono ?_); rintro e W2 ⟨b2, a2, c2', rfl, s2⟩; have A2 := A1.trans (b2.mono A1.size)))
      go_ret
      exact ⟨rfl, A2.alloc A2.size _⟩
    · go_enter Tryd.func7, Tryd.ntmps7
      go_wp2_with (first
        | (go_at_call 11; (with_reducible refine HH.out.mono ?_); rintro e W0 ⟨rfl, b0⟩)
        | (go_at_call 12; (with_reducible refine (HM.out _ b0).mono ?_); rintro e W1 ⟨⟨p, fb, rfl, M1, q1, q2⟩, b1⟩; have A1 := b0.trans (b1.mono b0.size); have E1 := HG.out.past A1; clear q1 q2 b0 b1)
        | (go_at_call 13; (with_reducible refine (HW.out W1 _ _ M1 E1).mono ?_); rintro e W2 ⟨b2, a2, c2', rfl, s2⟩; have A2 := A1.trans (b2.mono A1.size)))
      go_ret
      exact ⟨rfl, A2.alloc A2.size _⟩
    · go_enter Tryd.func7, Tryd.ntmps7
      go_wp2_with (first
        | (go_at_call 11; (with_reducible refine HH.out.mono ?_); rintro e W0 ⟨rfl, b0⟩)
        | (go_at_call 12; (with_reducible refine (HM.out _ b0).mono ?_); rintro e W1 ⟨⟨p, fb, rfl, M1, q1, q2⟩, b1⟩; have A1 := b0.trans (b1.mono b0.size); have E1 := HG.out.past A1; clear q1 q2 b0 b1)
        | (go_at_call 13; (with_reducible refine (HW.out W1 _ _ M1 E1).mono ?_); rintro e W2 ⟨b2, a2, c2', rfl, s2⟩; have A2 := A1.trans (b2.mono A1.size))
        | (go_at_call 23; (with_reducible refine (HT.out _ _ _ (s2.past (bal _ _))).mono ?_); rintro e W3 ⟨rfl, b3⟩; have A3 := A2.trans ((step b3).mono A2.size)))
      go_ret
      exact ⟨rfl, A3⟩
theorem sl_some {W : World} {a : Option Addr} {l : List (Int × Int)} (h : Sl W a l) (hl : 0 < l.length) : ∃ b rest, a = some ⟨b, 0, none⟩ ∧ Blk W b 40 (atCells l ++ rest) := by
  rcases h with ⟨_, h⟩ | h
  · rw [h] at hl; simp at hl
  · exact h

set_option maxRecDepth 100000 in
set_option maxHeartbeats 4000000 in
theorem moves_large (w : World) (hg : EC w) (a : Option Addr) (c : Nat) (l : List (Int × Int × Nat)) (hp : Ps w a l) (hlen : l.length ≤ 9223372036854775807) (root page kind tgt : Nat) (user : Bool) (hrt : root < 256) (hpg : page < 65536) (hkd : kind < 256) (hto : tgt < 256) (ats : List (Int × Int)) (g0 : Int) (rt : Rt) (d : Bool) (k : Int)
    (ho : out (wk (rd h16 (puts l)) h16.length ((root % 16 : Nat) : Int) ((page % 512 : Nat) : Int) ((kind % 3 : Nat) : Int) user) = (⟨ats, g0, rt, true, d⟩, 0, k)) (hdup : dup ats = false) (hal : ats.length = 2) (hbd : ∀ v, v ∈ puts l → v < 2 ^ 64) :
    Calls Tryd.prog 7 #[.slice a l.length c, .int .u8 (root : Int), .int .u16 (page : Int), .int .u8 (kind : Int), .bool user, .int .u8 (tgt : Int)] w fun e w' => e = .returned (.bool true) ∧ Below w.heap.size w w' := by
  have hd := head_any w hg
  have hm := fun W (hb : Below w.heap.size w W) => made_any W a c l (hp.below hb) hlen
  obtain ⟨len, hl⟩ : ∃ len, l.length = len := ⟨_, rfl⟩
  obtain ⟨gg, ii, v, hlast, _, hrd, hv, hmv⟩ := moves_pure (puts_len l) hbd ho hdup (tgt % 16 / 8 * 8) (by omega) (fun h => by first | omega | cases h)
  obtain ⟨mem, hmem⟩ : ∃ mem, puts l = mem := ⟨_, rfl⟩
  rw [hmem] at ho hrd hmv
  obtain ⟨n, hn⟩ : ∃ n : Int, ((page % 512 : Nat) : Int) = n := ⟨_, rfl⟩
  obtain ⟨r, hr⟩ : ∃ k : Int, ((root % 16 : Nat) : Int) = k := ⟨_, rfl⟩
  obtain ⟨kd, hk⟩ : ∃ k : Int, ((kind % 3 : Nat) : Int) = k := ⟨_, rfl⟩
  obtain ⟨t, ht⟩ : ∃ t : Nat, (tgt % 16 / 8 * 8) = t := ⟨_, rfl⟩
  rw [hn, hr, hk] at ho hmv
  rw [ht] at hmv
  dsimp only at hmv hlast
  rw [hal] at hlast
  have htw : ∀ W a c, Sl W a ats → Calls Tryd.prog 23 #[.slice a 2 c] W fun e w' => e = .returned (.bool false) ∧ Below W.heap.size W w' := fun W a c hs => by
    have := twice_any W a c ats hs (by omega)
    rw [hal, hdup] at this; exact this
  have hw : ∀ W p fb, GM W p fb h16 16 mem → EC W → Calls Tryd.prog 13 #[.pointer (some ⟨p, 0, none⟩), .int .i64 r, .int .i64 n, .int .i64 kd, .bool user] W
      fun e w' => Below W.heap.size W w' ∧ ∃ a c, e = .returned (.tuple #[.agg #[.slice a 2 c, .int .i64 g0, .bool rt.w, .bool rt.u, .bool rt.x, .bool true, .bool d], .int .i64 0, .int .i64 k]) ∧ Sl w' a ats := fun W p fb M E => by
    have := gm_walk M E r n kd user _ 0 k ho
    dsimp only at this
    rw [hal] at this; exact this
  have hw2 : ∀ W p fb, GM W p fb h16 16 (wr h16 mem gg ii (moved v t)) → EC W → Calls Tryd.prog 13 #[.pointer (some ⟨p, 0, none⟩), .int .i64 r, .int .i64 n, .int .i64 kd, .bool user] W
      fun e w' => Below W.heap.size W w' ∧ ∃ a c, e = .returned (.tuple #[.agg #[.slice a 2 c, .int .i64 ((t : Int) + n % 8), .bool rt.w, .bool rt.u, .bool rt.x, .bool true, .bool d], .int .i64 0, .int .i64 0]) ∧ Sl w' a ats := fun W p fb M E => by
    have := gm_walk M E r n kd user _ 0 0 hmv
    dsimp only at this
    rw [hal] at this; simpa using this
  have ht16 : t < 16 := by omega
  have hgt : ∀ W p fb, GM W p fb h16 16 mem → Calls Tryd.prog 16 #[.pointer (some ⟨p, 0, none⟩), .int .i64 gg, .int .i64 ii] W fun e w' => e = .returned (.tuple #[.int .u64 (v : Int), .bool true]) ∧ W = w' := fun W p fb M => gm_get M gg ii (some v) hrd
  have hst : ∀ W p fb, GM W p fb h16 16 mem → Calls Tryd.prog 24 #[.pointer (some ⟨p, 0, none⟩), .int .i64 gg, .int .i64 ii, .int .u64 ((moved v t : Nat) : Int)] W
      fun e w' => (∃ b, e = .returned (.bool b)) ∧ GM w' p fb h16 16 (wr h16 mem gg ii (moved v t)) ∧ Kept W.heap.size (fun k => k = fb) W w' ∧ w'.heap.size = W.heap.size := fun W p fb M => (gm_set M gg ii (moved v t) (moved_lt v t hv ht16)).mono (fun e w' ⟨h1, h2, h3, h4⟩ => ⟨⟨_, h1⟩, h2, h3, h4⟩)
  have em1 : bits .andNot .u64 (v : Int) 4294963200 = ((v &&& 18446744069414588415 : Nat) : Int) := u64_andNot_nat v 4294963200 hv (by decide)
  have em2 : bits .or .u64 ((v &&& 18446744069414588415 : Nat) : Int) ((t * 4096 : Nat) : Int) = ((moved v t : Nat) : Int) := u64_or_nat _ _ (Nat.lt_of_le_of_lt Nat.and_le_left hv) (by omega)
  obtain ⟨mv, hmvv⟩ : ∃ m, moved v t = m := ⟨_, rfl⟩
  rw [hmvv] at hw2 hst em2
  obtain ⟨va, hva⟩ : ∃ m, v &&& 18446744069414588415 = m := ⟨_, rfl⟩
  rw [hva] at em1 em2
  have em3 : bits .or .u64 (va : Int) ((t : Int) * 4096) = (mv : Int) := em2
  have hn1 : (page : Int) % 512 = n := by rw [← hn]; rfl
  have hr1 : (root : Int) % 16 = r := by rw [← hr]; rfl
  have hk1 : (kind : Int) % 3 = kd := by rw [← hk]; rfl
  have hn2 : 0 ≤ n ∧ n < 512 := by omega
  have hr2 : 0 ≤ r ∧ r < 16 := by omega
  have hk2 : 0 ≤ kd ∧ kd < 3 := by omega
  obtain ⟨hn3, hn4⟩ := hn2
  obtain ⟨hr3, hr4⟩ := hr2
  obtain ⟨hk3, hk4⟩ := hk2
  obtain ⟨tt, htt⟩ : ∃ x : Nat, tgt % 16 = x := ⟨_, rfl⟩
  have ht1 : (tgt : Int) % 16 = (tt : Int) := by rw [← htt]; rfl
  have ht2 : (tt : Int).tdiv 8 = (tt : Int) / 8 := Int.tdiv_eq_ediv_of_nonneg (by omega)
  have ht3 : (tt : Int) / 8 * 8 = (t : Int) := by rw [← ht, htt]; omega
  have ht5 : (tt : Int) < 16 := by omega
  have ht4 : (t : Int) < 16 := by omega
  have hmd : n.tmod 8 = n % 8 := Int.tmod_eq_emod_of_nonneg hn3
  rw [hl] at hm ⊢
  rw [hmem] at hm
  have HW := Lib.hid hw
  have HW2 := Lib.hid hw2
  have HT := Lib.hid htw
  have HGt := Lib.hid hgt
  have HSt := Lib.hid hst
  have HH := Lib.hid hd
  have HM := Lib.hid hm
  have HG := Lib.hid hg
  have HAL := Lib.hid hal
  have HLA := Lib.hid hlast
  have hg0 := lt_of_cell hg
  clear hd hm hg hw hw2 htw hgt hst ho hl hmem hlen hp hn hr hk hal hlast hdup hmv hrd ht hmvv hbd hva em2
  by_cases h600 : (600 : Int) < (len : Int)
  · go_enter Tryd.func7, Tryd.ntmps7
    go_wp2_with (first
      | (go_at_call 11; (with_reducible refine HH.out.mono ?_); rintro e W0 ⟨rfl, b0⟩)
      | (go_at_call 12; (with_reducible refine (HM.out _ b0).mono ?_); rintro e W1 ⟨⟨p, fb, rfl, M1, q1, q2⟩, b1⟩))
    go_ret
    exact ⟨rfl, b0.trans (b1.mono b0.size)⟩
  · have h600' : decide ((600 : Int) < (len : Int)) = false := by rw [decide_eq_false_iff_not]; exact h600
    clear h600
    have u29 := Tryd.underlying29
    have hp29 : Tryd.prog.stoodInHeld 29 = false := by kernel_rfl
    have hg29 : Tryd.prog.eqGuardType Tryd.prog.depth 29 = false := by kernel_rfl
    go_enter Tryd.func7, Tryd.ntmps7
    go_wp2_with (first
      | (go_at_call 11; (with_reducible refine HH.out.mono ?_); rintro e W0 ⟨rfl, b0⟩)
      | (go_at_call 12; (with_reducible refine (HM.out _ b0).mono ?_); rintro e W1 ⟨⟨p, fb, rfl, M1, q1, q2⟩, b1⟩; have A1 := b0.trans (b1.mono b0.size); have E1 := HG.out.past A1; have q2' := Nat.le_trans b0.size q2; clear q1 q2 b0 b1)
      | (go_at_call 13; (with_reducible refine (HW.out W1 _ _ M1 E1).mono ?_); rintro e W2 ⟨b2, a2, c2', rfl, s2⟩; have A2 := A1.trans (b2.mono A1.size); have M2 := M1.past b2; have E2 := E1.past b2)
      | (go_at_call 23; (with_reducible refine (HT.out _ _ _ (s2.past (bal _ _))).mono ?_); rintro e W3 ⟨rfl, b3⟩; have d3 := step b3; have A3 := A2.trans (d3.mono A2.size); have M3 := M2.past d3; have E3 := E2.past d3; have s3 := s2.past d3; have P3 := (Blk.new W2 31 [.slice a2 2 c2', .int .i64 g0, .bool rt.w, .bool rt.u, .bool rt.x, .bool true, .bool d]).past b3; have x0 := P3.cell (k := 0) rfl; have x2 := P3.cell (k := 2) rfl; have x3 := P3.cell (k := 3) rfl; have x4 := P3.cell (k := 4) rfl; have x5 := P3.cell (k := 5) rfl; have x6 := P3.cell (k := 6) rfl; obtain ⟨B, rest, rfl, hb⟩ := sl_some s3 (by rw [HAL.out]; omega); have zz := Sl.at hb 1 (by rw [HAL.out]; omega); rw [HLA.out] at zz; obtain ⟨z0, z1⟩ := zz; simp only [Nat.reduceMul, Nat.reduceAdd] at z0 z1; have lb := hb.lt)
      | (go_at_call 16; (with_reducible refine (HGt.out _ _ _ (M3.past (bal _ _))).mono ?_); rintro e Wg ⟨rfl, rfl⟩)
      | (go_at_call 24; (with_reducible refine (HSt.out _ _ _ (M3.past (bal _ _))).mono ?_); rintro e W4 ⟨⟨bs, rfl⟩, M4, K4, sz4⟩; have E4 := (E3.past (bal _ _)).kept (by omega) K4; have P4 := (M3.past (bal _ _)).keptB (P3.past (bal _ _)) (by decide) K4; have A4 := (A3.trans ((bal W3 (.cells #[.int .i64 gg, .int .i64 ii] 40)).mono A3.size)).trans ((K4.mono (B' := w.heap.size) (S' := fun k => k = fb) (Nat.le_trans A3.size (by simp)) (fun _ _ h => h)).below (fun k hk e => by omega)); clear x0 x2 x3 x4 x5 x6 z0 z1 lb M3 E3 P3 A3 K4 hb)
      | (go_at_call 13; (with_reducible refine (HW2.out W4 _ _ M4 E4).mono ?_); rintro e W5 ⟨b5, a5, c5', rfl, s5⟩; have A5 := A4.trans (b5.mono A4.size); have P5 := P4.past b5; have y0 := P5.cell (k := 0) rfl; have y2 := P5.cell (k := 2) rfl; have y3 := P5.cell (k := 3) rfl; have y4 := P5.cell (k := 4) rfl; have y5 := P5.cell (k := 5) rfl; have y6 := P5.cell (k := 6) rfl; have l5 := P5.lt))
    go_ret
    exact ⟨rfl, A5.alloc A5.size _⟩

set_option maxRecDepth 100000 in
set_option maxHeartbeats 4000000 in
theorem moves_small (w : World) (hg : EC w) (a : Option Addr) (c : Nat) (l : List (Int × Int × Nat)) (hp : Ps w a l) (hlen : l.length ≤ 9223372036854775807) (root page kind tgt : Nat) (user : Bool) (hrt : root < 256) (hpg : page < 65536) (hkd : kind < 256) (hto : tgt < 256) (ats : List (Int × Int)) (g0 : Int) (rt : Rt) (d : Bool) (k : Int)
    (ho : out (wk (rd h16 (puts l)) h16.length ((root % 16 : Nat) : Int) ((page % 512 : Nat) : Int) ((kind % 3 : Nat) : Int) user) = (⟨ats, g0, rt, false, d⟩, 0, k)) (hdup : dup ats = false) (hal : ats.length = 3) (hbd : ∀ v, v ∈ puts l → v < 2 ^ 64) :
    Calls Tryd.prog 7 #[.slice a l.length c, .int .u8 (root : Int), .int .u16 (page : Int), .int .u8 (kind : Int), .bool user, .int .u8 (tgt : Int)] w fun e w' => e = .returned (.bool true) ∧ Below w.heap.size w w' := by
  have hd := head_any w hg
  have hm := fun W (hb : Below w.heap.size w W) => made_any W a c l (hp.below hb) hlen
  obtain ⟨len, hl⟩ : ∃ len, l.length = len := ⟨_, rfl⟩
  obtain ⟨gg, ii, v, hlast, _, hrd, hv, hmv⟩ := moves_pure (puts_len l) hbd ho hdup (tgt % 16) (by omega) (fun h => by first | omega | cases h)
  obtain ⟨mem, hmem⟩ : ∃ mem, puts l = mem := ⟨_, rfl⟩
  rw [hmem] at ho hrd hmv
  obtain ⟨n, hn⟩ : ∃ n : Int, ((page % 512 : Nat) : Int) = n := ⟨_, rfl⟩
  obtain ⟨r, hr⟩ : ∃ k : Int, ((root % 16 : Nat) : Int) = k := ⟨_, rfl⟩
  obtain ⟨kd, hk⟩ : ∃ k : Int, ((kind % 3 : Nat) : Int) = k := ⟨_, rfl⟩
  obtain ⟨t, ht⟩ : ∃ t : Nat, (tgt % 16) = t := ⟨_, rfl⟩
  rw [hn, hr, hk] at ho hmv
  rw [ht] at hmv
  dsimp only at hmv hlast
  rw [hal] at hlast
  have htw : ∀ W a c, Sl W a ats → Calls Tryd.prog 23 #[.slice a 3 c] W fun e w' => e = .returned (.bool false) ∧ Below W.heap.size W w' := fun W a c hs => by
    have := twice_any W a c ats hs (by omega)
    rw [hal, hdup] at this; exact this
  have hw : ∀ W p fb, GM W p fb h16 16 mem → EC W → Calls Tryd.prog 13 #[.pointer (some ⟨p, 0, none⟩), .int .i64 r, .int .i64 n, .int .i64 kd, .bool user] W
      fun e w' => Below W.heap.size W w' ∧ ∃ a c, e = .returned (.tuple #[.agg #[.slice a 3 c, .int .i64 g0, .bool rt.w, .bool rt.u, .bool rt.x, .bool false, .bool d], .int .i64 0, .int .i64 k]) ∧ Sl w' a ats := fun W p fb M E => by
    have := gm_walk M E r n kd user _ 0 k ho
    dsimp only at this
    rw [hal] at this; exact this
  have hw2 : ∀ W p fb, GM W p fb h16 16 (wr h16 mem gg ii (moved v t)) → EC W → Calls Tryd.prog 13 #[.pointer (some ⟨p, 0, none⟩), .int .i64 r, .int .i64 n, .int .i64 kd, .bool user] W
      fun e w' => Below W.heap.size W w' ∧ ∃ a c, e = .returned (.tuple #[.agg #[.slice a 3 c, .int .i64 ((t : Int)), .bool rt.w, .bool rt.u, .bool rt.x, .bool false, .bool d], .int .i64 0, .int .i64 0]) ∧ Sl w' a ats := fun W p fb M E => by
    have := gm_walk M E r n kd user _ 0 0 hmv
    dsimp only at this
    rw [hal] at this; simpa using this
  have ht16 : t < 16 := by omega
  have hgt : ∀ W p fb, GM W p fb h16 16 mem → Calls Tryd.prog 16 #[.pointer (some ⟨p, 0, none⟩), .int .i64 gg, .int .i64 ii] W fun e w' => e = .returned (.tuple #[.int .u64 (v : Int), .bool true]) ∧ W = w' := fun W p fb M => gm_get M gg ii (some v) hrd
  have hst : ∀ W p fb, GM W p fb h16 16 mem → Calls Tryd.prog 24 #[.pointer (some ⟨p, 0, none⟩), .int .i64 gg, .int .i64 ii, .int .u64 ((moved v t : Nat) : Int)] W
      fun e w' => (∃ b, e = .returned (.bool b)) ∧ GM w' p fb h16 16 (wr h16 mem gg ii (moved v t)) ∧ Kept W.heap.size (fun k => k = fb) W w' ∧ w'.heap.size = W.heap.size := fun W p fb M => (gm_set M gg ii (moved v t) (moved_lt v t hv ht16)).mono (fun e w' ⟨h1, h2, h3, h4⟩ => ⟨⟨_, h1⟩, h2, h3, h4⟩)
  have em1 : bits .andNot .u64 (v : Int) 4294963200 = ((v &&& 18446744069414588415 : Nat) : Int) := u64_andNot_nat v 4294963200 hv (by decide)
  have em2 : bits .or .u64 ((v &&& 18446744069414588415 : Nat) : Int) ((t * 4096 : Nat) : Int) = ((moved v t : Nat) : Int) := u64_or_nat _ _ (Nat.lt_of_le_of_lt Nat.and_le_left hv) (by omega)
  obtain ⟨mv, hmvv⟩ : ∃ m, moved v t = m := ⟨_, rfl⟩
  rw [hmvv] at hw2 hst em2
  obtain ⟨va, hva⟩ : ∃ m, v &&& 18446744069414588415 = m := ⟨_, rfl⟩
  rw [hva] at em1 em2
  have em3 : bits .or .u64 (va : Int) ((t : Int) * 4096) = (mv : Int) := em2
  have hn1 : (page : Int) % 512 = n := by rw [← hn]; rfl
  have hr1 : (root : Int) % 16 = r := by rw [← hr]; rfl
  have hk1 : (kind : Int) % 3 = kd := by rw [← hk]; rfl
  have hn2 : 0 ≤ n ∧ n < 512 := by omega
  have hr2 : 0 ≤ r ∧ r < 16 := by omega
  have hk2 : 0 ≤ kd ∧ kd < 3 := by omega
  obtain ⟨hn3, hn4⟩ := hn2
  obtain ⟨hr3, hr4⟩ := hr2
  obtain ⟨hk3, hk4⟩ := hk2
  have ht1 : (tgt : Int) % 16 = (t : Int) := by rw [← ht]; rfl
  have ht4 : (t : Int) < 16 := by omega
  have hmd : n.tmod 8 = n % 8 := Int.tmod_eq_emod_of_nonneg hn3
  rw [hl] at hm ⊢
  rw [hmem] at hm
  have HW := Lib.hid hw
  have HW2 := Lib.hid hw2
  have HT := Lib.hid htw
  have HGt := Lib.hid hgt
  have HSt := Lib.hid hst
  have HH := Lib.hid hd
  have HM := Lib.hid hm
  have HG := Lib.hid hg
  have HAL := Lib.hid hal
  have HLA := Lib.hid hlast
  have hg0 := lt_of_cell hg
  clear hd hm hg hw hw2 htw hgt hst ho hl hmem hlen hp hn hr hk hal hlast hdup hmv hrd ht hmvv hbd hva em2
  by_cases h600 : (600 : Int) < (len : Int)
  · go_enter Tryd.func7, Tryd.ntmps7
    go_wp2_with (first
      | (go_at_call 11; (with_reducible refine HH.out.mono ?_); rintro e W0 ⟨rfl, b0⟩)
      | (go_at_call 12; (with_reducible refine (HM.out _ b0).mono ?_); rintro e W1 ⟨⟨p, fb, rfl, M1, q1, q2⟩, b1⟩))
    go_ret
    exact ⟨rfl, b0.trans (b1.mono b0.size)⟩
  · have h600' : decide ((600 : Int) < (len : Int)) = false := by rw [decide_eq_false_iff_not]; exact h600
    clear h600
    have u29 := Tryd.underlying29
    have hp29 : Tryd.prog.stoodInHeld 29 = false := by kernel_rfl
    have hg29 : Tryd.prog.eqGuardType Tryd.prog.depth 29 = false := by kernel_rfl
    go_enter Tryd.func7, Tryd.ntmps7
    go_wp2_with (first
      | (go_at_call 11; (with_reducible refine HH.out.mono ?_); rintro e W0 ⟨rfl, b0⟩)
      | (go_at_call 12; (with_reducible refine (HM.out _ b0).mono ?_); rintro e W1 ⟨⟨p, fb, rfl, M1, q1, q2⟩, b1⟩; have A1 := b0.trans (b1.mono b0.size); have E1 := HG.out.past A1; have q2' := Nat.le_trans b0.size q2; clear q1 q2 b0 b1)
      | (go_at_call 13; (with_reducible refine (HW.out W1 _ _ M1 E1).mono ?_); rintro e W2 ⟨b2, a2, c2', rfl, s2⟩; have A2 := A1.trans (b2.mono A1.size); have M2 := M1.past b2; have E2 := E1.past b2)
      | (go_at_call 23; (with_reducible refine (HT.out _ _ _ (s2.past (bal _ _))).mono ?_); rintro e W3 ⟨rfl, b3⟩; have d3 := step b3; have A3 := A2.trans (d3.mono A2.size); have M3 := M2.past d3; have E3 := E2.past d3; have s3 := s2.past d3; have P3 := (Blk.new W2 31 [.slice a2 3 c2', .int .i64 g0, .bool rt.w, .bool rt.u, .bool rt.x, .bool false, .bool d]).past b3; have x0 := P3.cell (k := 0) rfl; have x2 := P3.cell (k := 2) rfl; have x3 := P3.cell (k := 3) rfl; have x4 := P3.cell (k := 4) rfl; have x5 := P3.cell (k := 5) rfl; have x6 := P3.cell (k := 6) rfl; obtain ⟨B, rest, rfl, hb⟩ := sl_some s3 (by rw [HAL.out]; omega); have zz := Sl.at hb 2 (by rw [HAL.out]; omega); rw [HLA.out] at zz; obtain ⟨z0, z1⟩ := zz; simp only [Nat.reduceMul, Nat.reduceAdd] at z0 z1; have lb := hb.lt)
      | (go_at_call 16; (with_reducible refine (HGt.out _ _ _ (M3.past (bal _ _))).mono ?_); rintro e Wg ⟨rfl, rfl⟩)
      | (go_at_call 24; (with_reducible refine (HSt.out _ _ _ (M3.past (bal _ _))).mono ?_); rintro e W4 ⟨⟨bs, rfl⟩, M4, K4, sz4⟩; have E4 := (E3.past (bal _ _)).kept (by omega) K4; have P4 := (M3.past (bal _ _)).keptB (P3.past (bal _ _)) (by decide) K4; have A4 := (A3.trans ((bal W3 (.cells #[.int .i64 gg, .int .i64 ii] 40)).mono A3.size)).trans ((K4.mono (B' := w.heap.size) (S' := fun k => k = fb) (Nat.le_trans A3.size (by simp)) (fun _ _ h => h)).below (fun k hk e => by omega)); clear x0 x2 x3 x4 x5 x6 z0 z1 lb M3 E3 P3 A3 K4 hb)
      | (go_at_call 13; (with_reducible refine (HW2.out W4 _ _ M4 E4).mono ?_); rintro e W5 ⟨b5, a5, c5', rfl, s5⟩; have A5 := A4.trans (b5.mono A4.size); have P5 := P4.past b5; have y0 := P5.cell (k := 0) rfl; have y2 := P5.cell (k := 2) rfl; have y3 := P5.cell (k := 3) rfl; have y4 := P5.cell (k := 4) rfl; have y5 := P5.cell (k := 5) rfl; have y6 := P5.cell (k := 6) rfl; have l5 := P5.lt))
    go_ret
    exact ⟨rfl, A5.alloc A5.size _⟩

theorem moves_walk (w : World) (hg : EC w) (a : Option Addr) (c : Nat) (l : List (Int × Int × Nat)) (hp : Ps w a l) (hlen : l.length ≤ 9223372036854775807) (root : Int) (hroot : (Lit.int .u8 root).wf = true) (page : Int) (hpage : (Lit.int .u16 page).wf = true) (kind : Int) (hkind : (Lit.int .u8 kind).wf = true) (user : Bool) (tgt : Int) (htgt : (Lit.int .u8 tgt).wf = true) :
    Calls Tryd.prog 7 #[.slice a l.length c, .int .u8 root, .int .u16 page, .int .u8 kind, .bool user, .int .u8 tgt] w fun e w' => e = .returned (.bool true) ∧ Below w.heap.size w w' := by
  obtain ⟨root, rfl, hrt⟩ := u8_bd hroot
  obtain ⟨page, rfl, hpg⟩ := u16_bd hpage
  obtain ⟨kind, rfl, hkd⟩ := u8_bd hkind
  obtain ⟨tgt, rfl, hto⟩ := u8_bd htgt
  have hbd : ∀ v, v ∈ puts l → v < 2 ^ 64 := by
    have hps : ∀ x, x ∈ l → x.2.2 < 2 ^ 64 := by
      intro x hx
      rcases hp with rfl | ⟨b, off, _, _, h⟩
      · simp at hx
      · obtain ⟨j, hj, rfl⟩ := List.getElem_of_mem hx
        have := (h j hj).1
        rw [getD_at _ hj] at this
        exact this
    unfold puts
    have : ∀ (l : List (Int × Int × Nat)) (m : List Nat), (∀ x, x ∈ l → x.2.2 < 2 ^ 64) → (∀ v, v ∈ m → v < 2 ^ 64) → ∀ v, v ∈ l.foldl put1 m → v < 2 ^ 64 := by
      intro l
      induction l with
      | nil => intro m _ hm v hv; exact hm v hv
      | cons x l ih =>
        intro m hx hm
        rw [List.foldl_cons]
        refine ih _ (fun y hy => hx y (List.mem_cons_of_mem _ hy)) (fun v hv => ?_)
        unfold put1 wr at hv
        split at hv
        · rcases List.mem_or_eq_of_mem_set hv with h | h
          · exact hm v h
          · rw [h]; exact hx x (List.mem_cons_self ..)
        · exact hm v hv
    exact this l _ hps (by intro v hv; rw [List.mem_replicate] at hv; omega)
  obtain ⟨⟨P, h, k⟩, ho⟩ : ∃ o, out (wk (rd h16 (puts l)) h16.length ((root % 16 : Nat) : Int) ((page % 512 : Nat) : Int) ((kind % 3 : Nat) : Int) user) = o := ⟨_, rfl⟩
  have hh : h = 3 ∨ h = 1 ∨ h = 0 := by
    rcases wk_forms (rd h16 (puts l)) h16.length ((root % 16 : Nat) : Int) ((page % 512 : Nat) : Int) with f | f | f | ⟨_, f⟩
    · rw [f] at ho; simp at ho; omega
    · rw [f] at ho; simp at ho; omega
    · rw [f] at ho; simp at ho; omega
    · rw [f] at ho
      split at ho
      · simp at ho; omega
      · split at ho
        · simp at ho; omega
        · simp at ho; omega
  rcases hh with rfl | rfl | rfl
  · exact moves_no w hg a c l hp hlen root page kind tgt user hrt hpg hkd hto P 3 k ho (.inl rfl)
  · exact moves_no w hg a c l hp hlen root page kind tgt user hrt hpg hkd hto P 1 k ho (.inr (.inl rfl))
  · cases hd : dup P.ats with
    | true => exact moves_no w hg a c l hp hlen root page kind tgt user hrt hpg hkd hto P 0 k ho (.inr (.inr ⟨rfl, hd⟩))
    | false =>
      obtain ⟨_, _, _, _, hform, _⟩ := moves_pure (puts_len l) hbd ho hd 0 (by omega) (fun _ => rfl)
      obtain ⟨ats, g0, rt, lg, d⟩ := P
      dsimp only at hform hd
      rcases hform with ⟨rfl, hal⟩ | ⟨rfl, hal⟩
      · exact moves_large w hg a c l hp hlen root page kind tgt user hrt hpg hkd hto ats g0 rt d k ho hd hal hbd
      · exact moves_small w hg a c l hp hlen root page kind tgt user hrt hpg hkd hto ats g0 rt d k ho hd hal hbd
end Go.Proofs.YtlldbfpccdmclaaDoor
