/- The law WalkKinds: the walks, one for each set of outcomes. -/
import Derived.Test.YtlldbfpccdmclaaDoorShape
namespace Go.Proofs.YtlldbfpccdmclaaDoor
open Go.RowKit

set_option maxRecDepth 100000 in
set_option maxHeartbeats 4000000 in
theorem kinds_A (w : World) (hg : EC w) (a : Option Addr) (c : Nat) (l : List (Int × Int × Nat)) (hp : Ps w a l) (hlen : l.length ≤ 9223372036854775807) (root : Int) (page kind : Nat) (hpg : page < 65536) (hkd : kind < 256)
    (o1 : out (wk (rd h16 (puts l)) h16.length root ((page % 512 : Nat) : Int) ((kind % 3 : Nat) : Int) true) = (Path.none, 3, 0)) (o2 : out (wk (rd h16 (puts l)) h16.length root ((page % 512 : Nat) : Int) ((kind % 3 : Nat) : Int) false) = (Path.none, 3, 0)) (o3 : out (wk (rd h16 (puts l)) h16.length root ((page % 512 : Nat) : Int) 0 false) = (Path.none, 3, 0)) :
    Calls Tryd.prog 4 #[.slice a l.length c, .int .i64 root, .int .u16 (page : Int), .int .u8 (kind : Int)] w fun e w' => e = .returned (.bool true) ∧ Below w.heap.size w w' := by
  have hh := head_any w hg
  have hm := fun W (hb : Below w.heap.size w W) => made_any W a c l (hp.below hb) hlen
  obtain ⟨len, hl⟩ : ∃ len, l.length = len := ⟨_, rfl⟩
  obtain ⟨mem, hmem⟩ : ∃ mem, puts l = mem := ⟨_, rfl⟩
  rw [hmem] at o1 o2 o3
  obtain ⟨n, hn⟩ : ∃ n : Int, ((page % 512 : Nat) : Int) = n := ⟨_, rfl⟩
  obtain ⟨k, hk⟩ : ∃ k : Int, ((kind % 3 : Nat) : Int) = k := ⟨_, rfl⟩
  have hw1 : ∀ W p fb, GM W p fb h16 16 mem → EC W → Calls Tryd.prog 13 #[.pointer (some ⟨p, 0, none⟩), .int .i64 root, .int .i64 n, .int .i64 k, .bool true] W
      fun e w' => Below W.heap.size W w' ∧ ∃ a c, e = .returned (.tuple #[.agg #[.slice a 0 c, .int .i64 Path.none.g, .bool Path.none.r.w, .bool Path.none.r.u, .bool Path.none.r.x, .bool Path.none.large, .bool Path.none.dirty], .int .i64 3, .int .i64 0]) ∧ Sl w' a Path.none.ats := fun W p fb M E => by
    rw [← hn, ← hk]
    have := gm_walk M E root ((page % 512 : Nat) : Int) ((kind % 3 : Nat) : Int) true Path.none 3 0 o1
    exact this
  have HW1 := Lib.hid hw1
  clear hw1
  have hw2 : ∀ W p fb, GM W p fb h16 16 mem → EC W → Calls Tryd.prog 13 #[.pointer (some ⟨p, 0, none⟩), .int .i64 root, .int .i64 n, .int .i64 k, .bool false] W
      fun e w' => Below W.heap.size W w' ∧ ∃ a c, e = .returned (.tuple #[.agg #[.slice a 0 c, .int .i64 Path.none.g, .bool Path.none.r.w, .bool Path.none.r.u, .bool Path.none.r.x, .bool Path.none.large, .bool Path.none.dirty], .int .i64 3, .int .i64 0]) ∧ Sl w' a Path.none.ats := fun W p fb M E => by
    rw [← hn, ← hk]
    have := gm_walk M E root ((page % 512 : Nat) : Int) ((kind % 3 : Nat) : Int) false Path.none 3 0 o2
    exact this
  have HW2 := Lib.hid hw2
  clear hw2
  have hw3 : ∀ W p fb, GM W p fb h16 16 mem → EC W → Calls Tryd.prog 13 #[.pointer (some ⟨p, 0, none⟩), .int .i64 root, .int .i64 n, .int .i64 0, .bool false] W
      fun e w' => Below W.heap.size W w' ∧ ∃ a c, e = .returned (.tuple #[.agg #[.slice a 0 c, .int .i64 Path.none.g, .bool Path.none.r.w, .bool Path.none.r.u, .bool Path.none.r.x, .bool Path.none.large, .bool Path.none.dirty], .int .i64 3, .int .i64 0]) ∧ Sl w' a Path.none.ats := fun W p fb M E => by
    rw [← hn]
    have := gm_walk M E root ((page % 512 : Nat) : Int) 0 false Path.none 3 0 o3
    exact this
  have HW3 := Lib.hid hw3
  clear hw3
  have hn1 : (page : Int) % 512 = n := by rw [← hn]; rfl
  have hk1 : (kind : Int) % 3 = k := by rw [← hk]; rfl
  have hn2 : 0 ≤ n ∧ n < 512 := by omega
  have hk2 : 0 ≤ k ∧ k < 3 := by omega
  obtain ⟨hn3, hn4⟩ := hn2
  obtain ⟨hk3, hk4⟩ := hk2
  rw [hl] at hm ⊢
  rw [hmem] at hm
  have HH := Lib.hid hh
  have HM := Lib.hid hm
  have HG := Lib.hid hg
  clear hh hm hg o1 o2 o3 hl hmem hlen hp hn hk
  by_cases h600 : (600 : Int) < (len : Int)
  · go_enter Tryd.func4, Tryd.ntmps4
    go_wp2_with (first
      | (go_at_call 11; (with_reducible refine HH.out.mono ?_); rintro e W0 ⟨rfl, b0⟩)
      | (go_at_call 12; (with_reducible refine (HM.out _ b0).mono ?_); rintro e W1 ⟨⟨p, fb, rfl, M1, q1, q2⟩, b1⟩))
    go_ret
    exact ⟨rfl, b0.trans (b1.mono b0.size)⟩
  · go_enter Tryd.func4, Tryd.ntmps4
    go_wp2_with (first
      | (go_at_call 11; (with_reducible refine HH.out.mono ?_); rintro e W0 ⟨rfl, b0⟩)
      | (go_at_call 12; (with_reducible refine (HM.out _ b0).mono ?_); rintro e W1 ⟨⟨p, fb, rfl, M1, q1, q2⟩, b1⟩; have A1 := b0.trans (b1.mono b0.size); have E1 := HG.out.past A1; clear q1 q2 b0 b1)
      | (go_at_call 13; (with_reducible refine (HW1.out W1 _ _ M1 E1).mono ?_); rintro e W2 ⟨b2, a2, c2', rfl, s2⟩; have M2 := M1.past b2; have E2 := E1.past b2; have A2 := A1.trans (b2.mono A1.size))
      | (go_at_call 13; (with_reducible refine (HW2.out _ _ _ (M2.past (bal _ _)) (E2.past (bal _ _))).mono ?_); rintro e W3 ⟨b3, a3, c3', rfl, s3⟩; have d3 := step b3; have M3 := M2.past d3; have E3 := E2.past d3; have A3 := A2.trans (d3.mono A2.size))
      | (go_at_call 13; (with_reducible refine (HW3.out _ _ _ (M3.past (bal _ _)) (E3.past (bal _ _))).mono ?_); rintro e W4 ⟨b4, a4, c4', rfl, s4⟩; have d4 := step b4; have A4 := A3.trans (d4.mono A3.size)))
    go_ret
    exact ⟨rfl, A4.alloc A4.size _⟩

set_option maxRecDepth 100000 in
set_option maxHeartbeats 4000000 in
theorem kinds_B (w : World) (hg : EC w) (a : Option Addr) (c : Nat) (l : List (Int × Int × Nat)) (hp : Ps w a l) (hlen : l.length ≤ 9223372036854775807) (root : Int) (page kind : Nat) (hpg : page < 65536) (hkd : kind < 256) (c1 c2 c3 : Int)
    (o1 : out (wk (rd h16 (puts l)) h16.length root ((page % 512 : Nat) : Int) ((kind % 3 : Nat) : Int) true) = (Path.none, 1, c1)) (o2 : out (wk (rd h16 (puts l)) h16.length root ((page % 512 : Nat) : Int) ((kind % 3 : Nat) : Int) false) = (Path.none, 1, c2)) (o3 : out (wk (rd h16 (puts l)) h16.length root ((page % 512 : Nat) : Int) 0 false) = (Path.none, 1, c3)) (e1 : bits .and .i64 c1 1 = 0) (e2 : bits .and .i64 c2 1 = 0) (e3 : bits .and .i64 c3 1 = 0) :
    Calls Tryd.prog 4 #[.slice a l.length c, .int .i64 root, .int .u16 (page : Int), .int .u8 (kind : Int)] w fun e w' => e = .returned (.bool true) ∧ Below w.heap.size w w' := by
  have hh := head_any w hg
  have hm := fun W (hb : Below w.heap.size w W) => made_any W a c l (hp.below hb) hlen
  obtain ⟨len, hl⟩ : ∃ len, l.length = len := ⟨_, rfl⟩
  obtain ⟨mem, hmem⟩ : ∃ mem, puts l = mem := ⟨_, rfl⟩
  rw [hmem] at o1 o2 o3
  obtain ⟨n, hn⟩ : ∃ n : Int, ((page % 512 : Nat) : Int) = n := ⟨_, rfl⟩
  obtain ⟨k, hk⟩ : ∃ k : Int, ((kind % 3 : Nat) : Int) = k := ⟨_, rfl⟩
  have hw1 : ∀ W p fb, GM W p fb h16 16 mem → EC W → Calls Tryd.prog 13 #[.pointer (some ⟨p, 0, none⟩), .int .i64 root, .int .i64 n, .int .i64 k, .bool true] W
      fun e w' => Below W.heap.size W w' ∧ ∃ a c, e = .returned (.tuple #[.agg #[.slice a 0 c, .int .i64 Path.none.g, .bool Path.none.r.w, .bool Path.none.r.u, .bool Path.none.r.x, .bool Path.none.large, .bool Path.none.dirty], .int .i64 1, .int .i64 c1]) ∧ Sl w' a Path.none.ats := fun W p fb M E => by
    rw [← hn, ← hk]
    have := gm_walk M E root ((page % 512 : Nat) : Int) ((kind % 3 : Nat) : Int) true Path.none 1 c1 o1
    exact this
  have HW1 := Lib.hid hw1
  clear hw1
  have hw2 : ∀ W p fb, GM W p fb h16 16 mem → EC W → Calls Tryd.prog 13 #[.pointer (some ⟨p, 0, none⟩), .int .i64 root, .int .i64 n, .int .i64 k, .bool false] W
      fun e w' => Below W.heap.size W w' ∧ ∃ a c, e = .returned (.tuple #[.agg #[.slice a 0 c, .int .i64 Path.none.g, .bool Path.none.r.w, .bool Path.none.r.u, .bool Path.none.r.x, .bool Path.none.large, .bool Path.none.dirty], .int .i64 1, .int .i64 c2]) ∧ Sl w' a Path.none.ats := fun W p fb M E => by
    rw [← hn, ← hk]
    have := gm_walk M E root ((page % 512 : Nat) : Int) ((kind % 3 : Nat) : Int) false Path.none 1 c2 o2
    exact this
  have HW2 := Lib.hid hw2
  clear hw2
  have hw3 : ∀ W p fb, GM W p fb h16 16 mem → EC W → Calls Tryd.prog 13 #[.pointer (some ⟨p, 0, none⟩), .int .i64 root, .int .i64 n, .int .i64 0, .bool false] W
      fun e w' => Below W.heap.size W w' ∧ ∃ a c, e = .returned (.tuple #[.agg #[.slice a 0 c, .int .i64 Path.none.g, .bool Path.none.r.w, .bool Path.none.r.u, .bool Path.none.r.x, .bool Path.none.large, .bool Path.none.dirty], .int .i64 1, .int .i64 c3]) ∧ Sl w' a Path.none.ats := fun W p fb M E => by
    rw [← hn]
    have := gm_walk M E root ((page % 512 : Nat) : Int) 0 false Path.none 1 c3 o3
    exact this
  have HW3 := Lib.hid hw3
  clear hw3
  have hn1 : (page : Int) % 512 = n := by rw [← hn]; rfl
  have hk1 : (kind : Int) % 3 = k := by rw [← hk]; rfl
  have hn2 : 0 ≤ n ∧ n < 512 := by omega
  have hk2 : 0 ≤ k ∧ k < 3 := by omega
  obtain ⟨hn3, hn4⟩ := hn2
  obtain ⟨hk3, hk4⟩ := hk2
  rw [hl] at hm ⊢
  rw [hmem] at hm
  have HH := Lib.hid hh
  have HM := Lib.hid hm
  have HG := Lib.hid hg
  clear hh hm hg o1 o2 o3 hl hmem hlen hp hn hk
  by_cases h600 : (600 : Int) < (len : Int)
  · go_enter Tryd.func4, Tryd.ntmps4
    go_wp2_with (first
      | (go_at_call 11; (with_reducible refine HH.out.mono ?_); rintro e W0 ⟨rfl, b0⟩)
      | (go_at_call 12; (with_reducible refine (HM.out _ b0).mono ?_); rintro e W1 ⟨⟨p, fb, rfl, M1, q1, q2⟩, b1⟩))
    go_ret
    exact ⟨rfl, b0.trans (b1.mono b0.size)⟩
  · go_enter Tryd.func4, Tryd.ntmps4
    go_wp2_with (first
      | (go_at_call 11; (with_reducible refine HH.out.mono ?_); rintro e W0 ⟨rfl, b0⟩)
      | (go_at_call 12; (with_reducible refine (HM.out _ b0).mono ?_); rintro e W1 ⟨⟨p, fb, rfl, M1, q1, q2⟩, b1⟩; have A1 := b0.trans (b1.mono b0.size); have E1 := HG.out.past A1; clear q1 q2 b0 b1)
      | (go_at_call 13; (with_reducible refine (HW1.out W1 _ _ M1 E1).mono ?_); rintro e W2 ⟨b2, a2, c2', rfl, s2⟩; have M2 := M1.past b2; have E2 := E1.past b2; have A2 := A1.trans (b2.mono A1.size))
      | (go_at_call 13; (with_reducible refine (HW2.out _ _ _ (M2.past (bal _ _)) (E2.past (bal _ _))).mono ?_); rintro e W3 ⟨b3, a3, c3', rfl, s3⟩; have d3 := step b3; have M3 := M2.past d3; have E3 := E2.past d3; have A3 := A2.trans (d3.mono A2.size))
      | (go_at_call 13; (with_reducible refine (HW3.out _ _ _ (M3.past (bal _ _)) (E3.past (bal _ _))).mono ?_); rintro e W4 ⟨b4, a4, c4', rfl, s4⟩; have d4 := step b4; have A4 := A3.trans (d4.mono A3.size)))
    go_ret
    exact ⟨rfl, A4.alloc A4.size _⟩

set_option maxRecDepth 100000 in
set_option maxHeartbeats 4000000 in
theorem kinds_C (w : World) (hg : EC w) (a : Option Addr) (c : Nat) (l : List (Int × Int × Nat)) (hp : Ps w a l) (hlen : l.length ≤ 9223372036854775807) (root : Int) (page kind : Nat) (hpg : page < 65536) (hkd : kind < 256) (c1 c2 c3 : Int)
    (o1 : out (wk (rd h16 (puts l)) h16.length root ((page % 512 : Nat) : Int) ((kind % 3 : Nat) : Int) true) = (Path.none, 1, c1)) (o2 : out (wk (rd h16 (puts l)) h16.length root ((page % 512 : Nat) : Int) ((kind % 3 : Nat) : Int) false) = (Path.none, 1, c2)) (o3 : out (wk (rd h16 (puts l)) h16.length root ((page % 512 : Nat) : Int) 0 false) = (Path.none, 1, c3)) (e3 : bits .and .i64 c3 1 = 1) :
    Calls Tryd.prog 4 #[.slice a l.length c, .int .i64 root, .int .u16 (page : Int), .int .u8 (kind : Int)] w fun e w' => e = .returned (.bool true) ∧ Below w.heap.size w w' := by
  have hh := head_any w hg
  have hm := fun W (hb : Below w.heap.size w W) => made_any W a c l (hp.below hb) hlen
  obtain ⟨len, hl⟩ : ∃ len, l.length = len := ⟨_, rfl⟩
  obtain ⟨mem, hmem⟩ : ∃ mem, puts l = mem := ⟨_, rfl⟩
  rw [hmem] at o1 o2 o3
  obtain ⟨n, hn⟩ : ∃ n : Int, ((page % 512 : Nat) : Int) = n := ⟨_, rfl⟩
  obtain ⟨k, hk⟩ : ∃ k : Int, ((kind % 3 : Nat) : Int) = k := ⟨_, rfl⟩
  have hw1 : ∀ W p fb, GM W p fb h16 16 mem → EC W → Calls Tryd.prog 13 #[.pointer (some ⟨p, 0, none⟩), .int .i64 root, .int .i64 n, .int .i64 k, .bool true] W
      fun e w' => Below W.heap.size W w' ∧ ∃ a c, e = .returned (.tuple #[.agg #[.slice a 0 c, .int .i64 Path.none.g, .bool Path.none.r.w, .bool Path.none.r.u, .bool Path.none.r.x, .bool Path.none.large, .bool Path.none.dirty], .int .i64 1, .int .i64 c1]) ∧ Sl w' a Path.none.ats := fun W p fb M E => by
    rw [← hn, ← hk]
    have := gm_walk M E root ((page % 512 : Nat) : Int) ((kind % 3 : Nat) : Int) true Path.none 1 c1 o1
    exact this
  have HW1 := Lib.hid hw1
  clear hw1
  have hw2 : ∀ W p fb, GM W p fb h16 16 mem → EC W → Calls Tryd.prog 13 #[.pointer (some ⟨p, 0, none⟩), .int .i64 root, .int .i64 n, .int .i64 k, .bool false] W
      fun e w' => Below W.heap.size W w' ∧ ∃ a c, e = .returned (.tuple #[.agg #[.slice a 0 c, .int .i64 Path.none.g, .bool Path.none.r.w, .bool Path.none.r.u, .bool Path.none.r.x, .bool Path.none.large, .bool Path.none.dirty], .int .i64 1, .int .i64 c2]) ∧ Sl w' a Path.none.ats := fun W p fb M E => by
    rw [← hn, ← hk]
    have := gm_walk M E root ((page % 512 : Nat) : Int) ((kind % 3 : Nat) : Int) false Path.none 1 c2 o2
    exact this
  have HW2 := Lib.hid hw2
  clear hw2
  have hw3 : ∀ W p fb, GM W p fb h16 16 mem → EC W → Calls Tryd.prog 13 #[.pointer (some ⟨p, 0, none⟩), .int .i64 root, .int .i64 n, .int .i64 0, .bool false] W
      fun e w' => Below W.heap.size W w' ∧ ∃ a c, e = .returned (.tuple #[.agg #[.slice a 0 c, .int .i64 Path.none.g, .bool Path.none.r.w, .bool Path.none.r.u, .bool Path.none.r.x, .bool Path.none.large, .bool Path.none.dirty], .int .i64 1, .int .i64 c3]) ∧ Sl w' a Path.none.ats := fun W p fb M E => by
    rw [← hn]
    have := gm_walk M E root ((page % 512 : Nat) : Int) 0 false Path.none 1 c3 o3
    exact this
  have HW3 := Lib.hid hw3
  clear hw3
  have hn1 : (page : Int) % 512 = n := by rw [← hn]; rfl
  have hk1 : (kind : Int) % 3 = k := by rw [← hk]; rfl
  have hn2 : 0 ≤ n ∧ n < 512 := by omega
  have hk2 : 0 ≤ k ∧ k < 3 := by omega
  obtain ⟨hn3, hn4⟩ := hn2
  obtain ⟨hk3, hk4⟩ := hk2
  rw [hl] at hm ⊢
  rw [hmem] at hm
  have HH := Lib.hid hh
  have HM := Lib.hid hm
  have HG := Lib.hid hg
  clear hh hm hg o1 o2 o3 hl hmem hlen hp hn hk
  by_cases h600 : (600 : Int) < (len : Int)
  · go_enter Tryd.func4, Tryd.ntmps4
    go_wp2_with (first
      | (go_at_call 11; (with_reducible refine HH.out.mono ?_); rintro e W0 ⟨rfl, b0⟩)
      | (go_at_call 12; (with_reducible refine (HM.out _ b0).mono ?_); rintro e W1 ⟨⟨p, fb, rfl, M1, q1, q2⟩, b1⟩))
    go_ret
    exact ⟨rfl, b0.trans (b1.mono b0.size)⟩
  · go_enter Tryd.func4, Tryd.ntmps4
    go_wp2_with (first
      | (go_at_call 11; (with_reducible refine HH.out.mono ?_); rintro e W0 ⟨rfl, b0⟩)
      | (go_at_call 12; (with_reducible refine (HM.out _ b0).mono ?_); rintro e W1 ⟨⟨p, fb, rfl, M1, q1, q2⟩, b1⟩; have A1 := b0.trans (b1.mono b0.size); have E1 := HG.out.past A1; clear q1 q2 b0 b1)
      | (go_at_call 13; (with_reducible refine (HW1.out W1 _ _ M1 E1).mono ?_); rintro e W2 ⟨b2, a2, c2', rfl, s2⟩; have M2 := M1.past b2; have E2 := E1.past b2; have A2 := A1.trans (b2.mono A1.size))
      | (go_at_call 13; (with_reducible refine (HW2.out _ _ _ (M2.past (bal _ _)) (E2.past (bal _ _))).mono ?_); rintro e W3 ⟨b3, a3, c3', rfl, s3⟩; have d3 := step b3; have M3 := M2.past d3; have E3 := E2.past d3; have A3 := A2.trans (d3.mono A2.size))
      | (go_at_call 13; (with_reducible refine (HW3.out _ _ _ (M3.past (bal _ _)) (E3.past (bal _ _))).mono ?_); rintro e W4 ⟨b4, a4, c4', rfl, s4⟩; have d4 := step b4; have A4 := A3.trans (d4.mono A3.size)))
    go_ret
    exact ⟨rfl, A4.alloc A4.size _⟩

set_option maxRecDepth 100000 in
set_option maxHeartbeats 4000000 in
theorem kinds_D1 (w : World) (hg : EC w) (a : Option Addr) (c : Nat) (l : List (Int × Int × Nat)) (hp : Ps w a l) (hlen : l.length ≤ 9223372036854775807) (root : Int) (page kind : Nat) (hpg : page < 65536) (hkd : kind < 256) (P : Path)
    (o1 : out (wk (rd h16 (puts l)) h16.length root ((page % 512 : Nat) : Int) ((kind % 3 : Nat) : Int) true) = (P, 0, 0)) (o2 : out (wk (rd h16 (puts l)) h16.length root ((page % 512 : Nat) : Int) ((kind % 3 : Nat) : Int) false) = (P, 0, 0)) (o3 : out (wk (rd h16 (puts l)) h16.length root ((page % 512 : Nat) : Int) 0 false) = (P, 0, 0)) :
    Calls Tryd.prog 4 #[.slice a l.length c, .int .i64 root, .int .u16 (page : Int), .int .u8 (kind : Int)] w fun e w' => e = .returned (.bool true) ∧ Below w.heap.size w w' := by
  have hh := head_any w hg
  have hm := fun W (hb : Below w.heap.size w W) => made_any W a c l (hp.below hb) hlen
  obtain ⟨len, hl⟩ : ∃ len, l.length = len := ⟨_, rfl⟩
  obtain ⟨mem, hmem⟩ : ∃ mem, puts l = mem := ⟨_, rfl⟩
  rw [hmem] at o1 o2 o3
  obtain ⟨n, hn⟩ : ∃ n : Int, ((page % 512 : Nat) : Int) = n := ⟨_, rfl⟩
  obtain ⟨k, hk⟩ : ∃ k : Int, ((kind % 3 : Nat) : Int) = k := ⟨_, rfl⟩
  have hpl : P.ats.length ≤ 1000 := by have := wk_len o3; omega
  obtain ⟨pn, hpn⟩ : ∃ n, P.ats.length = n := ⟨_, rfl⟩
  have hs : ∀ W a a' c c', Sl W a P.ats → Sl W a' P.ats → Calls Tryd.prog 14 #[.agg #[.slice a pn c, .int .i64 P.g, .bool P.r.w, .bool P.r.u, .bool P.r.x, .bool P.large, .bool P.dirty], .agg #[.slice a' pn c', .int .i64 P.g, .bool P.r.w, .bool P.r.u, .bool P.r.x, .bool P.large, .bool P.dirty]] W
      fun e w' => e = .returned (.bool true) ∧ Below W.heap.size W w' := fun W a a' c c' h1 h2 => by
    have := same_any W a a' c c' P P h1 h2 hpl hpl
    rw [hpn] at this
    simpa using this
  have HS := Lib.hid hs
  clear hs
  have hw1 : ∀ W p fb, GM W p fb h16 16 mem → EC W → Calls Tryd.prog 13 #[.pointer (some ⟨p, 0, none⟩), .int .i64 root, .int .i64 n, .int .i64 k, .bool true] W
      fun e w' => Below W.heap.size W w' ∧ ∃ a c, e = .returned (.tuple #[.agg #[.slice a pn c, .int .i64 P.g, .bool P.r.w, .bool P.r.u, .bool P.r.x, .bool P.large, .bool P.dirty], .int .i64 0, .int .i64 0]) ∧ Sl w' a P.ats := fun W p fb M E => by
    rw [← hn, ← hk]
    have := gm_walk M E root ((page % 512 : Nat) : Int) ((kind % 3 : Nat) : Int) true P 0 0 o1
    rw [hpn] at this; exact this
  have HW1 := Lib.hid hw1
  clear hw1
  have hw2 : ∀ W p fb, GM W p fb h16 16 mem → EC W → Calls Tryd.prog 13 #[.pointer (some ⟨p, 0, none⟩), .int .i64 root, .int .i64 n, .int .i64 k, .bool false] W
      fun e w' => Below W.heap.size W w' ∧ ∃ a c, e = .returned (.tuple #[.agg #[.slice a pn c, .int .i64 P.g, .bool P.r.w, .bool P.r.u, .bool P.r.x, .bool P.large, .bool P.dirty], .int .i64 0, .int .i64 0]) ∧ Sl w' a P.ats := fun W p fb M E => by
    rw [← hn, ← hk]
    have := gm_walk M E root ((page % 512 : Nat) : Int) ((kind % 3 : Nat) : Int) false P 0 0 o2
    rw [hpn] at this; exact this
  have HW2 := Lib.hid hw2
  clear hw2
  have hw3 : ∀ W p fb, GM W p fb h16 16 mem → EC W → Calls Tryd.prog 13 #[.pointer (some ⟨p, 0, none⟩), .int .i64 root, .int .i64 n, .int .i64 0, .bool false] W
      fun e w' => Below W.heap.size W w' ∧ ∃ a c, e = .returned (.tuple #[.agg #[.slice a pn c, .int .i64 P.g, .bool P.r.w, .bool P.r.u, .bool P.r.x, .bool P.large, .bool P.dirty], .int .i64 0, .int .i64 0]) ∧ Sl w' a P.ats := fun W p fb M E => by
    rw [← hn]
    have := gm_walk M E root ((page % 512 : Nat) : Int) 0 false P 0 0 o3
    rw [hpn] at this; exact this
  have HW3 := Lib.hid hw3
  clear hw3
  have hn1 : (page : Int) % 512 = n := by rw [← hn]; rfl
  have hk1 : (kind : Int) % 3 = k := by rw [← hk]; rfl
  have hn2 : 0 ≤ n ∧ n < 512 := by omega
  have hk2 : 0 ≤ k ∧ k < 3 := by omega
  obtain ⟨hn3, hn4⟩ := hn2
  obtain ⟨hk3, hk4⟩ := hk2
  rw [hl] at hm ⊢
  rw [hmem] at hm
  have HH := Lib.hid hh
  have HM := Lib.hid hm
  have HG := Lib.hid hg
  clear hh hm hg o1 o2 o3 hl hmem hlen hp hn hk hpn hpl
  by_cases h600 : (600 : Int) < (len : Int)
  · go_enter Tryd.func4, Tryd.ntmps4
    go_wp2_with (first
      | (go_at_call 11; (with_reducible refine HH.out.mono ?_); rintro e W0 ⟨rfl, b0⟩)
      | (go_at_call 12; (with_reducible refine (HM.out _ b0).mono ?_); rintro e W1 ⟨⟨p, fb, rfl, M1, q1, q2⟩, b1⟩))
    go_ret
    exact ⟨rfl, b0.trans (b1.mono b0.size)⟩
  · go_enter Tryd.func4, Tryd.ntmps4
    go_wp2_with (first
      | (go_at_call 11; (with_reducible refine HH.out.mono ?_); rintro e W0 ⟨rfl, b0⟩)
      | (go_at_call 12; (with_reducible refine (HM.out _ b0).mono ?_); rintro e W1 ⟨⟨p, fb, rfl, M1, q1, q2⟩, b1⟩; have A1 := b0.trans (b1.mono b0.size); have E1 := HG.out.past A1; clear q1 q2 b0 b1)
      | (go_at_call 13; (with_reducible refine (HW1.out W1 _ _ M1 E1).mono ?_); rintro e W2 ⟨b2, a2, c2', rfl, s2⟩; have M2 := M1.past b2; have E2 := E1.past b2; have A2 := A1.trans (b2.mono A1.size))
      | (go_at_call 13; (with_reducible refine (HW2.out _ _ _ (M2.past (bal _ _)) (E2.past (bal _ _))).mono ?_); rintro e W3 ⟨b3, a3, c3', rfl, s3⟩; have d3 := step b3; have M3 := M2.past d3; have E3 := E2.past d3; have A3 := A2.trans (d3.mono A2.size))
      | (go_at_call 13; (with_reducible refine (HW3.out _ _ _ (M3.past (bal _ _)) (E3.past (bal _ _))).mono ?_); rintro e W4 ⟨b4, a4, c4', rfl, s4⟩; have d4 := step b4; have A4 := A3.trans (d4.mono A3.size); have bp0 := (Blk.new W2 31 [.slice a2 pn c2', .int .i64 P.g, .bool P.r.w, .bool P.r.u, .bool P.r.x, .bool P.large, .bool P.dirty]).past b3; have bp := bp0.past d4; have sp := (s2.past d3).past d4; have lp := bp.lt; have x0 := bp.cell (k := 0) rfl; have x1 := bp.cell (k := 1) rfl; have x2 := bp.cell (k := 2) rfl; have x3 := bp.cell (k := 3) rfl; have x4 := bp.cell (k := 4) rfl; have x5 := bp.cell (k := 5) rfl; have x6 := bp.cell (k := 6) rfl; have bq := (Blk.new W3 31 [.slice a3 pn c3', .int .i64 P.g, .bool P.r.w, .bool P.r.u, .bool P.r.x, .bool P.large, .bool P.dirty]).past b4; have lq := bq.lt; have sq := s3.past d4; have y0 := bq.cell (k := 0) rfl; have y1 := bq.cell (k := 1) rfl; have y2 := bq.cell (k := 2) rfl; have y3 := bq.cell (k := 3) rfl; have y4 := bq.cell (k := 4) rfl; have y5 := bq.cell (k := 5) rfl; have y6 := bq.cell (k := 6) rfl; have bg : Below W4.heap.size W4 (W4.alloc (.cells #[.slice a4 pn c4', .int .i64 P.g, .bool P.r.w, .bool P.r.u, .bool P.r.x, .bool P.large, .bool P.dirty] 31)) := bal _ _)
      | (go_at_call 14; (with_reducible refine (HS.out _ _ _ _ _ (sp.past (bal _ _)) (sq.past (bal _ _))).mono ?_); rintro e W5 ⟨rfl, b5⟩; have d5 := step b5; have sq5 := sq.past d5; have s45 := s4.past d5; have A5 := A4.trans (d5.mono A4.size); have bq5 := bq.past d5; have br5 := (Blk.new W4 31 [.slice a4 pn c4', .int .i64 P.g, .bool P.r.w, .bool P.r.u, .bool P.r.x, .bool P.large, .bool P.dirty]).past b5; have lq5 := bq5.lt; have lr5 := br5.lt; have y0 := bq5.cell (k := 0) rfl; have y1 := bq5.cell (k := 1) rfl; have y2 := bq5.cell (k := 2) rfl; have y3 := bq5.cell (k := 3) rfl; have y4 := bq5.cell (k := 4) rfl; have y5 := bq5.cell (k := 5) rfl; have y6 := bq5.cell (k := 6) rfl; have z0 := br5.cell (k := 0) rfl; have z1 := br5.cell (k := 1) rfl; have z2 := br5.cell (k := 2) rfl; have z3 := br5.cell (k := 3) rfl; have z4 := br5.cell (k := 4) rfl; have z5 := br5.cell (k := 5) rfl; have z6 := br5.cell (k := 6) rfl)
      | (go_at_call 14; (with_reducible refine (HS.out _ _ _ _ _ sq5 s45).mono ?_); rintro e W6 ⟨rfl, b6⟩; have A6 := A5.trans (b6.mono A5.size)))
    go_ret
    exact ⟨rfl, A6⟩

set_option maxRecDepth 100000 in
set_option maxHeartbeats 4000000 in
theorem kinds_D2 (w : World) (hg : EC w) (a : Option Addr) (c : Nat) (l : List (Int × Int × Nat)) (hp : Ps w a l) (hlen : l.length ≤ 9223372036854775807) (root : Int) (page kind : Nat) (hpg : page < 65536) (hkd : kind < 256) (P : Path) (c1 : Int)
    (o1 : out (wk (rd h16 (puts l)) h16.length root ((page % 512 : Nat) : Int) ((kind % 3 : Nat) : Int) true) = (Path.none, 1, c1)) (o2 : out (wk (rd h16 (puts l)) h16.length root ((page % 512 : Nat) : Int) ((kind % 3 : Nat) : Int) false) = (P, 0, 0)) (o3 : out (wk (rd h16 (puts l)) h16.length root ((page % 512 : Nat) : Int) 0 false) = (P, 0, 0)) :
    Calls Tryd.prog 4 #[.slice a l.length c, .int .i64 root, .int .u16 (page : Int), .int .u8 (kind : Int)] w fun e w' => e = .returned (.bool true) ∧ Below w.heap.size w w' := by
  have hh := head_any w hg
  have hm := fun W (hb : Below w.heap.size w W) => made_any W a c l (hp.below hb) hlen
  obtain ⟨len, hl⟩ : ∃ len, l.length = len := ⟨_, rfl⟩
  obtain ⟨mem, hmem⟩ : ∃ mem, puts l = mem := ⟨_, rfl⟩
  rw [hmem] at o1 o2 o3
  obtain ⟨n, hn⟩ : ∃ n : Int, ((page % 512 : Nat) : Int) = n := ⟨_, rfl⟩
  obtain ⟨k, hk⟩ : ∃ k : Int, ((kind % 3 : Nat) : Int) = k := ⟨_, rfl⟩
  have hpl : P.ats.length ≤ 1000 := by have := wk_len o3; omega
  obtain ⟨pn, hpn⟩ : ∃ n, P.ats.length = n := ⟨_, rfl⟩
  have hs : ∀ W a a' c c', Sl W a P.ats → Sl W a' P.ats → Calls Tryd.prog 14 #[.agg #[.slice a pn c, .int .i64 P.g, .bool P.r.w, .bool P.r.u, .bool P.r.x, .bool P.large, .bool P.dirty], .agg #[.slice a' pn c', .int .i64 P.g, .bool P.r.w, .bool P.r.u, .bool P.r.x, .bool P.large, .bool P.dirty]] W
      fun e w' => e = .returned (.bool true) ∧ Below W.heap.size W w' := fun W a a' c c' h1 h2 => by
    have := same_any W a a' c c' P P h1 h2 hpl hpl
    rw [hpn] at this
    simpa using this
  have HS := Lib.hid hs
  clear hs
  have hw1 : ∀ W p fb, GM W p fb h16 16 mem → EC W → Calls Tryd.prog 13 #[.pointer (some ⟨p, 0, none⟩), .int .i64 root, .int .i64 n, .int .i64 k, .bool true] W
      fun e w' => Below W.heap.size W w' ∧ ∃ a c, e = .returned (.tuple #[.agg #[.slice a 0 c, .int .i64 Path.none.g, .bool Path.none.r.w, .bool Path.none.r.u, .bool Path.none.r.x, .bool Path.none.large, .bool Path.none.dirty], .int .i64 1, .int .i64 c1]) ∧ Sl w' a Path.none.ats := fun W p fb M E => by
    rw [← hn, ← hk]
    have := gm_walk M E root ((page % 512 : Nat) : Int) ((kind % 3 : Nat) : Int) true Path.none 1 c1 o1
    exact this
  have HW1 := Lib.hid hw1
  clear hw1
  have hw2 : ∀ W p fb, GM W p fb h16 16 mem → EC W → Calls Tryd.prog 13 #[.pointer (some ⟨p, 0, none⟩), .int .i64 root, .int .i64 n, .int .i64 k, .bool false] W
      fun e w' => Below W.heap.size W w' ∧ ∃ a c, e = .returned (.tuple #[.agg #[.slice a pn c, .int .i64 P.g, .bool P.r.w, .bool P.r.u, .bool P.r.x, .bool P.large, .bool P.dirty], .int .i64 0, .int .i64 0]) ∧ Sl w' a P.ats := fun W p fb M E => by
    rw [← hn, ← hk]
    have := gm_walk M E root ((page % 512 : Nat) : Int) ((kind % 3 : Nat) : Int) false P 0 0 o2
    rw [hpn] at this; exact this
  have HW2 := Lib.hid hw2
  clear hw2
  have hw3 : ∀ W p fb, GM W p fb h16 16 mem → EC W → Calls Tryd.prog 13 #[.pointer (some ⟨p, 0, none⟩), .int .i64 root, .int .i64 n, .int .i64 0, .bool false] W
      fun e w' => Below W.heap.size W w' ∧ ∃ a c, e = .returned (.tuple #[.agg #[.slice a pn c, .int .i64 P.g, .bool P.r.w, .bool P.r.u, .bool P.r.x, .bool P.large, .bool P.dirty], .int .i64 0, .int .i64 0]) ∧ Sl w' a P.ats := fun W p fb M E => by
    rw [← hn]
    have := gm_walk M E root ((page % 512 : Nat) : Int) 0 false P 0 0 o3
    rw [hpn] at this; exact this
  have HW3 := Lib.hid hw3
  clear hw3
  have hn1 : (page : Int) % 512 = n := by rw [← hn]; rfl
  have hk1 : (kind : Int) % 3 = k := by rw [← hk]; rfl
  have hn2 : 0 ≤ n ∧ n < 512 := by omega
  have hk2 : 0 ≤ k ∧ k < 3 := by omega
  obtain ⟨hn3, hn4⟩ := hn2
  obtain ⟨hk3, hk4⟩ := hk2
  rw [hl] at hm ⊢
  rw [hmem] at hm
  have HH := Lib.hid hh
  have HM := Lib.hid hm
  have HG := Lib.hid hg
  clear hh hm hg o1 o2 o3 hl hmem hlen hp hn hk hpn hpl
  by_cases h600 : (600 : Int) < (len : Int)
  · go_enter Tryd.func4, Tryd.ntmps4
    go_wp2_with (first
      | (go_at_call 11; (with_reducible refine HH.out.mono ?_); rintro e W0 ⟨rfl, b0⟩)
      | (go_at_call 12; (with_reducible refine (HM.out _ b0).mono ?_); rintro e W1 ⟨⟨p, fb, rfl, M1, q1, q2⟩, b1⟩))
    go_ret
    exact ⟨rfl, b0.trans (b1.mono b0.size)⟩
  · go_enter Tryd.func4, Tryd.ntmps4
    go_wp2_with (first
      | (go_at_call 11; (with_reducible refine HH.out.mono ?_); rintro e W0 ⟨rfl, b0⟩)
      | (go_at_call 12; (with_reducible refine (HM.out _ b0).mono ?_); rintro e W1 ⟨⟨p, fb, rfl, M1, q1, q2⟩, b1⟩; have A1 := b0.trans (b1.mono b0.size); have E1 := HG.out.past A1; clear q1 q2 b0 b1)
      | (go_at_call 13; (with_reducible refine (HW1.out W1 _ _ M1 E1).mono ?_); rintro e W2 ⟨b2, a2, c2', rfl, s2⟩; have M2 := M1.past b2; have E2 := E1.past b2; have A2 := A1.trans (b2.mono A1.size))
      | (go_at_call 13; (with_reducible refine (HW2.out _ _ _ (M2.past (bal _ _)) (E2.past (bal _ _))).mono ?_); rintro e W3 ⟨b3, a3, c3', rfl, s3⟩; have d3 := step b3; have M3 := M2.past d3; have E3 := E2.past d3; have A3 := A2.trans (d3.mono A2.size))
      | (go_at_call 13; (with_reducible refine (HW3.out _ _ _ (M3.past (bal _ _)) (E3.past (bal _ _))).mono ?_); rintro e W4 ⟨b4, a4, c4', rfl, s4⟩; have d4 := step b4; have A4 := A3.trans (d4.mono A3.size); have bq := (Blk.new W3 31 [.slice a3 pn c3', .int .i64 P.g, .bool P.r.w, .bool P.r.u, .bool P.r.x, .bool P.large, .bool P.dirty]).past b4; have lq := bq.lt; have sq := s3.past d4; have y0 := bq.cell (k := 0) rfl; have y1 := bq.cell (k := 1) rfl; have y2 := bq.cell (k := 2) rfl; have y3 := bq.cell (k := 3) rfl; have y4 := bq.cell (k := 4) rfl; have y5 := bq.cell (k := 5) rfl; have y6 := bq.cell (k := 6) rfl; have bg : Below W4.heap.size W4 (W4.alloc (.cells #[.slice a4 pn c4', .int .i64 P.g, .bool P.r.w, .bool P.r.u, .bool P.r.x, .bool P.large, .bool P.dirty] 31)) := bal _ _)
      | (go_at_call 14; (with_reducible refine (HS.out _ _ _ _ _ (sq.past (bal _ _)) (s4.past (bal _ _))).mono ?_); rintro e W5 ⟨rfl, b5⟩; have A5 := A4.trans ((step b5).mono A4.size)))
    go_ret
    exact ⟨rfl, A5⟩

set_option maxRecDepth 100000 in
set_option maxHeartbeats 4000000 in
theorem kinds_D3 (w : World) (hg : EC w) (a : Option Addr) (c : Nat) (l : List (Int × Int × Nat)) (hp : Ps w a l) (hlen : l.length ≤ 9223372036854775807) (root : Int) (page kind : Nat) (hpg : page < 65536) (hkd : kind < 256) (P : Path) (c1 c2 : Int)
    (o1 : out (wk (rd h16 (puts l)) h16.length root ((page % 512 : Nat) : Int) ((kind % 3 : Nat) : Int) true) = (Path.none, 1, c1)) (o2 : out (wk (rd h16 (puts l)) h16.length root ((page % 512 : Nat) : Int) ((kind % 3 : Nat) : Int) false) = (Path.none, 1, c2)) (o3 : out (wk (rd h16 (puts l)) h16.length root ((page % 512 : Nat) : Int) 0 false) = (P, 0, 0)) :
    Calls Tryd.prog 4 #[.slice a l.length c, .int .i64 root, .int .u16 (page : Int), .int .u8 (kind : Int)] w fun e w' => e = .returned (.bool true) ∧ Below w.heap.size w w' := by
  have hh := head_any w hg
  have hm := fun W (hb : Below w.heap.size w W) => made_any W a c l (hp.below hb) hlen
  obtain ⟨len, hl⟩ : ∃ len, l.length = len := ⟨_, rfl⟩
  obtain ⟨mem, hmem⟩ : ∃ mem, puts l = mem := ⟨_, rfl⟩
  rw [hmem] at o1 o2 o3
  obtain ⟨n, hn⟩ : ∃ n : Int, ((page % 512 : Nat) : Int) = n := ⟨_, rfl⟩
  obtain ⟨k, hk⟩ : ∃ k : Int, ((kind % 3 : Nat) : Int) = k := ⟨_, rfl⟩
  have hpl : P.ats.length ≤ 1000 := by have := wk_len o3; omega
  obtain ⟨pn, hpn⟩ : ∃ n, P.ats.length = n := ⟨_, rfl⟩
  have hs : ∀ W a a' c c', Sl W a P.ats → Sl W a' P.ats → Calls Tryd.prog 14 #[.agg #[.slice a pn c, .int .i64 P.g, .bool P.r.w, .bool P.r.u, .bool P.r.x, .bool P.large, .bool P.dirty], .agg #[.slice a' pn c', .int .i64 P.g, .bool P.r.w, .bool P.r.u, .bool P.r.x, .bool P.large, .bool P.dirty]] W
      fun e w' => e = .returned (.bool true) ∧ Below W.heap.size W w' := fun W a a' c c' h1 h2 => by
    have := same_any W a a' c c' P P h1 h2 hpl hpl
    rw [hpn] at this
    simpa using this
  have HS := Lib.hid hs
  clear hs
  have hw1 : ∀ W p fb, GM W p fb h16 16 mem → EC W → Calls Tryd.prog 13 #[.pointer (some ⟨p, 0, none⟩), .int .i64 root, .int .i64 n, .int .i64 k, .bool true] W
      fun e w' => Below W.heap.size W w' ∧ ∃ a c, e = .returned (.tuple #[.agg #[.slice a 0 c, .int .i64 Path.none.g, .bool Path.none.r.w, .bool Path.none.r.u, .bool Path.none.r.x, .bool Path.none.large, .bool Path.none.dirty], .int .i64 1, .int .i64 c1]) ∧ Sl w' a Path.none.ats := fun W p fb M E => by
    rw [← hn, ← hk]
    have := gm_walk M E root ((page % 512 : Nat) : Int) ((kind % 3 : Nat) : Int) true Path.none 1 c1 o1
    exact this
  have HW1 := Lib.hid hw1
  clear hw1
  have hw2 : ∀ W p fb, GM W p fb h16 16 mem → EC W → Calls Tryd.prog 13 #[.pointer (some ⟨p, 0, none⟩), .int .i64 root, .int .i64 n, .int .i64 k, .bool false] W
      fun e w' => Below W.heap.size W w' ∧ ∃ a c, e = .returned (.tuple #[.agg #[.slice a 0 c, .int .i64 Path.none.g, .bool Path.none.r.w, .bool Path.none.r.u, .bool Path.none.r.x, .bool Path.none.large, .bool Path.none.dirty], .int .i64 1, .int .i64 c2]) ∧ Sl w' a Path.none.ats := fun W p fb M E => by
    rw [← hn, ← hk]
    have := gm_walk M E root ((page % 512 : Nat) : Int) ((kind % 3 : Nat) : Int) false Path.none 1 c2 o2
    exact this
  have HW2 := Lib.hid hw2
  clear hw2
  have hw3 : ∀ W p fb, GM W p fb h16 16 mem → EC W → Calls Tryd.prog 13 #[.pointer (some ⟨p, 0, none⟩), .int .i64 root, .int .i64 n, .int .i64 0, .bool false] W
      fun e w' => Below W.heap.size W w' ∧ ∃ a c, e = .returned (.tuple #[.agg #[.slice a pn c, .int .i64 P.g, .bool P.r.w, .bool P.r.u, .bool P.r.x, .bool P.large, .bool P.dirty], .int .i64 0, .int .i64 0]) ∧ Sl w' a P.ats := fun W p fb M E => by
    rw [← hn]
    have := gm_walk M E root ((page % 512 : Nat) : Int) 0 false P 0 0 o3
    rw [hpn] at this; exact this
  have HW3 := Lib.hid hw3
  clear hw3
  have hn1 : (page : Int) % 512 = n := by rw [← hn]; rfl
  have hk1 : (kind : Int) % 3 = k := by rw [← hk]; rfl
  have hn2 : 0 ≤ n ∧ n < 512 := by omega
  have hk2 : 0 ≤ k ∧ k < 3 := by omega
  obtain ⟨hn3, hn4⟩ := hn2
  obtain ⟨hk3, hk4⟩ := hk2
  rw [hl] at hm ⊢
  rw [hmem] at hm
  have HH := Lib.hid hh
  have HM := Lib.hid hm
  have HG := Lib.hid hg
  clear hh hm hg o1 o2 o3 hl hmem hlen hp hn hk hpn hpl
  by_cases h600 : (600 : Int) < (len : Int)
  · go_enter Tryd.func4, Tryd.ntmps4
    go_wp2_with (first
      | (go_at_call 11; (with_reducible refine HH.out.mono ?_); rintro e W0 ⟨rfl, b0⟩)
      | (go_at_call 12; (with_reducible refine (HM.out _ b0).mono ?_); rintro e W1 ⟨⟨p, fb, rfl, M1, q1, q2⟩, b1⟩))
    go_ret
    exact ⟨rfl, b0.trans (b1.mono b0.size)⟩
  · go_enter Tryd.func4, Tryd.ntmps4
    go_wp2_with (first
      | (go_at_call 11; (with_reducible refine HH.out.mono ?_); rintro e W0 ⟨rfl, b0⟩)
      | (go_at_call 12; (with_reducible refine (HM.out _ b0).mono ?_); rintro e W1 ⟨⟨p, fb, rfl, M1, q1, q2⟩, b1⟩; have A1 := b0.trans (b1.mono b0.size); have E1 := HG.out.past A1; clear q1 q2 b0 b1)
      | (go_at_call 13; (with_reducible refine (HW1.out W1 _ _ M1 E1).mono ?_); rintro e W2 ⟨b2, a2, c2', rfl, s2⟩; have M2 := M1.past b2; have E2 := E1.past b2; have A2 := A1.trans (b2.mono A1.size))
      | (go_at_call 13; (with_reducible refine (HW2.out _ _ _ (M2.past (bal _ _)) (E2.past (bal _ _))).mono ?_); rintro e W3 ⟨b3, a3, c3', rfl, s3⟩; have d3 := step b3; have M3 := M2.past d3; have E3 := E2.past d3; have A3 := A2.trans (d3.mono A2.size))
      | (go_at_call 13; (with_reducible refine (HW3.out _ _ _ (M3.past (bal _ _)) (E3.past (bal _ _))).mono ?_); rintro e W4 ⟨b4, a4, c4', rfl, s4⟩; have d4 := step b4; have A4 := A3.trans (d4.mono A3.size)))
    go_ret
    exact ⟨rfl, A4.alloc A4.size _⟩

set_option maxRecDepth 100000 in
set_option maxHeartbeats 4000000 in
theorem kinds_D5 (w : World) (hg : EC w) (a : Option Addr) (c : Nat) (l : List (Int × Int × Nat)) (hp : Ps w a l) (hlen : l.length ≤ 9223372036854775807) (root : Int) (page kind : Nat) (hpg : page < 65536) (hkd : kind < 256) (c1 : Int)
    (o1 : out (wk (rd h16 (puts l)) h16.length root ((page % 512 : Nat) : Int) ((kind % 3 : Nat) : Int) true) = (Path.none, 1, c1)) (o2 : out (wk (rd h16 (puts l)) h16.length root ((page % 512 : Nat) : Int) ((kind % 3 : Nat) : Int) false) = (Path.none, 3, 0)) (o3 : out (wk (rd h16 (puts l)) h16.length root ((page % 512 : Nat) : Int) 0 false) = (Path.none, 3, 0)) :
    Calls Tryd.prog 4 #[.slice a l.length c, .int .i64 root, .int .u16 (page : Int), .int .u8 (kind : Int)] w fun e w' => e = .returned (.bool true) ∧ Below w.heap.size w w' := by
  have hh := head_any w hg
  have hm := fun W (hb : Below w.heap.size w W) => made_any W a c l (hp.below hb) hlen
  obtain ⟨len, hl⟩ : ∃ len, l.length = len := ⟨_, rfl⟩
  obtain ⟨mem, hmem⟩ : ∃ mem, puts l = mem := ⟨_, rfl⟩
  rw [hmem] at o1 o2 o3
  obtain ⟨n, hn⟩ : ∃ n : Int, ((page % 512 : Nat) : Int) = n := ⟨_, rfl⟩
  obtain ⟨k, hk⟩ : ∃ k : Int, ((kind % 3 : Nat) : Int) = k := ⟨_, rfl⟩
  have hw1 : ∀ W p fb, GM W p fb h16 16 mem → EC W → Calls Tryd.prog 13 #[.pointer (some ⟨p, 0, none⟩), .int .i64 root, .int .i64 n, .int .i64 k, .bool true] W
      fun e w' => Below W.heap.size W w' ∧ ∃ a c, e = .returned (.tuple #[.agg #[.slice a 0 c, .int .i64 Path.none.g, .bool Path.none.r.w, .bool Path.none.r.u, .bool Path.none.r.x, .bool Path.none.large, .bool Path.none.dirty], .int .i64 1, .int .i64 c1]) ∧ Sl w' a Path.none.ats := fun W p fb M E => by
    rw [← hn, ← hk]
    have := gm_walk M E root ((page % 512 : Nat) : Int) ((kind % 3 : Nat) : Int) true Path.none 1 c1 o1
    exact this
  have HW1 := Lib.hid hw1
  clear hw1
  have hw2 : ∀ W p fb, GM W p fb h16 16 mem → EC W → Calls Tryd.prog 13 #[.pointer (some ⟨p, 0, none⟩), .int .i64 root, .int .i64 n, .int .i64 k, .bool false] W
      fun e w' => Below W.heap.size W w' ∧ ∃ a c, e = .returned (.tuple #[.agg #[.slice a 0 c, .int .i64 Path.none.g, .bool Path.none.r.w, .bool Path.none.r.u, .bool Path.none.r.x, .bool Path.none.large, .bool Path.none.dirty], .int .i64 3, .int .i64 0]) ∧ Sl w' a Path.none.ats := fun W p fb M E => by
    rw [← hn, ← hk]
    have := gm_walk M E root ((page % 512 : Nat) : Int) ((kind % 3 : Nat) : Int) false Path.none 3 0 o2
    exact this
  have HW2 := Lib.hid hw2
  clear hw2
  have hw3 : ∀ W p fb, GM W p fb h16 16 mem → EC W → Calls Tryd.prog 13 #[.pointer (some ⟨p, 0, none⟩), .int .i64 root, .int .i64 n, .int .i64 0, .bool false] W
      fun e w' => Below W.heap.size W w' ∧ ∃ a c, e = .returned (.tuple #[.agg #[.slice a 0 c, .int .i64 Path.none.g, .bool Path.none.r.w, .bool Path.none.r.u, .bool Path.none.r.x, .bool Path.none.large, .bool Path.none.dirty], .int .i64 3, .int .i64 0]) ∧ Sl w' a Path.none.ats := fun W p fb M E => by
    rw [← hn]
    have := gm_walk M E root ((page % 512 : Nat) : Int) 0 false Path.none 3 0 o3
    exact this
  have HW3 := Lib.hid hw3
  clear hw3
  have hn1 : (page : Int) % 512 = n := by rw [← hn]; rfl
  have hk1 : (kind : Int) % 3 = k := by rw [← hk]; rfl
  have hn2 : 0 ≤ n ∧ n < 512 := by omega
  have hk2 : 0 ≤ k ∧ k < 3 := by omega
  obtain ⟨hn3, hn4⟩ := hn2
  obtain ⟨hk3, hk4⟩ := hk2
  rw [hl] at hm ⊢
  rw [hmem] at hm
  have HH := Lib.hid hh
  have HM := Lib.hid hm
  have HG := Lib.hid hg
  clear hh hm hg o1 o2 o3 hl hmem hlen hp hn hk
  by_cases h600 : (600 : Int) < (len : Int)
  · go_enter Tryd.func4, Tryd.ntmps4
    go_wp2_with (first
      | (go_at_call 11; (with_reducible refine HH.out.mono ?_); rintro e W0 ⟨rfl, b0⟩)
      | (go_at_call 12; (with_reducible refine (HM.out _ b0).mono ?_); rintro e W1 ⟨⟨p, fb, rfl, M1, q1, q2⟩, b1⟩))
    go_ret
    exact ⟨rfl, b0.trans (b1.mono b0.size)⟩
  · go_enter Tryd.func4, Tryd.ntmps4
    go_wp2_with (first
      | (go_at_call 11; (with_reducible refine HH.out.mono ?_); rintro e W0 ⟨rfl, b0⟩)
      | (go_at_call 12; (with_reducible refine (HM.out _ b0).mono ?_); rintro e W1 ⟨⟨p, fb, rfl, M1, q1, q2⟩, b1⟩; have A1 := b0.trans (b1.mono b0.size); have E1 := HG.out.past A1; clear q1 q2 b0 b1)
      | (go_at_call 13; (with_reducible refine (HW1.out W1 _ _ M1 E1).mono ?_); rintro e W2 ⟨b2, a2, c2', rfl, s2⟩; have M2 := M1.past b2; have E2 := E1.past b2; have A2 := A1.trans (b2.mono A1.size))
      | (go_at_call 13; (with_reducible refine (HW2.out _ _ _ (M2.past (bal _ _)) (E2.past (bal _ _))).mono ?_); rintro e W3 ⟨b3, a3, c3', rfl, s3⟩; have d3 := step b3; have M3 := M2.past d3; have E3 := E2.past d3; have A3 := A2.trans (d3.mono A2.size))
      | (go_at_call 13; (with_reducible refine (HW3.out _ _ _ (M3.past (bal _ _)) (E3.past (bal _ _))).mono ?_); rintro e W4 ⟨b4, a4, c4', rfl, s4⟩; have d4 := step b4; have A4 := A3.trans (d4.mono A3.size)))
    go_ret
    exact ⟨rfl, A4.alloc A4.size _⟩

set_option maxRecDepth 100000 in
set_option maxHeartbeats 4000000 in
theorem kinds_D6 (w : World) (hg : EC w) (a : Option Addr) (c : Nat) (l : List (Int × Int × Nat)) (hp : Ps w a l) (hlen : l.length ≤ 9223372036854775807) (root : Int) (page kind : Nat) (hpg : page < 65536) (hkd : kind < 256) (c1 c2 : Int)
    (o1 : out (wk (rd h16 (puts l)) h16.length root ((page % 512 : Nat) : Int) ((kind % 3 : Nat) : Int) true) = (Path.none, 1, c1)) (o2 : out (wk (rd h16 (puts l)) h16.length root ((page % 512 : Nat) : Int) ((kind % 3 : Nat) : Int) false) = (Path.none, 1, c2)) (o3 : out (wk (rd h16 (puts l)) h16.length root ((page % 512 : Nat) : Int) 0 false) = (Path.none, 3, 0)) :
    Calls Tryd.prog 4 #[.slice a l.length c, .int .i64 root, .int .u16 (page : Int), .int .u8 (kind : Int)] w fun e w' => e = .returned (.bool true) ∧ Below w.heap.size w w' := by
  have hh := head_any w hg
  have hm := fun W (hb : Below w.heap.size w W) => made_any W a c l (hp.below hb) hlen
  obtain ⟨len, hl⟩ : ∃ len, l.length = len := ⟨_, rfl⟩
  obtain ⟨mem, hmem⟩ : ∃ mem, puts l = mem := ⟨_, rfl⟩
  rw [hmem] at o1 o2 o3
  obtain ⟨n, hn⟩ : ∃ n : Int, ((page % 512 : Nat) : Int) = n := ⟨_, rfl⟩
  obtain ⟨k, hk⟩ : ∃ k : Int, ((kind % 3 : Nat) : Int) = k := ⟨_, rfl⟩
  have hw1 : ∀ W p fb, GM W p fb h16 16 mem → EC W → Calls Tryd.prog 13 #[.pointer (some ⟨p, 0, none⟩), .int .i64 root, .int .i64 n, .int .i64 k, .bool true] W
      fun e w' => Below W.heap.size W w' ∧ ∃ a c, e = .returned (.tuple #[.agg #[.slice a 0 c, .int .i64 Path.none.g, .bool Path.none.r.w, .bool Path.none.r.u, .bool Path.none.r.x, .bool Path.none.large, .bool Path.none.dirty], .int .i64 1, .int .i64 c1]) ∧ Sl w' a Path.none.ats := fun W p fb M E => by
    rw [← hn, ← hk]
    have := gm_walk M E root ((page % 512 : Nat) : Int) ((kind % 3 : Nat) : Int) true Path.none 1 c1 o1
    exact this
  have HW1 := Lib.hid hw1
  clear hw1
  have hw2 : ∀ W p fb, GM W p fb h16 16 mem → EC W → Calls Tryd.prog 13 #[.pointer (some ⟨p, 0, none⟩), .int .i64 root, .int .i64 n, .int .i64 k, .bool false] W
      fun e w' => Below W.heap.size W w' ∧ ∃ a c, e = .returned (.tuple #[.agg #[.slice a 0 c, .int .i64 Path.none.g, .bool Path.none.r.w, .bool Path.none.r.u, .bool Path.none.r.x, .bool Path.none.large, .bool Path.none.dirty], .int .i64 1, .int .i64 c2]) ∧ Sl w' a Path.none.ats := fun W p fb M E => by
    rw [← hn, ← hk]
    have := gm_walk M E root ((page % 512 : Nat) : Int) ((kind % 3 : Nat) : Int) false Path.none 1 c2 o2
    exact this
  have HW2 := Lib.hid hw2
  clear hw2
  have hw3 : ∀ W p fb, GM W p fb h16 16 mem → EC W → Calls Tryd.prog 13 #[.pointer (some ⟨p, 0, none⟩), .int .i64 root, .int .i64 n, .int .i64 0, .bool false] W
      fun e w' => Below W.heap.size W w' ∧ ∃ a c, e = .returned (.tuple #[.agg #[.slice a 0 c, .int .i64 Path.none.g, .bool Path.none.r.w, .bool Path.none.r.u, .bool Path.none.r.x, .bool Path.none.large, .bool Path.none.dirty], .int .i64 3, .int .i64 0]) ∧ Sl w' a Path.none.ats := fun W p fb M E => by
    rw [← hn]
    have := gm_walk M E root ((page % 512 : Nat) : Int) 0 false Path.none 3 0 o3
    exact this
  have HW3 := Lib.hid hw3
  clear hw3
  have hn1 : (page : Int) % 512 = n := by rw [← hn]; rfl
  have hk1 : (kind : Int) % 3 = k := by rw [← hk]; rfl
  have hn2 : 0 ≤ n ∧ n < 512 := by omega
  have hk2 : 0 ≤ k ∧ k < 3 := by omega
  obtain ⟨hn3, hn4⟩ := hn2
  obtain ⟨hk3, hk4⟩ := hk2
  rw [hl] at hm ⊢
  rw [hmem] at hm
  have HH := Lib.hid hh
  have HM := Lib.hid hm
  have HG := Lib.hid hg
  clear hh hm hg o1 o2 o3 hl hmem hlen hp hn hk
  by_cases h600 : (600 : Int) < (len : Int)
  · go_enter Tryd.func4, Tryd.ntmps4
    go_wp2_with (first
      | (go_at_call 11; (with_reducible refine HH.out.mono ?_); rintro e W0 ⟨rfl, b0⟩)
      | (go_at_call 12; (with_reducible refine (HM.out _ b0).mono ?_); rintro e W1 ⟨⟨p, fb, rfl, M1, q1, q2⟩, b1⟩))
    go_ret
    exact ⟨rfl, b0.trans (b1.mono b0.size)⟩
  · go_enter Tryd.func4, Tryd.ntmps4
    go_wp2_with (first
      | (go_at_call 11; (with_reducible refine HH.out.mono ?_); rintro e W0 ⟨rfl, b0⟩)
      | (go_at_call 12; (with_reducible refine (HM.out _ b0).mono ?_); rintro e W1 ⟨⟨p, fb, rfl, M1, q1, q2⟩, b1⟩; have A1 := b0.trans (b1.mono b0.size); have E1 := HG.out.past A1; clear q1 q2 b0 b1)
      | (go_at_call 13; (with_reducible refine (HW1.out W1 _ _ M1 E1).mono ?_); rintro e W2 ⟨b2, a2, c2', rfl, s2⟩; have M2 := M1.past b2; have E2 := E1.past b2; have A2 := A1.trans (b2.mono A1.size))
      | (go_at_call 13; (with_reducible refine (HW2.out _ _ _ (M2.past (bal _ _)) (E2.past (bal _ _))).mono ?_); rintro e W3 ⟨b3, a3, c3', rfl, s3⟩; have d3 := step b3; have M3 := M2.past d3; have E3 := E2.past d3; have A3 := A2.trans (d3.mono A2.size))
      | (go_at_call 13; (with_reducible refine (HW3.out _ _ _ (M3.past (bal _ _)) (E3.past (bal _ _))).mono ?_); rintro e W4 ⟨b4, a4, c4', rfl, s4⟩; have d4 := step b4; have A4 := A3.trans (d4.mono A3.size)))
    go_ret
    exact ⟨rfl, A4.alloc A4.size _⟩

end Go.Proofs.YtlldbfpccdmclaaDoor
