/- The law WalkStill: the walk. -/
import Derived.Test.YtlldbfpccdmclaaDoorStillP
import Derived.Test.YtlldbfpccdmclaaDoorMoves
import Derived.Laws.StructEq
namespace Go.Proofs.YtlldbfpccdmclaaDoor
open Go.RowKit

/-- what the loops of WalkStill hold -/
structure SI (w : World) (p fb pb : Nat) (a ar : Option Addr) (ats rs : List (Int × Int)) (cs : List Value) (mem : List Nat) (W : World) : Prop where
  m : GM W p fb h16 16 mem
  e : EC W
  b : Below w.heap.size w W
  t : Blk W pb 31 cs
  s : Sl W a ats
  r : Sl W ar rs
theorem SI.past {w W W' : World} {p fb pb : Nat} {a ar : Option Addr} {ats rs : List (Int × Int)} {cs : List Value} {mem : List Nat} (h : SI w p fb pb a ar ats rs cs mem W) (hb : Below W.heap.size W W') : SI w p fb pb a ar ats rs cs mem W' :=
  ⟨h.m.past hb, h.e.past hb, h.b.trans (hb.mono h.b.size), h.t.past hb, h.s.past hb, h.r.past hb⟩
theorem SI.set {w W W' : World} {p fb pb : Nat} {a ar : Option Addr} {ats rs : List (Int × Int)} {cs : List Value} {mem mem' : List Nat} (h : SI w p fb pb a ar ats rs cs mem W) (h0 : 0 < w.heap.size) (hf : w.heap.size ≤ fb)
    (hm : GM W' p fb h16 16 mem') (hk : Kept W.heap.size (fun k => k = fb) W W') : SI w p fb pb a ar ats rs cs mem' W' :=
  ⟨hm, h.e.kept (by omega) hk, h.b.trans ((hk.mono (B' := w.heap.size) (S' := fun k => k = fb) h.b.size (fun _ _ h => h)).below (fun k hk e => by omega)), h.m.keptB h.t (by decide) hk, h.m.keptS h.s hk, h.m.keptS h.r hk⟩
theorem turned_succ (rs : List (Int × Int)) (v : Nat) (mem : List Nat) (k j : Nat) (hj : j < 8) : turned rs v mem (8 * k + (j + 1)) =
    if hasTo rs ((k : Int), (j : Int)) rs.length then turned rs v mem (8 * k + j) else wr h16 (turned rs v mem (8 * k + j)) (k : Int) (j : Int) v := by
  rw [← Nat.add_assoc, turned]
  have e1 : (8 * k + j) / 8 = k := by omega
  have e2 : (8 * k + j) % 8 = j := by omega
  rw [e1, e2]
theorem hasTo_succ (rs : List (Int × Int)) (x : Int × Int) (m : Nat) : hasTo rs x (m + 1) = (hasTo rs x m || decide (rs.getD m (0, 0) = x)) := by
  unfold hasTo; rw [List.range_succ, List.any_append]; simp

set_option maxRecDepth 100000 in
set_option maxHeartbeats 8000000 in
theorem still_nat (w : World) (hg : EC w) (a : Option Addr) (c : Nat) (l : List (Int × Int × Nat)) (hp : Ps w a l) (hlen : l.length ≤ 9223372036854775807) (root page kind : Nat) (user : Bool) (v : Nat) (hrt : root < 256) (hpg : page < 65536) (hkd : kind < 256) (hv : v < 2 ^ 64) :
    Calls Tryd.prog 9 #[.slice a l.length c, .int .u8 (root : Int), .int .u16 (page : Int), .int .u8 (kind : Int), .bool user, .int .u64 (v : Int)] w fun e w' => e = .returned (.bool true) ∧ Below w.heap.size w w' := by
  have hd := head_any w hg
  have hm := fun W (hb : Below w.heap.size w W) => made_any W a c l (hp.below hb) hlen
  have h128 := puts_len l
  obtain ⟨len, hl⟩ : ∃ len, l.length = len := ⟨_, rfl⟩
  obtain ⟨mem, hmem⟩ : ∃ mem, puts l = mem := ⟨_, rfl⟩
  obtain ⟨n, hn⟩ : ∃ n : Int, ((page % 512 : Nat) : Int) = n := ⟨_, rfl⟩
  obtain ⟨r, hr⟩ : ∃ k : Int, ((root % 16 : Nat) : Int) = k := ⟨_, rfl⟩
  obtain ⟨kd, hk⟩ : ∃ k : Int, ((kind % 3 : Nat) : Int) = k := ⟨_, rfl⟩
  rw [hmem] at h128
  obtain ⟨rs, hrs⟩ : ∃ rs, readsFrom (rd h16 mem) n 3 r = rs := ⟨_, rfl⟩
  have hrl : rs.length ≤ 3 := by rw [← hrs]; exact readsFrom_len _ _ _ _
  obtain ⟨⟨P, h, k⟩, ho⟩ : ∃ o, out (wk (rd h16 mem) h16.length r n kd user) = o := ⟨_, rfl⟩
  have ho2 : out (wk (rd h16 (turned rs v mem 128)) h16.length r n kd user) = (P, h, k) := by rw [still_pure h128 hrs]; exact ho
  have hpl : P.ats.length ≤ 1000 := by have := wk_len ho; omega
  obtain ⟨pn, hpn⟩ : ∃ n, P.ats.length = n := ⟨_, rfl⟩
  have hw : ∀ W p fb, GM W p fb h16 16 mem → EC W → Calls Tryd.prog 13 #[.pointer (some ⟨p, 0, none⟩), .int .i64 r, .int .i64 n, .int .i64 kd, .bool user] W
      fun e w' => Below W.heap.size W w' ∧ ∃ a c, e = .returned (.tuple #[.agg #[.slice a pn c, .int .i64 P.g, .bool P.r.w, .bool P.r.u, .bool P.r.x, .bool P.large, .bool P.dirty], .int .i64 h, .int .i64 k]) ∧ Sl w' a P.ats := fun W p fb M E => by
    have := gm_walk M E r n kd user P h k ho
    rw [hpn] at this; exact this
  have hw2 : ∀ W p fb, GM W p fb h16 16 (turned rs v mem 128) → EC W → Calls Tryd.prog 13 #[.pointer (some ⟨p, 0, none⟩), .int .i64 r, .int .i64 n, .int .i64 kd, .bool user] W
      fun e w' => Below W.heap.size W w' ∧ ∃ a c, e = .returned (.tuple #[.agg #[.slice a pn c, .int .i64 P.g, .bool P.r.w, .bool P.r.u, .bool P.r.x, .bool P.large, .bool P.dirty], .int .i64 h, .int .i64 k]) ∧ Sl w' a P.ats := fun W p fb M E => by
    have := gm_walk M E r n kd user P h k ho2
    rw [hpn] at this; exact this
  have hs : ∀ W a a' c c', Sl W a P.ats → Sl W a' P.ats → Calls Tryd.prog 14 #[.agg #[.slice a pn c, .int .i64 P.g, .bool P.r.w, .bool P.r.u, .bool P.r.x, .bool P.large, .bool P.dirty], .agg #[.slice a' pn c', .int .i64 P.g, .bool P.r.w, .bool P.r.u, .bool P.r.x, .bool P.large, .bool P.dirty]] W
      fun e w' => e = .returned (.bool true) ∧ Below W.heap.size W w' := fun W a a' c c' h1 h2 => by
    have := same_any W a a' c c' P P h1 h2 hpl hpl
    rw [hpn] at this
    simpa using this
  have hal : ∀ W p fb, GM W p fb h16 16 mem → Calls Tryd.prog 32 #[.pointer (some ⟨p, 0, none⟩)] W
      fun e w' => (∃ v, e = .returned v ∧ Wd w' v mem) ∧ Below W.heap.size W w' := fun W p fb M => all_words W p fb mem M h128
  have hsw : ∀ W u v, Wd W u mem → Wd W v mem → Calls Tryd.prog 31 #[u, v] W
      fun e w' => e = .returned (.bool true) ∧ Below W.heap.size W w' := fun W u v h1 h2 => by
    have := same_words W u v mem mem h1 h2 h128 h128
    simpa using this
  obtain ⟨rn, hrn⟩ : ∃ n, rs.length = n := ⟨_, rfl⟩
  have hrd : ∀ W p fb, GM W p fb h16 16 mem → Calls Tryd.prog 34 #[.pointer (some ⟨p, 0, none⟩), .int .i64 r, .int .i64 n] W
      fun e w' => (∃ a c, e = .returned (.slice a rn c) ∧ Sl w' a rs) ∧ Below W.heap.size W w' := fun W p fb M => by
    have := reads_any W p fb mem r n M rs hrs
    rw [hrn] at this; exact this
  have hst : ∀ W p fb (mm : List Nat) (k j : Nat), GM W p fb h16 16 mm → Calls Tryd.prog 24 #[.pointer (some ⟨p, 0, none⟩), .int .i64 (k : Int), .int .i64 (j : Int), .int .u64 (v : Int)] W
      fun e w' => (∃ b, e = .returned (.bool b)) ∧ GM w' p fb h16 16 (wr h16 mm (k : Int) (j : Int) v) ∧ Kept W.heap.size (fun k => k = fb) W w' ∧ w'.heap.size = W.heap.size := fun W p fb mm k j M => (gm_set M k j v hv).mono (fun e w' ⟨h1, h2, h3, h4⟩ => ⟨⟨_, h1⟩, h2, h3, h4⟩)
  have hn1 : (page : Int) % 512 = n := by rw [← hn]; rfl
  have hr1 : (root : Int) % 16 = r := by rw [← hr]; rfl
  have hk1 : (kind : Int) % 3 = kd := by rw [← hk]; rfl
  have hn2 : 0 ≤ n ∧ n < 512 := by omega
  have hr2 : 0 ≤ r ∧ r < 16 := by omega
  have hk2 : 0 ≤ kd ∧ kd < 3 := by omega
  obtain ⟨hn3, hn4⟩ := hn2
  obtain ⟨hr3, hr4⟩ := hr2
  obtain ⟨hk3, hk4⟩ := hk2
  rw [hl] at hm ⊢
  rw [hmem] at hm
  rw [hrn] at hrl
  have HW := Lib.hid hw
  have HW2 := Lib.hid hw2
  have HS := Lib.hid hs
  have HAl := Lib.hid hal
  have HSw := Lib.hid hsw
  have HRd := Lib.hid hrd
  have HSt := Lib.hid hst
  have HH := Lib.hid hd
  have HM := Lib.hid hm
  have HG := Lib.hid hg
  have HRn := Lib.hid hrn
  have HRL := Lib.hid hrl
  have hg0 := lt_of_cell hg
  have HG0 := Lib.hid hg0
  clear hd hm hg hw hw2 hs hal hsw hrd hst ho ho2 hl hmem hlen hp hn hr hk hpn hpl hrs hrn hrl hv h128 hg0
  by_cases h600 : (600 : Int) < (len : Int)
  · go_enter Tryd.func9, Tryd.ntmps9
    go_wp2_with (first
      | (go_at_call 11; (with_reducible refine HH.out.mono ?_); rintro e W0 ⟨rfl, b0⟩)
      | (go_at_call 12; (with_reducible refine (HM.out _ b0).mono ?_); rintro e W1 ⟨⟨p, fb, rfl, M1, q1, q2⟩, b1⟩))
    go_ret
    exact ⟨rfl, b0.trans (b1.mono b0.size)⟩
  · have h600' : decide ((600 : Int) < (len : Int)) = false := by rw [decide_eq_false_iff_not]; exact h600
    clear h600
    go_enter Tryd.func9, Tryd.ntmps9
    go_wp2_with (first
      | (go_at_call 11; (with_reducible refine HH.out.mono ?_); rintro e W0 ⟨rfl, b0⟩)
      | (go_at_call 12; (with_reducible refine (HM.out _ b0).mono ?_); rintro e W1 ⟨⟨p, fb, rfl, M1, q1, q2⟩, b1⟩; have A1 := b0.trans (b1.mono b0.size); have E1 := HG.out.past A1; have q2' := Nat.le_trans b0.size q2; clear q1 q2 b0 b1)
      | (go_at_call 32; (with_reducible refine (HAl.out W1 _ _ M1).mono ?_); rintro e W2 ⟨⟨v1, rfl, d1⟩, b2⟩; have M2 := M1.past b2; have E2 := E1.past b2; have A2 := A1.trans (b2.mono A1.size))
      | (go_at_call 13; (with_reducible refine (HW.out W2 _ _ M2 E2).mono ?_); rintro e W3 ⟨b3, a3, c3, rfl, s3⟩; have M3 := M2.past b3; have E3 := E2.past b3; have A3 := A2.trans (b3.mono A2.size); have d3 := d1.past b3; have P3 := Blk.new W3 31 [.slice a3 pn c3, .int .i64 P.g, .bool P.r.w, .bool P.r.u, .bool P.r.x, .bool P.large, .bool P.dirty])
      | (go_at_call 32; (with_reducible refine (HAl.out _ _ _ (M3.past (bal _ _))).mono ?_); rintro e W4 ⟨⟨v4, rfl, d4⟩, b4⟩; have B4 := step b4; have M4 := M3.past B4; have E4 := E3.past B4; have A4 := A3.trans (B4.mono A3.size); have D4 := d3.past B4; have P4 := P3.past b4; have s4 := s3.past B4)
      | (go_at_call 31; (with_reducible refine (HSw.out _ _ _ d4 D4).mono ?_); rintro e W5 ⟨rfl, b5⟩; have M5 := M4.past b5; have E5 := E4.past b5; have A5 := A4.trans (b5.mono A4.size); have P5 := P4.past b5; have s5 := s4.past b5)
      | (go_at_call 34; (with_reducible refine (HRd.out _ _ _ M5).mono ?_); rintro e W6 ⟨⟨a6, c6, rfl, r6⟩, b6⟩; have S6 : SI w p fb W3.heap.size a3 a6 P.ats rs _ mem W6 := ⟨M5.past b6, E5.past b6, A5.trans (b6.mono A5.size), P5.past b6, s5.past b6, r6⟩))
    have S0 : turned rs v mem (8 * 0) = mem := rfl
    obtain ⟨pb, hpb⟩ : ∃ x, W3.heap.size = x := ⟨_, rfl⟩
    rw [hpb] at S6 ⊢
    clear hpb M1 E1 A1 b2 M2 E2 A2 b3 M3 E3 A3 d1 d3 P3 b4 B4 M4 E4 A4 D4 P4 s3 s4 d4 b5 M5 E5 A5 P5 s5 r6 b6 HM HH HW HAl HSw HRd
    go_loopw [22] (fun f wr => ∃ k : Nat, k ≤ 16 ∧ f = .int .i64 k ∧ SI w p fb pb a3 a6 P.ats rs [.slice a3 pn c3, .int .i64 P.g, .bool P.r.w, .bool P.r.u, .bool P.r.x, .bool P.large, .bool P.dirty] (turned rs v mem (8 * k)) wr) (fun f _ => 16 - (intOf f).toNat)
    case atStart => exact ⟨0, by omega, rfl, S6⟩
    case round =>
      obtain ⟨k, hk, rfl, hS⟩ := hrel
      clear S6 S0
      by_cases hk16 : k < 16
      · have SS := Lib.hid hS
        clear hS
        have hd16 : decide ((k : Int) < 16) = true := by rw [decide_eq_true_iff]; omega
        go_wp2_with fail
        clear hd16
        go_loopw [23] (fun f wq => ∃ j : Nat, j ≤ 8 ∧ f = .int .i64 j ∧ SI w p fb pb a3 a6 P.ats rs [.slice a3 pn c3, .int .i64 P.g, .bool P.r.w, .bool P.r.u, .bool P.r.x, .bool P.large, .bool P.dirty] (turned rs v mem (8 * k + j)) wq) (fun f _ => 8 - (intOf f).toNat)
        case atStart => exact ⟨0, by omega, rfl, SS.out⟩
        case round =>
          obtain ⟨j, hj, rfl, hS⟩ := hrel
          clear SS
          by_cases hj8 : j < 8
          · have hts := turned_succ rs v mem k j hj8
            obtain ⟨mm, hmm⟩ : ∃ mm, turned rs v mem (8 * k + j) = mm := ⟨_, rfl⟩
            rw [hmm] at hS hts
            rw [HRn.out] at hts
            have SS := Lib.hid hS
            have HTs := Lib.hid hts
            clear hS hts hmm
            have hd8 : decide ((j : Int) < 8) = true := by rw [decide_eq_true_iff]; omega
            go_wp2_with fail
            clear hd8
            go_loopw [24, 25] (fun b f wx => ∃ m : Nat, m ≤ rn ∧ f = .int .i64 m ∧ b = .bool (hasTo rs ((k : Int), (j : Int)) m) ∧ SI w p fb pb a3 a6 P.ats rs [.slice a3 pn c3, .int .i64 P.g, .bool P.r.w, .bool P.r.u, .bool P.r.x, .bool P.large, .bool P.dirty] mm wx) (fun _ f _ => rn - (intOf f).toNat)
            case atStart => exact ⟨0, by omega, rfl, rfl, SS.out⟩
            case round =>
              obtain ⟨m, hm, rfl, rfl, hS⟩ := hrel
              clear SS
              by_cases hmr : m < rn
              · have hrl3 := HRL.out
                have hsu := hasTo_succ rs ((k : Int), (j : Int)) m
                obtain ⟨bb, hbb⟩ : ∃ b, hasTo rs ((k : Int), (j : Int)) m = b := ⟨_, rfl⟩
                rw [hbb] at hsu ⊢
                obtain ⟨br, rest, rfl, hbr⟩ := sl_some hS.r (by rw [HRn.out]; omega)
                obtain ⟨c0, c1⟩ := Sl.at hbr m (by rw [HRn.out]; exact hmr)
                obtain ⟨⟨y1, y2⟩, hy⟩ : ∃ x, rs.getD m (0, 0) = x := ⟨_, rfl⟩
                rw [hy] at c0 c1 hsu
                have lb := hbr.lt
                have SS := Lib.hid hS
                have HSu := Lib.hid hsu
                clear hS hsu hy hbb hbr
                dsimp only at c0 c1
                cases bb with
                | true =>
                  go_wp2_with fail
                  go_roundw
                  case rel => exact ⟨m + 1, by omega, by simp, by rw [HSu.out]; rfl, SS.out⟩
                  case measure => simp [intOf]; omega
                | false =>
                  have u40 := Tryd.underlying40
                  have hp40 : Tryd.prog.stoodInHeld 40 = false := by kernel_rfl
                  have hg40 : Tryd.prog.eqGuardType Tryd.prog.depth 40 = false := by kernel_rfl
                  by_cases e1 : y1 = (k : Int)
                  · subst e1
                    by_cases e2 : y2 = (j : Int)
                    · subst e2
                      go_wp2_with fail
                      go_roundw
                      case rel => exact ⟨m + 1, by omega, by simp, by rw [HSu.out]; simp, SS.out⟩
                      case measure => simp [intOf]; omega
                    · have f2 : (y2 == (j : Int)) = false := beq_eq_false_iff_ne.2 e2
                      have HE2 := Lib.hid e2
                      clear e2
                      go_wp2_with fail
                      go_roundw
                      case rel => exact ⟨m + 1, by omega, by simp, by rw [HSu.out]; simp [HE2.out], SS.out⟩
                      case measure => simp [intOf]; omega
                  · have f1 : (y1 == (k : Int)) = false := beq_eq_false_iff_ne.2 e1
                    have HE1 := Lib.hid e1
                    clear e1
                    go_wp2_with fail
                    go_roundw
                    case rel => exact ⟨m + 1, by omega, by simp, by rw [HSu.out]; simp [HE1.out], SS.out⟩
                    case measure => simp [intOf]; omega
              · obtain rfl : m = rn := by omega
                obtain ⟨bb, hbb⟩ : ∃ b, hasTo rs ((k : Int), (j : Int)) m = b := ⟨_, rfl⟩
                have hts := HTs.out
                rw [hbb] at hts ⊢
                have HTb := Lib.hid hts
                have SS := Lib.hid hS
                clear hS hts hbb HTs
                cases bb with
                | true =>
                  go_wp2_with fail
                  go_roundw
                  case rel => exact ⟨j + 1, by omega, by simp, by rw [HTb.out]; exact SS.out⟩
                  case measure => simp [intOf]; omega
                | false =>
                  go_wp2_with (first
                    | (go_at_call 24; (with_reducible refine (HSt.out _ _ _ mm k j SS.out.m).mono ?_); rintro e W7 ⟨⟨bs, rfl⟩, M7, K7, z7⟩; have S7 := SS.out.set HG0.out q2' M7 K7))
                  go_roundw
                  case rel => exact ⟨j + 1, by omega, by simp, by rw [HTb.out]; exact S7⟩
                  case measure => simp [intOf]; omega
          · obtain rfl : j = 8 := by omega
            have SS := Lib.hid hS
            clear hS
            go_wp2_with fail
            go_roundw
            case rel => exact ⟨k + 1, by omega, by simp, SS.out⟩
            case measure => simp [intOf]; omega
      · obtain rfl : k = 16 := by omega
        have SS := Lib.hid hS
        clear hS hk16
        go_wp2_with (first
          | (go_at_call 13; (with_reducible refine (HW2.out wr _ _ SS.out.m SS.out.e).mono ?_); rintro e W8 ⟨b8, a8, c8, rfl, s8⟩; have S8 := SS.out.past b8; have x0 := S8.t.cell (k := 0) rfl; have x1 := S8.t.cell (k := 1) rfl; have x2 := S8.t.cell (k := 2) rfl; have x3 := S8.t.cell (k := 3) rfl; have x4 := S8.t.cell (k := 4) rfl; have x5 := S8.t.cell (k := 5) rfl; have x6 := S8.t.cell (k := 6) rfl; have lx := S8.t.lt; have SS8 := Lib.hid S8; clear S8)
          | (go_at_call 14; (with_reducible refine (HS.out _ _ _ _ _ (SS8.out.s.past (bal _ _)) (s8.past (bal _ _))).mono ?_); rintro e W9 ⟨rfl, b9⟩))
        go_ret
        exact ⟨rfl, SS8.out.b.trans ((step b9).mono SS8.out.b.size)⟩

theorem u64_bd' {v : Int} (h : (Lit.int .u64 v).wf = true) : ∃ n : Nat, v = (n : Int) ∧ n < 2 ^ 64 := by
  simp [Lit.wf, IntKind.min, IntKind.max, IntKind.signed, IntKind.bits] at h
  exact ⟨v.toNat, by omega, by omega⟩
theorem still_walk (w : World) (hg : EC w) (a : Option Addr) (c : Nat) (l : List (Int × Int × Nat)) (hp : Ps w a l) (hlen : l.length ≤ 9223372036854775807) (root : Int) (hroot : (Lit.int .u8 root).wf = true) (page : Int) (hpage : (Lit.int .u16 page).wf = true) (kind : Int) (hkind : (Lit.int .u8 kind).wf = true) (user : Bool) (v : Int) (hv : (Lit.int .u64 v).wf = true) :
    Calls Tryd.prog 9 #[.slice a l.length c, .int .u8 root, .int .u16 page, .int .u8 kind, .bool user, .int .u64 v] w fun e w' => e = .returned (.bool true) ∧ Below w.heap.size w w' := by
  obtain ⟨root, rfl, hrt⟩ := u8_bd hroot
  obtain ⟨page, rfl, hpg⟩ := u16_bd hpage
  obtain ⟨kind, rfl, hkd⟩ := u8_bd hkind
  obtain ⟨v, rfl, hv2⟩ := u64_bd' hv
  exact still_nat w hg a c l hp hlen root page kind user v hrt hpg hkd hv2
end Go.Proofs.YtlldbfpccdmclaaDoor
