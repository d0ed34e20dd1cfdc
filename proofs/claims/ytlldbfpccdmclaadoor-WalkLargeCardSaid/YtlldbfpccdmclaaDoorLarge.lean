/- The law WalkLarge: the walk. -/
import Derived.Test.YtlldbfpccdmclaaDoorLargeP
import Derived.Test.YtlldbfpccdmclaaDoorKindsW
import Derived.Deep.QuietTactic
import Derived.Laws.StructEq
namespace Go.Proofs.YtlldbfpccdmclaaDoor
open Go.RowKit

set_option maxRecDepth 100000 in
set_option maxHeartbeats 4000000 in
theorem large_no (w : World) (hg : EC w) (a : Option Addr) (c : Nat) (l : List (Int × Int × Nat)) (hp : Ps w a l) (hlen : l.length ≤ 9223372036854775807) (root page : Nat) (hrt : root < 256) (hpg : page < 65536) (P : Path) (h k : Int)
    (ho : out (wk (rd h16 (puts l)) h16.length ((root % 16 : Nat) : Int) ((page % 512 : Nat) : Int) 0 false) = (P, h, k)) (hh : h = 3 ∨ h = 1 ∨ (h = 0 ∧ P.large = false)) :
    Calls Tryd.prog 5 #[.slice a l.length c, .int .u8 (root : Int), .int .u16 (page : Int)] w fun e w' => e = .returned (.bool true) ∧ Below w.heap.size w w' := by
  have hd := head_any w hg
  have hm := fun W (hb : Below w.heap.size w W) => made_any W a c l (hp.below hb) hlen
  obtain ⟨len, hl⟩ : ∃ len, l.length = len := ⟨_, rfl⟩
  obtain ⟨mem, hmem⟩ : ∃ mem, puts l = mem := ⟨_, rfl⟩
  rw [hmem] at ho
  obtain ⟨n, hn⟩ : ∃ n : Int, ((page % 512 : Nat) : Int) = n := ⟨_, rfl⟩
  obtain ⟨r, hr⟩ : ∃ k : Int, ((root % 16 : Nat) : Int) = k := ⟨_, rfl⟩
  obtain ⟨pn, hpn⟩ : ∃ n, P.ats.length = n := ⟨_, rfl⟩
  have hw : ∀ W p fb, GM W p fb h16 16 mem → EC W → Calls Tryd.prog 13 #[.pointer (some ⟨p, 0, none⟩), .int .i64 r, .int .i64 n, .int .i64 0, .bool false] W
      fun e w' => Below W.heap.size W w' ∧ ∃ a c, e = .returned (.tuple #[.agg #[.slice a pn c, .int .i64 P.g, .bool P.r.w, .bool P.r.u, .bool P.r.x, .bool P.large, .bool P.dirty], .int .i64 h, .int .i64 k]) ∧ Sl w' a P.ats := fun W p fb M E => by
    rw [← hn, ← hr]
    have := gm_walk M E ((root % 16 : Nat) : Int) ((page % 512 : Nat) : Int) 0 false P h k ho
    rw [hpn] at this; exact this
  have hn1 : (page : Int) % 512 = n := by rw [← hn]; rfl
  have hr1 : (root : Int) % 16 = r := by rw [← hr]; rfl
  have hn2 : 0 ≤ n ∧ n < 512 := by omega
  have hr2 : 0 ≤ r ∧ r < 16 := by omega
  obtain ⟨hn3, hn4⟩ := hn2
  obtain ⟨hr3, hr4⟩ := hr2
  rw [hl] at hm ⊢
  rw [hmem] at hm
  obtain ⟨pl, hpl⟩ : ∃ b, P.large = b := ⟨_, rfl⟩
  rw [hpl] at hw hh
  have HW := Lib.hid hw
  have HH := Lib.hid hd
  have HM := Lib.hid hm
  have HG := Lib.hid hg
  clear hd hm hg hw ho hl hmem hlen hp hn hr hpn hpl
  by_cases h600 : (600 : Int) < (len : Int)
  · clear hh
    go_enter Tryd.func5, Tryd.ntmps5
    go_wp2_with (first
      | (go_at_call 11; (with_reducible refine HH.out.mono ?_); rintro e W0 ⟨rfl, b0⟩)
      | (go_at_call 12; (with_reducible refine (HM.out _ b0).mono ?_); rintro e W1 ⟨⟨p, fb, rfl, M1, q1, q2⟩, b1⟩))
    go_ret
    exact ⟨rfl, b0.trans (b1.mono b0.size)⟩
  · rcases hh with rfl | rfl | ⟨rfl, rfl⟩
    all_goals
      go_enter Tryd.func5, Tryd.ntmps5
      go_wp2_with (first
        | (go_at_call 11; (with_reducible refine HH.out.mono ?_); rintro e W0 ⟨rfl, b0⟩)
        | (go_at_call 12; (with_reducible refine (HM.out _ b0).mono ?_); rintro e W1 ⟨⟨p, fb, rfl, M1, q1, q2⟩, b1⟩; have A1 := b0.trans (b1.mono b0.size); have E1 := HG.out.past A1; clear q1 q2 b0 b1)
        | (go_at_call 13; (with_reducible refine (HW.out W1 _ _ M1 E1).mono ?_); rintro e W2 ⟨b2, a2, c2', rfl, s2⟩; have A2 := A1.trans (b2.mono A1.size)))
      go_ret
      exact ⟨rfl, A2.alloc A2.size _⟩

set_option maxRecDepth 100000 in
set_option maxHeartbeats 4000000 in
theorem large_yes (w : World) (hg : EC w) (a : Option Addr) (c : Nat) (l : List (Int × Int × Nat)) (hp : Ps w a l) (hlen : l.length ≤ 9223372036854775807) (root page : Nat) (hrt : root < 256) (hpg : page < 65536) (P : Path) (k : Int)
    (ho : out (wk (rd h16 (puts l)) h16.length ((root % 16 : Nat) : Int) ((page % 512 : Nat) : Int) 0 false) = (P, 0, k)) (hlg : P.large = true) :
    Calls Tryd.prog 5 #[.slice a l.length c, .int .u8 (root : Int), .int .u16 (page : Int)] w fun e w' => e = .returned (.bool true) ∧ Below w.heap.size w w' := by
  have hd := head_any w hg
  have hm := fun W (hb : Below w.heap.size w W) => made_any W a c l (hp.below hb) hlen
  obtain ⟨len, hl⟩ : ∃ len, l.length = len := ⟨_, rfl⟩
  obtain ⟨mem, hmem⟩ : ∃ mem, puts l = mem := ⟨_, rfl⟩
  rw [hmem] at ho
  obtain ⟨n, hn⟩ : ∃ n : Int, ((page % 512 : Nat) : Int) = n := ⟨_, rfl⟩
  obtain ⟨r, hr⟩ : ∃ k : Int, ((root % 16 : Nat) : Int) = k := ⟨_, rfl⟩
  rw [hn, hr] at ho
  obtain ⟨f, hpn, hPg, hf8, hf0, hf16, hpages⟩ := large_pages ho hlg
  obtain ⟨ats, g, rt, lg, d⟩ := P
  dsimp only at *
  subst hlg hPg
  have hw : ∀ W p fb, GM W p fb h16 16 mem → EC W → Calls Tryd.prog 13 #[.pointer (some ⟨p, 0, none⟩), .int .i64 r, .int .i64 n, .int .i64 0, .bool false] W
      fun e w' => Below W.heap.size W w' ∧ ∃ a c, e = .returned (.tuple #[.agg #[.slice a 2 c, .int .i64 (f + n % 8), .bool rt.w, .bool rt.u, .bool rt.x, .bool true, .bool d], .int .i64 0, .int .i64 k]) ∧ Sl w' a ats := fun W p fb M E => by
    have := gm_walk M E r n 0 false _ 0 k ho
    rw [hpn] at this; exact this
  have hwy : ∀ W p fb (j : Nat), j < 8 → f + j < 16 → GM W p fb h16 16 mem → EC W → Calls Tryd.prog 13 #[.pointer (some ⟨p, 0, none⟩), .int .i64 r, .int .i64 (n / 8 * 8 + j), .int .i64 0, .bool false] W
      fun e w' => Below W.heap.size W w' ∧ ∃ a c, e = .returned (.tuple #[.agg #[.slice a 2 c, .int .i64 (f + j), .bool rt.w, .bool rt.u, .bool rt.x, .bool true, .bool d], .int .i64 0, .int .i64 0]) ∧ Sl w' a ats := fun W p fb j hj hfj M E => by
    have h1 := hpages j (by omega) (by omega)
    rw [if_neg (by show ¬ ((16 : Nat) : Int) ≤ _; omega)] at h1
    have := gm_walk M E r (n / 8 * 8 + j) 0 false _ 0 0 h1
    dsimp only at this
    rw [hpn] at this; exact this
  have hwn : ∀ W p fb (j : Nat), j < 8 → ¬ f + j < 16 → GM W p fb h16 16 mem → EC W → Calls Tryd.prog 13 #[.pointer (some ⟨p, 0, none⟩), .int .i64 r, .int .i64 (n / 8 * 8 + j), .int .i64 0, .bool false] W
      fun e w' => Below W.heap.size W w' ∧ ∃ a c, e = .returned (.tuple #[.agg #[.slice a 0 c, .int .i64 0, .bool false, .bool false, .bool false, .bool false, .bool false], .int .i64 3, .int .i64 0]) ∧ Sl w' a Path.none.ats := fun W p fb j hj hfj M E => by
    have h1 := hpages j (by omega) (by omega)
    rw [if_pos (by show ((16 : Nat) : Int) ≤ _; omega)] at h1
    exact gm_walk M E r (n / 8 * 8 + j) 0 false _ 3 0 h1
  have hn1 : (page : Int) % 512 = n := by rw [← hn]; rfl
  have hr1 : (root : Int) % 16 = r := by rw [← hr]; rfl
  have hn2 : 0 ≤ n ∧ n < 512 := by omega
  have hr2 : 0 ≤ r ∧ r < 16 := by omega
  have hf16' : f < 16 := by have h : ((h16.length : Nat) : Int) = 16 := rfl; rw [h] at hf16; omega
  obtain ⟨hn3, hn4⟩ := hn2
  obtain ⟨hr3, hr4⟩ := hr2
  rw [hl] at hm ⊢
  rw [hmem] at hm
  have HW := Lib.hid hw
  have HWY := Lib.hid hwy
  have HWN := Lib.hid hwn
  have HH := Lib.hid hd
  have HM := Lib.hid hm
  have HG := Lib.hid hg
  have HF8 := Lib.hid hf8
  have HPN := Lib.hid hpn
  clear hd hm hg hw hwy hwn ho hl hmem hlen hp hn hr hpn hpages hf16 hf8
  by_cases h600 : (600 : Int) < (len : Int)
  · go_enter Tryd.func5, Tryd.ntmps5
    go_wp2_with (first
      | (go_at_call 11; (with_reducible refine HH.out.mono ?_); rintro e W0 ⟨rfl, b0⟩)
      | (go_at_call 12; (with_reducible refine (HM.out _ b0).mono ?_); rintro e W1 ⟨⟨p, fb, rfl, M1, q1, q2⟩, b1⟩))
    go_ret
    exact ⟨rfl, b0.trans (b1.mono b0.size)⟩
  · go_enter Tryd.func5, Tryd.ntmps5
    go_wp2_with (first
      | (go_at_call 11; (with_reducible refine HH.out.mono ?_); rintro e W0 ⟨rfl, b0⟩)
      | (go_at_call 12; (with_reducible refine (HM.out _ b0).mono ?_); rintro e W1 ⟨⟨p, fb, rfl, M1, q1, q2⟩, b1⟩; have A1 := b0.trans (b1.mono b0.size); have E1 := HG.out.past A1; clear q1 q2 b0 b1)
      | (go_at_call 13; (with_reducible refine (HW.out W1 _ _ M1 E1).mono ?_); rintro e W2 ⟨b2, a2, c2', rfl, s2⟩; have A2 := A1.trans (b2.mono A1.size)))
    have bn := bal W2 (.cells #[.slice a2 2 c2', .int .i64 (f + n % 8), .bool rt.w, .bool rt.u, .bool rt.x, .bool true, .bool d] 31)
    have M3 := (M1.past b2).past bn
    have E3 := (E1.past b2).past bn
    have S3 := s2.past bn
    have A3 := A2.trans (bn.mono A2.size)
    have P3 := Blk.new W2 31 [.slice a2 2 c2', .int .i64 (f + n % 8), .bool rt.w, .bool rt.u, .bool rt.x, .bool true, .bool d]
    obtain ⟨tp, htp⟩ : ∃ t, W2.heap.size = t := ⟨_, rfl⟩
    rw [htp] at P3 ⊢
    obtain ⟨WN, hWN⟩ : ∃ W, W2.alloc (.cells #[.slice a2 2 c2', .int .i64 (f + n % 8), .bool rt.w, .bool rt.u, .bool rt.x, .bool true, .bool d] 31) = W := ⟨_, rfl⟩
    have P3' : Blk WN tp 31 [.slice a2 2 c2', .int .i64 (f + n % 8), .bool rt.w, .bool rt.u, .bool rt.x, .bool true, .bool d] := by rw [← hWN]; exact P3
    rw [hWN] at M3 E3 S3 A3 ⊢
    clear hWN P3 bn s2 A2 b2 M1 E1 A1 htp HW HH HM HG
    go_loopw [14] (fun i wr => ∃ j : Nat, j ≤ 8 ∧ i = .int .i64 j ∧ GM wr p fb h16 16 mem ∧ EC wr ∧ Sl wr a2 ats ∧ Blk wr tp 31 [.slice a2 2 c2', .int .i64 (f + n % 8), .bool rt.w, .bool rt.u, .bool rt.x, .bool true, .bool d] ∧ Below w.heap.size w wr) (fun i _ => 8 - (intOf i).toNat)
    case atStart => exact ⟨0, by omega, rfl, M3, E3, S3, P3', A3⟩
    case round =>
      obtain ⟨j, hj, rfl, M, E, S, P, A⟩ := hrel
      clear M3 E3 S3 P3' A3
      by_cases hj8 : j < 8
      · by_cases hfj : f + j < 16
        · skip
          have hcall := HWY.out wr p fb j hj8 hfj M E
          have HC := Lib.hid hcall
          have SS := Lib.hid S
          have MM := Lib.hid M
          have EE := Lib.hid E
          have PP := Lib.hid P
          have hf8 := HF8.out
          have u40 := Tryd.underlying40
          have hp40 : Tryd.prog.stoodInHeld 40 = false := by kernel_rfl
          have hg40 : Tryd.prog.eqGuardType Tryd.prog.depth 40 = false := by kernel_rfl
          have u29 := Tryd.underlying29
          have hp29 : Tryd.prog.stoodInHeld 29 = false := by kernel_rfl
          have hg29 : Tryd.prog.eqGuardType Tryd.prog.depth 29 = false := by kernel_rfl
          have hj0 : (0 : Int) ≤ j := by omega
          have hdv : n.tdiv 8 = n / 8 := Int.tdiv_eq_ediv_of_nonneg hn3
          have hmd : n.tmod 8 = n % 8 := Int.tmod_eq_emod_of_nonneg hn3
          have hj7 : (j : Int) < 8 := by omega
          have hne : (j : Int) + 1 < 100 := by omega
          clear hcall S M E P
          obtain ⟨x1, hx1⟩ : ∃ x, ats.getD 1 (0, 0) = x := ⟨_, rfl⟩
          obtain ⟨B, rest, rfl, hb⟩ : ∃ b rest, a2 = some ⟨b, 0, none⟩ ∧ Blk wr b 40 (atCells ats ++ rest) := by
            rcases SS.out with ⟨_, h⟩ | h
            · rw [h] at HPN; have := HPN.out; simp at this
            · exact h
          have HBB := Lib.hid hb
          have HX := Lib.hid hx1
          clear hb hx1
          go_wp2_with (go_at_call 13; (with_reducible refine HC.out.mono ?_); rintro e W2 ⟨b2, a3, c3', rfl, s2⟩; have P2 := PP.out.past b2; have x0 := P2.cell (k := 0) rfl; have x1c := P2.cell (k := 1) rfl; have x2 := P2.cell (k := 2) rfl; have x3 := P2.cell (k := 3) rfl; have x4 := P2.cell (k := 4) rfl; have lp := P2.lt)
          obtain ⟨B', rest', rfl, hb'⟩ : ∃ b rest, a3 = some ⟨b, 0, none⟩ ∧ Blk W2 b 40 (atCells ats ++ rest) := by
            rcases s2 with ⟨_, h⟩ | h
            · rw [h] at HPN; have := HPN.out; simp at this
            · exact h
          have hb2 := HBB.out.past b2
          obtain ⟨z0, z1⟩ := Sl.at hb2 1 (by rw [HPN.out]; omega)
          obtain ⟨z0', z1'⟩ := Sl.at hb' 1 (by rw [HPN.out]; omega)
          rw [HX.out] at z0 z1 z0' z1'
          simp only [Nat.one_mul, Nat.reduceAdd] at z0 z1 z0' z1'
          have lb := hb2.lt
          have lb' := hb'.lt
          clear hb2 hb'
          go_quiet (fail)
          go_wp2
          go_roundw
          case rel =>
            have bz := bal W2 (.cells #[.slice (some ⟨B', 0, none⟩) 2 c3', .int .i64 (f + (j : Int)), .bool rt.w, .bool rt.u, .bool rt.x, .bool true, .bool d] 31)
            have bq := below_of_drewN (W2.alloc (.cells #[.slice (some ⟨B', 0, none⟩) 2 c3', .int .i64 (f + (j : Int)), .bool rt.w, .bool rt.u, .bool rt.x, .bool true, .bool d] 31)) nq
            exact ⟨j + 1, by omega, by simp, ((MM.out.past b2).past bz).past bq, ((EE.out.past b2).past bz).past bq, ((SS.out.past b2).past bz).past bq, ((PP.out.past b2).past bz).past bq, A.trans ((b2.trans ((bz.trans (bq.mono bz.size)).mono b2.size)).mono A.size)⟩
          case measure => simp [intOf]; omega
        · skip
          have hcall := HWN.out wr p fb j hj8 (by omega) M E
          have HC := Lib.hid hcall
          have SS := Lib.hid S
          have MM := Lib.hid M
          have EE := Lib.hid E
          have PP := Lib.hid P
          have hf8 := HF8.out
          have hj0 : (0 : Int) ≤ j := by omega
          have hdv : n.tdiv 8 = n / 8 := Int.tdiv_eq_ediv_of_nonneg hn3
          have hmd : n.tmod 8 = n % 8 := Int.tmod_eq_emod_of_nonneg hn3
          have hj7 : (j : Int) < 8 := by omega
          have hne : (j : Int) + 1 < 100 := by omega
          have hlt : decide (f + (j : Int) < 16) = false := by rw [decide_eq_false_iff_not]; exact hfj
          clear hcall S M E P hfj
          go_wp2_with (go_at_call 13; (with_reducible refine HC.out.mono ?_); rintro e W2 ⟨b2, a3, c3', rfl, s2⟩; have P2 := PP.out.past b2; have x0 := P2.cell (k := 0) rfl; have x1c := P2.cell (k := 1) rfl; have x2 := P2.cell (k := 2) rfl; have x3 := P2.cell (k := 3) rfl; have x4 := P2.cell (k := 4) rfl; have lp := P2.lt)
          go_quiet (fail)
          go_wp2
          go_roundw
          case rel =>
            have bz := bal W2 (.cells #[.slice a3 0 c3', .int .i64 0, .bool false, .bool false, .bool false, .bool false, .bool false] 31)
            have bq := below_of_drewN (W2.alloc (.cells #[.slice a3 0 c3', .int .i64 0, .bool false, .bool false, .bool false, .bool false, .bool false] 31)) nq
            exact ⟨j + 1, by omega, by simp, ((MM.out.past b2).past bz).past bq, ((EE.out.past b2).past bz).past bq, ((SS.out.past b2).past bz).past bq, ((PP.out.past b2).past bz).past bq, A.trans ((b2.trans ((bz.trans (bq.mono bz.size)).mono b2.size)).mono A.size)⟩
          case measure => simp [intOf]; omega
      · obtain rfl : j = 8 := by omega
        go_wp2
        go_ret
        exact ⟨rfl, A⟩

theorem large_walk (w : World) (hg : EC w) (a : Option Addr) (c : Nat) (l : List (Int × Int × Nat)) (hp : Ps w a l) (hlen : l.length ≤ 9223372036854775807) (root : Int) (hroot : (Lit.int .u8 root).wf = true) (page : Int) (hpage : (Lit.int .u16 page).wf = true) :
    Calls Tryd.prog 5 #[.slice a l.length c, .int .u8 root, .int .u16 page] w fun e w' => e = .returned (.bool true) ∧ Below w.heap.size w w' := by
  obtain ⟨page, rfl, hpg⟩ := u16_bd hpage
  obtain ⟨root, rfl, hrt⟩ := u8_bd hroot
  obtain ⟨⟨P, h, k⟩, ho⟩ : ∃ o, out (wk (rd h16 (puts l)) h16.length ((root % 16 : Nat) : Int) ((page % 512 : Nat) : Int) 0 false) = o := ⟨_, rfl⟩
  have hh : h = 3 ∨ h = 1 ∨ h = 0 := by
    rcases wk_forms (rd h16 (puts l)) h16.length ((root % 16 : Nat) : Int) ((page % 512 : Nat) : Int) with f | f | f | ⟨_, f⟩
    · rw [f] at ho; simp at ho; omega
    · rw [f] at ho; simp at ho; omega
    · rw [f] at ho; simp at ho; omega
    · rw [f] at ho
      split at ho
      · simp at ho; omega
      · split at ho
        · simp at ho; omega
        · simp at ho; omega
  rcases hh with rfl | rfl | rfl
  · exact large_no w hg a c l hp hlen root page hrt hpg P 3 k ho (.inl rfl)
  · exact large_no w hg a c l hp hlen root page hrt hpg P 1 k ho (.inr (.inl rfl))
  · cases hl : P.large with
    | false => exact large_no w hg a c l hp hlen root page hrt hpg P 0 k ho (.inr (.inr ⟨rfl, hl⟩))
    | true => exact large_yes w hg a c l hp hlen root page hrt hpg P k ho hl
end Go.Proofs.YtlldbfpccdmclaaDoor
