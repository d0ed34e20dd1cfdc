/- ModelFresh's walk. -/
import Derived.Test.YtgaififhhffpfaaGreatDoorOps
import Derived.Test.YtgaififhhffpfaaGreatDoorFreshP
import Derived.Test.YtgaififhhffpfaaGreatDoorMRoots
import Derived.Test.YtgaififhhffpfaaGreatDoorRUsed
import Derived.Laws.StructEq
namespace Go.Proofs.YtgaififhhffpfaaGreatDoor
open Go.RowKit Go.Shelf

set_option maxRecDepth 100000 in
set_option maxHeartbeats 8000000 in
theorem ModelFresh_nat (w : World) (hg : EC w) (a : Option Addr) (c : Nat) (l : List (Int × Int × Nat)) (hp : Ps w a l) (hlen : l.length ≤ 9223372036854775807) (oa : Option Addr) (oc : Nat) (ops : List Op10) (hop : Ops w oa ops) (holen : ops.length ≤ 9223372036854775807) (root : Nat) (hrt : root < 256) (kind : Nat) (hkn : kind < 256) (user : Bool) (page : Nat) (hpg : page < 65536) (word : Nat) (hwd : word < 256) (v : Nat) (hv : v < 2 ^ 64) :
    Calls Tryz.prog 3 #[.slice a l.length c, .int .u8 (root : Int), .slice oa ops.length oc, .int .u8 (kind : Int), .bool user, .int .u16 (page : Int), .int .u8 (word : Int), .int .u64 (v : Int)] w fun e w' => e = .returned (.bool true) ∧ Below w.heap.size w w' := by
  have hh := head10_any w hg
  have hm := fun W (hb : Below w.heap.size w W) => made_any W a c l (hp.below hb) hlen
  have hB1 : 1 ≤ w.heap.size := lt_of_cell hg
  obtain ⟨len, hl⟩ : ∃ len, l.length = len := ⟨_, rfl⟩
  obtain ⟨on, hol⟩ : ∃ n, ops.length = n := ⟨_, rfl⟩
  obtain ⟨mem, hmem⟩ : ∃ mem, puts l = mem := ⟨_, rfl⟩
  have hpl := puts_len' l
  rw [hmem] at hpl
  rw [hl] at hm hlen ⊢
  rw [hol] at holen ⊢
  rw [hmem] at hm
  have HH := Lib.hid hh
  have HM := Lib.hid hm
  have HE := Lib.hid hg
  have HB1 := Lib.hid hB1
  have HOp := Lib.hid hop
  have HOl := Lib.hid hol
  have HPl := Lib.hid hpl
  obtain ⟨n, hn⟩ : ∃ n : Nat, page % 512 = n := ⟨_, rfl⟩
  obtain ⟨wo, hwo⟩ : ∃ n : Nat, word % 8 = n := ⟨_, rfl⟩
  obtain ⟨kd, hkd⟩ : ∃ n : Nat, kind % 3 = n := ⟨_, rfl⟩
  obtain ⟨r0, hr0⟩ : ∃ n : Nat, root % 16 = n := ⟨_, rfl⟩
  have hn1 : (page : Int) % 512 = (n : Int) := by omega
  have hw1 : (word : Int) % 8 = (wo : Int) := by omega
  obtain ⟨kz, hkz⟩ : ∃ z : Int, (kd : Int) = z := ⟨_, rfl⟩
  have hk1 : (kind : Int) % 3 = kz := by omega
  have hr1 : (root : Int) % 16 = (r0 : Int) := by omega
  have hn2 : n < 512 := by omega
  have hw2 : wo < 8 := by omega
  have hk2 : kz = 1 ∨ kz = 0 ∨ kz = 2 := by omega
  have HW2 := Lib.hid hw2
  have n0 : (0 : Int) ≤ (n : Int) := by omega
  have n9 : (n : Int) ≤ 9223372036854775807 := by omega
  have wo0 : (0 : Int) ≤ (wo : Int) := by omega
  have wo9 : (wo : Int) ≤ 9223372036854775807 := by omega
  have rd0 : (0 : Int) ≤ (r0 : Int) := by omega
  have rd9 : (r0 : Int) ≤ 9223372036854775807 := by omega
  have p0 : (0 : Int) ≤ (page : Int) := by omega
  have p1 : (page : Int) < 65536 := by omega
  have wq0 : (0 : Int) ≤ (word : Int) := by omega
  have wq1 : (word : Int) < 256 := by omega
  have kq0 : (0 : Int) ≤ (kind : Int) := by omega
  have kq1 : (kind : Int) < 256 := by omega
  have rq0 : (0 : Int) ≤ (root : Int) := by omega
  have rq1 : (root : Int) < 256 := by omega
  obtain ⟨ad, had⟩ : ∃ r, joinOf n wo = r := ⟨_, rfl⟩
  have hjf := join_facts n wo hn2 hw2
  rw [had] at hjf
  have HJf := Lib.hid hjf
  obtain ⟨az, haz⟩ : ∃ z : Int, (ad : Int) = z := ⟨_, rfl⟩
  obtain ⟨vz, hvz⟩ : ∃ z : Int, (v : Int) = z := ⟨_, rfl⟩
  have hj : ∀ W, Calls Tryz.prog 18 #[.int .i64 (n : Int), .int .i64 (wo : Int)] W fun e w' => e = .returned (.int .u64 az) ∧ Below W.heap.size W w' := fun W => haz ▸ join_bel W n wo ad had hn2 hw2
  have HJ := Lib.hid hj
  have HAz := Lib.hid haz
  have HVz := Lib.hid hvz
  have HV := Lib.hid hv
  have HK3 := Lib.hid hk2
  rw [hvz]
  clear hh hm hg hB1 hop hol hpl hl hmem hp hlen hrt hkn hpg hwd hj haz had hvz hv hjf hn hwo hkd hr0 hn2 hw2 hk2 hkz
  by_cases h600 : (600 : Int) < (len : Int)
  · go_enter Tryz.func3, Tryz.ntmps3
    go_wp2_with (first
      | (go_at_call 14; (with_reducible refine HH.out.mono ?_); rintro e W0 ⟨rfl, b0⟩)
      | (go_at_call 15; (with_reducible refine (HM.out _ b0).mono ?_); rintro e W1 ⟨⟨gp, fb, rfl, G1, q1, q2⟩, b1⟩; have A1 := b0.trans (b1.mono b0.size); have q2' := Nat.le_trans b0.size q2; clear q1 q2))
    go_ret
    exact ⟨rfl, A1⟩
  · by_cases h200 : (200 : Int) < (on : Int)
    · go_enter Tryz.func3, Tryz.ntmps3
      go_wp2_with (first
        | (go_at_call 14; (with_reducible refine HH.out.mono ?_); rintro e W0 ⟨rfl, b0⟩)
        | (go_at_call 15; (with_reducible refine (HM.out _ b0).mono ?_); rintro e W1 ⟨⟨gp, fb, rfl, G1, q1, q2⟩, b1⟩; have A1 := b0.trans (b1.mono b0.size); have q2' := Nat.le_trans b0.size q2; clear q1 q2))
      go_ret
      exact ⟨rfl, A1⟩
    · have h6' : decide ((600 : Int) < (len : Int)) = false := decide_eq_false_iff_not.2 h600
      have h2' : decide ((200 : Int) < (on : Int)) = false := decide_eq_false_iff_not.2 h200
      clear h600 h200
      go_enter Tryz.func3, Tryz.ntmps3
      go_wp2_with (first
        | (go_at_call 14; (with_reducible refine HH.out.mono ?_); rintro e W0 ⟨rfl, b0⟩)
        | (go_at_call 15; (with_reducible refine (HM.out _ b0).mono ?_); rintro e W1 ⟨⟨gp, fb, rfl, G1, q1, q2⟩, b1⟩; have A1 := b0.trans (b1.mono b0.size); have q2' := Nat.le_trans b0.size q2; clear q1 q2)
        | (go_at_call 16; (with_reducible refine (new_mm _ gp fb _ (r0 : Int) G1 HPl.out w.heap.size A1.size q2').mono ?_); rintro e W2 ⟨⟨p, tp, rfl, M2⟩, b2⟩; have L2 : Lw w [] W2 p tp gp fb ⟨mem, (r0 : Int), []⟩ := ⟨M2, A1.trans (b2.mono A1.size)⟩; clear M2 b2 A1 q2' b0 b1 G1))
      go_loopw [19, 21] (fun r i wr => ∃ k : Nat, k ≤ on ∧ i = .int .i64 k ∧ ∃ S, r = .int .i64 S.root ∧ Lw w [] wr p tp gp fb S ∧ Good S) (fun _ i _ => on - (intOf i).toNat)
      case atStart => exact ⟨0, by omega, rfl, _, rfl, L2, good_nil _ _⟩
      case round =>
        obtain ⟨k, hk, rfl, S, rfl, L, hG⟩ := hrel
        obtain ⟨rt, hrt⟩ : ∃ z, S.root = z := ⟨_, rfl⟩
        rw [hrt]
        clear L2
        by_cases hkl : k < on
        · obtain ⟨b, off, what, okind, ouser, ox, ov, og, oi, opage, rfl, hb1, _, ook, C0, C1, C2, C3, C4, C5, C6, C7⟩ := HOp.out.at k (by rw [HOl.out]; exact hkl)
          have c0 := (L.b.cell (p := ⟨b, _, none⟩) hb1).trans C0
          have c1 := (L.b.cell (p := ⟨b, _, none⟩) hb1).trans C1
          have c2 := (L.b.cell (p := ⟨b, _, none⟩) hb1).trans C2
          have c3 := (L.b.cell (p := ⟨b, _, none⟩) hb1).trans C3
          have c4 := (L.b.cell (p := ⟨b, _, none⟩) hb1).trans C4
          have c5 := (L.b.cell (p := ⟨b, _, none⟩) hb1).trans C5
          have c6 := (L.b.cell (p := ⟨b, _, none⟩) hb1).trans C6
          have c7 := (L.b.cell (p := ⟨b, _, none⟩) hb1).trans C7
          clear C0 C1 C2 C3 C4 C5 C6 C7
          have hdo := do_open L.m (L.ec HE.out) HB1.out L.b.size what okind ouser ox ov og oi opage ook
          have HDo := Lib.hid hdo
          have HLw := Lib.hid L
          clear hdo L ook hk
          by_cases h6 : what = 6
          · subst h6
            have HR := Lib.hid hrt
            clear hrt
            go_wp2_with (first
              | (go_at_call 17; (with_reducible refine HDo.out.mono ?_); rintro e W3 ⟨rfl, D⟩; have L3 := HLw.out.did D))
            go_roundw
            case rel => exact ⟨k + 1, by omega, by simp, _, rfl, L3, do_good hG _⟩
            case measure => simp [intOf]; omega
          · have f6 : (what == 6) = false := beq_eq_false_iff_ne.2 h6
            have hR3 := (do_root S ⟨what, okind, ouser, ox, ov, og, oi, opage⟩ h6).trans hrt
            have HR3 := Lib.hid hR3
            clear h6 hR3 hrt
            go_wp2_with (first
              | (go_at_call 17; (with_reducible refine HDo.out.mono ?_); rintro e W3 ⟨rfl, D⟩; have L3 := HLw.out.did D))
            go_roundw
            case rel => exact ⟨k + 1, by omega, by simp, _, by rw [HR3.out], L3, do_good hG _⟩
            case measure => simp [intOf]; omega
        · obtain rfl : k = on := by omega
          clear hkl hk
          obtain ⟨⟨⟨ats, g0, ⟨rw0, ru0, rx0⟩, lg, pd⟩, hw, k1⟩, ho⟩ : ∃ X, out (wk (rd h16 S.mem) h16.length S.root (n : Int) kz user) = X := ⟨_, rfl⟩
          obtain ⟨pn, hpn⟩ : ∃ n, ats.length = n := ⟨_, rfl⟩
          have hpl3 : ats.length ≤ 3 := wk_len ho
          have hho := wk_how _ _ _ _ _ _ _ _ _ ho
          have hwk : ∀ W F, Lw w F W p tp gp fb (dropS S (n : Int)) → Calls Tryz.prog 20 #[.pointer (some ⟨gp, 0, none⟩), .int .i64 rt, .int .i64 (n : Int), .int .i64 kz, .bool user] W
              fun e w' => Below W.heap.size W w' ∧ ∃ a c, e = .returned (.tuple #[.agg #[.slice a pn c, .int .i64 g0, .bool rw0, .bool ru0, .bool rx0, .bool lg, .bool pd], .int .i64 hw, .int .i64 k1]) ∧ Sl w' a ats := fun W F L => by
            have := gm_walk L.m.gm (L.ec HE.out) S.root (n : Int) kz user _ hw k1 ho
            dsimp only at this
            rw [hpn, hrt] at this; exact this
          have hfo : ∀ W F, Lw w F W p tp gp fb S → Calls Tryz.prog 19 #[.pointer (some ⟨p, 0, none⟩), .int .i64 (n : Int)] W fun e w' => (∃ b, e = .returned (.bool b)) ∧ Did w.heap.size F W p tp gp fb (dropS S (n : Int)) w' := fun W F L =>
            (forget_mm L.m L.b.size (n : Int)).mono fun _ _ h => ⟨⟨_, h.1⟩, h.2⟩
          have hget : ∀ W F S', Lw w F W p tp gp fb S' → Calls Tryz.prog 21 #[.pointer (some ⟨gp, 0, none⟩), .int .i64 g0, .int .i64 (wo : Int)] W fun e w' => e = .returned (.tuple #[.int .u64 (((rd h16 S'.mem g0 (wo : Int)).getD 0 : Nat) : Int), .bool (rd h16 S'.mem g0 (wo : Int)).isSome]) ∧ Below W.heap.size W w' := fun W F S' L => gm_get_bel L.m.gm g0 wo _ rfl
          have hac : ∀ W F S', Lw w F W p tp gp fb S' → Calls Tryz.prog 22 #[.pointer (some ⟨p, 0, none⟩), .int .i64 kz, .bool user, .int .u64 az, .int .u64 vz] W fun e w' => e = .returned (accS S' kz user ad v).1.val ∧ Did w.heap.size F W p tp gp fb (accS S' kz user ad v).2 w' := fun W F S' L => by
            have := access_mm L.m (L.ec HE.out) HB1.out L.b.size kz user ad v HJf.out.1 HV.out
            rw [HAz.out, HVz.out] at this; exact this
          have hkn : ∀ W F S' o, tget S'.l 0 (n : Int) = o → Lw w F W p tp gp fb S' → Calls Tryz.prog 23 #[.pointer (some ⟨p, 0, none⟩), .int .i64 (n : Int)] W fun e w' => e = .returned (.tuple #[.agg #[.int .i64 (o.getD hit0).asid, .int .i64 (o.getD hit0).page, .int .i64 (o.getD hit0).frame, .bool (o.getD hit0).r.w, .bool (o.getD hit0).r.u, .bool (o.getD hit0).r.x, .bool (o.getD hit0).dirty], .bool o.isSome]) ∧ Below W.heap.size W w' := fun W F S' o ho L => known_mm L.m (n : Int) o ho
          have h128 := L.m.len
          have HWk := Lib.hid hwk
          have HFo := Lib.hid hfo
          have HGt := Lib.hid hget
          have HAc := Lib.hid hac
          have HKn := Lib.hid hkn
          have HLw := Lib.hid L
          clear hwk hfo hget hac hkn L
          by_cases hhw : hw = 0
          · subst hhw
            obtain ⟨y, hy, ⟨⟨oh, ov2, ocd, oad⟩, S', hacc, htg, hcase⟩⟩ := fresh_ok hG h128 (x := v) HJf.out HW2.out ho
            have htg := htg
            have HHy := Lib.hid hy
            have HHa := Lib.hid hacc
            have HHt := Lib.hid htg
            have HC := Lib.hid hcase
            have HHo := Lib.hid ho
            have hyb : y < 2 ^ 64 := by
              obtain ⟨_, _, _, _, _, H, _⟩ := HLw.out.m.gm
              have := rd_lt (hosts := h16) H.bd g0 (wo : Int)
              rw [hy] at this; exact this
            have HYb := Lib.hid hyb
            clear hy hacc htg hcase ho hho hG h128 hyb
            have hkc := HK3.out
            have HHo := HHo
            obtain rfl : k1 = 0 := (wk_frame HHo.out).2.2.2
            rcases hkc with hk | hk | hk
            · subst hk
              have hc := HC.out.resolve_right (fun h => h.1 rfl)
              cases pd with
              | true =>
                obtain ⟨_, hoo, hrd⟩ := hc
                injection hoo with q1 q2 q3 q4
                subst q1 q2 q3 q4
                have HRd := Lib.hid hrd
                clear hrd
                go_wp2_with (first
                  | (go_at_call 18; (with_reducible refine (HJ.out _).mono ?_); rintro e W4 ⟨rfl, b4⟩; have L4 := HLw.out.past b4)
                  | (go_at_call 19; (with_reducible refine (HFo.out _ _ L4).mono ?_); rintro e W5 ⟨⟨fbv, rfl⟩, D⟩; have L5 := L4.did D; clear D)
                  | (go_at_call 20; (with_reducible refine (HWk.out _ _ L5).mono ?_); rintro e W6 ⟨b6, a6, c6, rfl, s6⟩; have L6 := L5.past b6; have P6 := Blk.new W6 42 [.slice a6 pn c6, .int .i64 g0, .bool rw0, .bool ru0, .bool rx0, .bool lg, .bool true]; have s6a := s6.past (bal W6 (.cells #[.slice a6 pn c6, .int .i64 g0, .bool rw0, .bool ru0, .bool rx0, .bool lg, .bool true] 42)); have p60 := P6.cell (k := 0) rfl; have p61 := P6.cell (k := 1) rfl; have p62 := P6.cell (k := 2) rfl; have p63 := P6.cell (k := 3) rfl; have p64 := P6.cell (k := 4) rfl; have p65 := P6.cell (k := 5) rfl; have p66 := P6.cell (k := 6) rfl; have p6l := P6.lt)
                  | (go_at_call 21; (with_reducible refine (HGt.out _ _ _ (L6.past (bal W6 (.cells #[.slice a6 pn c6, .int .i64 g0, .bool rw0, .bool ru0, .bool rx0, .bool lg, .bool true] 42)))).mono ?_); rintro e W7 ⟨rfl, b7⟩; have L7 := (L6.past (bal W6 (.cells #[.slice a6 pn c6, .int .i64 g0, .bool rw0, .bool ru0, .bool rx0, .bool lg, .bool true] 42))).past b7; have P7 := P6.past b7; have s7 := s6a.past b7)
                  | (go_at_call 22; (with_reducible refine (HAc.out _ _ _ L7).mono ?_); rintro e W8 ⟨he, D⟩; rw [HHa.out] at he D; have he : e = Ending.returned (.agg #[.int .i64 0, .int .u64 0, .int .i64 0, .int .u64 0]) := he; subst he; have L8 := L7.did D; have P8 := D.2.2.blk P7 ⟨by decide, by decide, by decide, by decide⟩; have s8 := D.2.2.sl s7; have X8 := Blk.new W8 34 [.int .i64 0, .int .u64 0, .int .i64 0, .int .u64 0]; clear D)
                  | (go_at_call 23; (with_reducible refine (HKn.out _ _ _ _ HHt.out (L8.past (bal W8 (.cells #[.int .i64 0, .int .u64 0, .int .i64 0, .int .u64 0] 34)))).mono ?_); rintro e W9 ⟨he, b9⟩; have he : e = Ending.returned (.tuple #[.agg #[.int .i64 0, .int .i64 (n : Int), .int .i64 g0, .bool rw0, .bool ru0, .bool rx0, .bool true], .bool true]) := he; subst he; have L9 := (L8.past (bal W8 (.cells #[.int .i64 0, .int .u64 0, .int .i64 0, .int .u64 0] 34))).past b9; have X9 := X8.past b9; have P9 := (P8.past (bal W8 (.cells #[.int .i64 0, .int .u64 0, .int .i64 0, .int .u64 0] 34))).past b9; have s9 := (s8.past (bal W8 (.cells #[.int .i64 0, .int .u64 0, .int .i64 0, .int .u64 0] 34))).past b9; have K9 := Blk.new W9 49 [.int .i64 0, .int .i64 (n : Int), .int .i64 g0, .bool rw0, .bool ru0, .bool rx0, .bool true]; have x90 := X9.cell (k := 0) rfl; have x91 := X9.cell (k := 1) rfl; have x92 := X9.cell (k := 2) rfl; have x93 := X9.cell (k := 3) rfl; have x9l := X9.lt; have p90 := P9.cell (k := 0) rfl; have p91 := P9.cell (k := 1) rfl; have p92 := P9.cell (k := 2) rfl; have p93 := P9.cell (k := 3) rfl; have p94 := P9.cell (k := 4) rfl; have p95 := P9.cell (k := 5) rfl; have p96 := P9.cell (k := 6) rfl; have p9l := P9.lt)
                  | (go_at_call 21; (with_reducible refine (HGt.out _ _ _ (L9.past (bal W9 (.cells #[.int .i64 0, .int .i64 (n : Int), .int .i64 g0, .bool rw0, .bool ru0, .bool rx0, .bool true] 49)))).mono ?_); rintro e W10 ⟨he, b10⟩; rw [show (rd h16 S'.mem g0 (wo : Int)) = some v from HRd.out] at he; simp only [Option.getD_some, Option.isSome_some] at he; rw [HVz.out] at he; subst he; have L10 := (L9.past (bal W9 (.cells #[.int .i64 0, .int .i64 (n : Int), .int .i64 g0, .bool rw0, .bool ru0, .bool rx0, .bool true] 49))).past b10; have X10 := (X9.past (bal W9 (.cells #[.int .i64 0, .int .i64 (n : Int), .int .i64 g0, .bool rw0, .bool ru0, .bool rx0, .bool true] 49))).past b10; have P10 := (P9.past (bal W9 (.cells #[.int .i64 0, .int .i64 (n : Int), .int .i64 g0, .bool rw0, .bool ru0, .bool rx0, .bool true] 49))).past b10; have s10 := (s9.past (bal W9 (.cells #[.int .i64 0, .int .i64 (n : Int), .int .i64 g0, .bool rw0, .bool ru0, .bool rx0, .bool true] 49))).past b10; have K10 := K9.past b10; have x100 := X10.cell (k := 0) rfl; have x101 := X10.cell (k := 1) rfl; have x102 := X10.cell (k := 2) rfl; have x103 := X10.cell (k := 3) rfl; have x10l := X10.lt; have p100 := P10.cell (k := 0) rfl; have p101 := P10.cell (k := 1) rfl; have p102 := P10.cell (k := 2) rfl; have p103 := P10.cell (k := 3) rfl; have p104 := P10.cell (k := 4) rfl; have p105 := P10.cell (k := 5) rfl; have p106 := P10.cell (k := 6) rfl; have p10l := P10.lt; have k100 := K10.cell (k := 0) rfl; have k101 := K10.cell (k := 1) rfl; have k102 := K10.cell (k := 2) rfl; have k103 := K10.cell (k := 3) rfl; have k104 := K10.cell (k := 4) rfl; have k105 := K10.cell (k := 5) rfl; have k106 := K10.cell (k := 6) rfl; have k10l := K10.lt; clear n0 n9 wo0 wo9 rd0 rd9 hn1 hw1 hk1 hr1 p0 p1 wq0 wq1 kq0 kq1 rq0 rq1 holen h6' h2')
                )
                go_ret
                exact ⟨rfl, L10.b.alloc L10.b.size _⟩
              | false =>
                obtain ⟨_, hoo, hrd⟩ := hc
                injection hoo with q1 q2 q3 q4
                subst q1 q2 q3 q4
                have HRd := Lib.hid hrd
                clear hrd
                go_wp2_with (first
                  | (go_at_call 18; (with_reducible refine (HJ.out _).mono ?_); rintro e W4 ⟨rfl, b4⟩; have L4 := HLw.out.past b4)
                  | (go_at_call 19; (with_reducible refine (HFo.out _ _ L4).mono ?_); rintro e W5 ⟨⟨fbv, rfl⟩, D⟩; have L5 := L4.did D; clear D)
                  | (go_at_call 20; (with_reducible refine (HWk.out _ _ L5).mono ?_); rintro e W6 ⟨b6, a6, c6, rfl, s6⟩; have L6 := L5.past b6; have P6 := Blk.new W6 42 [.slice a6 pn c6, .int .i64 g0, .bool rw0, .bool ru0, .bool rx0, .bool lg, .bool false]; have s6a := s6.past (bal W6 (.cells #[.slice a6 pn c6, .int .i64 g0, .bool rw0, .bool ru0, .bool rx0, .bool lg, .bool false] 42)); have p60 := P6.cell (k := 0) rfl; have p61 := P6.cell (k := 1) rfl; have p62 := P6.cell (k := 2) rfl; have p63 := P6.cell (k := 3) rfl; have p64 := P6.cell (k := 4) rfl; have p65 := P6.cell (k := 5) rfl; have p66 := P6.cell (k := 6) rfl; have p6l := P6.lt)
                  | (go_at_call 21; (with_reducible refine (HGt.out _ _ _ (L6.past (bal W6 (.cells #[.slice a6 pn c6, .int .i64 g0, .bool rw0, .bool ru0, .bool rx0, .bool lg, .bool false] 42)))).mono ?_); rintro e W7 ⟨rfl, b7⟩; have L7 := (L6.past (bal W6 (.cells #[.slice a6 pn c6, .int .i64 g0, .bool rw0, .bool ru0, .bool rx0, .bool lg, .bool false] 42))).past b7; have P7 := P6.past b7; have s7 := s6a.past b7)
                  | (go_at_call 22; (with_reducible refine (HAc.out _ _ _ L7).mono ?_); rintro e W8 ⟨he, D⟩; rw [HHa.out] at he D; have he : e = Ending.returned (.agg #[.int .i64 0, .int .u64 0, .int .i64 0, .int .u64 0]) := he; subst he; have L8 := L7.did D; have P8 := D.2.2.blk P7 ⟨by decide, by decide, by decide, by decide⟩; have s8 := D.2.2.sl s7; have X8 := Blk.new W8 34 [.int .i64 0, .int .u64 0, .int .i64 0, .int .u64 0]; clear D)
                  | (go_at_call 23; (with_reducible refine (HKn.out _ _ _ _ HHt.out (L8.past (bal W8 (.cells #[.int .i64 0, .int .u64 0, .int .i64 0, .int .u64 0] 34)))).mono ?_); rintro e W9 ⟨he, b9⟩; have he : e = Ending.returned (.tuple #[.agg #[.int .i64 0, .int .i64 (n : Int), .int .i64 g0, .bool rw0, .bool ru0, .bool rx0, .bool true], .bool true]) := he; subst he; have L9 := (L8.past (bal W8 (.cells #[.int .i64 0, .int .u64 0, .int .i64 0, .int .u64 0] 34))).past b9; have X9 := X8.past b9; have P9 := (P8.past (bal W8 (.cells #[.int .i64 0, .int .u64 0, .int .i64 0, .int .u64 0] 34))).past b9; have s9 := (s8.past (bal W8 (.cells #[.int .i64 0, .int .u64 0, .int .i64 0, .int .u64 0] 34))).past b9; have K9 := Blk.new W9 49 [.int .i64 0, .int .i64 (n : Int), .int .i64 g0, .bool rw0, .bool ru0, .bool rx0, .bool true]; have x90 := X9.cell (k := 0) rfl; have x91 := X9.cell (k := 1) rfl; have x92 := X9.cell (k := 2) rfl; have x93 := X9.cell (k := 3) rfl; have x9l := X9.lt; have p90 := P9.cell (k := 0) rfl; have p91 := P9.cell (k := 1) rfl; have p92 := P9.cell (k := 2) rfl; have p93 := P9.cell (k := 3) rfl; have p94 := P9.cell (k := 4) rfl; have p95 := P9.cell (k := 5) rfl; have p96 := P9.cell (k := 6) rfl; have p9l := P9.lt)
                  | (go_at_call 21; (with_reducible refine (HGt.out _ _ _ (L9.past (bal W9 (.cells #[.int .i64 0, .int .i64 (n : Int), .int .i64 g0, .bool rw0, .bool ru0, .bool rx0, .bool true] 49)))).mono ?_); rintro e W10 ⟨he, b10⟩; rw [show (rd h16 S'.mem g0 (wo : Int)) = some v from HRd.out] at he; simp only [Option.getD_some, Option.isSome_some] at he; rw [HVz.out] at he; subst he; have L10 := (L9.past (bal W9 (.cells #[.int .i64 0, .int .i64 (n : Int), .int .i64 g0, .bool rw0, .bool ru0, .bool rx0, .bool true] 49))).past b10; have X10 := (X9.past (bal W9 (.cells #[.int .i64 0, .int .i64 (n : Int), .int .i64 g0, .bool rw0, .bool ru0, .bool rx0, .bool true] 49))).past b10; have P10 := (P9.past (bal W9 (.cells #[.int .i64 0, .int .i64 (n : Int), .int .i64 g0, .bool rw0, .bool ru0, .bool rx0, .bool true] 49))).past b10; have s10 := (s9.past (bal W9 (.cells #[.int .i64 0, .int .i64 (n : Int), .int .i64 g0, .bool rw0, .bool ru0, .bool rx0, .bool true] 49))).past b10; have K10 := K9.past b10; have x100 := X10.cell (k := 0) rfl; have x101 := X10.cell (k := 1) rfl; have x102 := X10.cell (k := 2) rfl; have x103 := X10.cell (k := 3) rfl; have x10l := X10.lt; have p100 := P10.cell (k := 0) rfl; have p101 := P10.cell (k := 1) rfl; have p102 := P10.cell (k := 2) rfl; have p103 := P10.cell (k := 3) rfl; have p104 := P10.cell (k := 4) rfl; have p105 := P10.cell (k := 5) rfl; have p106 := P10.cell (k := 6) rfl; have p10l := P10.lt; have k100 := K10.cell (k := 0) rfl; have k101 := K10.cell (k := 1) rfl; have k102 := K10.cell (k := 2) rfl; have k103 := K10.cell (k := 3) rfl; have k104 := K10.cell (k := 4) rfl; have k105 := K10.cell (k := 5) rfl; have k106 := K10.cell (k := 6) rfl; have k10l := K10.lt; clear n0 n9 wo0 wo9 rd0 rd9 hn1 hw1 hk1 hr1 p0 p1 wq0 wq1 kq0 kq1 rq0 rq1 holen h6' h2')
                )
                go_ret
                exact ⟨rfl, L10.b.alloc L10.b.size _⟩
            · subst hk
              have hc := HC.out.resolve_left (fun h => absurd h.1 (by decide))
              cases pd with
              | true =>
                obtain ⟨_, hsm, hor⟩ := hc
                obtain ⟨y3, hy3⟩ := Option.isSome_iff_exists.1 hsm
                have HY3 := Lib.hid hy3
                obtain ⟨ovz, hovz⟩ : ∃ z : Int, (ov2 : Int) = z := ⟨_, rfl⟩
                obtain ⟨yz, hyz⟩ : ∃ z : Int, (y : Int) = z := ⟨_, rfl⟩
                have hq : oh = 0 ∧ ocd = 0 ∧ oad = 0 ∧ (ov2 = y ∨ (hasP ats g0 (wo : Int) ats.length = true ∧ ov2 = usedW y false)) := by
                  rcases hor with h | ⟨h1, h⟩
                  · injection h with q1 q2 q3 q4
                    exact ⟨q1, q3, q4, .inl q2⟩
                  · injection h with q1 q2 q3 q4
                    exact ⟨q1, q3, q4, .inr ⟨hasP_mem h1, q2⟩⟩
                obtain ⟨q1, q3, q4, q2⟩ := hq
                subst q1 q3 q4
                have HQ := Lib.hid q2
                have HOv := Lib.hid hovz
                have HYz := Lib.hid hyz
                have HPn := Lib.hid hpn
                clear hsm hy3 hovz hyz hor q2 hpn
                have hgy : ∀ W, Lw w [] W p tp gp fb (dropS S (n : Int)) → Calls Tryz.prog 21 #[.pointer (some ⟨gp, 0, none⟩), .int .i64 g0, .int .i64 (wo : Int)] W fun e w' => e = .returned (.tuple #[.int .u64 yz, .bool true]) ∧ Below W.heap.size W w' := fun W L => by
                  have := HGt.out W [] _ L
                  rw [show rd h16 (dropS S (n : Int)).mem g0 (wo : Int) = some y from HHy.out] at this
                  simp only [Option.getD_some, Option.isSome_some] at this
                  rw [HYz.out] at this
                  exact this
                have HGy := Lib.hid hgy
                clear hgy
                go_wp2_with (first
                  | (go_at_call 18; (with_reducible refine (HJ.out _).mono ?_); rintro e W4 ⟨rfl, b4⟩; have L4 := HLw.out.past b4)
                  | (go_at_call 19; (with_reducible refine (HFo.out _ _ L4).mono ?_); rintro e W5 ⟨⟨fbv, rfl⟩, D⟩; have L5 := L4.did D; clear D)
                  | (go_at_call 20; (with_reducible refine (HWk.out _ _ L5).mono ?_); rintro e W6 ⟨b6, a6, c6, rfl, s6⟩; have L6 := L5.past b6; have P6 := Blk.new W6 42 [.slice a6 pn c6, .int .i64 g0, .bool rw0, .bool ru0, .bool rx0, .bool lg, .bool true]; have s6a := s6.past (bal W6 (.cells #[.slice a6 pn c6, .int .i64 g0, .bool rw0, .bool ru0, .bool rx0, .bool lg, .bool true] 42)); have p60 := P6.cell (k := 0) rfl; have p61 := P6.cell (k := 1) rfl; have p62 := P6.cell (k := 2) rfl; have p63 := P6.cell (k := 3) rfl; have p64 := P6.cell (k := 4) rfl; have p65 := P6.cell (k := 5) rfl; have p66 := P6.cell (k := 6) rfl; have p6l := P6.lt)
                  | (go_at_call 21; (with_reducible refine (HGy.out _ (L6.past (bal W6 (.cells #[.slice a6 pn c6, .int .i64 g0, .bool rw0, .bool ru0, .bool rx0, .bool lg, .bool true] 42)))).mono ?_); rintro e W7 ⟨rfl, b7⟩; have L7 := (L6.past (bal W6 (.cells #[.slice a6 pn c6, .int .i64 g0, .bool rw0, .bool ru0, .bool rx0, .bool lg, .bool true] 42))).past b7; have P7 := P6.past b7; have s7 := s6a.past b7)
                  | (go_at_call 22; (with_reducible refine (HAc.out _ _ _ L7).mono ?_); rintro e W8 ⟨he, D⟩; rw [HHa.out] at he D; have he : e = Ending.returned (.agg #[.int .i64 0, .int .u64 (ov2 : Int), .int .i64 0, .int .u64 0]) := he; rw [HOv.out] at he; subst he; have L8 := L7.did D; have P8 := D.2.2.blk P7 ⟨by decide, by decide, by decide, by decide⟩; have s8 := D.2.2.sl s7; have X8 := Blk.new W8 34 [.int .i64 0, .int .u64 ovz, .int .i64 0, .int .u64 0]; clear D)
                  | (go_at_call 23; (with_reducible refine (HKn.out _ _ _ _ HHt.out (L8.past (bal W8 (.cells #[.int .i64 0, .int .u64 ovz, .int .i64 0, .int .u64 0] 34)))).mono ?_); rintro e W9 ⟨he, b9⟩; have he : e = Ending.returned (.tuple #[.agg #[.int .i64 0, .int .i64 (n : Int), .int .i64 g0, .bool rw0, .bool ru0, .bool rx0, .bool true], .bool true]) := he; subst he; have L9 := (L8.past (bal W8 (.cells #[.int .i64 0, .int .u64 ovz, .int .i64 0, .int .u64 0] 34))).past b9; have X9 := X8.past b9; have P9 := (P8.past (bal W8 (.cells #[.int .i64 0, .int .u64 ovz, .int .i64 0, .int .u64 0] 34))).past b9; have s9 := (s8.past (bal W8 (.cells #[.int .i64 0, .int .u64 ovz, .int .i64 0, .int .u64 0] 34))).past b9; have K9 := Blk.new W9 49 [.int .i64 0, .int .i64 (n : Int), .int .i64 g0, .bool rw0, .bool ru0, .bool rx0, .bool true]; have x90 := X9.cell (k := 0) rfl; have x91 := X9.cell (k := 1) rfl; have x92 := X9.cell (k := 2) rfl; have x93 := X9.cell (k := 3) rfl; have x9l := X9.lt; have p90 := P9.cell (k := 0) rfl; have p91 := P9.cell (k := 1) rfl; have p92 := P9.cell (k := 2) rfl; have p93 := P9.cell (k := 3) rfl; have p94 := P9.cell (k := 4) rfl; have p95 := P9.cell (k := 5) rfl; have p96 := P9.cell (k := 6) rfl; have p9l := P9.lt)
                  | (go_at_call 21; (with_reducible refine (HGt.out _ _ _ (L9.past (bal W9 (.cells #[.int .i64 0, .int .i64 (n : Int), .int .i64 g0, .bool rw0, .bool ru0, .bool rx0, .bool true] 49)))).mono ?_); rintro e W10 ⟨he, b10⟩; rw [show (rd h16 S'.mem g0 (wo : Int)) = some y3 from HY3.out] at he; simp only [Option.getD_some, Option.isSome_some] at he; subst he; have L10 := (L9.past (bal W9 (.cells #[.int .i64 0, .int .i64 (n : Int), .int .i64 g0, .bool rw0, .bool ru0, .bool rx0, .bool true] 49))).past b10; have X10 := (X9.past (bal W9 (.cells #[.int .i64 0, .int .i64 (n : Int), .int .i64 g0, .bool rw0, .bool ru0, .bool rx0, .bool true] 49))).past b10; have P10 := (P9.past (bal W9 (.cells #[.int .i64 0, .int .i64 (n : Int), .int .i64 g0, .bool rw0, .bool ru0, .bool rx0, .bool true] 49))).past b10; have s10 := (s9.past (bal W9 (.cells #[.int .i64 0, .int .i64 (n : Int), .int .i64 g0, .bool rw0, .bool ru0, .bool rx0, .bool true] 49))).past b10; have K10 := K9.past b10; have x100 := X10.cell (k := 0) rfl; have x101 := X10.cell (k := 1) rfl; have x102 := X10.cell (k := 2) rfl; have x103 := X10.cell (k := 3) rfl; have x10l := X10.lt; have p100 := P10.cell (k := 0) rfl; have p101 := P10.cell (k := 1) rfl; have p102 := P10.cell (k := 2) rfl; have p103 := P10.cell (k := 3) rfl; have p104 := P10.cell (k := 4) rfl; have p105 := P10.cell (k := 5) rfl; have p106 := P10.cell (k := 6) rfl; have p10l := P10.lt; have k100 := K10.cell (k := 0) rfl; have k101 := K10.cell (k := 1) rfl; have k102 := K10.cell (k := 2) rfl; have k103 := K10.cell (k := 3) rfl; have k104 := K10.cell (k := 4) rfl; have k105 := K10.cell (k := 5) rfl; have k106 := K10.cell (k := 6) rfl; have k10l := K10.lt; clear n0 n9 wo0 wo9 rd0 rd9 hn1 hw1 hr1 p0 p1 wq0 wq1 kq0 kq1 rq0 rq1 holen h6' h2'))
                -- the worlds named
                obtain ⟨W10a, hW10⟩ : ∃ W, W10.alloc (.cells #[.int .i64 0, .int .i64 (n : Int), .int .i64 g0, .bool rw0, .bool ru0, .bool rx0, .bool true] 49) = W := ⟨_, rfl⟩
                have KK := Blk.new W10 49 [.int .i64 0, .int .i64 (n : Int), .int .i64 g0, .bool rw0, .bool ru0, .bool rx0, .bool true]
                rw [show (W10.alloc (.cells ([.int .i64 0, .int .i64 (n : Int), .int .i64 g0, .bool rw0, .bool ru0, .bool rx0, .bool true] : List Value).toArray 49)) = W10a from hW10] at KK
                have bb := bal W10 (.cells #[.int .i64 0, .int .i64 (n : Int), .int .i64 g0, .bool rw0, .bool ru0, .bool rx0, .bool true] 49)
                rw [hW10] at bb ⊢
                have LA := L10.past bb
                have XA := X10.past bb
                have PA := P10.past bb
                have KA := K10.past bb
                have sA := s10.past bb
                obtain ⟨b26, e26⟩ : ∃ b, W6.heap.size = b := ⟨_, rfl⟩
                obtain ⟨b31, e31⟩ : ∃ b, W8.heap.size = b := ⟨_, rfl⟩
                obtain ⟨b32, e32⟩ : ∃ b, W9.heap.size = b := ⟨_, rfl⟩
                obtain ⟨b36, e36⟩ : ∃ b, W10.heap.size = b := ⟨_, rfl⟩
                rw [e26] at PA ⊢
                rw [e31] at XA ⊢
                rw [e32] at KA ⊢
                rw [e36] at KK ⊢
                clear hW10 bb e26 e31 e32 e36 p60 p61 p62 p63 p64 p65 p66 p6l x90 x91 x92 x93 x9l p90 p91 p92 p93 p94 p95 p96 p9l x100 x101 x102 x103 x10l p100 p101 p102 p103 p104 p105 p106 p10l k100 k101 k102 k103 k104 k105 k106 k10l
                clear L4 L5 L6 L7 L8 L9 L10 P6 P7 P8 P9 P10 X8 X9 X10 K9 K10 s6 s6a s7 s8 s9 s10 b4 b6 b7 b9 b10
                have HSl := Lib.hid sA
                have hpn3 : pn ≤ 3 := by have := HPn.out; omega
                go_loopw [37, 38] (fun u i wr => ∃ k : Nat, k ≤ pn ∧ i = .int .i64 k ∧ u = .bool (hasP ats g0 (wo : Int) k) ∧ Below W10a.heap.size W10a wr) (fun _ i _ => pn - (intOf i).toNat)
                case atStart => exact ⟨0, by omega, rfl, rfl, Below.refl _ _⟩
                case round =>
                  obtain ⟨k, hk, rfl, rfl, B⟩ := hrel
                  have PB := PA.past B
                  have XB := XA.past B
                  have KB := KA.past B
                  have KC := KK.past B
                  have pb0 := PB.cell (k := 0) rfl
                  have pb1 := PB.cell (k := 1) rfl
                  have pb2 := PB.cell (k := 2) rfl
                  have pb3 := PB.cell (k := 3) rfl
                  have pb4 := PB.cell (k := 4) rfl
                  have pb5 := PB.cell (k := 5) rfl
                  have pb6 := PB.cell (k := 6) rfl
                  have pbl := PB.lt
                  by_cases hkl : k < pn
                  · have hs := hasP_succ ats g0 (wo : Int) k
                    obtain ⟨f, hf⟩ : ∃ f, hasP ats g0 (wo : Int) k = f := ⟨_, rfl⟩
                    rw [hf] at hs ⊢
                    rcases HSl.out.past B with ⟨_, h2⟩ | ⟨sb, rest, rfl, hsb⟩
                    · exfalso; have := HPn.out; rw [h2] at this; simp at this; omega
                    obtain ⟨t0, t1⟩ := Sl.at hsb k (by rw [HPn.out]; exact hkl)
                    obtain ⟨q1, hq1⟩ : ∃ z, (ats.getD k (0, 0)).1 = z := ⟨_, rfl⟩
                    obtain ⟨q2, hq2⟩ : ∃ z, (ats.getD k (0, 0)).2 = z := ⟨_, rfl⟩
                    rw [hq1] at t0 hs
                    rw [hq2] at t1 hs
                    have hsl := hsb.lt
                    have HS := Lib.hid hs
                    have HB := Lib.hid B
                    clear hs hq1 hq2 hf hsb B
                    cases f with
                    | true =>
                      go_wp2_with fail
                      go_quiet (fail)
                      go_wp2
                      go_roundw
                      case rel => exact ⟨k + 1, by omega, by simp, by rw [HS.out]; rfl, by first | exact HB.out | exact HB.out.drew | exact below_drewN HB.out _⟩
                      case measure => simp [intOf]; omega
                    | false =>
                      by_cases c1 : q1 = g0
                      · subst c1
                        by_cases c2 : q2 = (wo : Int)
                        · subst c2
                          go_wp2_with fail
                          go_quiet (fail)
                          go_wp2
                          go_roundw
                          case rel => exact ⟨k + 1, by omega, by simp, by rw [HS.out]; simp, by first | exact HB.out | exact HB.out.drew | exact below_drewN HB.out _⟩
                          case measure => simp [intOf]; omega
                        · have e2 : (q2 == (wo : Int)) = false := beq_eq_false_iff_ne.2 c2
                          have HC2 := Lib.hid c2
                          clear c2
                          go_wp2_with fail
                          go_quiet (fail)
                          go_wp2
                          go_roundw
                          case rel => exact ⟨k + 1, by omega, by simp, by rw [HS.out, decide_eq_false HC2.out]; simp, by first | exact HB.out | exact HB.out.drew | exact below_drewN HB.out _⟩
                          case measure => simp [intOf]; omega
                      · have e1 : (q1 == g0) = false := beq_eq_false_iff_ne.2 c1
                        have HC1 := Lib.hid c1
                        clear c1
                        go_wp2_with fail
                        go_quiet (fail)
                        go_wp2
                        go_roundw
                        case rel => exact ⟨k + 1, by omega, by simp, by rw [HS.out, decide_eq_false HC1.out]; simp, by first | exact HB.out | exact HB.out.drew | exact below_drewN HB.out _⟩
                        case measure => simp [intOf]; omega
                  · obtain rfl : k = pn := by omega
                    have xb0 := XB.cell (k := 0) rfl
                    have xb1 := XB.cell (k := 1) rfl
                    have xb2 := XB.cell (k := 2) rfl
                    have xb3 := XB.cell (k := 3) rfl
                    have xbl := XB.lt
                    have kb0 := KB.cell (k := 0) rfl
                    have kb1 := KB.cell (k := 1) rfl
                    have kb2 := KB.cell (k := 2) rfl
                    have kb3 := KB.cell (k := 3) rfl
                    have kb4 := KB.cell (k := 4) rfl
                    have kb5 := KB.cell (k := 5) rfl
                    have kb6 := KB.cell (k := 6) rfl
                    have kbl := KB.lt
                    have kc0 := KC.cell (k := 0) rfl
                    have kc1 := KC.cell (k := 1) rfl
                    have kc2 := KC.cell (k := 2) rfl
                    have kc3 := KC.cell (k := 3) rfl
                    have kc4 := KC.cell (k := 4) rfl
                    have kc5 := KC.cell (k := 5) rfl
                    have kc6 := KC.cell (k := 6) rfl
                    have kcl := KC.lt
                    have HB := Lib.hid B
                    have HLA := Lib.hid LA
                    clear hkl hk B LA
                    by_cases hov : ov2 = y
                    · subst hov
                      obtain rfl : ovz = yz := HOv.out.symm.trans HYz.out
                      go_wp2_with fail
                      go_quiet (fail)
                      go_wp2
                      go_ret
                      exact ⟨rfl, HLA.out.b.trans (below_drewN HB.out _ |>.mono HLA.out.b.size)⟩
                    · obtain ⟨hin, hov2⟩ := HQ.out.resolve_left hov
                      rw [HPn.out] at hin
                      rw [hin]
                      have hne : (ovz == yz) = false := by
                        rw [beq_eq_false_iff_ne, ← HOv.out, ← HYz.out]; intro e; exact hov (Int.ofNat_inj.1 e)
                      have hu : ∀ W, Calls Tryz.prog 24 #[.int .u64 yz, .bool false] W fun e w' => e = .returned (.int .u64 ovz) ∧ W = w' := fun W => by
                        have := rused_any W y false ov2 hov2.symm HYb.out
                        rw [HYz.out, HOv.out] at this; exact this
                      have HU := Lib.hid hu
                      clear hov hin hov2 hu
                      go_wp2_with fail
                      go_region_held3 (fun w' => w'.cell? ⟨b31, 0, none⟩ = some (.int .i64 0) ∧ w'.cell? ⟨b31, 1, none⟩ = some (.int .u64 ovz) ∧ w'.cell? ⟨b31, 2, none⟩ = some (.int .i64 0) ∧ w'.cell? ⟨b31, 3, none⟩ = some (.int .u64 0) ∧ w'.cell? ⟨b32, 0, none⟩ = some (.int .i64 0) ∧ w'.cell? ⟨b32, 1, none⟩ = some (.int .i64 (n : Int)) ∧ w'.cell? ⟨b32, 2, none⟩ = some (.int .i64 g0) ∧ w'.cell? ⟨b32, 3, none⟩ = some (.bool rw0) ∧ w'.cell? ⟨b32, 4, none⟩ = some (.bool ru0) ∧ w'.cell? ⟨b32, 5, none⟩ = some (.bool rx0) ∧ w'.cell? ⟨b32, 6, none⟩ = some (.bool true) ∧ w'.cell? ⟨b36, 0, none⟩ = some (.int .i64 0) ∧ w'.cell? ⟨b36, 1, none⟩ = some (.int .i64 (n : Int)) ∧ w'.cell? ⟨b36, 2, none⟩ = some (.int .i64 g0) ∧ w'.cell? ⟨b36, 3, none⟩ = some (.bool rw0) ∧ w'.cell? ⟨b36, 4, none⟩ = some (.bool ru0) ∧ w'.cell? ⟨b36, 5, none⟩ = some (.bool rx0) ∧ w'.cell? ⟨b36, 6, none⟩ = some (.bool true)) (go_keep) (first
                        | (go_at_call 24; (with_reducible refine (HU.out _).mono ?_); rintro e W12 ⟨rfl, rfl⟩))
                      all_goals go_wp2
                      all_goals go_ret
                      all_goals exact ⟨rfl, HLA.out.b.trans (below_drewN HB.out _ |>.mono HLA.out.b.size)⟩
              | false =>
                obtain ⟨_, hsm, hor⟩ := hc
                obtain ⟨y3, hy3⟩ := Option.isSome_iff_exists.1 hsm
                have HY3 := Lib.hid hy3
                obtain ⟨ovz, hovz⟩ : ∃ z : Int, (ov2 : Int) = z := ⟨_, rfl⟩
                obtain ⟨yz, hyz⟩ : ∃ z : Int, (y : Int) = z := ⟨_, rfl⟩
                have hq : oh = 0 ∧ ocd = 0 ∧ oad = 0 ∧ (ov2 = y ∨ (hasP ats g0 (wo : Int) ats.length = true ∧ ov2 = usedW y false)) := by
                  rcases hor with h | ⟨h1, h⟩
                  · injection h with q1 q2 q3 q4
                    exact ⟨q1, q3, q4, .inl q2⟩
                  · injection h with q1 q2 q3 q4
                    exact ⟨q1, q3, q4, .inr ⟨hasP_mem h1, q2⟩⟩
                obtain ⟨q1, q3, q4, q2⟩ := hq
                subst q1 q3 q4
                have HQ := Lib.hid q2
                have HOv := Lib.hid hovz
                have HYz := Lib.hid hyz
                have HPn := Lib.hid hpn
                clear hsm hy3 hovz hyz hor q2 hpn
                have hgy : ∀ W, Lw w [] W p tp gp fb (dropS S (n : Int)) → Calls Tryz.prog 21 #[.pointer (some ⟨gp, 0, none⟩), .int .i64 g0, .int .i64 (wo : Int)] W fun e w' => e = .returned (.tuple #[.int .u64 yz, .bool true]) ∧ Below W.heap.size W w' := fun W L => by
                  have := HGt.out W [] _ L
                  rw [show rd h16 (dropS S (n : Int)).mem g0 (wo : Int) = some y from HHy.out] at this
                  simp only [Option.getD_some, Option.isSome_some] at this
                  rw [HYz.out] at this
                  exact this
                have HGy := Lib.hid hgy
                clear hgy
                go_wp2_with (first
                  | (go_at_call 18; (with_reducible refine (HJ.out _).mono ?_); rintro e W4 ⟨rfl, b4⟩; have L4 := HLw.out.past b4)
                  | (go_at_call 19; (with_reducible refine (HFo.out _ _ L4).mono ?_); rintro e W5 ⟨⟨fbv, rfl⟩, D⟩; have L5 := L4.did D; clear D)
                  | (go_at_call 20; (with_reducible refine (HWk.out _ _ L5).mono ?_); rintro e W6 ⟨b6, a6, c6, rfl, s6⟩; have L6 := L5.past b6; have P6 := Blk.new W6 42 [.slice a6 pn c6, .int .i64 g0, .bool rw0, .bool ru0, .bool rx0, .bool lg, .bool false]; have s6a := s6.past (bal W6 (.cells #[.slice a6 pn c6, .int .i64 g0, .bool rw0, .bool ru0, .bool rx0, .bool lg, .bool false] 42)); have p60 := P6.cell (k := 0) rfl; have p61 := P6.cell (k := 1) rfl; have p62 := P6.cell (k := 2) rfl; have p63 := P6.cell (k := 3) rfl; have p64 := P6.cell (k := 4) rfl; have p65 := P6.cell (k := 5) rfl; have p66 := P6.cell (k := 6) rfl; have p6l := P6.lt)
                  | (go_at_call 21; (with_reducible refine (HGy.out _ (L6.past (bal W6 (.cells #[.slice a6 pn c6, .int .i64 g0, .bool rw0, .bool ru0, .bool rx0, .bool lg, .bool false] 42)))).mono ?_); rintro e W7 ⟨rfl, b7⟩; have L7 := (L6.past (bal W6 (.cells #[.slice a6 pn c6, .int .i64 g0, .bool rw0, .bool ru0, .bool rx0, .bool lg, .bool false] 42))).past b7; have P7 := P6.past b7; have s7 := s6a.past b7)
                  | (go_at_call 22; (with_reducible refine (HAc.out _ _ _ L7).mono ?_); rintro e W8 ⟨he, D⟩; rw [HHa.out] at he D; have he : e = Ending.returned (.agg #[.int .i64 0, .int .u64 (ov2 : Int), .int .i64 0, .int .u64 0]) := he; rw [HOv.out] at he; subst he; have L8 := L7.did D; have P8 := D.2.2.blk P7 ⟨by decide, by decide, by decide, by decide⟩; have s8 := D.2.2.sl s7; have X8 := Blk.new W8 34 [.int .i64 0, .int .u64 ovz, .int .i64 0, .int .u64 0]; clear D)
                  | (go_at_call 23; (with_reducible refine (HKn.out _ _ _ _ HHt.out (L8.past (bal W8 (.cells #[.int .i64 0, .int .u64 ovz, .int .i64 0, .int .u64 0] 34)))).mono ?_); rintro e W9 ⟨he, b9⟩; have he : e = Ending.returned (.tuple #[.agg #[.int .i64 0, .int .i64 (n : Int), .int .i64 g0, .bool rw0, .bool ru0, .bool rx0, .bool false], .bool true]) := he; subst he; have L9 := (L8.past (bal W8 (.cells #[.int .i64 0, .int .u64 ovz, .int .i64 0, .int .u64 0] 34))).past b9; have X9 := X8.past b9; have P9 := (P8.past (bal W8 (.cells #[.int .i64 0, .int .u64 ovz, .int .i64 0, .int .u64 0] 34))).past b9; have s9 := (s8.past (bal W8 (.cells #[.int .i64 0, .int .u64 ovz, .int .i64 0, .int .u64 0] 34))).past b9; have K9 := Blk.new W9 49 [.int .i64 0, .int .i64 (n : Int), .int .i64 g0, .bool rw0, .bool ru0, .bool rx0, .bool false]; have x90 := X9.cell (k := 0) rfl; have x91 := X9.cell (k := 1) rfl; have x92 := X9.cell (k := 2) rfl; have x93 := X9.cell (k := 3) rfl; have x9l := X9.lt; have p90 := P9.cell (k := 0) rfl; have p91 := P9.cell (k := 1) rfl; have p92 := P9.cell (k := 2) rfl; have p93 := P9.cell (k := 3) rfl; have p94 := P9.cell (k := 4) rfl; have p95 := P9.cell (k := 5) rfl; have p96 := P9.cell (k := 6) rfl; have p9l := P9.lt)
                  | (go_at_call 21; (with_reducible refine (HGt.out _ _ _ (L9.past (bal W9 (.cells #[.int .i64 0, .int .i64 (n : Int), .int .i64 g0, .bool rw0, .bool ru0, .bool rx0, .bool false] 49)))).mono ?_); rintro e W10 ⟨he, b10⟩; rw [show (rd h16 S'.mem g0 (wo : Int)) = some y3 from HY3.out] at he; simp only [Option.getD_some, Option.isSome_some] at he; subst he; have L10 := (L9.past (bal W9 (.cells #[.int .i64 0, .int .i64 (n : Int), .int .i64 g0, .bool rw0, .bool ru0, .bool rx0, .bool false] 49))).past b10; have X10 := (X9.past (bal W9 (.cells #[.int .i64 0, .int .i64 (n : Int), .int .i64 g0, .bool rw0, .bool ru0, .bool rx0, .bool false] 49))).past b10; have P10 := (P9.past (bal W9 (.cells #[.int .i64 0, .int .i64 (n : Int), .int .i64 g0, .bool rw0, .bool ru0, .bool rx0, .bool false] 49))).past b10; have s10 := (s9.past (bal W9 (.cells #[.int .i64 0, .int .i64 (n : Int), .int .i64 g0, .bool rw0, .bool ru0, .bool rx0, .bool false] 49))).past b10; have K10 := K9.past b10; have x100 := X10.cell (k := 0) rfl; have x101 := X10.cell (k := 1) rfl; have x102 := X10.cell (k := 2) rfl; have x103 := X10.cell (k := 3) rfl; have x10l := X10.lt; have p100 := P10.cell (k := 0) rfl; have p101 := P10.cell (k := 1) rfl; have p102 := P10.cell (k := 2) rfl; have p103 := P10.cell (k := 3) rfl; have p104 := P10.cell (k := 4) rfl; have p105 := P10.cell (k := 5) rfl; have p106 := P10.cell (k := 6) rfl; have p10l := P10.lt; have k100 := K10.cell (k := 0) rfl; have k101 := K10.cell (k := 1) rfl; have k102 := K10.cell (k := 2) rfl; have k103 := K10.cell (k := 3) rfl; have k104 := K10.cell (k := 4) rfl; have k105 := K10.cell (k := 5) rfl; have k106 := K10.cell (k := 6) rfl; have k10l := K10.lt; clear n0 n9 wo0 wo9 rd0 rd9 hn1 hw1 hr1 p0 p1 wq0 wq1 kq0 kq1 rq0 rq1 holen h6' h2'))
                -- the worlds named
                obtain ⟨W10a, hW10⟩ : ∃ W, W10.alloc (.cells #[.int .i64 0, .int .i64 (n : Int), .int .i64 g0, .bool rw0, .bool ru0, .bool rx0, .bool false] 49) = W := ⟨_, rfl⟩
                have KK := Blk.new W10 49 [.int .i64 0, .int .i64 (n : Int), .int .i64 g0, .bool rw0, .bool ru0, .bool rx0, .bool false]
                rw [show (W10.alloc (.cells ([.int .i64 0, .int .i64 (n : Int), .int .i64 g0, .bool rw0, .bool ru0, .bool rx0, .bool false] : List Value).toArray 49)) = W10a from hW10] at KK
                have bb := bal W10 (.cells #[.int .i64 0, .int .i64 (n : Int), .int .i64 g0, .bool rw0, .bool ru0, .bool rx0, .bool false] 49)
                rw [hW10] at bb ⊢
                have LA := L10.past bb
                have XA := X10.past bb
                have PA := P10.past bb
                have KA := K10.past bb
                have sA := s10.past bb
                obtain ⟨b26, e26⟩ : ∃ b, W6.heap.size = b := ⟨_, rfl⟩
                obtain ⟨b31, e31⟩ : ∃ b, W8.heap.size = b := ⟨_, rfl⟩
                obtain ⟨b32, e32⟩ : ∃ b, W9.heap.size = b := ⟨_, rfl⟩
                obtain ⟨b36, e36⟩ : ∃ b, W10.heap.size = b := ⟨_, rfl⟩
                rw [e26] at PA ⊢
                rw [e31] at XA ⊢
                rw [e32] at KA ⊢
                rw [e36] at KK ⊢
                clear hW10 bb e26 e31 e32 e36 p60 p61 p62 p63 p64 p65 p66 p6l x90 x91 x92 x93 x9l p90 p91 p92 p93 p94 p95 p96 p9l x100 x101 x102 x103 x10l p100 p101 p102 p103 p104 p105 p106 p10l k100 k101 k102 k103 k104 k105 k106 k10l
                clear L4 L5 L6 L7 L8 L9 L10 P6 P7 P8 P9 P10 X8 X9 X10 K9 K10 s6 s6a s7 s8 s9 s10 b4 b6 b7 b9 b10
                have HSl := Lib.hid sA
                have hpn3 : pn ≤ 3 := by have := HPn.out; omega
                go_loopw [37, 38] (fun u i wr => ∃ k : Nat, k ≤ pn ∧ i = .int .i64 k ∧ u = .bool (hasP ats g0 (wo : Int) k) ∧ Below W10a.heap.size W10a wr) (fun _ i _ => pn - (intOf i).toNat)
                case atStart => exact ⟨0, by omega, rfl, rfl, Below.refl _ _⟩
                case round =>
                  obtain ⟨k, hk, rfl, rfl, B⟩ := hrel
                  have PB := PA.past B
                  have XB := XA.past B
                  have KB := KA.past B
                  have KC := KK.past B
                  have pb0 := PB.cell (k := 0) rfl
                  have pb1 := PB.cell (k := 1) rfl
                  have pb2 := PB.cell (k := 2) rfl
                  have pb3 := PB.cell (k := 3) rfl
                  have pb4 := PB.cell (k := 4) rfl
                  have pb5 := PB.cell (k := 5) rfl
                  have pb6 := PB.cell (k := 6) rfl
                  have pbl := PB.lt
                  by_cases hkl : k < pn
                  · have hs := hasP_succ ats g0 (wo : Int) k
                    obtain ⟨f, hf⟩ : ∃ f, hasP ats g0 (wo : Int) k = f := ⟨_, rfl⟩
                    rw [hf] at hs ⊢
                    rcases HSl.out.past B with ⟨_, h2⟩ | ⟨sb, rest, rfl, hsb⟩
                    · exfalso; have := HPn.out; rw [h2] at this; simp at this; omega
                    obtain ⟨t0, t1⟩ := Sl.at hsb k (by rw [HPn.out]; exact hkl)
                    obtain ⟨q1, hq1⟩ : ∃ z, (ats.getD k (0, 0)).1 = z := ⟨_, rfl⟩
                    obtain ⟨q2, hq2⟩ : ∃ z, (ats.getD k (0, 0)).2 = z := ⟨_, rfl⟩
                    rw [hq1] at t0 hs
                    rw [hq2] at t1 hs
                    have hsl := hsb.lt
                    have HS := Lib.hid hs
                    have HB := Lib.hid B
                    clear hs hq1 hq2 hf hsb B
                    cases f with
                    | true =>
                      go_wp2_with fail
                      go_quiet (fail)
                      go_wp2
                      go_roundw
                      case rel => exact ⟨k + 1, by omega, by simp, by rw [HS.out]; rfl, by first | exact HB.out | exact HB.out.drew | exact below_drewN HB.out _⟩
                      case measure => simp [intOf]; omega
                    | false =>
                      by_cases c1 : q1 = g0
                      · subst c1
                        by_cases c2 : q2 = (wo : Int)
                        · subst c2
                          go_wp2_with fail
                          go_quiet (fail)
                          go_wp2
                          go_roundw
                          case rel => exact ⟨k + 1, by omega, by simp, by rw [HS.out]; simp, by first | exact HB.out | exact HB.out.drew | exact below_drewN HB.out _⟩
                          case measure => simp [intOf]; omega
                        · have e2 : (q2 == (wo : Int)) = false := beq_eq_false_iff_ne.2 c2
                          have HC2 := Lib.hid c2
                          clear c2
                          go_wp2_with fail
                          go_quiet (fail)
                          go_wp2
                          go_roundw
                          case rel => exact ⟨k + 1, by omega, by simp, by rw [HS.out, decide_eq_false HC2.out]; simp, by first | exact HB.out | exact HB.out.drew | exact below_drewN HB.out _⟩
                          case measure => simp [intOf]; omega
                      · have e1 : (q1 == g0) = false := beq_eq_false_iff_ne.2 c1
                        have HC1 := Lib.hid c1
                        clear c1
                        go_wp2_with fail
                        go_quiet (fail)
                        go_wp2
                        go_roundw
                        case rel => exact ⟨k + 1, by omega, by simp, by rw [HS.out, decide_eq_false HC1.out]; simp, by first | exact HB.out | exact HB.out.drew | exact below_drewN HB.out _⟩
                        case measure => simp [intOf]; omega
                  · obtain rfl : k = pn := by omega
                    have xb0 := XB.cell (k := 0) rfl
                    have xb1 := XB.cell (k := 1) rfl
                    have xb2 := XB.cell (k := 2) rfl
                    have xb3 := XB.cell (k := 3) rfl
                    have xbl := XB.lt
                    have kb0 := KB.cell (k := 0) rfl
                    have kb1 := KB.cell (k := 1) rfl
                    have kb2 := KB.cell (k := 2) rfl
                    have kb3 := KB.cell (k := 3) rfl
                    have kb4 := KB.cell (k := 4) rfl
                    have kb5 := KB.cell (k := 5) rfl
                    have kb6 := KB.cell (k := 6) rfl
                    have kbl := KB.lt
                    have kc0 := KC.cell (k := 0) rfl
                    have kc1 := KC.cell (k := 1) rfl
                    have kc2 := KC.cell (k := 2) rfl
                    have kc3 := KC.cell (k := 3) rfl
                    have kc4 := KC.cell (k := 4) rfl
                    have kc5 := KC.cell (k := 5) rfl
                    have kc6 := KC.cell (k := 6) rfl
                    have kcl := KC.lt
                    have HB := Lib.hid B
                    have HLA := Lib.hid LA
                    clear hkl hk B LA
                    by_cases hov : ov2 = y
                    · subst hov
                      obtain rfl : ovz = yz := HOv.out.symm.trans HYz.out
                      go_wp2_with fail
                      go_quiet (fail)
                      go_wp2
                      go_ret
                      exact ⟨rfl, HLA.out.b.trans (below_drewN HB.out _ |>.mono HLA.out.b.size)⟩
                    · obtain ⟨hin, hov2⟩ := HQ.out.resolve_left hov
                      rw [HPn.out] at hin
                      rw [hin]
                      have hne : (ovz == yz) = false := by
                        rw [beq_eq_false_iff_ne, ← HOv.out, ← HYz.out]; intro e; exact hov (Int.ofNat_inj.1 e)
                      have hu : ∀ W, Calls Tryz.prog 24 #[.int .u64 yz, .bool false] W fun e w' => e = .returned (.int .u64 ovz) ∧ W = w' := fun W => by
                        have := rused_any W y false ov2 hov2.symm HYb.out
                        rw [HYz.out, HOv.out] at this; exact this
                      have HU := Lib.hid hu
                      clear hov hin hov2 hu
                      go_wp2_with fail
                      go_region_held3 (fun w' => w'.cell? ⟨b31, 0, none⟩ = some (.int .i64 0) ∧ w'.cell? ⟨b31, 1, none⟩ = some (.int .u64 ovz) ∧ w'.cell? ⟨b31, 2, none⟩ = some (.int .i64 0) ∧ w'.cell? ⟨b31, 3, none⟩ = some (.int .u64 0) ∧ w'.cell? ⟨b32, 0, none⟩ = some (.int .i64 0) ∧ w'.cell? ⟨b32, 1, none⟩ = some (.int .i64 (n : Int)) ∧ w'.cell? ⟨b32, 2, none⟩ = some (.int .i64 g0) ∧ w'.cell? ⟨b32, 3, none⟩ = some (.bool rw0) ∧ w'.cell? ⟨b32, 4, none⟩ = some (.bool ru0) ∧ w'.cell? ⟨b32, 5, none⟩ = some (.bool rx0) ∧ w'.cell? ⟨b32, 6, none⟩ = some (.bool false) ∧ w'.cell? ⟨b36, 0, none⟩ = some (.int .i64 0) ∧ w'.cell? ⟨b36, 1, none⟩ = some (.int .i64 (n : Int)) ∧ w'.cell? ⟨b36, 2, none⟩ = some (.int .i64 g0) ∧ w'.cell? ⟨b36, 3, none⟩ = some (.bool rw0) ∧ w'.cell? ⟨b36, 4, none⟩ = some (.bool ru0) ∧ w'.cell? ⟨b36, 5, none⟩ = some (.bool rx0) ∧ w'.cell? ⟨b36, 6, none⟩ = some (.bool false)) (go_keep) (first
                        | (go_at_call 24; (with_reducible refine (HU.out _).mono ?_); rintro e W12 ⟨rfl, rfl⟩))
                      all_goals go_wp2
                      all_goals go_ret
                      all_goals exact ⟨rfl, HLA.out.b.trans (below_drewN HB.out _ |>.mono HLA.out.b.size)⟩
            · subst hk
              have hc := HC.out.resolve_left (fun h => absurd h.1 (by decide))
              cases pd with
              | true =>
                obtain ⟨_, hsm, hor⟩ := hc
                obtain ⟨y3, hy3⟩ := Option.isSome_iff_exists.1 hsm
                have HY3 := Lib.hid hy3
                obtain ⟨ovz, hovz⟩ : ∃ z : Int, (ov2 : Int) = z := ⟨_, rfl⟩
                obtain ⟨yz, hyz⟩ : ∃ z : Int, (y : Int) = z := ⟨_, rfl⟩
                have hq : oh = 0 ∧ ocd = 0 ∧ oad = 0 ∧ (ov2 = y ∨ (hasP ats g0 (wo : Int) ats.length = true ∧ ov2 = usedW y false)) := by
                  rcases hor with h | ⟨h1, h⟩
                  · injection h with q1 q2 q3 q4
                    exact ⟨q1, q3, q4, .inl q2⟩
                  · injection h with q1 q2 q3 q4
                    exact ⟨q1, q3, q4, .inr ⟨hasP_mem h1, q2⟩⟩
                obtain ⟨q1, q3, q4, q2⟩ := hq
                subst q1 q3 q4
                have HQ := Lib.hid q2
                have HOv := Lib.hid hovz
                have HYz := Lib.hid hyz
                have HPn := Lib.hid hpn
                clear hsm hy3 hovz hyz hor q2 hpn
                have hgy : ∀ W, Lw w [] W p tp gp fb (dropS S (n : Int)) → Calls Tryz.prog 21 #[.pointer (some ⟨gp, 0, none⟩), .int .i64 g0, .int .i64 (wo : Int)] W fun e w' => e = .returned (.tuple #[.int .u64 yz, .bool true]) ∧ Below W.heap.size W w' := fun W L => by
                  have := HGt.out W [] _ L
                  rw [show rd h16 (dropS S (n : Int)).mem g0 (wo : Int) = some y from HHy.out] at this
                  simp only [Option.getD_some, Option.isSome_some] at this
                  rw [HYz.out] at this
                  exact this
                have HGy := Lib.hid hgy
                clear hgy
                go_wp2_with (first
                  | (go_at_call 18; (with_reducible refine (HJ.out _).mono ?_); rintro e W4 ⟨rfl, b4⟩; have L4 := HLw.out.past b4)
                  | (go_at_call 19; (with_reducible refine (HFo.out _ _ L4).mono ?_); rintro e W5 ⟨⟨fbv, rfl⟩, D⟩; have L5 := L4.did D; clear D)
                  | (go_at_call 20; (with_reducible refine (HWk.out _ _ L5).mono ?_); rintro e W6 ⟨b6, a6, c6, rfl, s6⟩; have L6 := L5.past b6; have P6 := Blk.new W6 42 [.slice a6 pn c6, .int .i64 g0, .bool rw0, .bool ru0, .bool rx0, .bool lg, .bool true]; have s6a := s6.past (bal W6 (.cells #[.slice a6 pn c6, .int .i64 g0, .bool rw0, .bool ru0, .bool rx0, .bool lg, .bool true] 42)); have p60 := P6.cell (k := 0) rfl; have p61 := P6.cell (k := 1) rfl; have p62 := P6.cell (k := 2) rfl; have p63 := P6.cell (k := 3) rfl; have p64 := P6.cell (k := 4) rfl; have p65 := P6.cell (k := 5) rfl; have p66 := P6.cell (k := 6) rfl; have p6l := P6.lt)
                  | (go_at_call 21; (with_reducible refine (HGy.out _ (L6.past (bal W6 (.cells #[.slice a6 pn c6, .int .i64 g0, .bool rw0, .bool ru0, .bool rx0, .bool lg, .bool true] 42)))).mono ?_); rintro e W7 ⟨rfl, b7⟩; have L7 := (L6.past (bal W6 (.cells #[.slice a6 pn c6, .int .i64 g0, .bool rw0, .bool ru0, .bool rx0, .bool lg, .bool true] 42))).past b7; have P7 := P6.past b7; have s7 := s6a.past b7)
                  | (go_at_call 22; (with_reducible refine (HAc.out _ _ _ L7).mono ?_); rintro e W8 ⟨he, D⟩; rw [HHa.out] at he D; have he : e = Ending.returned (.agg #[.int .i64 0, .int .u64 (ov2 : Int), .int .i64 0, .int .u64 0]) := he; rw [HOv.out] at he; subst he; have L8 := L7.did D; have P8 := D.2.2.blk P7 ⟨by decide, by decide, by decide, by decide⟩; have s8 := D.2.2.sl s7; have X8 := Blk.new W8 34 [.int .i64 0, .int .u64 ovz, .int .i64 0, .int .u64 0]; clear D)
                  | (go_at_call 23; (with_reducible refine (HKn.out _ _ _ _ HHt.out (L8.past (bal W8 (.cells #[.int .i64 0, .int .u64 ovz, .int .i64 0, .int .u64 0] 34)))).mono ?_); rintro e W9 ⟨he, b9⟩; have he : e = Ending.returned (.tuple #[.agg #[.int .i64 0, .int .i64 (n : Int), .int .i64 g0, .bool rw0, .bool ru0, .bool rx0, .bool true], .bool true]) := he; subst he; have L9 := (L8.past (bal W8 (.cells #[.int .i64 0, .int .u64 ovz, .int .i64 0, .int .u64 0] 34))).past b9; have X9 := X8.past b9; have P9 := (P8.past (bal W8 (.cells #[.int .i64 0, .int .u64 ovz, .int .i64 0, .int .u64 0] 34))).past b9; have s9 := (s8.past (bal W8 (.cells #[.int .i64 0, .int .u64 ovz, .int .i64 0, .int .u64 0] 34))).past b9; have K9 := Blk.new W9 49 [.int .i64 0, .int .i64 (n : Int), .int .i64 g0, .bool rw0, .bool ru0, .bool rx0, .bool true]; have x90 := X9.cell (k := 0) rfl; have x91 := X9.cell (k := 1) rfl; have x92 := X9.cell (k := 2) rfl; have x93 := X9.cell (k := 3) rfl; have x9l := X9.lt; have p90 := P9.cell (k := 0) rfl; have p91 := P9.cell (k := 1) rfl; have p92 := P9.cell (k := 2) rfl; have p93 := P9.cell (k := 3) rfl; have p94 := P9.cell (k := 4) rfl; have p95 := P9.cell (k := 5) rfl; have p96 := P9.cell (k := 6) rfl; have p9l := P9.lt)
                  | (go_at_call 21; (with_reducible refine (HGt.out _ _ _ (L9.past (bal W9 (.cells #[.int .i64 0, .int .i64 (n : Int), .int .i64 g0, .bool rw0, .bool ru0, .bool rx0, .bool true] 49)))).mono ?_); rintro e W10 ⟨he, b10⟩; rw [show (rd h16 S'.mem g0 (wo : Int)) = some y3 from HY3.out] at he; simp only [Option.getD_some, Option.isSome_some] at he; subst he; have L10 := (L9.past (bal W9 (.cells #[.int .i64 0, .int .i64 (n : Int), .int .i64 g0, .bool rw0, .bool ru0, .bool rx0, .bool true] 49))).past b10; have X10 := (X9.past (bal W9 (.cells #[.int .i64 0, .int .i64 (n : Int), .int .i64 g0, .bool rw0, .bool ru0, .bool rx0, .bool true] 49))).past b10; have P10 := (P9.past (bal W9 (.cells #[.int .i64 0, .int .i64 (n : Int), .int .i64 g0, .bool rw0, .bool ru0, .bool rx0, .bool true] 49))).past b10; have s10 := (s9.past (bal W9 (.cells #[.int .i64 0, .int .i64 (n : Int), .int .i64 g0, .bool rw0, .bool ru0, .bool rx0, .bool true] 49))).past b10; have K10 := K9.past b10; have x100 := X10.cell (k := 0) rfl; have x101 := X10.cell (k := 1) rfl; have x102 := X10.cell (k := 2) rfl; have x103 := X10.cell (k := 3) rfl; have x10l := X10.lt; have p100 := P10.cell (k := 0) rfl; have p101 := P10.cell (k := 1) rfl; have p102 := P10.cell (k := 2) rfl; have p103 := P10.cell (k := 3) rfl; have p104 := P10.cell (k := 4) rfl; have p105 := P10.cell (k := 5) rfl; have p106 := P10.cell (k := 6) rfl; have p10l := P10.lt; have k100 := K10.cell (k := 0) rfl; have k101 := K10.cell (k := 1) rfl; have k102 := K10.cell (k := 2) rfl; have k103 := K10.cell (k := 3) rfl; have k104 := K10.cell (k := 4) rfl; have k105 := K10.cell (k := 5) rfl; have k106 := K10.cell (k := 6) rfl; have k10l := K10.lt; clear n0 n9 wo0 wo9 rd0 rd9 hn1 hw1 hr1 p0 p1 wq0 wq1 kq0 kq1 rq0 rq1 holen h6' h2'))
                -- the worlds named
                obtain ⟨W10a, hW10⟩ : ∃ W, W10.alloc (.cells #[.int .i64 0, .int .i64 (n : Int), .int .i64 g0, .bool rw0, .bool ru0, .bool rx0, .bool true] 49) = W := ⟨_, rfl⟩
                have KK := Blk.new W10 49 [.int .i64 0, .int .i64 (n : Int), .int .i64 g0, .bool rw0, .bool ru0, .bool rx0, .bool true]
                rw [show (W10.alloc (.cells ([.int .i64 0, .int .i64 (n : Int), .int .i64 g0, .bool rw0, .bool ru0, .bool rx0, .bool true] : List Value).toArray 49)) = W10a from hW10] at KK
                have bb := bal W10 (.cells #[.int .i64 0, .int .i64 (n : Int), .int .i64 g0, .bool rw0, .bool ru0, .bool rx0, .bool true] 49)
                rw [hW10] at bb ⊢
                have LA := L10.past bb
                have XA := X10.past bb
                have PA := P10.past bb
                have KA := K10.past bb
                have sA := s10.past bb
                obtain ⟨b26, e26⟩ : ∃ b, W6.heap.size = b := ⟨_, rfl⟩
                obtain ⟨b31, e31⟩ : ∃ b, W8.heap.size = b := ⟨_, rfl⟩
                obtain ⟨b32, e32⟩ : ∃ b, W9.heap.size = b := ⟨_, rfl⟩
                obtain ⟨b36, e36⟩ : ∃ b, W10.heap.size = b := ⟨_, rfl⟩
                rw [e26] at PA ⊢
                rw [e31] at XA ⊢
                rw [e32] at KA ⊢
                rw [e36] at KK ⊢
                clear hW10 bb e26 e31 e32 e36 p60 p61 p62 p63 p64 p65 p66 p6l x90 x91 x92 x93 x9l p90 p91 p92 p93 p94 p95 p96 p9l x100 x101 x102 x103 x10l p100 p101 p102 p103 p104 p105 p106 p10l k100 k101 k102 k103 k104 k105 k106 k10l
                clear L4 L5 L6 L7 L8 L9 L10 P6 P7 P8 P9 P10 X8 X9 X10 K9 K10 s6 s6a s7 s8 s9 s10 b4 b6 b7 b9 b10
                have HSl := Lib.hid sA
                have hpn3 : pn ≤ 3 := by have := HPn.out; omega
                go_loopw [37, 38] (fun u i wr => ∃ k : Nat, k ≤ pn ∧ i = .int .i64 k ∧ u = .bool (hasP ats g0 (wo : Int) k) ∧ Below W10a.heap.size W10a wr) (fun _ i _ => pn - (intOf i).toNat)
                case atStart => exact ⟨0, by omega, rfl, rfl, Below.refl _ _⟩
                case round =>
                  obtain ⟨k, hk, rfl, rfl, B⟩ := hrel
                  have PB := PA.past B
                  have XB := XA.past B
                  have KB := KA.past B
                  have KC := KK.past B
                  have pb0 := PB.cell (k := 0) rfl
                  have pb1 := PB.cell (k := 1) rfl
                  have pb2 := PB.cell (k := 2) rfl
                  have pb3 := PB.cell (k := 3) rfl
                  have pb4 := PB.cell (k := 4) rfl
                  have pb5 := PB.cell (k := 5) rfl
                  have pb6 := PB.cell (k := 6) rfl
                  have pbl := PB.lt
                  by_cases hkl : k < pn
                  · have hs := hasP_succ ats g0 (wo : Int) k
                    obtain ⟨f, hf⟩ : ∃ f, hasP ats g0 (wo : Int) k = f := ⟨_, rfl⟩
                    rw [hf] at hs ⊢
                    rcases HSl.out.past B with ⟨_, h2⟩ | ⟨sb, rest, rfl, hsb⟩
                    · exfalso; have := HPn.out; rw [h2] at this; simp at this; omega
                    obtain ⟨t0, t1⟩ := Sl.at hsb k (by rw [HPn.out]; exact hkl)
                    obtain ⟨q1, hq1⟩ : ∃ z, (ats.getD k (0, 0)).1 = z := ⟨_, rfl⟩
                    obtain ⟨q2, hq2⟩ : ∃ z, (ats.getD k (0, 0)).2 = z := ⟨_, rfl⟩
                    rw [hq1] at t0 hs
                    rw [hq2] at t1 hs
                    have hsl := hsb.lt
                    have HS := Lib.hid hs
                    have HB := Lib.hid B
                    clear hs hq1 hq2 hf hsb B
                    cases f with
                    | true =>
                      go_wp2_with fail
                      go_quiet (fail)
                      go_wp2
                      go_roundw
                      case rel => exact ⟨k + 1, by omega, by simp, by rw [HS.out]; rfl, by first | exact HB.out | exact HB.out.drew | exact below_drewN HB.out _⟩
                      case measure => simp [intOf]; omega
                    | false =>
                      by_cases c1 : q1 = g0
                      · subst c1
                        by_cases c2 : q2 = (wo : Int)
                        · subst c2
                          go_wp2_with fail
                          go_quiet (fail)
                          go_wp2
                          go_roundw
                          case rel => exact ⟨k + 1, by omega, by simp, by rw [HS.out]; simp, by first | exact HB.out | exact HB.out.drew | exact below_drewN HB.out _⟩
                          case measure => simp [intOf]; omega
                        · have e2 : (q2 == (wo : Int)) = false := beq_eq_false_iff_ne.2 c2
                          have HC2 := Lib.hid c2
                          clear c2
                          go_wp2_with fail
                          go_quiet (fail)
                          go_wp2
                          go_roundw
                          case rel => exact ⟨k + 1, by omega, by simp, by rw [HS.out, decide_eq_false HC2.out]; simp, by first | exact HB.out | exact HB.out.drew | exact below_drewN HB.out _⟩
                          case measure => simp [intOf]; omega
                      · have e1 : (q1 == g0) = false := beq_eq_false_iff_ne.2 c1
                        have HC1 := Lib.hid c1
                        clear c1
                        go_wp2_with fail
                        go_quiet (fail)
                        go_wp2
                        go_roundw
                        case rel => exact ⟨k + 1, by omega, by simp, by rw [HS.out, decide_eq_false HC1.out]; simp, by first | exact HB.out | exact HB.out.drew | exact below_drewN HB.out _⟩
                        case measure => simp [intOf]; omega
                  · obtain rfl : k = pn := by omega
                    have xb0 := XB.cell (k := 0) rfl
                    have xb1 := XB.cell (k := 1) rfl
                    have xb2 := XB.cell (k := 2) rfl
                    have xb3 := XB.cell (k := 3) rfl
                    have xbl := XB.lt
                    have kb0 := KB.cell (k := 0) rfl
                    have kb1 := KB.cell (k := 1) rfl
                    have kb2 := KB.cell (k := 2) rfl
                    have kb3 := KB.cell (k := 3) rfl
                    have kb4 := KB.cell (k := 4) rfl
                    have kb5 := KB.cell (k := 5) rfl
                    have kb6 := KB.cell (k := 6) rfl
                    have kbl := KB.lt
                    have kc0 := KC.cell (k := 0) rfl
                    have kc1 := KC.cell (k := 1) rfl
                    have kc2 := KC.cell (k := 2) rfl
                    have kc3 := KC.cell (k := 3) rfl
                    have kc4 := KC.cell (k := 4) rfl
                    have kc5 := KC.cell (k := 5) rfl
                    have kc6 := KC.cell (k := 6) rfl
                    have kcl := KC.lt
                    have HB := Lib.hid B
                    have HLA := Lib.hid LA
                    clear hkl hk B LA
                    by_cases hov : ov2 = y
                    · subst hov
                      obtain rfl : ovz = yz := HOv.out.symm.trans HYz.out
                      go_wp2_with fail
                      go_quiet (fail)
                      go_wp2
                      go_ret
                      exact ⟨rfl, HLA.out.b.trans (below_drewN HB.out _ |>.mono HLA.out.b.size)⟩
                    · obtain ⟨hin, hov2⟩ := HQ.out.resolve_left hov
                      rw [HPn.out] at hin
                      rw [hin]
                      have hne : (ovz == yz) = false := by
                        rw [beq_eq_false_iff_ne, ← HOv.out, ← HYz.out]; intro e; exact hov (Int.ofNat_inj.1 e)
                      have hu : ∀ W, Calls Tryz.prog 24 #[.int .u64 yz, .bool false] W fun e w' => e = .returned (.int .u64 ovz) ∧ W = w' := fun W => by
                        have := rused_any W y false ov2 hov2.symm HYb.out
                        rw [HYz.out, HOv.out] at this; exact this
                      have HU := Lib.hid hu
                      clear hov hin hov2 hu
                      go_wp2_with fail
                      go_region_held3 (fun w' => w'.cell? ⟨b31, 0, none⟩ = some (.int .i64 0) ∧ w'.cell? ⟨b31, 1, none⟩ = some (.int .u64 ovz) ∧ w'.cell? ⟨b31, 2, none⟩ = some (.int .i64 0) ∧ w'.cell? ⟨b31, 3, none⟩ = some (.int .u64 0) ∧ w'.cell? ⟨b32, 0, none⟩ = some (.int .i64 0) ∧ w'.cell? ⟨b32, 1, none⟩ = some (.int .i64 (n : Int)) ∧ w'.cell? ⟨b32, 2, none⟩ = some (.int .i64 g0) ∧ w'.cell? ⟨b32, 3, none⟩ = some (.bool rw0) ∧ w'.cell? ⟨b32, 4, none⟩ = some (.bool ru0) ∧ w'.cell? ⟨b32, 5, none⟩ = some (.bool rx0) ∧ w'.cell? ⟨b32, 6, none⟩ = some (.bool true) ∧ w'.cell? ⟨b36, 0, none⟩ = some (.int .i64 0) ∧ w'.cell? ⟨b36, 1, none⟩ = some (.int .i64 (n : Int)) ∧ w'.cell? ⟨b36, 2, none⟩ = some (.int .i64 g0) ∧ w'.cell? ⟨b36, 3, none⟩ = some (.bool rw0) ∧ w'.cell? ⟨b36, 4, none⟩ = some (.bool ru0) ∧ w'.cell? ⟨b36, 5, none⟩ = some (.bool rx0) ∧ w'.cell? ⟨b36, 6, none⟩ = some (.bool true)) (go_keep) (first
                        | (go_at_call 24; (with_reducible refine (HU.out _).mono ?_); rintro e W12 ⟨rfl, rfl⟩))
                      all_goals go_wp2
                      all_goals go_ret
                      all_goals exact ⟨rfl, HLA.out.b.trans (below_drewN HB.out _ |>.mono HLA.out.b.size)⟩
              | false =>
                obtain ⟨_, hsm, hor⟩ := hc
                obtain ⟨y3, hy3⟩ := Option.isSome_iff_exists.1 hsm
                have HY3 := Lib.hid hy3
                obtain ⟨ovz, hovz⟩ : ∃ z : Int, (ov2 : Int) = z := ⟨_, rfl⟩
                obtain ⟨yz, hyz⟩ : ∃ z : Int, (y : Int) = z := ⟨_, rfl⟩
                have hq : oh = 0 ∧ ocd = 0 ∧ oad = 0 ∧ (ov2 = y ∨ (hasP ats g0 (wo : Int) ats.length = true ∧ ov2 = usedW y false)) := by
                  rcases hor with h | ⟨h1, h⟩
                  · injection h with q1 q2 q3 q4
                    exact ⟨q1, q3, q4, .inl q2⟩
                  · injection h with q1 q2 q3 q4
                    exact ⟨q1, q3, q4, .inr ⟨hasP_mem h1, q2⟩⟩
                obtain ⟨q1, q3, q4, q2⟩ := hq
                subst q1 q3 q4
                have HQ := Lib.hid q2
                have HOv := Lib.hid hovz
                have HYz := Lib.hid hyz
                have HPn := Lib.hid hpn
                clear hsm hy3 hovz hyz hor q2 hpn
                have hgy : ∀ W, Lw w [] W p tp gp fb (dropS S (n : Int)) → Calls Tryz.prog 21 #[.pointer (some ⟨gp, 0, none⟩), .int .i64 g0, .int .i64 (wo : Int)] W fun e w' => e = .returned (.tuple #[.int .u64 yz, .bool true]) ∧ Below W.heap.size W w' := fun W L => by
                  have := HGt.out W [] _ L
                  rw [show rd h16 (dropS S (n : Int)).mem g0 (wo : Int) = some y from HHy.out] at this
                  simp only [Option.getD_some, Option.isSome_some] at this
                  rw [HYz.out] at this
                  exact this
                have HGy := Lib.hid hgy
                clear hgy
                go_wp2_with (first
                  | (go_at_call 18; (with_reducible refine (HJ.out _).mono ?_); rintro e W4 ⟨rfl, b4⟩; have L4 := HLw.out.past b4)
                  | (go_at_call 19; (with_reducible refine (HFo.out _ _ L4).mono ?_); rintro e W5 ⟨⟨fbv, rfl⟩, D⟩; have L5 := L4.did D; clear D)
                  | (go_at_call 20; (with_reducible refine (HWk.out _ _ L5).mono ?_); rintro e W6 ⟨b6, a6, c6, rfl, s6⟩; have L6 := L5.past b6; have P6 := Blk.new W6 42 [.slice a6 pn c6, .int .i64 g0, .bool rw0, .bool ru0, .bool rx0, .bool lg, .bool false]; have s6a := s6.past (bal W6 (.cells #[.slice a6 pn c6, .int .i64 g0, .bool rw0, .bool ru0, .bool rx0, .bool lg, .bool false] 42)); have p60 := P6.cell (k := 0) rfl; have p61 := P6.cell (k := 1) rfl; have p62 := P6.cell (k := 2) rfl; have p63 := P6.cell (k := 3) rfl; have p64 := P6.cell (k := 4) rfl; have p65 := P6.cell (k := 5) rfl; have p66 := P6.cell (k := 6) rfl; have p6l := P6.lt)
                  | (go_at_call 21; (with_reducible refine (HGy.out _ (L6.past (bal W6 (.cells #[.slice a6 pn c6, .int .i64 g0, .bool rw0, .bool ru0, .bool rx0, .bool lg, .bool false] 42)))).mono ?_); rintro e W7 ⟨rfl, b7⟩; have L7 := (L6.past (bal W6 (.cells #[.slice a6 pn c6, .int .i64 g0, .bool rw0, .bool ru0, .bool rx0, .bool lg, .bool false] 42))).past b7; have P7 := P6.past b7; have s7 := s6a.past b7)
                  | (go_at_call 22; (with_reducible refine (HAc.out _ _ _ L7).mono ?_); rintro e W8 ⟨he, D⟩; rw [HHa.out] at he D; have he : e = Ending.returned (.agg #[.int .i64 0, .int .u64 (ov2 : Int), .int .i64 0, .int .u64 0]) := he; rw [HOv.out] at he; subst he; have L8 := L7.did D; have P8 := D.2.2.blk P7 ⟨by decide, by decide, by decide, by decide⟩; have s8 := D.2.2.sl s7; have X8 := Blk.new W8 34 [.int .i64 0, .int .u64 ovz, .int .i64 0, .int .u64 0]; clear D)
                  | (go_at_call 23; (with_reducible refine (HKn.out _ _ _ _ HHt.out (L8.past (bal W8 (.cells #[.int .i64 0, .int .u64 ovz, .int .i64 0, .int .u64 0] 34)))).mono ?_); rintro e W9 ⟨he, b9⟩; have he : e = Ending.returned (.tuple #[.agg #[.int .i64 0, .int .i64 (n : Int), .int .i64 g0, .bool rw0, .bool ru0, .bool rx0, .bool false], .bool true]) := he; subst he; have L9 := (L8.past (bal W8 (.cells #[.int .i64 0, .int .u64 ovz, .int .i64 0, .int .u64 0] 34))).past b9; have X9 := X8.past b9; have P9 := (P8.past (bal W8 (.cells #[.int .i64 0, .int .u64 ovz, .int .i64 0, .int .u64 0] 34))).past b9; have s9 := (s8.past (bal W8 (.cells #[.int .i64 0, .int .u64 ovz, .int .i64 0, .int .u64 0] 34))).past b9; have K9 := Blk.new W9 49 [.int .i64 0, .int .i64 (n : Int), .int .i64 g0, .bool rw0, .bool ru0, .bool rx0, .bool false]; have x90 := X9.cell (k := 0) rfl; have x91 := X9.cell (k := 1) rfl; have x92 := X9.cell (k := 2) rfl; have x93 := X9.cell (k := 3) rfl; have x9l := X9.lt; have p90 := P9.cell (k := 0) rfl; have p91 := P9.cell (k := 1) rfl; have p92 := P9.cell (k := 2) rfl; have p93 := P9.cell (k := 3) rfl; have p94 := P9.cell (k := 4) rfl; have p95 := P9.cell (k := 5) rfl; have p96 := P9.cell (k := 6) rfl; have p9l := P9.lt)
                  | (go_at_call 21; (with_reducible refine (HGt.out _ _ _ (L9.past (bal W9 (.cells #[.int .i64 0, .int .i64 (n : Int), .int .i64 g0, .bool rw0, .bool ru0, .bool rx0, .bool false] 49)))).mono ?_); rintro e W10 ⟨he, b10⟩; rw [show (rd h16 S'.mem g0 (wo : Int)) = some y3 from HY3.out] at he; simp only [Option.getD_some, Option.isSome_some] at he; subst he; have L10 := (L9.past (bal W9 (.cells #[.int .i64 0, .int .i64 (n : Int), .int .i64 g0, .bool rw0, .bool ru0, .bool rx0, .bool false] 49))).past b10; have X10 := (X9.past (bal W9 (.cells #[.int .i64 0, .int .i64 (n : Int), .int .i64 g0, .bool rw0, .bool ru0, .bool rx0, .bool false] 49))).past b10; have P10 := (P9.past (bal W9 (.cells #[.int .i64 0, .int .i64 (n : Int), .int .i64 g0, .bool rw0, .bool ru0, .bool rx0, .bool false] 49))).past b10; have s10 := (s9.past (bal W9 (.cells #[.int .i64 0, .int .i64 (n : Int), .int .i64 g0, .bool rw0, .bool ru0, .bool rx0, .bool false] 49))).past b10; have K10 := K9.past b10; have x100 := X10.cell (k := 0) rfl; have x101 := X10.cell (k := 1) rfl; have x102 := X10.cell (k := 2) rfl; have x103 := X10.cell (k := 3) rfl; have x10l := X10.lt; have p100 := P10.cell (k := 0) rfl; have p101 := P10.cell (k := 1) rfl; have p102 := P10.cell (k := 2) rfl; have p103 := P10.cell (k := 3) rfl; have p104 := P10.cell (k := 4) rfl; have p105 := P10.cell (k := 5) rfl; have p106 := P10.cell (k := 6) rfl; have p10l := P10.lt; have k100 := K10.cell (k := 0) rfl; have k101 := K10.cell (k := 1) rfl; have k102 := K10.cell (k := 2) rfl; have k103 := K10.cell (k := 3) rfl; have k104 := K10.cell (k := 4) rfl; have k105 := K10.cell (k := 5) rfl; have k106 := K10.cell (k := 6) rfl; have k10l := K10.lt; clear n0 n9 wo0 wo9 rd0 rd9 hn1 hw1 hr1 p0 p1 wq0 wq1 kq0 kq1 rq0 rq1 holen h6' h2'))
                -- the worlds named
                obtain ⟨W10a, hW10⟩ : ∃ W, W10.alloc (.cells #[.int .i64 0, .int .i64 (n : Int), .int .i64 g0, .bool rw0, .bool ru0, .bool rx0, .bool false] 49) = W := ⟨_, rfl⟩
                have KK := Blk.new W10 49 [.int .i64 0, .int .i64 (n : Int), .int .i64 g0, .bool rw0, .bool ru0, .bool rx0, .bool false]
                rw [show (W10.alloc (.cells ([.int .i64 0, .int .i64 (n : Int), .int .i64 g0, .bool rw0, .bool ru0, .bool rx0, .bool false] : List Value).toArray 49)) = W10a from hW10] at KK
                have bb := bal W10 (.cells #[.int .i64 0, .int .i64 (n : Int), .int .i64 g0, .bool rw0, .bool ru0, .bool rx0, .bool false] 49)
                rw [hW10] at bb ⊢
                have LA := L10.past bb
                have XA := X10.past bb
                have PA := P10.past bb
                have KA := K10.past bb
                have sA := s10.past bb
                obtain ⟨b26, e26⟩ : ∃ b, W6.heap.size = b := ⟨_, rfl⟩
                obtain ⟨b31, e31⟩ : ∃ b, W8.heap.size = b := ⟨_, rfl⟩
                obtain ⟨b32, e32⟩ : ∃ b, W9.heap.size = b := ⟨_, rfl⟩
                obtain ⟨b36, e36⟩ : ∃ b, W10.heap.size = b := ⟨_, rfl⟩
                rw [e26] at PA ⊢
                rw [e31] at XA ⊢
                rw [e32] at KA ⊢
                rw [e36] at KK ⊢
                clear hW10 bb e26 e31 e32 e36 p60 p61 p62 p63 p64 p65 p66 p6l x90 x91 x92 x93 x9l p90 p91 p92 p93 p94 p95 p96 p9l x100 x101 x102 x103 x10l p100 p101 p102 p103 p104 p105 p106 p10l k100 k101 k102 k103 k104 k105 k106 k10l
                clear L4 L5 L6 L7 L8 L9 L10 P6 P7 P8 P9 P10 X8 X9 X10 K9 K10 s6 s6a s7 s8 s9 s10 b4 b6 b7 b9 b10
                have HSl := Lib.hid sA
                have hpn3 : pn ≤ 3 := by have := HPn.out; omega
                go_loopw [37, 38] (fun u i wr => ∃ k : Nat, k ≤ pn ∧ i = .int .i64 k ∧ u = .bool (hasP ats g0 (wo : Int) k) ∧ Below W10a.heap.size W10a wr) (fun _ i _ => pn - (intOf i).toNat)
                case atStart => exact ⟨0, by omega, rfl, rfl, Below.refl _ _⟩
                case round =>
                  obtain ⟨k, hk, rfl, rfl, B⟩ := hrel
                  have PB := PA.past B
                  have XB := XA.past B
                  have KB := KA.past B
                  have KC := KK.past B
                  have pb0 := PB.cell (k := 0) rfl
                  have pb1 := PB.cell (k := 1) rfl
                  have pb2 := PB.cell (k := 2) rfl
                  have pb3 := PB.cell (k := 3) rfl
                  have pb4 := PB.cell (k := 4) rfl
                  have pb5 := PB.cell (k := 5) rfl
                  have pb6 := PB.cell (k := 6) rfl
                  have pbl := PB.lt
                  by_cases hkl : k < pn
                  · have hs := hasP_succ ats g0 (wo : Int) k
                    obtain ⟨f, hf⟩ : ∃ f, hasP ats g0 (wo : Int) k = f := ⟨_, rfl⟩
                    rw [hf] at hs ⊢
                    rcases HSl.out.past B with ⟨_, h2⟩ | ⟨sb, rest, rfl, hsb⟩
                    · exfalso; have := HPn.out; rw [h2] at this; simp at this; omega
                    obtain ⟨t0, t1⟩ := Sl.at hsb k (by rw [HPn.out]; exact hkl)
                    obtain ⟨q1, hq1⟩ : ∃ z, (ats.getD k (0, 0)).1 = z := ⟨_, rfl⟩
                    obtain ⟨q2, hq2⟩ : ∃ z, (ats.getD k (0, 0)).2 = z := ⟨_, rfl⟩
                    rw [hq1] at t0 hs
                    rw [hq2] at t1 hs
                    have hsl := hsb.lt
                    have HS := Lib.hid hs
                    have HB := Lib.hid B
                    clear hs hq1 hq2 hf hsb B
                    cases f with
                    | true =>
                      go_wp2_with fail
                      go_quiet (fail)
                      go_wp2
                      go_roundw
                      case rel => exact ⟨k + 1, by omega, by simp, by rw [HS.out]; rfl, by first | exact HB.out | exact HB.out.drew | exact below_drewN HB.out _⟩
                      case measure => simp [intOf]; omega
                    | false =>
                      by_cases c1 : q1 = g0
                      · subst c1
                        by_cases c2 : q2 = (wo : Int)
                        · subst c2
                          go_wp2_with fail
                          go_quiet (fail)
                          go_wp2
                          go_roundw
                          case rel => exact ⟨k + 1, by omega, by simp, by rw [HS.out]; simp, by first | exact HB.out | exact HB.out.drew | exact below_drewN HB.out _⟩
                          case measure => simp [intOf]; omega
                        · have e2 : (q2 == (wo : Int)) = false := beq_eq_false_iff_ne.2 c2
                          have HC2 := Lib.hid c2
                          clear c2
                          go_wp2_with fail
                          go_quiet (fail)
                          go_wp2
                          go_roundw
                          case rel => exact ⟨k + 1, by omega, by simp, by rw [HS.out, decide_eq_false HC2.out]; simp, by first | exact HB.out | exact HB.out.drew | exact below_drewN HB.out _⟩
                          case measure => simp [intOf]; omega
                      · have e1 : (q1 == g0) = false := beq_eq_false_iff_ne.2 c1
                        have HC1 := Lib.hid c1
                        clear c1
                        go_wp2_with fail
                        go_quiet (fail)
                        go_wp2
                        go_roundw
                        case rel => exact ⟨k + 1, by omega, by simp, by rw [HS.out, decide_eq_false HC1.out]; simp, by first | exact HB.out | exact HB.out.drew | exact below_drewN HB.out _⟩
                        case measure => simp [intOf]; omega
                  · obtain rfl : k = pn := by omega
                    have xb0 := XB.cell (k := 0) rfl
                    have xb1 := XB.cell (k := 1) rfl
                    have xb2 := XB.cell (k := 2) rfl
                    have xb3 := XB.cell (k := 3) rfl
                    have xbl := XB.lt
                    have kb0 := KB.cell (k := 0) rfl
                    have kb1 := KB.cell (k := 1) rfl
                    have kb2 := KB.cell (k := 2) rfl
                    have kb3 := KB.cell (k := 3) rfl
                    have kb4 := KB.cell (k := 4) rfl
                    have kb5 := KB.cell (k := 5) rfl
                    have kb6 := KB.cell (k := 6) rfl
                    have kbl := KB.lt
                    have kc0 := KC.cell (k := 0) rfl
                    have kc1 := KC.cell (k := 1) rfl
                    have kc2 := KC.cell (k := 2) rfl
                    have kc3 := KC.cell (k := 3) rfl
                    have kc4 := KC.cell (k := 4) rfl
                    have kc5 := KC.cell (k := 5) rfl
                    have kc6 := KC.cell (k := 6) rfl
                    have kcl := KC.lt
                    have HB := Lib.hid B
                    have HLA := Lib.hid LA
                    clear hkl hk B LA
                    by_cases hov : ov2 = y
                    · subst hov
                      obtain rfl : ovz = yz := HOv.out.symm.trans HYz.out
                      go_wp2_with fail
                      go_quiet (fail)
                      go_wp2
                      go_ret
                      exact ⟨rfl, HLA.out.b.trans (below_drewN HB.out _ |>.mono HLA.out.b.size)⟩
                    · obtain ⟨hin, hov2⟩ := HQ.out.resolve_left hov
                      rw [HPn.out] at hin
                      rw [hin]
                      have hne : (ovz == yz) = false := by
                        rw [beq_eq_false_iff_ne, ← HOv.out, ← HYz.out]; intro e; exact hov (Int.ofNat_inj.1 e)
                      have hu : ∀ W, Calls Tryz.prog 24 #[.int .u64 yz, .bool false] W fun e w' => e = .returned (.int .u64 ovz) ∧ W = w' := fun W => by
                        have := rused_any W y false ov2 hov2.symm HYb.out
                        rw [HYz.out, HOv.out] at this; exact this
                      have HU := Lib.hid hu
                      clear hov hin hov2 hu
                      go_wp2_with fail
                      go_region_held3 (fun w' => w'.cell? ⟨b31, 0, none⟩ = some (.int .i64 0) ∧ w'.cell? ⟨b31, 1, none⟩ = some (.int .u64 ovz) ∧ w'.cell? ⟨b31, 2, none⟩ = some (.int .i64 0) ∧ w'.cell? ⟨b31, 3, none⟩ = some (.int .u64 0) ∧ w'.cell? ⟨b32, 0, none⟩ = some (.int .i64 0) ∧ w'.cell? ⟨b32, 1, none⟩ = some (.int .i64 (n : Int)) ∧ w'.cell? ⟨b32, 2, none⟩ = some (.int .i64 g0) ∧ w'.cell? ⟨b32, 3, none⟩ = some (.bool rw0) ∧ w'.cell? ⟨b32, 4, none⟩ = some (.bool ru0) ∧ w'.cell? ⟨b32, 5, none⟩ = some (.bool rx0) ∧ w'.cell? ⟨b32, 6, none⟩ = some (.bool false) ∧ w'.cell? ⟨b36, 0, none⟩ = some (.int .i64 0) ∧ w'.cell? ⟨b36, 1, none⟩ = some (.int .i64 (n : Int)) ∧ w'.cell? ⟨b36, 2, none⟩ = some (.int .i64 g0) ∧ w'.cell? ⟨b36, 3, none⟩ = some (.bool rw0) ∧ w'.cell? ⟨b36, 4, none⟩ = some (.bool ru0) ∧ w'.cell? ⟨b36, 5, none⟩ = some (.bool rx0) ∧ w'.cell? ⟨b36, 6, none⟩ = some (.bool false)) (go_keep) (first
                        | (go_at_call 24; (with_reducible refine (HU.out _).mono ?_); rintro e W12 ⟨rfl, rfl⟩))
                      all_goals go_wp2
                      all_goals go_ret
                      all_goals exact ⟨rfl, HLA.out.b.trans (below_drewN HB.out _ |>.mono HLA.out.b.size)⟩
          · obtain ⟨e1, e2⟩ := fresh_bad hG (x := v) HJf.out ho hhw
            have HE1 := Lib.hid e1
            have HE2 := Lib.hid e2
            have hh13 : hw = 1 ∨ hw = 3 := hho.resolve_left hhw
            clear e1 e2 ho hho hG h128 hhw hrt hpn hpl3
            rcases hh13 with hh | hh
            all_goals subst hh
            · go_wp2_with (first
                | (go_at_call 18; (with_reducible refine (HJ.out _).mono ?_); rintro e W4 ⟨rfl, b4⟩; have L4 := HLw.out.past b4)
                | (go_at_call 19; (with_reducible refine (HFo.out _ _ L4).mono ?_); rintro e W5 ⟨⟨fbv, rfl⟩, D⟩; have L5 := L4.did D; clear D)
                | (go_at_call 20; (with_reducible refine (HWk.out _ _ L5).mono ?_); rintro e W6 ⟨b6, a6, c6, rfl, s6⟩; have L6 := L5.past b6; have P6 := Blk.new W6 42 [.slice a6 pn c6, .int .i64 g0, .bool rw0, .bool ru0, .bool rx0, .bool lg, .bool pd]; have s6a := s6.past (bal W6 (.cells #[.slice a6 pn c6, .int .i64 g0, .bool rw0, .bool ru0, .bool rx0, .bool lg, .bool pd] 42)); have p60 := P6.cell (k := 0) rfl; have p61 := P6.cell (k := 1) rfl; have p62 := P6.cell (k := 2) rfl; have p63 := P6.cell (k := 3) rfl; have p64 := P6.cell (k := 4) rfl; have p65 := P6.cell (k := 5) rfl; have p66 := P6.cell (k := 6) rfl; have p6l := P6.lt)
                | (go_at_call 21; (with_reducible refine (HGt.out _ _ _ (L6.past (bal W6 (.cells #[.slice a6 pn c6, .int .i64 g0, .bool rw0, .bool ru0, .bool rx0, .bool lg, .bool pd] 42)))).mono ?_); rintro e W7 ⟨rfl, b7⟩; have L7 := (L6.past (bal W6 (.cells #[.slice a6 pn c6, .int .i64 g0, .bool rw0, .bool ru0, .bool rx0, .bool lg, .bool pd] 42))).past b7; have P7 := P6.past b7; have s7 := s6a.past b7)
                | (go_at_call 22; (with_reducible refine (HAc.out _ _ _ L7).mono ?_); rintro e W8 ⟨he, D⟩; rw [HE1.out] at he D; have he : e = Ending.returned (.agg #[.int .i64 1, .int .u64 0, .int .i64 k1, .int .u64 (ad : Int)]) := he; rw [HAz.out] at he; subst he; have L8 := L7.did D; have X8 := Blk.new W8 34 [.int .i64 1, .int .u64 0, .int .i64 k1, .int .u64 az]; have P8 := D.2.2.blk P7 ⟨by decide, by decide, by decide, by decide⟩; clear D)
                | (go_at_call 23; (with_reducible refine (HKn.out _ _ _ _ HE2.out (L8.past (bal W8 (.cells #[.int .i64 1, .int .u64 0, .int .i64 k1, .int .u64 az] 34)))).mono ?_); rintro e W9 ⟨he, b9⟩; simp only [Option.getD_none, Option.isSome_none, hit0] at he; subst he; have L9 := (L8.past (bal W8 (.cells #[.int .i64 1, .int .u64 0, .int .i64 k1, .int .u64 az] 34))).past b9; have X9 := X8.past b9; have x90 := X9.cell (k := 0) rfl; have x91 := X9.cell (k := 1) rfl; have x92 := X9.cell (k := 2) rfl; have x93 := X9.cell (k := 3) rfl; have x9l := X9.lt; clear n0 n9 wo0 wo9 rd0 rd9 hn1 hw1 hk1 hr1 p0 p1 wq0 wq1 kq0 kq1 rq0 rq1 holen h6' h2'))
              go_ret
              exact ⟨rfl, L9.b.alloc L9.b.size _⟩
            · go_wp2_with (first
                | (go_at_call 18; (with_reducible refine (HJ.out _).mono ?_); rintro e W4 ⟨rfl, b4⟩; have L4 := HLw.out.past b4)
                | (go_at_call 19; (with_reducible refine (HFo.out _ _ L4).mono ?_); rintro e W5 ⟨⟨fbv, rfl⟩, D⟩; have L5 := L4.did D; clear D)
                | (go_at_call 20; (with_reducible refine (HWk.out _ _ L5).mono ?_); rintro e W6 ⟨b6, a6, c6, rfl, s6⟩; have L6 := L5.past b6; have P6 := Blk.new W6 42 [.slice a6 pn c6, .int .i64 g0, .bool rw0, .bool ru0, .bool rx0, .bool lg, .bool pd]; have s6a := s6.past (bal W6 (.cells #[.slice a6 pn c6, .int .i64 g0, .bool rw0, .bool ru0, .bool rx0, .bool lg, .bool pd] 42)); have p60 := P6.cell (k := 0) rfl; have p61 := P6.cell (k := 1) rfl; have p62 := P6.cell (k := 2) rfl; have p63 := P6.cell (k := 3) rfl; have p64 := P6.cell (k := 4) rfl; have p65 := P6.cell (k := 5) rfl; have p66 := P6.cell (k := 6) rfl; have p6l := P6.lt)
                | (go_at_call 21; (with_reducible refine (HGt.out _ _ _ (L6.past (bal W6 (.cells #[.slice a6 pn c6, .int .i64 g0, .bool rw0, .bool ru0, .bool rx0, .bool lg, .bool pd] 42)))).mono ?_); rintro e W7 ⟨rfl, b7⟩; have L7 := (L6.past (bal W6 (.cells #[.slice a6 pn c6, .int .i64 g0, .bool rw0, .bool ru0, .bool rx0, .bool lg, .bool pd] 42))).past b7; have P7 := P6.past b7; have s7 := s6a.past b7)
                | (go_at_call 22; (with_reducible refine (HAc.out _ _ _ L7).mono ?_); rintro e W8 ⟨he, D⟩; rw [HE1.out] at he D; have he : e = Ending.returned (.agg #[.int .i64 3, .int .u64 0, .int .i64 k1, .int .u64 (ad : Int)]) := he; rw [HAz.out] at he; subst he; have L8 := L7.did D; have X8 := Blk.new W8 34 [.int .i64 3, .int .u64 0, .int .i64 k1, .int .u64 az]; have P8 := D.2.2.blk P7 ⟨by decide, by decide, by decide, by decide⟩; clear D)
                | (go_at_call 23; (with_reducible refine (HKn.out _ _ _ _ HE2.out (L8.past (bal W8 (.cells #[.int .i64 3, .int .u64 0, .int .i64 k1, .int .u64 az] 34)))).mono ?_); rintro e W9 ⟨he, b9⟩; simp only [Option.getD_none, Option.isSome_none, hit0] at he; subst he; have L9 := (L8.past (bal W8 (.cells #[.int .i64 3, .int .u64 0, .int .i64 k1, .int .u64 az] 34))).past b9; have X9 := X8.past b9; have x90 := X9.cell (k := 0) rfl; have x91 := X9.cell (k := 1) rfl; have x92 := X9.cell (k := 2) rfl; have x93 := X9.cell (k := 3) rfl; have x9l := X9.lt; clear n0 n9 wo0 wo9 rd0 rd9 hn1 hw1 hk1 hr1 p0 p1 wq0 wq1 kq0 kq1 rq0 rq1 holen h6' h2'))
              go_ret
              exact ⟨rfl, L9.b.alloc L9.b.size _⟩
theorem mfresh_walk (w : World) (hg : EC w) (a : Option Addr) (c : Nat) (l : List (Int × Int × Nat)) (hp : Ps w a l) (hlen : l.length ≤ 9223372036854775807) (root : Int) (hroot : (Lit.int .u8 root).wf = true) (oa : Option Addr) (oc : Nat) (ops : List Op10) (hop : Ops w oa ops) (holen : ops.length ≤ 9223372036854775807)
    (kind : Int) (hkind : (Lit.int .u8 kind).wf = true) (user : Bool) (page : Int) (hpage : (Lit.int .u16 page).wf = true) (word : Int) (hword : (Lit.int .u8 word).wf = true) (v : Int) (hv : (Lit.int .u64 v).wf = true) :
    Calls Tryz.prog 3 #[.slice a l.length c, .int .u8 root, .slice oa ops.length oc, .int .u8 kind, .bool user, .int .u16 page, .int .u8 word, .int .u64 v] w fun e w' => e = .returned (.bool true) ∧ Below w.heap.size w w' := by
  obtain ⟨page, rfl, hpg⟩ := nat_u16 hpage
  obtain ⟨word, rfl, hwd⟩ := nat_u8 hword
  obtain ⟨root, rfl, hrd⟩ := nat_u8 hroot
  obtain ⟨kind, rfl, hkd⟩ := nat_u8 hkind
  obtain ⟨v, rfl, hv2⟩ := nat_u64 hv
  exact ModelFresh_nat w hg a c l hp hlen oa oc ops hop holen root hrd kind hkd user page hpg word hwd v hv2
end Go.Proofs.YtgaififhhffpfaaGreatDoor
