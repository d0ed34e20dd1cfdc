/- ModelFinds's walk. -/
import Derived.Test.YtgaififhhffpfaaGreatDoorOps
import Derived.Test.YtgaififhhffpfaaGreatDoorFindsP
import Derived.Test.YtgaififhhffpfaaGreatDoorMRoots
import Derived.Laws.StructEq
namespace Go.Proofs.YtgaififhhffpfaaGreatDoor
open Go.RowKit Go.Shelf

set_option maxRecDepth 100000 in
set_option maxHeartbeats 8000000 in
theorem ModelFinds_nat (w : World) (hg : EC w) (a : Option Addr) (c : Nat) (l : List (Int × Int × Nat)) (hp : Ps w a l) (hlen : l.length ≤ 9223372036854775807) (oa : Option Addr) (oc : Nat) (ops : List Op10) (hop : Ops w oa ops) (holen : ops.length ≤ 9223372036854775807) (page : Nat) (hpg : page < 65536) :
    Calls Tryz.prog 6 #[.slice a l.length c, .slice oa ops.length oc, .int .u16 (page : Int)] w fun e w' => e = .returned (.bool true) ∧ Below w.heap.size w w' := by
  have hh := head10_any w hg
  have hm := fun W (hb : Below w.heap.size w W) => made_any W a c l (hp.below hb) hlen
  have hB1 : 1 ≤ w.heap.size := lt_of_cell hg
  obtain ⟨len, hl⟩ : ∃ len, l.length = len := ⟨_, rfl⟩
  obtain ⟨on, hol⟩ : ∃ n, ops.length = n := ⟨_, rfl⟩
  obtain ⟨mem, hmem⟩ : ∃ mem, puts l = mem := ⟨_, rfl⟩
  have hpl := puts_len' l
  rw [hmem] at hpl
  rw [hl] at hm hlen ⊢
  rw [hol] at holen ⊢
  rw [hmem] at hm
  have HH := Lib.hid hh
  have HM := Lib.hid hm
  have HE := Lib.hid hg
  have HB1 := Lib.hid hB1
  have HOp := Lib.hid hop
  have HOl := Lib.hid hol
  have HPl := Lib.hid hpl
  obtain ⟨n, hn⟩ : ∃ n : Nat, page % 512 = n := ⟨_, rfl⟩
  have hn1 : (page : Int) % 512 = (n : Int) := by omega
  have hn2 : n < 512 := by omega
  have n0 : (0 : Int) ≤ (n : Int) := by omega
  have n9 : (n : Int) ≤ 9223372036854775807 := by omega
  have p0 : (0 : Int) ≤ (page : Int) := by omega
  have p1 : (page : Int) < 65536 := by omega
  obtain ⟨ad, had⟩ : ∃ r, joinOf n 0 = r := ⟨_, rfl⟩
  have hjf := join_facts n 0 hn2 (by decide)
  rw [had] at hjf
  have HJf := Lib.hid hjf
  obtain ⟨az, haz⟩ : ∃ z : Int, (ad : Int) = z := ⟨_, rfl⟩
  have hj : ∀ W, Calls Tryz.prog 18 #[.int .i64 (n : Int), .int .i64 0] W fun e w' => e = .returned (.int .u64 az) ∧ Below W.heap.size W w' := fun W => haz ▸ join_bel W n 0 ad had hn2 (by decide)
  have HJ := Lib.hid hj
  have HAz := Lib.hid haz
  clear hh hm hg hB1 hop hol hpl hl hmem hp hlen hpg hj haz had hjf hn hn2
  by_cases h600 : (600 : Int) < (len : Int)
  · go_enter Tryz.func6, Tryz.ntmps6
    go_wp2_with (first
      | (go_at_call 14; (with_reducible refine HH.out.mono ?_); rintro e W0 ⟨rfl, b0⟩)
      | (go_at_call 15; (with_reducible refine (HM.out _ b0).mono ?_); rintro e W1 ⟨⟨gp, fb, rfl, G1, q1, q2⟩, b1⟩; have A1 := b0.trans (b1.mono b0.size); have q2' := Nat.le_trans b0.size q2; clear q1 q2))
    go_ret
    exact ⟨rfl, A1⟩
  · by_cases h200 : (200 : Int) < (on : Int)
    · go_enter Tryz.func6, Tryz.ntmps6
      go_wp2_with (first
        | (go_at_call 14; (with_reducible refine HH.out.mono ?_); rintro e W0 ⟨rfl, b0⟩)
        | (go_at_call 15; (with_reducible refine (HM.out _ b0).mono ?_); rintro e W1 ⟨⟨gp, fb, rfl, G1, q1, q2⟩, b1⟩; have A1 := b0.trans (b1.mono b0.size); have q2' := Nat.le_trans b0.size q2; clear q1 q2))
      go_ret
      exact ⟨rfl, A1⟩
    · have h6' : decide ((600 : Int) < (len : Int)) = false := decide_eq_false_iff_not.2 h600
      have h2' : decide ((200 : Int) < (on : Int)) = false := decide_eq_false_iff_not.2 h200
      clear h600 h200
      go_enter Tryz.func6, Tryz.ntmps6
      go_wp2_with (first
        | (go_at_call 14; (with_reducible refine HH.out.mono ?_); rintro e W0 ⟨rfl, b0⟩)
        | (go_at_call 15; (with_reducible refine (HM.out _ b0).mono ?_); rintro e W1 ⟨⟨gp, fb, rfl, G1, q1, q2⟩, b1⟩; have A1 := b0.trans (b1.mono b0.size); have q2' := Nat.le_trans b0.size q2; clear q1 q2)
        | (go_at_call 16; (with_reducible refine (new_mm _ gp fb _ 1 G1 HPl.out w.heap.size A1.size q2').mono ?_); rintro e W2 ⟨⟨p, tp, rfl, M2⟩, b2⟩; have L2 : Lw w [] W2 p tp gp fb ⟨mem, 1, []⟩ := ⟨M2, A1.trans (b2.mono A1.size)⟩; clear M2 b2 A1 q2' b0 b1 G1))
      go_loopw [10] (fun i wr => ∃ k : Nat, k ≤ on ∧ i = .int .i64 k ∧ ∃ S, Lw w [] wr p tp gp fb S ∧ Good S ∧ S.root = 1) (fun i _ => on - (intOf i).toNat)
      case atStart => exact ⟨0, by omega, rfl, _, L2, good_nil _ _, rfl⟩
      case round =>
        obtain ⟨k, hk, rfl, S, L, hG, hR⟩ := hrel
        clear L2
        by_cases hkl : k < on
        · obtain ⟨b, off, what, okind, ouser, ox, ov, og, oi, opage, rfl, hb1, _, ook, C0, C1, C2, C3, C4, C5, C6, C7⟩ := HOp.out.at k (by rw [HOl.out]; exact hkl)
          have c0 := (L.b.cell (p := ⟨b, _, none⟩) hb1).trans C0
          have c1 := (L.b.cell (p := ⟨b, _, none⟩) hb1).trans C1
          have c2 := (L.b.cell (p := ⟨b, _, none⟩) hb1).trans C2
          have c3 := (L.b.cell (p := ⟨b, _, none⟩) hb1).trans C3
          have c4 := (L.b.cell (p := ⟨b, _, none⟩) hb1).trans C4
          have c5 := (L.b.cell (p := ⟨b, _, none⟩) hb1).trans C5
          have c6 := (L.b.cell (p := ⟨b, _, none⟩) hb1).trans C6
          have c7 := (L.b.cell (p := ⟨b, _, none⟩) hb1).trans C7
          clear C0 C1 C2 C3 C4 C5 C6 C7
          have hdo := do_open L.m (L.ec HE.out) HB1.out L.b.size what okind ouser ox ov og oi opage ook
          have HDo := Lib.hid hdo
          have HLw := Lib.hid L
          clear hdo L ook hk
          by_cases h6 : what = 6
          · subst h6
            go_wp2
            go_roundw
            case rel => exact ⟨k + 1, by omega, by simp, _, HLw.out, hG, hR⟩
            case measure => simp [intOf]; omega
          · have f6 : (what != 6) = true := bne_iff_ne.2 h6
            have f7 : (what == 6) = false := beq_eq_false_iff_ne.2 h6
            have hR3 := (do_root S ⟨what, okind, ouser, ox, ov, og, oi, opage⟩ h6).trans hR
            have HR3 := Lib.hid hR3
            clear h6 hR3
            go_wp2_with (first
              | (go_at_call 17; (with_reducible refine HDo.out.mono ?_); rintro e W3 ⟨rfl, D⟩; have L3 := HLw.out.did D))
            go_roundw
            case rel => exact ⟨k + 1, by omega, by simp, _, L3, do_good hG _, HR3.out⟩
            case measure => simp [intOf]; omega
        · obtain rfl : k = on := by omega
          clear hkl hk
          obtain ⟨⟨⟨ats, g0, ⟨rw0, ru0, rx0⟩, lg, pd⟩, hw, k1⟩, ho⟩ : ∃ X, out (wk (rd h16 S.mem) h16.length 1 (n : Int) 0 false) = X := ⟨_, rfl⟩
          obtain ⟨pn, hpn⟩ : ∃ n, ats.length = n := ⟨_, rfl⟩
          have hpl3 : ats.length ≤ 3 := wk_len ho
          have hho := wk_how _ _ _ _ _ _ _ _ _ ho
          have hwk : ∀ W F, Lw w F W p tp gp fb S → Calls Tryz.prog 20 #[.pointer (some ⟨gp, 0, none⟩), .int .i64 1, .int .i64 (n : Int), .int .i64 0, .bool false] W
              fun e w' => Below W.heap.size W w' ∧ ∃ a c, e = .returned (.tuple #[.agg #[.slice a pn c, .int .i64 g0, .bool rw0, .bool ru0, .bool rx0, .bool lg, .bool pd], .int .i64 hw, .int .i64 k1]) ∧ Sl w' a ats := fun W F L => by
            have := gm_walk L.m.gm (L.ec HE.out) 1 (n : Int) 0 false _ hw k1 ho
            dsimp only at this
            rw [hpn] at this; exact this
          obtain ⟨un, hun⟩ : ∃ b, ats.any (unused h16 S.mem) = b := ⟨_, rfl⟩
          have hmd : ∀ W a c, GM W gp fb h16 16 S.mem → Sl W a ats → Calls Tryz.prog 43 #[.pointer (some ⟨gp, 0, none⟩), .agg #[.slice a pn c, .int .i64 g0, .bool rw0, .bool ru0, .bool rx0, .bool lg, .bool pd]] W
              fun e w' => e = .returned (.bool (!un)) ∧ Below W.heap.size W w' := fun W a c M hs => by
            have := marked_any W gp fb 16 h16 S.mem a ⟨ats, g0, ⟨rw0, ru0, rx0⟩, lg, pd⟩ c M hs (by dsimp only; omega)
            dsimp only at this
            rw [hun, hpn] at this; exact this
          have ho1 : out (wk (rd h16 S.mem) h16.length S.root (n : Int) 0 false) = (⟨ats, g0, ⟨rw0, ru0, rx0⟩, lg, pd⟩, hw, k1) := by rw [hR]; exact ho
          have hf0 : findR S.mem S.root S.l (n : Int) = (false, S.l) → ∀ W F, Lw w F W p tp gp fb S → Calls Tryz.prog 32 #[.pointer (some ⟨p, 0, none⟩), .int .i64 (n : Int)] W fun e w' => e = .returned (.bool false) ∧ Did w.heap.size F W p tp gp fb S w' := fun h W F L => by
            have := find_mm L.m (L.ec HE.out) L.b.size (n : Int)
            have e : findS S (n : Int) = S := by unfold findS; rw [h]
            rw [h, e] at this; exact this
          have hkn : ∀ o, tget S.l 0 (n : Int) = o → ∀ W F, Lw w F W p tp gp fb S → Calls Tryz.prog 23 #[.pointer (some ⟨p, 0, none⟩), .int .i64 (n : Int)] W fun e w' => e = .returned (.tuple #[.agg #[.int .i64 (o.getD hit0).asid, .int .i64 (o.getD hit0).page, .int .i64 (o.getD hit0).frame, .bool (o.getD hit0).r.w, .bool (o.getD hit0).r.u, .bool (o.getD hit0).r.x, .bool (o.getD hit0).dirty], .bool o.isSome]) ∧ Below W.heap.size W w' := fun o ho W F L => known_mm L.m (n : Int) o ho
          have HWk := Lib.hid hwk
          have HMd := Lib.hid hmd
          have HLw := Lib.hid L
          clear hwk hmd L
          cases hgt : tget S.l 0 (n : Int) with
          | some h0 =>
            have HF0 := Lib.hid (hf0 (find_known hgt))
            have hkn' := hkn _ hgt
            obtain ⟨xa, xp, xf, ⟨xw, xu, xx⟩, xd⟩ := h0
            dsimp only [Option.getD_some, Option.isSome_some] at hkn'
            have HKn := Lib.hid hkn'
            clear hkn' hkn hf0 hgt ho ho1 hun hpl3 hpn hho hG hR
            go_wp2_with (first
              | (go_at_call 40; (with_reducible refine HLw.out.all.mono ?_); rintro e W4 ⟨⟨v4, rfl, d4⟩, b4⟩; have L4 := HLw.out.past b4)
              | (go_at_call 23; (with_reducible refine (HKn.out _ _ L4).mono ?_); rintro e W5 ⟨rfl, b5⟩; have L5 := L4.past b5; have d5 := d4.past b5)
              | (go_at_call 20; (with_reducible refine (HWk.out _ _ (L5.past (bal W5 (.cells #[.int .i64 xa, .int .i64 xp, .int .i64 xf, .bool xw, .bool xu, .bool xx, .bool xd] 49)))).mono ?_); rintro e W6 ⟨b6, a6, c6, rfl, s6⟩; have L6 := (L5.past (bal W5 (.cells #[.int .i64 xa, .int .i64 xp, .int .i64 xf, .bool xw, .bool xu, .bool xx, .bool xd] 49))).past b6; have d6 := (d5.past (bal W5 (.cells #[.int .i64 xa, .int .i64 xp, .int .i64 xf, .bool xw, .bool xu, .bool xx, .bool xd] 49))).past b6)
              | (go_at_call 32; (with_reducible refine (HF0.out _ _ (L6.past (bal W6 (.cells #[.slice a6 pn c6, .int .i64 g0, .bool rw0, .bool ru0, .bool rx0, .bool lg, .bool pd] 42)))).mono ?_); rintro e W7 ⟨rfl, D⟩; have L7 := (L6.past (bal W6 (.cells #[.slice a6 pn c6, .int .i64 g0, .bool rw0, .bool ru0, .bool rx0, .bool lg, .bool pd] 42))).did D; have P7 := D.2.2.blk (Blk.new W6 42 [.slice a6 pn c6, .int .i64 g0, .bool rw0, .bool ru0, .bool rx0, .bool lg, .bool pd]) ⟨by decide, by decide, by decide, by decide⟩; have s7 := D.2.2.sl (s6.past (bal W6 (.cells #[.slice a6 pn c6, .int .i64 g0, .bool rw0, .bool ru0, .bool rx0, .bool lg, .bool pd] 42))); have d7 := D.2.2.wd (d6.past (bal W6 (.cells #[.slice a6 pn c6, .int .i64 g0, .bool rw0, .bool ru0, .bool rx0, .bool lg, .bool pd] 42))); clear D)
              | (go_at_call 23; (with_reducible refine (HKn.out _ _ L7).mono ?_); rintro e W8 ⟨rfl, b8⟩; have L8 := L7.past b8; have P8 := P7.past b8; have s8 := s7.past b8; have d8 := d7.past b8)
              | (go_at_call 32; (with_reducible refine (HF0.out _ _ (L8.past (bal W8 (.cells #[.int .i64 xa, .int .i64 xp, .int .i64 xf, .bool xw, .bool xu, .bool xx, .bool xd] 49)))).mono ?_); rintro e W9 ⟨rfl, D⟩; have L9 := (L8.past (bal W8 (.cells #[.int .i64 xa, .int .i64 xp, .int .i64 xf, .bool xw, .bool xu, .bool xx, .bool xd] 49))).did D; have P9 := D.2.2.blk (P8.past (bal W8 (.cells #[.int .i64 xa, .int .i64 xp, .int .i64 xf, .bool xw, .bool xu, .bool xx, .bool xd] 49))) ⟨by decide, by decide, by decide, by decide⟩; have s9 := D.2.2.sl (s8.past (bal W8 (.cells #[.int .i64 xa, .int .i64 xp, .int .i64 xf, .bool xw, .bool xu, .bool xx, .bool xd] 49))); have d9 := D.2.2.wd (d8.past (bal W8 (.cells #[.int .i64 xa, .int .i64 xp, .int .i64 xf, .bool xw, .bool xu, .bool xx, .bool xd] 49))); clear D; have pz0 := P9.cell (k := 0) rfl; have pz1 := P9.cell (k := 1) rfl; have pz2 := P9.cell (k := 2) rfl; have pz3 := P9.cell (k := 3) rfl; have pz4 := P9.cell (k := 4) rfl; have pz5 := P9.cell (k := 5) rfl; have pz6 := P9.cell (k := 6) rfl; have pzl := P9.lt)
              | (go_at_call 40; (with_reducible refine L9.all.mono ?_); rintro e W11 ⟨⟨v11, rfl, d11⟩, b11⟩; have L11 := L9.past b11; have D11 := d9.past b11)
              | (go_at_call 39; (with_reducible refine (same_wd d11 D11 L11.m.len).mono ?_); rintro e W12 ⟨rfl, b12⟩; have L12 := L11.past b12))
            go_ret
            exact ⟨rfl, L12.b⟩
          | none =>
            have hkn' := hkn _ hgt
            dsimp only [Option.getD_none, Option.isSome_none, hit0] at hkn'
            have HKn := Lib.hid hkn'
            clear hkn'
            by_cases hhw : hw = 0
            · subst hhw
              cases un with
              | true =>
                have HF0 := Lib.hid (hf0 (find_unm hgt ho1 hun))
                clear hkn hf0 hgt ho ho1 hun hpl3 hpn hho hG hR
                go_wp2_with (first
                  | (go_at_call 40; (with_reducible refine HLw.out.all.mono ?_); rintro e W4 ⟨⟨v4, rfl, d4⟩, b4⟩; have L4 := HLw.out.past b4)
                  | (go_at_call 23; (with_reducible refine (HKn.out _ _ L4).mono ?_); rintro e W5 ⟨rfl, b5⟩; have L5 := L4.past b5; have d5 := d4.past b5)
                  | (go_at_call 20; (with_reducible refine (HWk.out _ _ (L5.past (bal W5 (.cells #[.int .i64 0, .int .i64 0, .int .i64 0, .bool false, .bool false, .bool false, .bool false] 49)))).mono ?_); rintro e W6 ⟨b6, a6, c6, rfl, s6⟩; have L6 := (L5.past (bal W5 (.cells #[.int .i64 0, .int .i64 0, .int .i64 0, .bool false, .bool false, .bool false, .bool false] 49))).past b6; have d6 := (d5.past (bal W5 (.cells #[.int .i64 0, .int .i64 0, .int .i64 0, .bool false, .bool false, .bool false, .bool false] 49))).past b6)
                  | (go_at_call 32; (with_reducible refine (HF0.out _ _ (L6.past (bal W6 (.cells #[.slice a6 pn c6, .int .i64 g0, .bool rw0, .bool ru0, .bool rx0, .bool lg, .bool pd] 42)))).mono ?_); rintro e W7 ⟨rfl, D⟩; have L7 := (L6.past (bal W6 (.cells #[.slice a6 pn c6, .int .i64 g0, .bool rw0, .bool ru0, .bool rx0, .bool lg, .bool pd] 42))).did D; have P7 := D.2.2.blk (Blk.new W6 42 [.slice a6 pn c6, .int .i64 g0, .bool rw0, .bool ru0, .bool rx0, .bool lg, .bool pd]) ⟨by decide, by decide, by decide, by decide⟩; have s7 := D.2.2.sl (s6.past (bal W6 (.cells #[.slice a6 pn c6, .int .i64 g0, .bool rw0, .bool ru0, .bool rx0, .bool lg, .bool pd] 42))); have d7 := D.2.2.wd (d6.past (bal W6 (.cells #[.slice a6 pn c6, .int .i64 g0, .bool rw0, .bool ru0, .bool rx0, .bool lg, .bool pd] 42))); clear D)
                  | (go_at_call 23; (with_reducible refine (HKn.out _ _ L7).mono ?_); rintro e W8 ⟨rfl, b8⟩; have L8 := L7.past b8; have P8 := P7.past b8; have s8 := s7.past b8; have d8 := d7.past b8)
                  | (go_at_call 32; (with_reducible refine (HF0.out _ _ (L8.past (bal W8 (.cells #[.int .i64 0, .int .i64 0, .int .i64 0, .bool false, .bool false, .bool false, .bool false] 49)))).mono ?_); rintro e W9 ⟨rfl, D⟩; have L9 := (L8.past (bal W8 (.cells #[.int .i64 0, .int .i64 0, .int .i64 0, .bool false, .bool false, .bool false, .bool false] 49))).did D; have P9 := D.2.2.blk (P8.past (bal W8 (.cells #[.int .i64 0, .int .i64 0, .int .i64 0, .bool false, .bool false, .bool false, .bool false] 49))) ⟨by decide, by decide, by decide, by decide⟩; have s9 := D.2.2.sl (s8.past (bal W8 (.cells #[.int .i64 0, .int .i64 0, .int .i64 0, .bool false, .bool false, .bool false, .bool false] 49))); have d9 := D.2.2.wd (d8.past (bal W8 (.cells #[.int .i64 0, .int .i64 0, .int .i64 0, .bool false, .bool false, .bool false, .bool false] 49))); clear D; have pz0 := P9.cell (k := 0) rfl; have pz1 := P9.cell (k := 1) rfl; have pz2 := P9.cell (k := 2) rfl; have pz3 := P9.cell (k := 3) rfl; have pz4 := P9.cell (k := 4) rfl; have pz5 := P9.cell (k := 5) rfl; have pz6 := P9.cell (k := 6) rfl; have pzl := P9.lt)
                  | (go_at_call 43; (with_reducible refine (HMd.out _ _ _ L9.m.gm s9).mono ?_); rintro e W10 ⟨rfl, b10⟩; have L10 := L9.past b10; have d10 := d9.past b10)
                  | (go_at_call 40; (with_reducible refine L10.all.mono ?_); rintro e W11 ⟨⟨v11, rfl, d11⟩, b11⟩; have L11 := L10.past b11; have D11 := d10.past b11)
                  | (go_at_call 40; (with_reducible refine L9.all.mono ?_); rintro e W11 ⟨⟨v11, rfl, d11⟩, b11⟩; have L11 := L9.past b11; have D11 := d9.past b11)
                  | (go_at_call 39; (with_reducible refine (same_wd d11 D11 L11.m.len).mono ?_); rintro e W12 ⟨rfl, b12⟩; have L12 := L11.past b12))
                go_ret
                exact ⟨rfl, L12.b⟩
              | false =>
                have hyes := find_yes hgt ho1 hun
                have hff : foundH (n : Int) ⟨ats, g0, ⟨rw0, ru0, rx0⟩, lg, pd⟩ false = ⟨0, (n : Int), g0, ⟨rw0, ru0, rx0⟩, pd⟩ := by unfold foundH; simp
                rw [hff] at hyes
                obtain ⟨l1, hl1⟩ : ∃ l, tput 512 S.l ⟨0, (n : Int), g0, ⟨rw0, ru0, rx0⟩, pd⟩ = l := ⟨_, rfl⟩
                rw [hl1] at hyes
                have hk1 : tget l1 0 (n : Int) = some ⟨0, (n : Int), g0, ⟨rw0, ru0, rx0⟩, pd⟩ := by rw [← hl1]; exact tget_put hG.one ⟨0, (n : Int), g0, ⟨rw0, ru0, rx0⟩, pd⟩
                have hp1 : l1.Pairwise unlike := by rw [← hl1]; exact tput_pw hG.one _
                have hf1 : ∀ W F, Lw w F W p tp gp fb S → Calls Tryz.prog 32 #[.pointer (some ⟨p, 0, none⟩), .int .i64 (n : Int)] W fun e w' => e = .returned (.bool true) ∧ Did w.heap.size F W p tp gp fb ⟨S.mem, S.root, l1⟩ w' := fun W F L => by
                  have := find_mm L.m (L.ec HE.out) L.b.size (n : Int)
                  have e : findS S (n : Int) = ⟨S.mem, S.root, l1⟩ := by unfold findS; rw [hyes]
                  rw [hyes, e] at this; exact this
                have hf2 : ∀ W F, Lw w F W p tp gp fb ⟨S.mem, S.root, l1⟩ → Calls Tryz.prog 32 #[.pointer (some ⟨p, 0, none⟩), .int .i64 (n : Int)] W fun e w' => e = .returned (.bool false) ∧ Did w.heap.size F W p tp gp fb ⟨S.mem, S.root, l1⟩ w' := fun W F L => by
                  have := find_mm L.m (L.ec HE.out) L.b.size (n : Int)
                  have h : findR S.mem S.root l1 (n : Int) = (false, l1) := find_known (S := ⟨S.mem, S.root, l1⟩) hk1
                  have e : findS ⟨S.mem, S.root, l1⟩ (n : Int) = ⟨S.mem, S.root, l1⟩ := by unfold findS; dsimp only; rw [h]
                  dsimp only at this
                  rw [h, e] at this; exact this
                have hkk : ∀ S', tget S'.l 0 (n : Int) = some ⟨0, (n : Int), g0, ⟨rw0, ru0, rx0⟩, pd⟩ → ∀ W F, Lw w F W p tp gp fb S' → Calls Tryz.prog 23 #[.pointer (some ⟨p, 0, none⟩), .int .i64 (n : Int)] W fun e w' => e = .returned (.tuple #[.agg #[.int .i64 0, .int .i64 (n : Int), .int .i64 g0, .bool rw0, .bool ru0, .bool rx0, .bool pd], .bool true]) ∧ Below W.heap.size W w' := fun S' h W F L => known_mm L.m (n : Int) _ h
                have hk1' := hkk ⟨S.mem, S.root, l1⟩ hk1
                obtain ⟨S3, hS3⟩ : ∃ s, (accS ⟨S.mem, S.root, tdrop l1 0 (n : Int)⟩ 0 false ad 0).2 = s := ⟨_, rfl⟩
                have hk3 : tget S3.l 0 (n : Int) = some ⟨0, (n : Int), g0, ⟨rw0, ru0, rx0⟩, pd⟩ := by
                  have hj := HJf.out
                  have := acc_miss (S := ⟨S.mem, S.root, tdrop l1 0 (n : Int)⟩) (a := ad) (kind := 0) (user := false) (P := ⟨ats, g0, ⟨rw0, ru0, rx0⟩, lg, pd⟩) (hw := 0) (k := k1) 0 hj.2.2.2.1 hj.2.2.2.2 (by rw [hj.2.1]; exact tget_drop hp1 0 (n : Int)) (by rw [hj.2.1]; exact ho1)
                  rw [if_pos rfl, if_neg (by decide), hj.2.1, hff] at this
                  rw [← hS3, this]
                  exact tget_put (tdrop_pw (tdrop_pw hp1 _ _) _ _) ⟨0, (n : Int), g0, ⟨rw0, ru0, rx0⟩, pd⟩
                have hk3' := hkk S3 hk3
                have hac : ∀ W F, Lw w F W p tp gp fb ⟨S.mem, S.root, tdrop l1 0 (n : Int)⟩ → Calls Tryz.prog 22 #[.pointer (some ⟨p, 0, none⟩), .int .i64 0, .bool false, .int .u64 az, .int .u64 0] W fun e w' => (∃ r, e = .returned r) ∧ Did w.heap.size F W p tp gp fb S3 w' := fun W F L => by
                  have hc := access_mm L.m (L.ec HE.out) HB1.out L.b.size 0 false ad 0 HJf.out.1 (by decide)
                  rw [HAz.out, hS3] at hc
                  exact hc.mono fun _ _ h => ⟨⟨_, h.1⟩, h.2⟩
                have hfo : ∀ W F, Lw w F W p tp gp fb ⟨S.mem, S.root, l1⟩ → Calls Tryz.prog 19 #[.pointer (some ⟨p, 0, none⟩), .int .i64 (n : Int)] W fun e w' => (∃ b, e = .returned (.bool b)) ∧ Did w.heap.size F W p tp gp fb ⟨S.mem, S.root, tdrop l1 0 (n : Int)⟩ w' := fun W F L =>
                  (forget_mm L.m L.b.size (n : Int)).mono fun _ _ h => ⟨⟨_, h.1⟩, h.2⟩
                have hsm : ∀ W a c, Sl W a ats → Calls Tryz.prog 44 #[.agg #[.slice a pn c, .int .i64 g0, .bool rw0, .bool ru0, .bool rx0, .bool lg, .bool pd], .agg #[.slice a pn c, .int .i64 g0, .bool rw0, .bool ru0, .bool rx0, .bool lg, .bool pd]] W
                    fun e w' => e = .returned (.bool true) ∧ Below W.heap.size W w' := fun W a c h1 => by
                  have := same_any W a a c c ⟨ats, g0, ⟨rw0, ru0, rx0⟩, lg, pd⟩ ⟨ats, g0, ⟨rw0, ru0, rx0⟩, lg, pd⟩ h1 h1 (by dsimp only; omega) (by dsimp only; omega)
                  dsimp only at this
                  rw [hpn] at this
                  simpa using this
                have HF1 := Lib.hid hf1
                have HF2 := Lib.hid hf2
                have HK1 := Lib.hid hk1'
                have HK3 := Lib.hid hk3'
                have HAc := Lib.hid hac
                have HFo := Lib.hid hfo
                have HSm := Lib.hid hsm
                clear hf1 hf2 hk1' hk3' hac hfo hsm hkk hk3 hS3 hk1 hp1 hl1 hyes hff hkn hf0 hgt ho ho1 hun hpl3 hpn hho hG hR
                go_wp2_with (first
                  | (go_at_call 40; (with_reducible refine HLw.out.all.mono ?_); rintro e W4 ⟨⟨v4, rfl, d4⟩, b4⟩; have L4 := HLw.out.past b4)
                  | (go_at_call 23; (with_reducible refine (HKn.out _ _ L4).mono ?_); rintro e W5 ⟨rfl, b5⟩; have L5 := L4.past b5; have d5 := d4.past b5)
                  | (go_at_call 20; (with_reducible refine (HWk.out _ _ (L5.past (bal W5 (.cells #[.int .i64 0, .int .i64 0, .int .i64 0, .bool false, .bool false, .bool false, .bool false] 49)))).mono ?_); rintro e W6 ⟨b6, a6, c6, rfl, s6⟩; have L6 := (L5.past (bal W5 (.cells #[.int .i64 0, .int .i64 0, .int .i64 0, .bool false, .bool false, .bool false, .bool false] 49))).past b6; have d6 := (d5.past (bal W5 (.cells #[.int .i64 0, .int .i64 0, .int .i64 0, .bool false, .bool false, .bool false, .bool false] 49))).past b6)
                  | (go_at_call 32; (with_reducible refine (HF1.out _ _ (L6.past (bal W6 (.cells #[.slice a6 pn c6, .int .i64 g0, .bool rw0, .bool ru0, .bool rx0, .bool lg, .bool pd] 42)))).mono ?_); rintro e W7 ⟨rfl, D⟩; have L7 := (L6.past (bal W6 (.cells #[.slice a6 pn c6, .int .i64 g0, .bool rw0, .bool ru0, .bool rx0, .bool lg, .bool pd] 42))).did D; have P7 := D.2.2.blk (Blk.new W6 42 [.slice a6 pn c6, .int .i64 g0, .bool rw0, .bool ru0, .bool rx0, .bool lg, .bool pd]) ⟨by decide, by decide, by decide, by decide⟩; have s7 := D.2.2.sl (s6.past (bal W6 (.cells #[.slice a6 pn c6, .int .i64 g0, .bool rw0, .bool ru0, .bool rx0, .bool lg, .bool pd] 42))); have d7 := D.2.2.wd (d6.past (bal W6 (.cells #[.slice a6 pn c6, .int .i64 g0, .bool rw0, .bool ru0, .bool rx0, .bool lg, .bool pd] 42))); clear D)
                  | (go_at_call 23; (with_reducible refine (HK1.out _ _ L7).mono ?_); rintro e W8 ⟨rfl, b8⟩; have L8 := L7.past b8; have P8 := P7.past b8; have s8 := s7.past b8; have d8 := d7.past b8; have L8a : Lw w [W8.heap.size] (W8.alloc (.cells #[.int .i64 0, .int .i64 (n : Int), .int .i64 g0, .bool rw0, .bool ru0, .bool rx0, .bool pd] 49)) p tp gp fb ⟨S.mem, S.root, l1⟩ := ⟨L8.m.add (bal W8 _) (Nat.le_refl _) (by simp), (L8.past (bal W8 _)).b⟩)
                  | (go_at_call 32; (with_reducible refine (HF2.out _ _ L8a).mono ?_); rintro e W9 ⟨rfl, D⟩; have L9 := L8a.did D; have X9 := D.2.2.hit (Blk.new W8 49 [.int .i64 0, .int .i64 (n : Int), .int .i64 g0, .bool rw0, .bool ru0, .bool rx0, .bool pd]) List.mem_cons_self; have P9 := D.2.2.blk (P8.past (bal W8 (.cells #[.int .i64 0, .int .i64 (n : Int), .int .i64 g0, .bool rw0, .bool ru0, .bool rx0, .bool pd] 49))) ⟨by decide, by decide, by decide, by decide⟩; have s9 := D.2.2.sl (s8.past (bal W8 (.cells #[.int .i64 0, .int .i64 (n : Int), .int .i64 g0, .bool rw0, .bool ru0, .bool rx0, .bool pd] 49))); have d9 := D.2.2.wd (d8.past (bal W8 (.cells #[.int .i64 0, .int .i64 (n : Int), .int .i64 g0, .bool rw0, .bool ru0, .bool rx0, .bool pd] 49))); clear D; have pz0 := P9.cell (k := 0) rfl; have pz1 := P9.cell (k := 1) rfl; have pz2 := P9.cell (k := 2) rfl; have pz3 := P9.cell (k := 3) rfl; have pz4 := P9.cell (k := 4) rfl; have pz5 := P9.cell (k := 5) rfl; have pz6 := P9.cell (k := 6) rfl; have pzl := P9.lt)
                  | (go_at_call 43; (with_reducible refine (HMd.out _ _ _ L9.m.gm s9).mono ?_); rintro e W10 ⟨rfl, b10⟩; have L10 := L9.past b10; have X10 := X9.past b10; have P10 := P9.past b10; have s10 := s9.past b10; have d10 := d9.past b10)
                  | (go_at_call 40; (with_reducible refine L10.all.mono ?_); rintro e W11 ⟨⟨v11, rfl, d11⟩, b11⟩; have L11 := L10.past b11; have X11 := X10.past b11; have P11 := P10.past b11; have s11 := s10.past b11; have D11 := d10.past b11)
                  | (go_at_call 39; (with_reducible refine (same_wd d11 D11 L11.m.len).mono ?_); rintro e W12 ⟨rfl, b12⟩; have L12 := L11.past b12; have X12 := X11.past b12; have P12 := P11.past b12; have s12 := s11.past b12)
                  | (go_at_call 19; (with_reducible refine (HFo.out _ _ L12).mono ?_); rintro e W13 ⟨⟨fbv, rfl⟩, D⟩; have L13 := L12.did D; have X13 := D.2.2.hit X12 List.mem_cons_self; have P13 := D.2.2.blk P12 ⟨by decide, by decide, by decide, by decide⟩; have s13 := D.2.2.sl s12; clear D)
                  | (go_at_call 18; (with_reducible refine (HJ.out _).mono ?_); rintro e W14 ⟨rfl, b14⟩; have L14 := L13.past b14; have X14 := X13.past b14; have P14 := P13.past b14; have s14 := s13.past b14)
                  | (go_at_call 22; (with_reducible refine (HAc.out _ _ L14).mono ?_); rintro e W15 ⟨⟨ar, rfl⟩, D⟩; have L15 := L14.did D; have X15 := D.2.2.hit X14 List.mem_cons_self; have P15 := D.2.2.blk P14 ⟨by decide, by decide, by decide, by decide⟩; have s15 := D.2.2.sl s14; clear D)
                  | (go_at_call 23; (with_reducible refine (HK3.out _ _ L15).mono ?_); rintro e W16 ⟨rfl, b16⟩; have L16 := L15.past b16; have X16 := X15.past b16; have P16 := P15.past b16; have s16 := s15.past b16; have xz0 := X16.cell (k := 0) rfl; have xz1 := X16.cell (k := 1) rfl; have xz2 := X16.cell (k := 2) rfl; have xz3 := X16.cell (k := 3) rfl; have xz4 := X16.cell (k := 4) rfl; have xz5 := X16.cell (k := 5) rfl; have xz6 := X16.cell (k := 6) rfl; have xzl := X16.lt; have py0 := P16.cell (k := 0) rfl; have py1 := P16.cell (k := 1) rfl; have py2 := P16.cell (k := 2) rfl; have py3 := P16.cell (k := 3) rfl; have py4 := P16.cell (k := 4) rfl; have py5 := P16.cell (k := 5) rfl; have py6 := P16.cell (k := 6) rfl; have pyl := P16.lt; clear n0 n9 hn1 p0 p1 holen h6' h2')
                  | (go_at_call 44; (with_reducible refine (HSm.out _ _ _ (s16.past (bal W16 (.cells #[.int .i64 0, .int .i64 (n : Int), .int .i64 g0, .bool rw0, .bool ru0, .bool rx0, .bool pd] 49)))).mono ?_); rintro e W17 ⟨rfl, b17⟩; have L17 := (L16.past (bal W16 (.cells #[.int .i64 0, .int .i64 (n : Int), .int .i64 g0, .bool rw0, .bool ru0, .bool rx0, .bool pd] 49))).past b17))
                go_ret
                exact ⟨rfl, L17.b⟩
            · have HF0 := Lib.hid (hf0 (find_bad hgt ho1 hhw))
              have hh13 : hw = 1 ∨ hw = 3 := hho.resolve_left hhw
              clear hkn hf0 hgt ho ho1 hun hpl3 hpn hho hG hR hhw
              rcases hh13 with hh | hh
              all_goals subst hh
              · go_wp2_with (first
                  | (go_at_call 40; (with_reducible refine HLw.out.all.mono ?_); rintro e W4 ⟨⟨v4, rfl, d4⟩, b4⟩; have L4 := HLw.out.past b4)
                  | (go_at_call 23; (with_reducible refine (HKn.out _ _ L4).mono ?_); rintro e W5 ⟨rfl, b5⟩; have L5 := L4.past b5; have d5 := d4.past b5)
                  | (go_at_call 20; (with_reducible refine (HWk.out _ _ (L5.past (bal W5 (.cells #[.int .i64 0, .int .i64 0, .int .i64 0, .bool false, .bool false, .bool false, .bool false] 49)))).mono ?_); rintro e W6 ⟨b6, a6, c6, rfl, s6⟩; have L6 := (L5.past (bal W5 (.cells #[.int .i64 0, .int .i64 0, .int .i64 0, .bool false, .bool false, .bool false, .bool false] 49))).past b6; have d6 := (d5.past (bal W5 (.cells #[.int .i64 0, .int .i64 0, .int .i64 0, .bool false, .bool false, .bool false, .bool false] 49))).past b6)
                  | (go_at_call 32; (with_reducible refine (HF0.out _ _ (L6.past (bal W6 (.cells #[.slice a6 pn c6, .int .i64 g0, .bool rw0, .bool ru0, .bool rx0, .bool lg, .bool pd] 42)))).mono ?_); rintro e W7 ⟨rfl, D⟩; have L7 := (L6.past (bal W6 (.cells #[.slice a6 pn c6, .int .i64 g0, .bool rw0, .bool ru0, .bool rx0, .bool lg, .bool pd] 42))).did D; have P7 := D.2.2.blk (Blk.new W6 42 [.slice a6 pn c6, .int .i64 g0, .bool rw0, .bool ru0, .bool rx0, .bool lg, .bool pd]) ⟨by decide, by decide, by decide, by decide⟩; have s7 := D.2.2.sl (s6.past (bal W6 (.cells #[.slice a6 pn c6, .int .i64 g0, .bool rw0, .bool ru0, .bool rx0, .bool lg, .bool pd] 42))); have d7 := D.2.2.wd (d6.past (bal W6 (.cells #[.slice a6 pn c6, .int .i64 g0, .bool rw0, .bool ru0, .bool rx0, .bool lg, .bool pd] 42))); clear D)
                  | (go_at_call 23; (with_reducible refine (HKn.out _ _ L7).mono ?_); rintro e W8 ⟨rfl, b8⟩; have L8 := L7.past b8; have P8 := P7.past b8; have s8 := s7.past b8; have d8 := d7.past b8)
                  | (go_at_call 32; (with_reducible refine (HF0.out _ _ (L8.past (bal W8 (.cells #[.int .i64 0, .int .i64 0, .int .i64 0, .bool false, .bool false, .bool false, .bool false] 49)))).mono ?_); rintro e W9 ⟨rfl, D⟩; have L9 := (L8.past (bal W8 (.cells #[.int .i64 0, .int .i64 0, .int .i64 0, .bool false, .bool false, .bool false, .bool false] 49))).did D; have P9 := D.2.2.blk (P8.past (bal W8 (.cells #[.int .i64 0, .int .i64 0, .int .i64 0, .bool false, .bool false, .bool false, .bool false] 49))) ⟨by decide, by decide, by decide, by decide⟩; have s9 := D.2.2.sl (s8.past (bal W8 (.cells #[.int .i64 0, .int .i64 0, .int .i64 0, .bool false, .bool false, .bool false, .bool false] 49))); have d9 := D.2.2.wd (d8.past (bal W8 (.cells #[.int .i64 0, .int .i64 0, .int .i64 0, .bool false, .bool false, .bool false, .bool false] 49))); clear D; have pz0 := P9.cell (k := 0) rfl; have pz1 := P9.cell (k := 1) rfl; have pz2 := P9.cell (k := 2) rfl; have pz3 := P9.cell (k := 3) rfl; have pz4 := P9.cell (k := 4) rfl; have pz5 := P9.cell (k := 5) rfl; have pz6 := P9.cell (k := 6) rfl; have pzl := P9.lt)
                  | (go_at_call 40; (with_reducible refine L9.all.mono ?_); rintro e W11 ⟨⟨v11, rfl, d11⟩, b11⟩; have L11 := L9.past b11; have D11 := d9.past b11)
                  | (go_at_call 39; (with_reducible refine (same_wd d11 D11 L11.m.len).mono ?_); rintro e W12 ⟨rfl, b12⟩; have L12 := L11.past b12))
                go_ret
                exact ⟨rfl, L12.b⟩
              · go_wp2_with (first
                  | (go_at_call 40; (with_reducible refine HLw.out.all.mono ?_); rintro e W4 ⟨⟨v4, rfl, d4⟩, b4⟩; have L4 := HLw.out.past b4)
                  | (go_at_call 23; (with_reducible refine (HKn.out _ _ L4).mono ?_); rintro e W5 ⟨rfl, b5⟩; have L5 := L4.past b5; have d5 := d4.past b5)
                  | (go_at_call 20; (with_reducible refine (HWk.out _ _ (L5.past (bal W5 (.cells #[.int .i64 0, .int .i64 0, .int .i64 0, .bool false, .bool false, .bool false, .bool false] 49)))).mono ?_); rintro e W6 ⟨b6, a6, c6, rfl, s6⟩; have L6 := (L5.past (bal W5 (.cells #[.int .i64 0, .int .i64 0, .int .i64 0, .bool false, .bool false, .bool false, .bool false] 49))).past b6; have d6 := (d5.past (bal W5 (.cells #[.int .i64 0, .int .i64 0, .int .i64 0, .bool false, .bool false, .bool false, .bool false] 49))).past b6)
                  | (go_at_call 32; (with_reducible refine (HF0.out _ _ (L6.past (bal W6 (.cells #[.slice a6 pn c6, .int .i64 g0, .bool rw0, .bool ru0, .bool rx0, .bool lg, .bool pd] 42)))).mono ?_); rintro e W7 ⟨rfl, D⟩; have L7 := (L6.past (bal W6 (.cells #[.slice a6 pn c6, .int .i64 g0, .bool rw0, .bool ru0, .bool rx0, .bool lg, .bool pd] 42))).did D; have P7 := D.2.2.blk (Blk.new W6 42 [.slice a6 pn c6, .int .i64 g0, .bool rw0, .bool ru0, .bool rx0, .bool lg, .bool pd]) ⟨by decide, by decide, by decide, by decide⟩; have s7 := D.2.2.sl (s6.past (bal W6 (.cells #[.slice a6 pn c6, .int .i64 g0, .bool rw0, .bool ru0, .bool rx0, .bool lg, .bool pd] 42))); have d7 := D.2.2.wd (d6.past (bal W6 (.cells #[.slice a6 pn c6, .int .i64 g0, .bool rw0, .bool ru0, .bool rx0, .bool lg, .bool pd] 42))); clear D)
                  | (go_at_call 23; (with_reducible refine (HKn.out _ _ L7).mono ?_); rintro e W8 ⟨rfl, b8⟩; have L8 := L7.past b8; have P8 := P7.past b8; have s8 := s7.past b8; have d8 := d7.past b8)
                  | (go_at_call 32; (with_reducible refine (HF0.out _ _ (L8.past (bal W8 (.cells #[.int .i64 0, .int .i64 0, .int .i64 0, .bool false, .bool false, .bool false, .bool false] 49)))).mono ?_); rintro e W9 ⟨rfl, D⟩; have L9 := (L8.past (bal W8 (.cells #[.int .i64 0, .int .i64 0, .int .i64 0, .bool false, .bool false, .bool false, .bool false] 49))).did D; have P9 := D.2.2.blk (P8.past (bal W8 (.cells #[.int .i64 0, .int .i64 0, .int .i64 0, .bool false, .bool false, .bool false, .bool false] 49))) ⟨by decide, by decide, by decide, by decide⟩; have s9 := D.2.2.sl (s8.past (bal W8 (.cells #[.int .i64 0, .int .i64 0, .int .i64 0, .bool false, .bool false, .bool false, .bool false] 49))); have d9 := D.2.2.wd (d8.past (bal W8 (.cells #[.int .i64 0, .int .i64 0, .int .i64 0, .bool false, .bool false, .bool false, .bool false] 49))); clear D; have pz0 := P9.cell (k := 0) rfl; have pz1 := P9.cell (k := 1) rfl; have pz2 := P9.cell (k := 2) rfl; have pz3 := P9.cell (k := 3) rfl; have pz4 := P9.cell (k := 4) rfl; have pz5 := P9.cell (k := 5) rfl; have pz6 := P9.cell (k := 6) rfl; have pzl := P9.lt)
                  | (go_at_call 40; (with_reducible refine L9.all.mono ?_); rintro e W11 ⟨⟨v11, rfl, d11⟩, b11⟩; have L11 := L9.past b11; have D11 := d9.past b11)
                  | (go_at_call 39; (with_reducible refine (same_wd d11 D11 L11.m.len).mono ?_); rintro e W12 ⟨rfl, b12⟩; have L12 := L11.past b12))
                go_ret
                exact ⟨rfl, L12.b⟩
theorem mfinds_walk (w : World) (hg : EC w) (a : Option Addr) (c : Nat) (l : List (Int × Int × Nat)) (hp : Ps w a l) (hlen : l.length ≤ 9223372036854775807) (oa : Option Addr) (oc : Nat) (ops : List Op10) (hop : Ops w oa ops) (holen : ops.length ≤ 9223372036854775807) (page : Int) (hpage : (Lit.int .u16 page).wf = true) :
    Calls Tryz.prog 6 #[.slice a l.length c, .slice oa ops.length oc, .int .u16 page] w fun e w' => e = .returned (.bool true) ∧ Below w.heap.size w w' := by
  obtain ⟨page, rfl, hpg⟩ := nat_u16 hpage
  exact ModelFinds_nat w hg a c l hp hlen oa oc ops hop holen page hpg
end Go.Proofs.YtgaififhhffpfaaGreatDoor
