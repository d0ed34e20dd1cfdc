/- ModelAgain's walk. -/
import Derived.Test.YtgaififhhffpfaaDoorOps
import Derived.Test.YtgaififhhffpfaaDoorAgainP
import Derived.Test.YtgaififhhffpfaaDoorMRoots
import Derived.Laws.StructEq
namespace Go.Proofs.YtgaififhhffpfaaDoor
open Go.RowKit Go.Shelf

set_option maxRecDepth 100000 in
set_option maxHeartbeats 8000000 in
theorem ModelAgain_nat (w : World) (hg : EC w) (a : Option Addr) (c : Nat) (l : List (Int × Int × Nat)) (hp : Ps w a l) (hlen : l.length ≤ 9223372036854775807) (oa : Option Addr) (oc : Nat) (ops : List Op10) (hop : Ops w oa ops) (holen : ops.length ≤ 9223372036854775807) (what kind : Int) (user : Bool) (ad x : Nat) (qg qi page : Int) (had : ad < 2 ^ 64) (hx : x < 2 ^ 64) :
    Calls Tryd.prog 6 #[.slice a l.length c, .slice oa ops.length oc, .agg #[.int .i64 what, .int .i64 kind, .bool user, .int .u64 (ad : Int), .int .u64 (x : Int), .int .i64 qg, .int .i64 qi, .int .i64 page]] w fun e w' => e = .returned (.bool true) ∧ Below w.heap.size w w' := by
  have hh := head10_any w hg
  have hm := fun W (hb : Below w.heap.size w W) => made_any W a c l (hp.below hb) hlen
  have hB1 : 1 ≤ w.heap.size := lt_of_cell hg
  obtain ⟨len, hl⟩ : ∃ len, l.length = len := ⟨_, rfl⟩
  obtain ⟨on, hol⟩ : ∃ n, ops.length = n := ⟨_, rfl⟩
  obtain ⟨mem, hmem⟩ : ∃ mem, puts l = mem := ⟨_, rfl⟩
  have hpl := puts_len' l
  rw [hmem] at hpl
  rw [hl] at hm hlen ⊢
  rw [hol] at holen ⊢
  rw [hmem] at hm
  have HH := Lib.hid hh
  have HM := Lib.hid hm
  have HE := Lib.hid hg
  have HB1 := Lib.hid hB1
  have HOp := Lib.hid hop
  have HOl := Lib.hid hol
  have HPl := Lib.hid hpl
  obtain ⟨az, haz⟩ : ∃ z : Int, (ad : Int) = z := ⟨_, rfl⟩
  obtain ⟨xz, hxz⟩ : ∃ z : Int, (x : Int) = z := ⟨_, rfl⟩
  rw [haz, hxz]
  have bb := bal w (.cells #[.int .i64 what, .int .i64 kind, .bool user, .int .u64 az, .int .u64 xz, .int .i64 qg, .int .i64 qi, .int .i64 page] 46)
  have hob := Blk.new w 46 [.int .i64 what, .int .i64 kind, .bool user, .int .u64 az, .int .u64 xz, .int .i64 qg, .int .i64 qi, .int .i64 page]
  obtain ⟨w0, hw0⟩ : ∃ W, w.alloc (.cells #[.int .i64 what, .int .i64 kind, .bool user, .int .u64 az, .int .u64 xz, .int .i64 qg, .int .i64 qi, .int .i64 page] 46) = W := ⟨_, rfl⟩
  rw [show (w.alloc (.cells ([.int .i64 what, .int .i64 kind, .bool user, .int .u64 az, .int .u64 xz, .int .i64 qg, .int .i64 qi, .int .i64 page] : List Value).toArray 46)) = w0 from hw0] at hob
  rw [hw0] at bb
  have hh0 := head10_any w0 (hg.past bb)
  have HH0 := Lib.hid hh0
  have HW := Lib.hid hw0
  have HBb := Lib.hid bb
  have HOb := Lib.hid hob
  have hac : ∀ W p tp gp fb S, Lw w [] W p tp gp fb S → Calls Tryd.prog 22 #[.pointer (some ⟨p, 0, none⟩), .int .i64 kind, .bool user, .int .u64 az, .int .u64 xz] W fun e w' => e = .returned (accS S kind user ad x).1.val ∧ Did w.heap.size [] W p tp gp fb (accS S kind user ad x).2 w' := fun W p tp gp fb S L => by
    have := access_mm L.m (L.ec hg) hB1 L.b.size kind user ad x had hx
    rw [haz, hxz] at this; exact this
  have hld : ∀ W p tp gp fb S, Lw w [] W p tp gp fb S → Calls Tryd.prog 22 #[.pointer (some ⟨p, 0, none⟩), .int .i64 0, .bool user, .int .u64 az, .int .u64 0] W fun e w' => e = .returned (accS S 0 user ad 0).1.val ∧ Did w.heap.size [] W p tp gp fb (accS S 0 user ad 0).2 w' := fun W p tp gp fb S L => by
    have := access_mm L.m (L.ec hg) hB1 L.b.size 0 user ad 0 had (by decide)
    rw [haz] at this; exact this
  have HAc := Lib.hid hac
  have HLd := Lib.hid hld
  have HXz := Lib.hid hxz
  clear hh hm hg hB1 hop hol hpl hl hmem hp hlen hac hld haz hxz bb hob hw0 hh0 HH
  by_cases h600 : (600 : Int) < (len : Int)
  · go_enter Tryd.func6, Tryd.ntmps6
    go_wp2_with (first
      | (go_at_call 12; rw [HW.out]; (with_reducible refine HH0.out.mono ?_); rintro e W0 ⟨rfl, c0⟩; have b0 := HBb.out.trans (c0.mono HBb.out.size); have O0 := HOb.out.past c0)
      | (go_at_call 13; (with_reducible refine (HM.out _ b0).mono ?_); rintro e W1 ⟨⟨gp, fb, rfl, G1, q1, q2⟩, b1⟩; have A1 := b0.trans (b1.mono b0.size); have q2' := Nat.le_trans b0.size q2; have O1 := O0.past b1; clear q1 q2))
    go_ret
    exact ⟨rfl, A1⟩
  · by_cases h200 : (200 : Int) < (on : Int)
    · go_enter Tryd.func6, Tryd.ntmps6
      go_wp2_with (first
        | (go_at_call 12; rw [HW.out]; (with_reducible refine HH0.out.mono ?_); rintro e W0 ⟨rfl, c0⟩; have b0 := HBb.out.trans (c0.mono HBb.out.size); have O0 := HOb.out.past c0)
        | (go_at_call 13; (with_reducible refine (HM.out _ b0).mono ?_); rintro e W1 ⟨⟨gp, fb, rfl, G1, q1, q2⟩, b1⟩; have A1 := b0.trans (b1.mono b0.size); have q2' := Nat.le_trans b0.size q2; have O1 := O0.past b1; clear q1 q2))
      go_ret
      exact ⟨rfl, A1⟩
    · have h6' : decide ((600 : Int) < (len : Int)) = false := decide_eq_false_iff_not.2 h600
      have h2' : decide ((200 : Int) < (on : Int)) = false := decide_eq_false_iff_not.2 h200
      clear h600 h200
      go_enter Tryd.func6, Tryd.ntmps6
      go_wp2_with (first
        | (go_at_call 12; rw [HW.out]; (with_reducible refine HH0.out.mono ?_); rintro e W0 ⟨rfl, c0⟩; have b0 := HBb.out.trans (c0.mono HBb.out.size); have O0 := HOb.out.past c0)
        | (go_at_call 13; (with_reducible refine (HM.out _ b0).mono ?_); rintro e W1 ⟨⟨gp, fb, rfl, G1, q1, q2⟩, b1⟩; have A1 := b0.trans (b1.mono b0.size); have q2' := Nat.le_trans b0.size q2; have O1 := O0.past b1; clear q1 q2)
        | (go_at_call 14; (with_reducible refine (new_mm _ gp fb _ 1 G1 HPl.out w.heap.size A1.size q2').mono ?_); rintro e W2 ⟨⟨p, tp, rfl, M2⟩, b2⟩; have L2 : Lw w [] W2 p tp gp fb ⟨mem, 1, []⟩ := ⟨M2, A1.trans (b2.mono A1.size)⟩; have O2 := O1.past b2; clear M2 b2 A1 q2' b0 b1 G1))
      go_loopw [10] (fun i wr => ∃ k : Nat, k ≤ on ∧ i = .int .i64 k ∧ ∃ S, Lw w [] wr p tp gp fb S ∧ Good S ∧ Blk wr w.heap.size 46 [.int .i64 what, .int .i64 kind, .bool user, .int .u64 az, .int .u64 xz, .int .i64 qg, .int .i64 qi, .int .i64 page]) (fun i _ => on - (intOf i).toNat)
      case atStart => exact ⟨0, by omega, rfl, _, L2, good_nil _ _, O2⟩
      case round =>
        obtain ⟨k, hk, rfl, S, L, hG, O⟩ := hrel
        clear L2
        by_cases hkl : k < on
        · obtain ⟨b, off, what, okind, ouser, ox, ov, og, oi, opage, rfl, hb1, _, ook, C0, C1, C2, C3, C4, C5, C6, C7⟩ := HOp.out.at k (by rw [HOl.out]; exact hkl)
          have c0 := (L.b.cell (p := ⟨b, _, none⟩) hb1).trans C0
          have c1 := (L.b.cell (p := ⟨b, _, none⟩) hb1).trans C1
          have c2 := (L.b.cell (p := ⟨b, _, none⟩) hb1).trans C2
          have c3 := (L.b.cell (p := ⟨b, _, none⟩) hb1).trans C3
          have c4 := (L.b.cell (p := ⟨b, _, none⟩) hb1).trans C4
          have c5 := (L.b.cell (p := ⟨b, _, none⟩) hb1).trans C5
          have c6 := (L.b.cell (p := ⟨b, _, none⟩) hb1).trans C6
          have c7 := (L.b.cell (p := ⟨b, _, none⟩) hb1).trans C7
          clear C0 C1 C2 C3 C4 C5 C6 C7
          have hdo := do_open L.m (L.ec HE.out) HB1.out L.b.size what okind ouser ox ov og oi opage ook
          have HDo := Lib.hid hdo
          have HLw := Lib.hid L
          have HO := Lib.hid O
          clear hdo L ook hk O
          go_wp2_with (first
            | (go_at_call 15; (with_reducible refine HDo.out.mono ?_); rintro e W3 ⟨rfl, D⟩; have L3 := HLw.out.did D))
          go_roundw
          case rel => exact ⟨k + 1, by omega, by simp, _, L3, do_good hG _, D.2.2.blk HO.out ⟨by decide, by decide, by decide, by decide⟩⟩
          case measure => simp [intOf]; omega
        · obtain rfl : k = on := by omega
          clear hkl hk
          obtain ⟨⟨⟨ah, avn, ac, aan⟩, S1⟩, hA⟩ : ∃ r, accS S kind user ad x = r := ⟨_, rfl⟩
          have hag := acc_again hG kind user ad x
          rw [hA] at hag
          dsimp only at hag
          obtain ⟨⟨oB, S2⟩, hB⟩ : ∃ r, accS S1 kind user ad x = r := ⟨_, rfl⟩
          rw [hB] at hag
          dsimp only at hag
          obtain ⟨hb1, hb2⟩ := hag
          subst hb1
          have ha1 := fun W L => HAc.out W p tp gp fb S L
          have ha2 := fun W L => HAc.out W p tp gp fb S1 L
          rw [hA] at ha1
          rw [hB] at ha2
          dsimp only [Ot.val] at ha1 ha2
          obtain ⟨av, hav⟩ : ∃ z : Int, (avn : Int) = z := ⟨_, rfl⟩
          obtain ⟨aa, haa⟩ : ∃ z : Int, (aan : Int) = z := ⟨_, rfl⟩
          rw [hav, haa] at ha1 ha2
          have hS1 : Good S1 := by have := acc_good hG kind user ad x; rw [hA] at this; exact this
          have HA2 := Lib.hid ha2
          have HA1 := Lib.hid ha1
          have HB2 := Lib.hid hb2
          have HGd := Lib.hid hS1
          have HBB := Lib.hid hB
          have HLw := Lib.hid L
          have HO := Lib.hid O
          have o30 := O.cell (k := 0) rfl
          have o31 := O.cell (k := 1) rfl
          have o32 := O.cell (k := 2) rfl
          have o33 := O.cell (k := 3) rfl
          have o34 := O.cell (k := 4) rfl
          have o35 := O.cell (k := 5) rfl
          have o36 := O.cell (k := 6) rfl
          have o37 := O.cell (k := 7) rfl
          have o3l := O.lt
          clear ha1 ha2 hb2 hS1 hB L O hA hav haa hG
          by_cases hah : ah = 0
          · subst hah
            by_cases hkd : kind = 1
            · subst hkd
              have hst := fun W L => HLd.out W p tp gp fb S2 L
              have hsto := fun h128 => acc_stored (S := S1) HGd.out h128 user ad x (by rw [HBB.out])
              rw [show (accS S1 1 user ad x).2 = S2 by rw [HBB.out]] at hsto
              have hlz : ∀ W, Lw w [] W p tp gp fb S2 → Calls Tryd.prog 22 #[.pointer (some ⟨p, 0, none⟩), .int .i64 0, .bool user, .int .u64 az, .int .u64 0] W fun e w' => e = .returned (.agg #[.int .i64 0, .int .u64 xz, .int .i64 0, .int .u64 0]) ∧ Did w.heap.size [] W p tp gp fb (accS S2 0 user ad 0).2 w' := fun W L => by
                have hc := hst W L
                rw [hsto (HB2.out ▸ L.m.len)] at hc
                dsimp only [Ot.val] at hc
                rw [HXz.out] at hc
                exact hc
              have HLz := Lib.hid hlz
              clear hst hsto hlz
              go_wp2_with (first
                | (go_at_call 22; (with_reducible refine (HA1.out _ HLw.out).mono ?_); rintro e W4 ⟨rfl, D⟩; have L4 := HLw.out.did D; have O4 := D.2.2.blk HO.out ⟨by decide, by decide, by decide, by decide⟩; have o40 := O4.cell (k := 0) rfl; have o41 := O4.cell (k := 1) rfl; have o42 := O4.cell (k := 2) rfl; have o43 := O4.cell (k := 3) rfl; have o44 := O4.cell (k := 4) rfl; have o45 := O4.cell (k := 5) rfl; have o46 := O4.cell (k := 6) rfl; have o47 := O4.cell (k := 7) rfl; have o4l := O4.lt; clear D)
                | (go_at_call 19; (with_reducible refine (L4.past (bal W4 (.cells #[.int .i64 0, .int .u64 av, .int .i64 ac, .int .u64 aa] 43))).all.mono ?_); rintro e W5 ⟨⟨v5, rfl, d5⟩, b5⟩; have L5 := (L4.past (bal W4 (.cells #[.int .i64 0, .int .u64 av, .int .i64 ac, .int .u64 aa] 43))).past b5; have O5 := (O4.past (bal W4 (.cells #[.int .i64 0, .int .u64 av, .int .i64 ac, .int .u64 aa] 43))).past b5; have X5 := (Blk.new W4 43 [.int .i64 0, .int .u64 av, .int .i64 ac, .int .u64 aa]).past b5; have o50 := O5.cell (k := 0) rfl; have o51 := O5.cell (k := 1) rfl; have o52 := O5.cell (k := 2) rfl; have o53 := O5.cell (k := 3) rfl; have o54 := O5.cell (k := 4) rfl; have o55 := O5.cell (k := 5) rfl; have o56 := O5.cell (k := 6) rfl; have o57 := O5.cell (k := 7) rfl; have o5l := O5.lt)
                | (go_at_call 22; (with_reducible refine (HA2.out _ L5).mono ?_); rintro e W6 ⟨rfl, D⟩; have L6 := L5.did D; have O6 := D.2.2.blk O5 ⟨by decide, by decide, by decide, by decide⟩; have X6 := D.2.2.blk X5 ⟨by decide, by decide, by decide, by decide⟩; have d6 := D.2.2.wd d5; have x60 := X6.cell (k := 0) rfl; have x61 := X6.cell (k := 1) rfl; have x62 := X6.cell (k := 2) rfl; have x63 := X6.cell (k := 3) rfl; have x6l := X6.lt; clear D)
                | (go_at_call 19; (with_reducible refine (L6.past (bal W6 (.cells #[.int .i64 0, .int .u64 av, .int .i64 ac, .int .u64 aa] 43))).all.mono ?_); rintro e W7 ⟨⟨v7, rfl, d7⟩, b7⟩; have L7 := (L6.past (bal W6 (.cells #[.int .i64 0, .int .u64 av, .int .i64 ac, .int .u64 aa] 43))).past b7; have d7' := (d6.past (bal W6 (.cells #[.int .i64 0, .int .u64 av, .int .i64 ac, .int .u64 aa] 43))).past b7; have O7 := (O6.past (bal W6 (.cells #[.int .i64 0, .int .u64 av, .int .i64 ac, .int .u64 aa] 43))).past b7; have X7 := (X6.past (bal W6 (.cells #[.int .i64 0, .int .u64 av, .int .i64 ac, .int .u64 aa] 43))).past b7)
                | (go_at_call 23; (with_reducible refine (same_wd d7 (HB2.out ▸ d7') L7.m.len).mono ?_); rintro e W8 ⟨rfl, b8⟩; have L8 := L7.past b8; have O8 := O7.past b8; have X8 := X7.past b8; have o80 := O8.cell (k := 0) rfl; have o81 := O8.cell (k := 1) rfl; have o82 := O8.cell (k := 2) rfl; have o83 := O8.cell (k := 3) rfl; have o84 := O8.cell (k := 4) rfl; have o85 := O8.cell (k := 5) rfl; have o86 := O8.cell (k := 6) rfl; have o87 := O8.cell (k := 7) rfl; have o8l := O8.lt; have x80 := X8.cell (k := 0) rfl; have x81 := X8.cell (k := 1) rfl; have x82 := X8.cell (k := 2) rfl; have x83 := X8.cell (k := 3) rfl; have x8l := X8.lt))
              go_region_held3 (fun w' => w'.cell? ⟨w.heap.size, 2, none⟩ = some (.bool user) ∧ w'.cell? ⟨w.heap.size, 3, none⟩ = some (.int .u64 az) ∧ w'.cell? ⟨w.heap.size, 4, none⟩ = some (.int .u64 xz)) (go_keep) (first | (go_at_call 22; (with_reducible refine (HLz.out _ (L8.past (Below.refl _ W8).drew)).mono ?_); rintro e W9 ⟨rfl, D⟩; have L9 := (L8.past (Below.refl _ W8).drew).did D; have O9 := D.2.2.blk (O8.past (Below.refl _ W8).drew) ⟨by decide, by decide, by decide, by decide⟩; have o90 := O9.cell (k := 0) rfl; have o91 := O9.cell (k := 1) rfl; have o92 := O9.cell (k := 2) rfl; have o93 := O9.cell (k := 3) rfl; have o94 := O9.cell (k := 4) rfl; have o95 := O9.cell (k := 5) rfl; have o96 := O9.cell (k := 6) rfl; have o97 := O9.cell (k := 7) rfl; have o9l := O9.lt; clear D))
              all_goals go_wp2
              all_goals go_ret
              all_goals exact ⟨rfl, L9.b⟩
            · have qk : (kind != 1) = true := bne_iff_ne.2 hkd
              clear hkd
              go_wp2_with (first
                | (go_at_call 22; (with_reducible refine (HA1.out _ HLw.out).mono ?_); rintro e W4 ⟨rfl, D⟩; have L4 := HLw.out.did D; have O4 := D.2.2.blk HO.out ⟨by decide, by decide, by decide, by decide⟩; have o40 := O4.cell (k := 0) rfl; have o41 := O4.cell (k := 1) rfl; have o42 := O4.cell (k := 2) rfl; have o43 := O4.cell (k := 3) rfl; have o44 := O4.cell (k := 4) rfl; have o45 := O4.cell (k := 5) rfl; have o46 := O4.cell (k := 6) rfl; have o47 := O4.cell (k := 7) rfl; have o4l := O4.lt; clear D)
                | (go_at_call 19; (with_reducible refine (L4.past (bal W4 (.cells #[.int .i64 0, .int .u64 av, .int .i64 ac, .int .u64 aa] 43))).all.mono ?_); rintro e W5 ⟨⟨v5, rfl, d5⟩, b5⟩; have L5 := (L4.past (bal W4 (.cells #[.int .i64 0, .int .u64 av, .int .i64 ac, .int .u64 aa] 43))).past b5; have O5 := (O4.past (bal W4 (.cells #[.int .i64 0, .int .u64 av, .int .i64 ac, .int .u64 aa] 43))).past b5; have X5 := (Blk.new W4 43 [.int .i64 0, .int .u64 av, .int .i64 ac, .int .u64 aa]).past b5; have o50 := O5.cell (k := 0) rfl; have o51 := O5.cell (k := 1) rfl; have o52 := O5.cell (k := 2) rfl; have o53 := O5.cell (k := 3) rfl; have o54 := O5.cell (k := 4) rfl; have o55 := O5.cell (k := 5) rfl; have o56 := O5.cell (k := 6) rfl; have o57 := O5.cell (k := 7) rfl; have o5l := O5.lt)
                | (go_at_call 22; (with_reducible refine (HA2.out _ L5).mono ?_); rintro e W6 ⟨rfl, D⟩; have L6 := L5.did D; have O6 := D.2.2.blk O5 ⟨by decide, by decide, by decide, by decide⟩; have X6 := D.2.2.blk X5 ⟨by decide, by decide, by decide, by decide⟩; have d6 := D.2.2.wd d5; have x60 := X6.cell (k := 0) rfl; have x61 := X6.cell (k := 1) rfl; have x62 := X6.cell (k := 2) rfl; have x63 := X6.cell (k := 3) rfl; have x6l := X6.lt; clear D)
                | (go_at_call 19; (with_reducible refine (L6.past (bal W6 (.cells #[.int .i64 0, .int .u64 av, .int .i64 ac, .int .u64 aa] 43))).all.mono ?_); rintro e W7 ⟨⟨v7, rfl, d7⟩, b7⟩; have L7 := (L6.past (bal W6 (.cells #[.int .i64 0, .int .u64 av, .int .i64 ac, .int .u64 aa] 43))).past b7; have d7' := (d6.past (bal W6 (.cells #[.int .i64 0, .int .u64 av, .int .i64 ac, .int .u64 aa] 43))).past b7; have O7 := (O6.past (bal W6 (.cells #[.int .i64 0, .int .u64 av, .int .i64 ac, .int .u64 aa] 43))).past b7; have X7 := (X6.past (bal W6 (.cells #[.int .i64 0, .int .u64 av, .int .i64 ac, .int .u64 aa] 43))).past b7)
                | (go_at_call 23; (with_reducible refine (same_wd d7 (HB2.out ▸ d7') L7.m.len).mono ?_); rintro e W8 ⟨rfl, b8⟩; have L8 := L7.past b8; have O8 := O7.past b8; have X8 := X7.past b8; have o80 := O8.cell (k := 0) rfl; have o81 := O8.cell (k := 1) rfl; have o82 := O8.cell (k := 2) rfl; have o83 := O8.cell (k := 3) rfl; have o84 := O8.cell (k := 4) rfl; have o85 := O8.cell (k := 5) rfl; have o86 := O8.cell (k := 6) rfl; have o87 := O8.cell (k := 7) rfl; have o8l := O8.lt; have x80 := X8.cell (k := 0) rfl; have x81 := X8.cell (k := 1) rfl; have x82 := X8.cell (k := 2) rfl; have x83 := X8.cell (k := 3) rfl; have x8l := X8.lt))
              go_ret
              exact ⟨rfl, L8.b⟩
          · have qh : (ah != 0) = true := bne_iff_ne.2 hah
            clear hah
            go_wp2_with (first
              | (go_at_call 22; (with_reducible refine (HA1.out _ HLw.out).mono ?_); rintro e W4 ⟨rfl, D⟩; have L4 := HLw.out.did D; have O4 := D.2.2.blk HO.out ⟨by decide, by decide, by decide, by decide⟩; have o40 := O4.cell (k := 0) rfl; have o41 := O4.cell (k := 1) rfl; have o42 := O4.cell (k := 2) rfl; have o43 := O4.cell (k := 3) rfl; have o44 := O4.cell (k := 4) rfl; have o45 := O4.cell (k := 5) rfl; have o46 := O4.cell (k := 6) rfl; have o47 := O4.cell (k := 7) rfl; have o4l := O4.lt; clear D)
              | (go_at_call 19; (with_reducible refine (L4.past (bal W4 (.cells #[.int .i64 ah, .int .u64 av, .int .i64 ac, .int .u64 aa] 43))).all.mono ?_); rintro e W5 ⟨⟨v5, rfl, d5⟩, b5⟩; have L5 := (L4.past (bal W4 (.cells #[.int .i64 ah, .int .u64 av, .int .i64 ac, .int .u64 aa] 43))).past b5; have O5 := (O4.past (bal W4 (.cells #[.int .i64 ah, .int .u64 av, .int .i64 ac, .int .u64 aa] 43))).past b5; have X5 := (Blk.new W4 43 [.int .i64 ah, .int .u64 av, .int .i64 ac, .int .u64 aa]).past b5; have o50 := O5.cell (k := 0) rfl; have o51 := O5.cell (k := 1) rfl; have o52 := O5.cell (k := 2) rfl; have o53 := O5.cell (k := 3) rfl; have o54 := O5.cell (k := 4) rfl; have o55 := O5.cell (k := 5) rfl; have o56 := O5.cell (k := 6) rfl; have o57 := O5.cell (k := 7) rfl; have o5l := O5.lt)
              | (go_at_call 22; (with_reducible refine (HA2.out _ L5).mono ?_); rintro e W6 ⟨rfl, D⟩; have L6 := L5.did D; have O6 := D.2.2.blk O5 ⟨by decide, by decide, by decide, by decide⟩; have X6 := D.2.2.blk X5 ⟨by decide, by decide, by decide, by decide⟩; have d6 := D.2.2.wd d5; have x60 := X6.cell (k := 0) rfl; have x61 := X6.cell (k := 1) rfl; have x62 := X6.cell (k := 2) rfl; have x63 := X6.cell (k := 3) rfl; have x6l := X6.lt; clear D)
              | (go_at_call 19; (with_reducible refine (L6.past (bal W6 (.cells #[.int .i64 ah, .int .u64 av, .int .i64 ac, .int .u64 aa] 43))).all.mono ?_); rintro e W7 ⟨⟨v7, rfl, d7⟩, b7⟩; have L7 := (L6.past (bal W6 (.cells #[.int .i64 ah, .int .u64 av, .int .i64 ac, .int .u64 aa] 43))).past b7; have d7' := (d6.past (bal W6 (.cells #[.int .i64 ah, .int .u64 av, .int .i64 ac, .int .u64 aa] 43))).past b7; have O7 := (O6.past (bal W6 (.cells #[.int .i64 ah, .int .u64 av, .int .i64 ac, .int .u64 aa] 43))).past b7; have X7 := (X6.past (bal W6 (.cells #[.int .i64 ah, .int .u64 av, .int .i64 ac, .int .u64 aa] 43))).past b7)
              | (go_at_call 23; (with_reducible refine (same_wd d7 (HB2.out ▸ d7') L7.m.len).mono ?_); rintro e W8 ⟨rfl, b8⟩; have L8 := L7.past b8; have O8 := O7.past b8; have X8 := X7.past b8; have o80 := O8.cell (k := 0) rfl; have o81 := O8.cell (k := 1) rfl; have o82 := O8.cell (k := 2) rfl; have o83 := O8.cell (k := 3) rfl; have o84 := O8.cell (k := 4) rfl; have o85 := O8.cell (k := 5) rfl; have o86 := O8.cell (k := 6) rfl; have o87 := O8.cell (k := 7) rfl; have o8l := O8.lt; have x80 := X8.cell (k := 0) rfl; have x81 := X8.cell (k := 1) rfl; have x82 := X8.cell (k := 2) rfl; have x83 := X8.cell (k := 3) rfl; have x8l := X8.lt))
            go_ret
            exact ⟨rfl, L8.b⟩
theorem magain_walk (w : World) (hg : EC w) (a : Option Addr) (c : Nat) (l : List (Int × Int × Nat)) (hp : Ps w a l) (hlen : l.length ≤ 9223372036854775807) (oa : Option Addr) (oc : Nat) (ops : List Op10) (hop : Ops w oa ops) (holen : ops.length ≤ 9223372036854775807) (o : Op10) (ho : o.ok) :
    Calls Tryd.prog 6 #[.slice a l.length c, .slice oa ops.length oc, .agg #[.int .i64 o.what, .int .i64 o.kind, .bool o.user, .int .u64 (o.a : Int), .int .u64 (o.v : Int), .int .i64 o.g, .int .i64 o.i, .int .i64 o.page]] w fun e w' => e = .returned (.bool true) ∧ Below w.heap.size w w' :=
  ModelAgain_nat w hg a c l hp hlen oa oc ops hop holen o.what o.kind o.user o.a o.v o.g o.i o.page ho.1 ho.2

end Go.Proofs.YtgaififhhffpfaaDoor
