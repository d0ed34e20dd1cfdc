/- ModelRoots's walk. -/
import Derived.Test.YtgaififhhffpfaaGreatDoorOps
import Derived.Laws.StructEq
namespace Go.Proofs.YtgaififhhffpfaaGreatDoor
open Go.RowKit Go.Shelf
theorem puts_len' (l : List (Int × Int × Nat)) : (puts l).length = 128 := by
  unfold puts
  have : ∀ (l : List (Int × Int × Nat)) (m : List Nat), (l.foldl put1 m).length = m.length := by
    intro l
    induction l with
    | nil => intro m; rfl
    | cons x l ih => intro m; rw [List.foldl_cons, ih]; unfold put1; exact wr_len' _ _ _ _ _
  rw [this]; exact List.length_replicate

set_option maxRecDepth 100000 in
set_option maxHeartbeats 8000000 in
theorem ModelRoots_nat (w : World) (hg : EC w) (a : Option Addr) (c : Nat) (l : List (Int × Int × Nat)) (hp : Ps w a l) (hlen : l.length ≤ 9223372036854775807) (oa : Option Addr) (oc : Nat) (ops : List Op10) (hop : Ops w oa ops) (holen : ops.length ≤ 9223372036854775807) (root : Int) (kind : Nat) (user : Bool) (page : Nat) (hkn : kind < 256) (hpg : page < 65536) :
    Calls Tryz.prog 7 #[.slice a l.length c, .slice oa ops.length oc, .int .i64 root, .int .u8 (kind : Int), .bool user, .int .u16 (page : Int)] w fun e w' => e = .returned (.bool true) ∧ Below w.heap.size w w' := by
  have hh := head10_any w hg
  have hm := fun W (hb : Below w.heap.size w W) => made_any W a c l (hp.below hb) hlen
  have hB1 : 1 ≤ w.heap.size := lt_of_cell hg
  obtain ⟨len, hl⟩ : ∃ len, l.length = len := ⟨_, rfl⟩
  obtain ⟨on, hol⟩ : ∃ n, ops.length = n := ⟨_, rfl⟩
  obtain ⟨mem, hmem⟩ : ∃ mem, puts l = mem := ⟨_, rfl⟩
  have hpl := puts_len' l
  rw [hmem] at hpl
  rw [hl] at hm hlen ⊢
  rw [hol] at holen ⊢
  rw [hmem] at hm
  have HH := Lib.hid hh
  have HM := Lib.hid hm
  have HE := Lib.hid hg
  have HB1 := Lib.hid hB1
  have HOp := Lib.hid hop
  have HOl := Lib.hid hol
  have HPl := Lib.hid hpl
  obtain ⟨n, hn⟩ : ∃ n : Nat, page % 512 = n := ⟨_, rfl⟩
  obtain ⟨kd, hkd⟩ : ∃ n : Nat, kind % 3 = n := ⟨_, rfl⟩
  have hn1 : (page : Int) % 512 = (n : Int) := by omega
  have hk1 : (kind : Int) % 3 = (kd : Int) := by omega
  have hn2 : n < 512 := by omega
  have n0 : (0 : Int) ≤ (n : Int) := by omega
  have k0 : (0 : Int) ≤ (kd : Int) := by omega
  have n9 : (n : Int) ≤ 9223372036854775807 := by omega
  have k2 : kd < 3 := by omega
  have p0 : (0 : Int) ≤ (page : Int) := by omega
  have p1 : (page : Int) < 65536 := by omega
  have kq0 : (0 : Int) ≤ (kind : Int) := by omega
  have kq1 : (kind : Int) < 256 := by omega
  obtain ⟨ad, had⟩ : ∃ r, joinOf n 0 = r := ⟨_, rfl⟩
  obtain ⟨az, haz⟩ : ∃ z : Int, (ad : Int) = z := ⟨_, rfl⟩
  have hj : ∀ W, Calls Tryz.prog 18 #[.int .i64 (n : Int), .int .i64 0] W fun e w' => e = .returned (.int .u64 az) ∧ Below W.heap.size W w' := fun W => haz ▸ join_bel W n 0 ad had hn2 (by decide)
  have HJ := Lib.hid hj
  have had2 : ad < 2 ^ 64 := by have := (join_facts n 0 hn2 (by decide)).1; omega
  have HAd := Lib.hid had2
  have hout : ¬ (0 ≤ root ∧ root < 16) → ∀ mem u, (accS ⟨mem, root, []⟩ (kd : Int) u ad 1).1 = ⟨3, 0, 0, ad⟩ := fun h mem u => by
    obtain ⟨_, _, _, j4, j5⟩ := join_facts n 0 hn2 (by decide)
    rw [had] at j4 j5
    unfold accS accR transR
    dsimp only
    rw [if_pos j4, if_pos j5]
    simp only [tget, List.find?_nil]
    rw [wk_out h]
    unfold missR
    simp
  have HOut := Lib.hid hout
  have hac : ∀ W p tp gp fb S, Lw w [] W p tp gp fb S → Calls Tryz.prog 22 #[.pointer (some ⟨p, 0, none⟩), .int .i64 (kd : Int), .bool user, .int .u64 az, .int .u64 1] W fun e w' => e = .returned (accS S kd user ad 1).1.val ∧ Did w.heap.size [] W p tp gp fb (accS S kd user ad 1).2 w' :=
    fun W p tp gp fb S L => haz ▸ access_mm L.m (L.ec hg) hB1 L.b.size kd user ad 1 had2 (by decide)
  have HAc := Lib.hid hac
  have HAz := Lib.hid haz
  clear hh hm hg hB1 hop hol hpl hl hmem hp hlen hkn hpg hj hac haz had2 hout hn hkd had hn2
  by_cases hr : 0 ≤ root ∧ root < 16
  · obtain ⟨r0, r1⟩ := hr
    by_cases h600 : (600 : Int) < (len : Int)
    · go_enter Tryz.func7, Tryz.ntmps7
      go_wp2_with (first
        | (go_at_call 14; (with_reducible refine HH.out.mono ?_); rintro e W0 ⟨rfl, b0⟩)
        | (go_at_call 15; (with_reducible refine (HM.out _ b0).mono ?_); rintro e W1 ⟨⟨gp, fb, rfl, G1, q1, q2⟩, b1⟩; have A1 := b0.trans (b1.mono b0.size); have q2' := Nat.le_trans b0.size q2; clear q1 q2))
      go_ret
      exact ⟨rfl, A1⟩
    · by_cases h200 : (200 : Int) < (on : Int)
      · go_enter Tryz.func7, Tryz.ntmps7
        go_wp2_with (first
          | (go_at_call 14; (with_reducible refine HH.out.mono ?_); rintro e W0 ⟨rfl, b0⟩)
          | (go_at_call 15; (with_reducible refine (HM.out _ b0).mono ?_); rintro e W1 ⟨⟨gp, fb, rfl, G1, q1, q2⟩, b1⟩; have A1 := b0.trans (b1.mono b0.size); have q2' := Nat.le_trans b0.size q2; clear q1 q2))
        go_ret
        exact ⟨rfl, A1⟩
      · have h6' : decide ((600 : Int) < (len : Int)) = false := decide_eq_false_iff_not.2 h600
        have h2' : decide ((200 : Int) < (on : Int)) = false := decide_eq_false_iff_not.2 h200
        clear h600 h200
        go_enter Tryz.func7, Tryz.ntmps7
        go_wp2_with (first
          | (go_at_call 14; (with_reducible refine HH.out.mono ?_); rintro e W0 ⟨rfl, b0⟩)
          | (go_at_call 15; (with_reducible refine (HM.out _ b0).mono ?_); rintro e W1 ⟨⟨gp, fb, rfl, G1, q1, q2⟩, b1⟩; have A1 := b0.trans (b1.mono b0.size); have q2' := Nat.le_trans b0.size q2; clear q1 q2)
          | (go_at_call 16; (with_reducible refine (new_mm _ gp fb _ 1 G1 HPl.out w.heap.size A1.size q2').mono ?_); rintro e W2 ⟨⟨p, tp, rfl, M2⟩, b2⟩; have L2 : Lw w [] W2 p tp gp fb ⟨mem, 1, []⟩ := ⟨M2, A1.trans (b2.mono A1.size)⟩; clear M2 b2 A1 q2' b0 b1 G1))
        go_loopw [16] (fun i wr => ∃ k : Nat, k ≤ on ∧ i = .int .i64 k ∧ ∃ S, Lw w [] wr p tp gp fb S) (fun i _ => on - (intOf i).toNat)
        case atStart => exact ⟨0, by omega, rfl, _, L2⟩
        case round =>
          obtain ⟨k, hk, rfl, S, L⟩ := hrel
          clear L2
          by_cases hkl : k < on
          · obtain ⟨b, off, what, okind, ouser, ox, ov, og, oi, opage, rfl, hb1, _, ook, C0, C1, C2, C3, C4, C5, C6, C7⟩ := HOp.out.at k (by rw [HOl.out]; exact hkl)
            have c0 := (L.b.cell (p := ⟨b, _, none⟩) hb1).trans C0
            have c1 := (L.b.cell (p := ⟨b, _, none⟩) hb1).trans C1
            have c2 := (L.b.cell (p := ⟨b, _, none⟩) hb1).trans C2
            have c3 := (L.b.cell (p := ⟨b, _, none⟩) hb1).trans C3
            have c4 := (L.b.cell (p := ⟨b, _, none⟩) hb1).trans C4
            have c5 := (L.b.cell (p := ⟨b, _, none⟩) hb1).trans C5
            have c6 := (L.b.cell (p := ⟨b, _, none⟩) hb1).trans C6
            have c7 := (L.b.cell (p := ⟨b, _, none⟩) hb1).trans C7
            clear C0 C1 C2 C3 C4 C5 C6 C7
            have hdo := do_open L.m (L.ec HE.out) HB1.out L.b.size what okind ouser ox ov og oi opage ook
            have HDo := Lib.hid hdo
            have HLw := Lib.hid L
            clear hdo L ook hk
            go_wp2_with (first
              | (go_at_call 17; (with_reducible refine HDo.out.mono ?_); rintro e W3 ⟨rfl, D⟩; have L3 := HLw.out.did D))
            go_roundw
            case rel => exact ⟨k + 1, by omega, by simp, _, L3⟩
            case measure => simp [intOf]; omega
          · obtain rfl : k = on := by omega
            clear hkl hk
            have HLw := Lib.hid L
            clear L
            go_wp2_with (first
              | (go_at_call 40; (with_reducible refine HLw.out.all.mono ?_); rintro e W4 ⟨⟨v4, rfl, d4⟩, b4⟩; have L4 := HLw.out.past b4)
              | (go_at_call 30; (with_reducible refine (root_mm L4.m L4.b.size root).mono ?_); rintro e W5 ⟨⟨r5, rfl⟩, D5⟩; have L5 := L4.did D5; have d5 := D5.2.2.wd d4; clear D5)
              | (go_at_call 37; (with_reducible refine (mall_mm L5.m).mono ?_); rintro e W6 ⟨⟨v6, rfl, h6⟩, b6⟩; obtain ⟨a6, c6, rfl⟩ := h6.slice; simp only [rootS, List.length_nil]; have L6 := L5.past b6; have d6 := d5.past b6)
              | (go_at_call 40; (with_reducible refine L6.all.mono ?_); rintro e W7 ⟨⟨v7, rfl, d7⟩, b7⟩; have L7 := L6.past b7; have d7' := d6.past b7)
              | (go_at_call 39; (with_reducible refine (same_wd d7 d7' L7.m.len).mono ?_); rintro e W8 ⟨rfl, b8⟩; have L8 := L7.past b8)
              | (go_at_call 18; (with_reducible refine (HJ.out _).mono ?_); rintro e W9 ⟨rfl, b9⟩; have L9 := L8.past b9)
              | (go_at_call 22; (with_reducible refine (HAc.out _ _ _ _ _ _ L9).mono ?_); rintro e W10 ⟨he, D⟩; have L10 := L9.did D; simp only [Ot.val] at he; subst he; clear n0 n9 k0 hn1 hk1 k2 p0 p1 kq0 kq1 holen h6'))
            go_ret
            exact ⟨rfl, L10.b.alloc L10.b.size _⟩
  · have r2 : root < 0 ∨ 16 ≤ root := by omega
    have hout' := HOut.out hr
    have HO' := Lib.hid hout'
    clear hout' hr
    rcases r2 with r2 | r2
    · by_cases h600 : (600 : Int) < (len : Int)
      · go_enter Tryz.func7, Tryz.ntmps7
        go_wp2_with (first
          | (go_at_call 14; (with_reducible refine HH.out.mono ?_); rintro e W0 ⟨rfl, b0⟩)
          | (go_at_call 15; (with_reducible refine (HM.out _ b0).mono ?_); rintro e W1 ⟨⟨gp, fb, rfl, G1, q1, q2⟩, b1⟩; have A1 := b0.trans (b1.mono b0.size); have q2' := Nat.le_trans b0.size q2; clear q1 q2))
        go_ret
        exact ⟨rfl, A1⟩
      · by_cases h200 : (200 : Int) < (on : Int)
        · go_enter Tryz.func7, Tryz.ntmps7
          go_wp2_with (first
            | (go_at_call 14; (with_reducible refine HH.out.mono ?_); rintro e W0 ⟨rfl, b0⟩)
            | (go_at_call 15; (with_reducible refine (HM.out _ b0).mono ?_); rintro e W1 ⟨⟨gp, fb, rfl, G1, q1, q2⟩, b1⟩; have A1 := b0.trans (b1.mono b0.size); have q2' := Nat.le_trans b0.size q2; clear q1 q2))
          go_ret
          exact ⟨rfl, A1⟩
        · have h6' : decide ((600 : Int) < (len : Int)) = false := decide_eq_false_iff_not.2 h600
          have h2' : decide ((200 : Int) < (on : Int)) = false := decide_eq_false_iff_not.2 h200
          clear h600 h200
          go_enter Tryz.func7, Tryz.ntmps7
          go_wp2_with (first
            | (go_at_call 14; (with_reducible refine HH.out.mono ?_); rintro e W0 ⟨rfl, b0⟩)
            | (go_at_call 15; (with_reducible refine (HM.out _ b0).mono ?_); rintro e W1 ⟨⟨gp, fb, rfl, G1, q1, q2⟩, b1⟩; have A1 := b0.trans (b1.mono b0.size); have q2' := Nat.le_trans b0.size q2; clear q1 q2)
            | (go_at_call 16; (with_reducible refine (new_mm _ gp fb _ 1 G1 HPl.out w.heap.size A1.size q2').mono ?_); rintro e W2 ⟨⟨p, tp, rfl, M2⟩, b2⟩; have L2 : Lw w [] W2 p tp gp fb ⟨mem, 1, []⟩ := ⟨M2, A1.trans (b2.mono A1.size)⟩; clear M2 b2 A1 q2' b0 b1 G1))
          go_loopw [16] (fun i wr => ∃ k : Nat, k ≤ on ∧ i = .int .i64 k ∧ ∃ S, Lw w [] wr p tp gp fb S) (fun i _ => on - (intOf i).toNat)
          case atStart => exact ⟨0, by omega, rfl, _, L2⟩
          case round =>
            obtain ⟨k, hk, rfl, S, L⟩ := hrel
            clear L2
            by_cases hkl : k < on
            · obtain ⟨b, off, what, okind, ouser, ox, ov, og, oi, opage, rfl, hb1, _, ook, C0, C1, C2, C3, C4, C5, C6, C7⟩ := HOp.out.at k (by rw [HOl.out]; exact hkl)
              have c0 := (L.b.cell (p := ⟨b, _, none⟩) hb1).trans C0
              have c1 := (L.b.cell (p := ⟨b, _, none⟩) hb1).trans C1
              have c2 := (L.b.cell (p := ⟨b, _, none⟩) hb1).trans C2
              have c3 := (L.b.cell (p := ⟨b, _, none⟩) hb1).trans C3
              have c4 := (L.b.cell (p := ⟨b, _, none⟩) hb1).trans C4
              have c5 := (L.b.cell (p := ⟨b, _, none⟩) hb1).trans C5
              have c6 := (L.b.cell (p := ⟨b, _, none⟩) hb1).trans C6
              have c7 := (L.b.cell (p := ⟨b, _, none⟩) hb1).trans C7
              clear C0 C1 C2 C3 C4 C5 C6 C7
              have hdo := do_open L.m (L.ec HE.out) HB1.out L.b.size what okind ouser ox ov og oi opage ook
              have HDo := Lib.hid hdo
              have HLw := Lib.hid L
              clear hdo L ook hk
              go_wp2_with (first
                | (go_at_call 17; (with_reducible refine HDo.out.mono ?_); rintro e W3 ⟨rfl, D⟩; have L3 := HLw.out.did D))
              go_roundw
              case rel => exact ⟨k + 1, by omega, by simp, _, L3⟩
              case measure => simp [intOf]; omega
            · obtain rfl : k = on := by omega
              clear hkl hk
              have HLw := Lib.hid L
              clear L
              go_wp2_with (first
                | (go_at_call 40; (with_reducible refine HLw.out.all.mono ?_); rintro e W4 ⟨⟨v4, rfl, d4⟩, b4⟩; have L4 := HLw.out.past b4)
                | (go_at_call 30; (with_reducible refine (root_mm L4.m L4.b.size root).mono ?_); rintro e W5 ⟨⟨r5, rfl⟩, D5⟩; have L5 := L4.did D5; have d5 := D5.2.2.wd d4; clear D5)
                | (go_at_call 37; (with_reducible refine (mall_mm L5.m).mono ?_); rintro e W6 ⟨⟨v6, rfl, h6⟩, b6⟩; obtain ⟨a6, c6, rfl⟩ := h6.slice; simp only [rootS, List.length_nil]; have L6 := L5.past b6; have d6 := d5.past b6)
                | (go_at_call 40; (with_reducible refine L6.all.mono ?_); rintro e W7 ⟨⟨v7, rfl, d7⟩, b7⟩; have L7 := L6.past b7; have d7' := d6.past b7)
                | (go_at_call 39; (with_reducible refine (same_wd d7 d7' L7.m.len).mono ?_); rintro e W8 ⟨rfl, b8⟩; have L8 := L7.past b8)
                | (go_at_call 18; (with_reducible refine (HJ.out _).mono ?_); rintro e W9 ⟨rfl, b9⟩; have L9 := L8.past b9)
                | (go_at_call 22; (with_reducible refine (HAc.out _ _ _ _ _ _ L9).mono ?_); rintro e W10 ⟨he, D⟩; have L10 := L9.did D; rw [show (accS (rootS S root) (kd : Int) user ad 1).1 = ⟨3, 0, 0, ad⟩ from HO'.out S.mem user] at he; have he : e = Ending.returned (.agg #[.int .i64 3, .int .u64 0, .int .i64 0, .int .u64 (ad : Int)]) := he; rw [HAz.out] at he; subst he; clear n0 n9 k0 hn1 hk1 k2 p0 p1 kq0 kq1 holen h6'))
              go_ret
              exact ⟨rfl, L10.b.alloc L10.b.size _⟩
    · by_cases h600 : (600 : Int) < (len : Int)
      · go_enter Tryz.func7, Tryz.ntmps7
        go_wp2_with (first
          | (go_at_call 14; (with_reducible refine HH.out.mono ?_); rintro e W0 ⟨rfl, b0⟩)
          | (go_at_call 15; (with_reducible refine (HM.out _ b0).mono ?_); rintro e W1 ⟨⟨gp, fb, rfl, G1, q1, q2⟩, b1⟩; have A1 := b0.trans (b1.mono b0.size); have q2' := Nat.le_trans b0.size q2; clear q1 q2))
        go_ret
        exact ⟨rfl, A1⟩
      · by_cases h200 : (200 : Int) < (on : Int)
        · go_enter Tryz.func7, Tryz.ntmps7
          go_wp2_with (first
            | (go_at_call 14; (with_reducible refine HH.out.mono ?_); rintro e W0 ⟨rfl, b0⟩)
            | (go_at_call 15; (with_reducible refine (HM.out _ b0).mono ?_); rintro e W1 ⟨⟨gp, fb, rfl, G1, q1, q2⟩, b1⟩; have A1 := b0.trans (b1.mono b0.size); have q2' := Nat.le_trans b0.size q2; clear q1 q2))
          go_ret
          exact ⟨rfl, A1⟩
        · have h6' : decide ((600 : Int) < (len : Int)) = false := decide_eq_false_iff_not.2 h600
          have h2' : decide ((200 : Int) < (on : Int)) = false := decide_eq_false_iff_not.2 h200
          clear h600 h200
          go_enter Tryz.func7, Tryz.ntmps7
          go_wp2_with (first
            | (go_at_call 14; (with_reducible refine HH.out.mono ?_); rintro e W0 ⟨rfl, b0⟩)
            | (go_at_call 15; (with_reducible refine (HM.out _ b0).mono ?_); rintro e W1 ⟨⟨gp, fb, rfl, G1, q1, q2⟩, b1⟩; have A1 := b0.trans (b1.mono b0.size); have q2' := Nat.le_trans b0.size q2; clear q1 q2)
            | (go_at_call 16; (with_reducible refine (new_mm _ gp fb _ 1 G1 HPl.out w.heap.size A1.size q2').mono ?_); rintro e W2 ⟨⟨p, tp, rfl, M2⟩, b2⟩; have L2 : Lw w [] W2 p tp gp fb ⟨mem, 1, []⟩ := ⟨M2, A1.trans (b2.mono A1.size)⟩; clear M2 b2 A1 q2' b0 b1 G1))
          go_loopw [16] (fun i wr => ∃ k : Nat, k ≤ on ∧ i = .int .i64 k ∧ ∃ S, Lw w [] wr p tp gp fb S) (fun i _ => on - (intOf i).toNat)
          case atStart => exact ⟨0, by omega, rfl, _, L2⟩
          case round =>
            obtain ⟨k, hk, rfl, S, L⟩ := hrel
            clear L2
            by_cases hkl : k < on
            · obtain ⟨b, off, what, okind, ouser, ox, ov, og, oi, opage, rfl, hb1, _, ook, C0, C1, C2, C3, C4, C5, C6, C7⟩ := HOp.out.at k (by rw [HOl.out]; exact hkl)
              have c0 := (L.b.cell (p := ⟨b, _, none⟩) hb1).trans C0
              have c1 := (L.b.cell (p := ⟨b, _, none⟩) hb1).trans C1
              have c2 := (L.b.cell (p := ⟨b, _, none⟩) hb1).trans C2
              have c3 := (L.b.cell (p := ⟨b, _, none⟩) hb1).trans C3
              have c4 := (L.b.cell (p := ⟨b, _, none⟩) hb1).trans C4
              have c5 := (L.b.cell (p := ⟨b, _, none⟩) hb1).trans C5
              have c6 := (L.b.cell (p := ⟨b, _, none⟩) hb1).trans C6
              have c7 := (L.b.cell (p := ⟨b, _, none⟩) hb1).trans C7
              clear C0 C1 C2 C3 C4 C5 C6 C7
              have hdo := do_open L.m (L.ec HE.out) HB1.out L.b.size what okind ouser ox ov og oi opage ook
              have HDo := Lib.hid hdo
              have HLw := Lib.hid L
              clear hdo L ook hk
              go_wp2_with (first
                | (go_at_call 17; (with_reducible refine HDo.out.mono ?_); rintro e W3 ⟨rfl, D⟩; have L3 := HLw.out.did D))
              go_roundw
              case rel => exact ⟨k + 1, by omega, by simp, _, L3⟩
              case measure => simp [intOf]; omega
            · obtain rfl : k = on := by omega
              clear hkl hk
              have HLw := Lib.hid L
              clear L
              go_wp2_with (first
                | (go_at_call 40; (with_reducible refine HLw.out.all.mono ?_); rintro e W4 ⟨⟨v4, rfl, d4⟩, b4⟩; have L4 := HLw.out.past b4)
                | (go_at_call 30; (with_reducible refine (root_mm L4.m L4.b.size root).mono ?_); rintro e W5 ⟨⟨r5, rfl⟩, D5⟩; have L5 := L4.did D5; have d5 := D5.2.2.wd d4; clear D5)
                | (go_at_call 37; (with_reducible refine (mall_mm L5.m).mono ?_); rintro e W6 ⟨⟨v6, rfl, h6⟩, b6⟩; obtain ⟨a6, c6, rfl⟩ := h6.slice; simp only [rootS, List.length_nil]; have L6 := L5.past b6; have d6 := d5.past b6)
                | (go_at_call 40; (with_reducible refine L6.all.mono ?_); rintro e W7 ⟨⟨v7, rfl, d7⟩, b7⟩; have L7 := L6.past b7; have d7' := d6.past b7)
                | (go_at_call 39; (with_reducible refine (same_wd d7 d7' L7.m.len).mono ?_); rintro e W8 ⟨rfl, b8⟩; have L8 := L7.past b8)
                | (go_at_call 18; (with_reducible refine (HJ.out _).mono ?_); rintro e W9 ⟨rfl, b9⟩; have L9 := L8.past b9)
                | (go_at_call 22; (with_reducible refine (HAc.out _ _ _ _ _ _ L9).mono ?_); rintro e W10 ⟨he, D⟩; have L10 := L9.did D; rw [show (accS (rootS S root) (kd : Int) user ad 1).1 = ⟨3, 0, 0, ad⟩ from HO'.out S.mem user] at he; have he : e = Ending.returned (.agg #[.int .i64 3, .int .u64 0, .int .i64 0, .int .u64 (ad : Int)]) := he; rw [HAz.out] at he; subst he; clear n0 n9 k0 hn1 hk1 k2 p0 p1 kq0 kq1 holen h6'))
              go_ret
              exact ⟨rfl, L10.b.alloc L10.b.size _⟩
theorem mroots_walk (w : World) (hg : EC w) (a : Option Addr) (c : Nat) (l : List (Int × Int × Nat)) (hp : Ps w a l) (hlen : l.length ≤ 9223372036854775807) (oa : Option Addr) (oc : Nat) (ops : List Op10) (hop : Ops w oa ops) (holen : ops.length ≤ 9223372036854775807) (root kind : Int) (hkind : (Lit.int .u8 kind).wf = true) (user : Bool) (page : Int) (hpage : (Lit.int .u16 page).wf = true) :
    Calls Tryz.prog 7 #[.slice a l.length c, .slice oa ops.length oc, .int .i64 root, .int .u8 kind, .bool user, .int .u16 page] w fun e w' => e = .returned (.bool true) ∧ Below w.heap.size w w' := by
  obtain ⟨page, rfl, hpg⟩ := nat_u16 hpage
  obtain ⟨kind, rfl, hkd⟩ := nat_u8 hkind
  exact ModelRoots_nat w hg a c l hp hlen oa oc ops hop holen root kind user page hkd hpg
end Go.Proofs.YtgaififhhffpfaaGreatDoor
