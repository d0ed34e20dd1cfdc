/- ChoiceFree's walk. -/
import Derived.Test.YtgaififhhffpfaaGreatDoorLoad
import Derived.Test.YtgaififhhffpfaaGreatDoorHead11
import Derived.Test.YtgaififhhffpfaaGreatDoorChoiceP
import Derived.Test.YtgaififhhffpfaaGreatDoorMRoots
import Derived.Laws.StructEq
namespace Go.Proofs.YtgaififhhffpfaaGreatDoor
open Go.RowKit Go.Shelf
set_option maxRecDepth 100000 in
set_option maxHeartbeats 8000000 in
theorem ChoiceFree_nat (w : World) (hg : EC w) (a : Option Addr) (c : Nat) (l : List (Int × Int × Nat)) (hp : Ps w a l) (hlen : l.length ≤ 9223372036854775807) (oa : Option Addr) (oc : Nat) (ops : List Op10) (hop : Ops w oa ops) (holen : ops.length ≤ 9223372036854775807) (kind : Nat) (hkn : kind < 256) (user : Bool) (ad : Nat) (had : ad < 2 ^ 64) :
    Calls Tryz.prog 13 #[.slice a l.length c, .slice oa ops.length oc, .int .u8 (kind : Int), .bool user, .int .u64 (ad : Int)] w fun e w' => e = .returned (.bool true) ∧ Below w.heap.size w w' := by
  have hh := head11_any w hg
  obtain ⟨len, hl⟩ : ∃ len, l.length = len := ⟨_, rfl⟩
  obtain ⟨mem, hmem⟩ : ∃ mem, puts l = mem := ⟨_, rfl⟩
  have hm : ∀ W ts, Hold w W ts → Calls Tryz.prog 15 #[.slice a len c] W fun e w' => ∃ A : GA, e = .returned (.pointer (some ⟨A.p, 0, none⟩)) ∧ Hold w w' (gmem A mem :: ts) := fun W ts H => by
    have := made_h H a c l hp hlen
    rw [hl, hmem] at this; exact this
  have hB1 : 1 ≤ w.heap.size := lt_of_cell hg
  obtain ⟨on, hol⟩ : ∃ n, ops.length = n := ⟨_, rfl⟩
  have hpl := puts_len' l
  rw [hmem] at hpl
  rw [hl] at hlen ⊢
  rw [hol] at holen ⊢
  have HH := Lib.hid hh
  have HM := Lib.hid hm
  have HE := Lib.hid hg
  have HB1 := Lib.hid hB1
  have HOp := Lib.hid hop
  have HOl := Lib.hid hol
  have HPl := Lib.hid hpl
  obtain ⟨kd, hkd⟩ : ∃ n : Nat, kind % 3 = n := ⟨_, rfl⟩
  obtain ⟨kz, hkz⟩ : ∃ z : Int, (kd : Int) = z := ⟨_, rfl⟩
  have hk1 : (kind : Int) % 3 = kz := by omega
  have kz0 : (0 : Int) ≤ kz := by omega
  have kz9 : kz ≤ 9223372036854775807 := by omega
  have kq0 : (0 : Int) ≤ (kind : Int) := by omega
  have kq1 : (kind : Int) < 256 := by omega
  have HAd := Lib.hid had
  clear hh hm hg hB1 hop hol hpl hl hmem hp  hkn had hkd hkz
  by_cases g0 : (600 : Int) < (len : Int)
  · go_enter Tryz.func13, Tryz.ntmps13
    go_wp2_with (first
      | (go_at_call 45; (with_reducible refine HH.out.mono ?_); rintro e W0 ⟨rfl, b0⟩; have H0 := (Hold.nil w).past b0)
      | (go_at_call 15; (with_reducible refine (HM.out _ _ H0).mono ?_); rintro e W1 ⟨A, rfl, H1⟩; clear b0 H0)
      | (go_at_call 15; (with_reducible refine (HM.out _ _ H1).mono ?_); rintro e W1b ⟨A', rfl, H1b⟩; clear H1))
    go_ret
    exact ⟨rfl, H1b.b⟩
  · by_cases g1 : (200 : Int) < (on : Int)
    · go_enter Tryz.func13, Tryz.ntmps13
      go_wp2_with (first
        | (go_at_call 45; (with_reducible refine HH.out.mono ?_); rintro e W0 ⟨rfl, b0⟩; have H0 := (Hold.nil w).past b0)
        | (go_at_call 15; (with_reducible refine (HM.out _ _ H0).mono ?_); rintro e W1 ⟨A, rfl, H1⟩; clear b0 H0)
        | (go_at_call 15; (with_reducible refine (HM.out _ _ H1).mono ?_); rintro e W1b ⟨A', rfl, H1b⟩; clear H1))
      go_ret
      exact ⟨rfl, H1b.b⟩
    · have g0' : decide ((600 : Int) < (len : Int)) = false := decide_eq_false_iff_not.2 g0
      have n0' : len ≤ 600 := by omega
      have g1' : decide ((200 : Int) < (on : Int)) = false := decide_eq_false_iff_not.2 g1
      have n1' : on ≤ 200 := by omega
      clear g0 g1
      have N0 := Lib.hid n0'
      have N1 := Lib.hid n1'
      clear n0' n1'
      go_enter Tryz.func13, Tryz.ntmps13
      go_wp2_with (first
        | (go_at_call 45; (with_reducible refine HH.out.mono ?_); rintro e W0 ⟨rfl, b0⟩; have H0 := (Hold.nil w).past b0)
        | (go_at_call 15; (with_reducible refine (HM.out _ _ H0).mono ?_); rintro e W1 ⟨A, rfl, H1⟩; clear b0 H0)
        | (go_at_call 15; (with_reducible refine (HM.out _ _ H1).mono ?_); rintro e W1b ⟨A', rfl, H1b⟩; clear H1)
        | (go_at_call 16; (with_reducible refine (new_h H1b 1 rfl 1).mono ?_); rintro e W2 ⟨p, tp, rfl, H2'⟩; have H2 : Hold w W2 [gmem A' mem, mdl ⟨p, tp, A⟩ (.slice none 0 0) ⟨mem, 1, []⟩] := H2'; clear H1b H2'))
      go_loopw [15] (fun i wr => ∃ k : Nat, k ≤ on ∧ i = .int .i64 k ∧ ∃ S, ∃ v, Hold w wr [gmem A' mem, mdl ⟨p, tp, A⟩ v S] ∧ Snug S ∧ S.root = 1) (fun i _ => on - (intOf i).toNat)
      case atStart => exact ⟨0, by omega, rfl, _, _, H2, snug_nil _ _, rfl⟩
      case round =>
        obtain ⟨k, hk, rfl, S, v, H, hS, hR⟩ := hrel
        clear H2
        by_cases hkl : k < on
        · obtain ⟨b, off, what, okind, ouser, ox, ov, og, oi, opage, rfl, hb1, _, ook, C0, C1, C2, C3, C4, C5, C6, C7⟩ := HOp.out.at k (by rw [HOl.out]; exact hkl)
          have c1 := (H.b.cell (p := ⟨b, _, none⟩) hb1).trans C1
          have c2 := (H.b.cell (p := ⟨b, _, none⟩) hb1).trans C2
          have c3 := (H.b.cell (p := ⟨b, _, none⟩) hb1).trans C3
          have c4 := (H.b.cell (p := ⟨b, _, none⟩) hb1).trans C4
          have HC1 := Lib.hid C1
          have HC2 := Lib.hid C2
          have HC3 := Lib.hid C3
          have HC4 := Lib.hid C4
          have HG := Lib.hid H
          have HS := Lib.hid hS
          have HR := Lib.hid hR
          have HOk := Lib.hid ook
          clear C0 C1 C2 C3 C4 C5 C6 C7 H hS hR ook hk
          go_wp2_with fail
          go_region_held3 (fun w' => w'.cell? ⟨b, off + k * 8 + 1, none⟩ = some (.int .i64 okind) ∧ w'.cell? ⟨b, off + k * 8 + 2, none⟩ = some (.bool ouser) ∧ w'.cell? ⟨b, off + k * 8 + 3, none⟩ = some (.int .u64 (ox : Int)) ∧ w'.cell? ⟨b, off + k * 8 + 4, none⟩ = some (.int .u64 (ov : Int))) (go_keep) (first
            | (go_at_call 22; (with_reducible refine (access_h (HG.out.drew) 1 rfl HE.out HB1.out okind ouser ox ov HOk.out.1 HOk.out.2).mono ?_); rintro e X0 ⟨rfl, u0, G0'⟩; have G0 : Hold w X0 [gmem A' mem, mdl ⟨p, tp, A⟩ u0 (accS S okind ouser ox ov).2] := G0'; clear G0'; have f1 := (G0.b.cell (p := ⟨b, _, none⟩) hb1).trans HC1.out; have f2 := (G0.b.cell (p := ⟨b, _, none⟩) hb1).trans HC2.out; have f3 := (G0.b.cell (p := ⟨b, _, none⟩) hb1).trans HC3.out; have f4 := (G0.b.cell (p := ⟨b, _, none⟩) hb1).trans HC4.out))
          all_goals go_wp2
          all_goals go_roundw
          case rel => exact ⟨k + 1, by omega, by simp, _, _, G0, HS.out.acc _ _ _ _, HR.out⟩
          case measure => simp [intOf]; omega
        · obtain rfl : on = k := by omega
          clear hkl hk
          have hda := drops_all hS
          rw [hR] at hda
          obtain ⟨kn, hkn⟩ : ∃ n, S.l.length = n := ⟨_, rfl⟩
          rw [hkn] at hda
          obtain ⟨⟨⟨oh, ov, ocd, oad⟩, T⟩, hacc⟩ : ∃ x, accS ⟨S.mem, 1, []⟩ kz user ad 5 = x := ⟨_, rfl⟩
          have HDa := Lib.hid hda
          have HKn := Lib.hid hkn
          have HAc := Lib.hid hacc
          have HG := Lib.hid H
          have HL8 := Lib.hid (H.at 1 rfl : MX _ _ _ _).g.len
          have HBd8 := Lib.hid (H.at 1 rfl : MX _ _ _ _).g.h.bd
          obtain ⟨i0, hi, hz0, hz1, hz2⟩ := info_parts info_choice
          have HI := Lib.hid hi
          have HZ0 := Lib.hid hz0
          have HZ1 := Lib.hid hz1
          have HZ2 := Lib.hid hz2
          clear H hS hR hda hkn hacc hi hz0 hz1 hz2
          obtain ⟨WA, rfl⟩ : ∃ W, W = wr := ⟨_, rfl⟩
          go_wp2_with fail
          go_loopw [16, 17] (fun v i W => ∃ k : Nat, k ≤ 512 ∧ i = .int .i64 k ∧ W.ownsRow WA.heap.size 79 2 v k ((dropsTo k).flatMap cC) ∧ Below WA.heap.size WA W) (fun _ i _ => 512 - (intOf i).toNat)
          case atStart => exact ⟨0, by omega, rfl, World.ownsRow_nil _ _ _ _, Below.refl _ _⟩
          case round =>
            obtain ⟨k, hk, rfl, hrow, B⟩ := hrel
            by_cases hkl : k < 512
            · have hd1 : (dropsTo (k + 1)).flatMap cC = (dropsTo k).flatMap cC ++ [.bool false, .int .i64 (k : Int)] := by
                unfold dropsTo
                rw [List.range_succ, List.map_append, List.flatMap_append]; rfl
              have hsz := B.size
              have HTk := Lib.hid hd1
              have HRo := Lib.hid hrow
              have HBB := Lib.hid B
              have hkz : (k : Int) < 512 := by omega
              clear hd1 hrow B
              go_wp2_with (first
                | (at_builtin; refine wpList_append_own _ rfl _ _ 77 rfl WA.heap.size 79 i0 _ 2 16 Tryz.underlying77 HI.out HZ0.out HZ1.out HZ2.out rfl (by decide) _ _ _ rfl (HRo.out.alloc _) ⟨wr.heap.size, 0, none⟩ 1 1 [.bool false, .int .i64 (k : Int)] rfl rfl (cell_two_new _ _ _ _) (fun x hx => by simp at hx; rcases hx with rfl | rfl <;> rfl) (by unfold maxLen; omega) (by omega) (by simp; omega) ?_; intro v' w3 hown' hgrow3 hnil3; have HO3 := Lib.hid hown'; have HG3 := Lib.hid hgrow3; clear hown' hgrow3 hnil3))
              go_roundw
              case rel =>
                refine ⟨k + 1, by omega, by simp, ?_, (HBB.out.alloc hsz _).grown HG3.out (by simp; omega) (fun r e => ?_)⟩
                · rw [HTk.out]; exact HO3.out
                · exact ((HRo.out.alloc (.cells #[.bool false, .int .i64 (k : Int)] 79)).lt r e).1
              case measure => simp [intOf]; omega
            · obtain rfl : k = 512 := by omega
              have hdl : (dropsTo 512).length = 512 := by unfold dropsTo; rw [List.length_map, List.length_range]
              have H5 := HG.out.crow B (cs := dropsTo 512) (by rw [hdl]; exact hrow)
              obtain ⟨a2, c2, hv2, _, _, _⟩ := CRow.view (H5.at 0 rfl : CRow _ 0 _ (dropsTo 512))
              rw [hdl] at hv2
              subst hv2
              have HDl := Lib.hid hdl
              have H5' := Lib.hid H5
              have hac : ∀ (W : World) (us : List Thing) (i : Nat) (A : MA) (v : Value), Hold w W us → us[i]? = some (mdl A v ⟨S.mem, 1, []⟩) → Calls Tryz.prog 22 #[.pointer (some ⟨A.p, 0, none⟩), .int .i64 kz, .bool user, .int .u64 (ad : Int), .int .u64 5] W
                  fun e w' => e = .returned (.agg #[.int .i64 oh, .int .u64 (ov : Int), .int .i64 ocd, .int .u64 (oad : Int)]) ∧ ∃ v', Hold w w' (us.set i (mdl A v' T)) := fun W us i A v H hi => by
                have := access_h H i hi HE.out HB1.out kz user ad 5 HAd.out (by decide)
                rw [HAc.out] at this; exact this
              have hap : ∀ (W : World) (v : Value) (U U' : S10) (q : Nat), applyN U (dropsTo 512) = (q, U') → Hold w W [crow (.slice a2 512 c2) (dropsTo 512), gmem A' mem, mdl ⟨p, tp, A⟩ v U] → Calls Tryz.prog 46 #[.pointer (some ⟨p, 0, none⟩), .slice a2 512 c2] W
                  fun e w' => e = .returned (.int .i64 (q : Int)) ∧ ∃ v', Hold w w' [crow (.slice a2 512 c2) (dropsTo 512), gmem A' mem, mdl ⟨p, tp, A⟩ v' U'] := fun W v U U' q hq H => by
                have := apply_n H 2 rfl HE.out HB1.out a2 c2 (dropsTo 512) 512 HDl.out (by decide) (fun W v' S' H => H.chs 0 rfl)
                rw [hq] at this; exact this
              have HAcc := Lib.hid hac
              have HAp := Lib.hid hap
              clear hac hap H5 hrow B hkl hk hdl
              go_wp2_with (first
                | (go_at_call 37; (with_reducible refine (mall_h H5'.out 2 rfl).mono ?_); rintro e W6 ⟨⟨v6, rfl, hr6⟩, b6⟩; obtain ⟨a6, c6, hv6⟩ := hr6.slice; rw [HKn.out] at hv6; subst hv6; have H6 := H5'.out.past b6; clear b6 hr6)
                | (go_at_call 46; (with_reducible refine (HAp.out _ _ _ _ _ HDa.out H6).mono ?_); rintro e W7 ⟨rfl, v7, H7⟩; clear H6)
                | (go_at_call 46; (with_reducible refine (HAp.out _ _ _ _ _ (drops_none S.mem 1) H7).mono ?_); rintro e W8 ⟨rfl, v8, H8⟩; clear H7)
                | (go_at_call 40; (with_reducible refine (words_hc H8 2 rfl).mono ?_); rintro e W9 ⟨a9, c9, rfl, hc9, H9'⟩; have H9 : Hold w W9 [wds (.slice a9 128 c9) S.mem, crow (.slice a2 512 c2) (dropsTo 512), gmem A' mem, mdl ⟨p, tp, A⟩ v8 ⟨S.mem, 1, []⟩] := H9'; clear H8 H9')
                | (go_at_call 53; (with_reducible refine (load_h H9 2 0 rfl rfl HL8.out HBd8.out hc9).mono ?_); rintro e W10 ⟨rfl, H10'⟩; have H10 : Hold w W10 [wds (.slice a9 128 c9) S.mem, crow (.slice a2 512 c2) (dropsTo 512), gmem A' S.mem, mdl ⟨p, tp, A⟩ v8 ⟨S.mem, 1, []⟩] := H10'; clear H9 H10')
                | (go_at_call 16; (with_reducible refine (new_h H10 2 rfl 1).mono ?_); rintro e W11 ⟨p2, tp2, rfl, H11'⟩; have H11 : Hold w W11 [wds (.slice a9 128 c9) S.mem, crow (.slice a2 512 c2) (dropsTo 512), mdl ⟨p2, tp2, A'⟩ (.slice none 0 0) ⟨S.mem, 1, []⟩, mdl ⟨p, tp, A⟩ v8 ⟨S.mem, 1, []⟩] := H11'; clear H10 H11')
                | (go_at_call 22; (with_reducible refine (HAcc.out _ _ 3 ⟨p, tp, A⟩ _ H11 rfl).mono ?_); rintro e W12 ⟨rfl, v12, H12'⟩; have H12 : Hold w W12 [wds (.slice a9 128 c9) S.mem, crow (.slice a2 512 c2) (dropsTo 512), mdl ⟨p2, tp2, A'⟩ (.slice none 0 0) ⟨S.mem, 1, []⟩, mdl ⟨p, tp, A⟩ v12 T] := H12'; have H12n : Hold w (W12.alloc (.cells #[.int .i64 oh, .int .u64 (ov : Int), .int .i64 ocd, .int .u64 (oad : Int)] 34)) [box W12.heap.size 34 [.int .i64 oh, .int .u64 (ov : Int), .int .i64 ocd, .int .u64 (oad : Int)], wds (.slice a9 128 c9) S.mem, crow (.slice a2 512 c2) (dropsTo 512), mdl ⟨p2, tp2, A'⟩ (.slice none 0 0) ⟨S.mem, 1, []⟩, mdl ⟨p, tp, A⟩ v12 T] := H12.new 34 [.int .i64 oh, .int .u64 (ov : Int), .int .i64 ocd, .int .u64 (oad : Int)]; clear H11 H12 H12')
                | (go_at_call 22; (with_reducible refine (HAcc.out _ _ 3 ⟨p2, tp2, A'⟩ _ H12n rfl).mono ?_); rintro e W13 ⟨rfl, v13, H13'⟩; have H13 : Hold w W13 [box W12.heap.size 34 [.int .i64 oh, .int .u64 (ov : Int), .int .i64 ocd, .int .u64 (oad : Int)], wds (.slice a9 128 c9) S.mem, crow (.slice a2 512 c2) (dropsTo 512), mdl ⟨p2, tp2, A'⟩ v13 T, mdl ⟨p, tp, A⟩ v12 T] := H13'; have H13n : Hold w (W13.alloc (.cells #[.int .i64 oh, .int .u64 (ov : Int), .int .i64 ocd, .int .u64 (oad : Int)] 34)) [box W13.heap.size 34 [.int .i64 oh, .int .u64 (ov : Int), .int .i64 ocd, .int .u64 (oad : Int)], box W12.heap.size 34 [.int .i64 oh, .int .u64 (ov : Int), .int .i64 ocd, .int .u64 (oad : Int)], wds (.slice a9 128 c9) S.mem, crow (.slice a2 512 c2) (dropsTo 512), mdl ⟨p2, tp2, A'⟩ v13 T, mdl ⟨p, tp, A⟩ v12 T] := H13.new 34 [.int .i64 oh, .int .u64 (ov : Int), .int .i64 ocd, .int .u64 (oad : Int)]; have x130 := (H13n.box 1 rfl).cell (k := 0) rfl; have x131 := (H13n.box 1 rfl).cell (k := 1) rfl; have x132 := (H13n.box 1 rfl).cell (k := 2) rfl; have x133 := (H13n.box 1 rfl).cell (k := 3) rfl; have x13l := (H13n.box 1 rfl).lt; clear H12n H13 H13' kz0 kz9 hk1 kq0 kq1 holen hlen g0' g1')
                | (go_at_call 40; (with_reducible refine (words_h H13n 5 rfl).mono ?_); rintro e W14 ⟨v14, rfl, H14⟩)
                | (go_at_call 40; (with_reducible refine (words_h H14 5 rfl).mono ?_); rintro e W15 ⟨v15, rfl, H15⟩)
                | (go_at_call 39; (with_reducible refine (samew_h H15 1 0 rfl rfl (H15.at 6 rfl : MX _ _ _ _).g.len rfl).mono ?_); rintro e W16 ⟨rfl, H16⟩))
              go_ret
              exact ⟨rfl, H16.b⟩
theorem cfree_walk (w : World) (hg : EC w) (a : Option Addr) (c : Nat) (l : List (Int × Int × Nat)) (hp : Ps w a l) (hlen : l.length ≤ 9223372036854775807) (oa : Option Addr) (oc : Nat) (ops : List Op10) (hop : Ops w oa ops) (holen : ops.length ≤ 9223372036854775807) (kind : Int) (hkind : (Lit.int .u8 kind).wf = true) (user : Bool) (ad : Int) (had : (Lit.int .u64 ad).wf = true) :
    Calls Tryz.prog 13 #[.slice a l.length c, .slice oa ops.length oc, .int .u8 kind, .bool user, .int .u64 ad] w fun e w' => e = .returned (.bool true) ∧ Below w.heap.size w w' := by
  obtain ⟨kind, rfl, hkd⟩ := nat_u8 hkind
  obtain ⟨ad, rfl, ha2⟩ := nat_u64 had
  exact ChoiceFree_nat w hg a c l hp hlen oa oc ops hop holen kind hkd user ad ha2
end Go.Proofs.YtgaififhhffpfaaGreatDoor
