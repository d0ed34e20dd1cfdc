/- ChoicePage's walk. -/
import Derived.Test.YtgaififhhffpfaaGreatDoorHead11
import Derived.Test.YtgaififhhffpfaaGreatDoorChoiceP
import Derived.Test.YtgaififhhffpfaaGreatDoorMRoots
import Derived.Laws.StructEq
namespace Go.Proofs.YtgaififhhffpfaaGreatDoor
open Go.RowKit Go.Shelf
set_option maxRecDepth 100000 in
set_option maxHeartbeats 8000000 in
theorem ChoicePage_nat (w : World) (hg : EC w) (a : Option Addr) (c : Nat) (l : List (Int × Int × Nat)) (hp : Ps w a l) (hlen : l.length ≤ 9223372036854775807) (oa : Option Addr) (oc : Nat) (ops : List Op10) (hop : Ops w oa ops) (holen : ops.length ≤ 9223372036854775807) (csa : Option Addr) (csc : Nat) (cs : List (Bool × Int)) (hcs : Chs w csa cs) (hcslen : cs.length ≤ 9223372036854775807) (page : Nat) (hpg : page < 65536) :
    Calls Tryz.prog 8 #[.slice a l.length c, .slice oa ops.length oc, .slice csa cs.length csc, .int .u16 (page : Int)] w fun e w' => e = .returned (.bool true) ∧ Below w.heap.size w w' := by
  have hh := head11_any w hg
  obtain ⟨len, hl⟩ : ∃ len, l.length = len := ⟨_, rfl⟩
  obtain ⟨mem, hmem⟩ : ∃ mem, puts l = mem := ⟨_, rfl⟩
  have hm : ∀ W ts, Hold w W ts → Calls Tryz.prog 15 #[.slice a len c] W fun e w' => ∃ A : GA, e = .returned (.pointer (some ⟨A.p, 0, none⟩)) ∧ Hold w w' (gmem A mem :: ts) := fun W ts H => by
    have := made_h H a c l hp hlen
    rw [hl, hmem] at this; exact this
  have hB1 : 1 ≤ w.heap.size := lt_of_cell hg
  obtain ⟨on, hol⟩ : ∃ n, ops.length = n := ⟨_, rfl⟩
  have hpl := puts_len' l
  rw [hmem] at hpl
  rw [hl] at hlen ⊢
  rw [hol] at holen ⊢
  have HH := Lib.hid hh
  have HM := Lib.hid hm
  have HE := Lib.hid hg
  have HB1 := Lib.hid hB1
  have HOp := Lib.hid hop
  have HOl := Lib.hid hol
  have HPl := Lib.hid hpl
  obtain ⟨cn, hcsn⟩ : ∃ n, cs.length = n := ⟨_, rfl⟩
  rw [hcsn] at hcslen ⊢
  have Hcs := Lib.hid hcs
  have Hcsn := Lib.hid hcsn
  have Hcsl := Lib.hid hcslen
  obtain ⟨n, hn⟩ : ∃ n : Nat, page % 512 = n := ⟨_, rfl⟩
  have hn1 : (page : Int) % 512 = (n : Int) := by omega
  have n0 : (0 : Int) ≤ (n : Int) := by omega
  have n9 : (n : Int) ≤ 9223372036854775807 := by omega
  have p0 : (0 : Int) ≤ (page : Int) := by omega
  have p1 : (page : Int) < 65536 := by omega
  clear hh hm hg hB1 hop hol hpl hl hmem hp hcs hcsn hpg hn
  by_cases g0 : (600 : Int) < (len : Int)
  · go_enter Tryz.func8, Tryz.ntmps8
    go_wp2_with (first
      | (go_at_call 45; (with_reducible refine HH.out.mono ?_); rintro e W0 ⟨rfl, b0⟩; have H0 := (Hold.nil w).past b0)
      | (go_at_call 15; (with_reducible refine (HM.out _ _ H0).mono ?_); rintro e W1 ⟨A, rfl, H1⟩; clear b0 H0)
      | (go_at_call 15; (with_reducible refine (HM.out _ _ H1).mono ?_); rintro e W1b ⟨A', rfl, H1b⟩; clear H1))
    go_ret
    exact ⟨rfl, H1b.b⟩
  · by_cases g1 : (200 : Int) < (on : Int)
    · go_enter Tryz.func8, Tryz.ntmps8
      go_wp2_with (first
        | (go_at_call 45; (with_reducible refine HH.out.mono ?_); rintro e W0 ⟨rfl, b0⟩; have H0 := (Hold.nil w).past b0)
        | (go_at_call 15; (with_reducible refine (HM.out _ _ H0).mono ?_); rintro e W1 ⟨A, rfl, H1⟩; clear b0 H0)
        | (go_at_call 15; (with_reducible refine (HM.out _ _ H1).mono ?_); rintro e W1b ⟨A', rfl, H1b⟩; clear H1))
      go_ret
      exact ⟨rfl, H1b.b⟩
    · by_cases g2 : (900 : Int) < (cn : Int)
      · go_enter Tryz.func8, Tryz.ntmps8
        go_wp2_with (first
          | (go_at_call 45; (with_reducible refine HH.out.mono ?_); rintro e W0 ⟨rfl, b0⟩; have H0 := (Hold.nil w).past b0)
          | (go_at_call 15; (with_reducible refine (HM.out _ _ H0).mono ?_); rintro e W1 ⟨A, rfl, H1⟩; clear b0 H0)
          | (go_at_call 15; (with_reducible refine (HM.out _ _ H1).mono ?_); rintro e W1b ⟨A', rfl, H1b⟩; clear H1))
        go_ret
        exact ⟨rfl, H1b.b⟩
      · have g0' : decide ((600 : Int) < (len : Int)) = false := decide_eq_false_iff_not.2 g0
        have n0' : len ≤ 600 := by omega
        have g1' : decide ((200 : Int) < (on : Int)) = false := decide_eq_false_iff_not.2 g1
        have n1' : on ≤ 200 := by omega
        have g2' : decide ((900 : Int) < (cn : Int)) = false := decide_eq_false_iff_not.2 g2
        have n2' : cn ≤ 900 := by omega
        clear g0 g1 g2
        have N0 := Lib.hid n0'
        have N1 := Lib.hid n1'
        have N2 := Lib.hid n2'
        clear n0' n1' n2'
        go_enter Tryz.func8, Tryz.ntmps8
        go_wp2_with (first
          | (go_at_call 45; (with_reducible refine HH.out.mono ?_); rintro e W0 ⟨rfl, b0⟩; have H0 := (Hold.nil w).past b0)
          | (go_at_call 15; (with_reducible refine (HM.out _ _ H0).mono ?_); rintro e W1 ⟨A, rfl, H1⟩; clear b0 H0)
          | (go_at_call 15; (with_reducible refine (HM.out _ _ H1).mono ?_); rintro e W1b ⟨A', rfl, H1b⟩; clear H1)
          | (go_at_call 16; (with_reducible refine (new_h H1b 1 rfl 1).mono ?_); rintro e W2 ⟨p, tp, rfl, H2'⟩; have H2 : Hold w W2 [gmem A' mem, mdl ⟨p, tp, A⟩ (.slice none 0 0) ⟨mem, 1, []⟩] := H2'; clear H1b H2')
          | (go_at_call 16; (with_reducible refine (new_h H2 0 rfl 1).mono ?_); rintro e W3 ⟨p', tp', rfl, H3'⟩; have H3 : Hold w W3 [mdl ⟨p', tp', A'⟩ (.slice none 0 0) ⟨mem, 1, []⟩, mdl ⟨p, tp, A⟩ (.slice none 0 0) ⟨mem, 1, []⟩] := H3'; clear H2 H3'))
        go_loopw [14] (fun i wr => ∃ k : Nat, k ≤ on ∧ i = .int .i64 k ∧ ∃ S, ∃ v, ∃ v', Hold w wr [mdl ⟨p', tp', A'⟩ v' S, mdl ⟨p, tp, A⟩ v S] ∧ Snug S ∧ S.root = 1) (fun i _ => on - (intOf i).toNat)
        case atStart => exact ⟨0, by omega, rfl, _, _, _, H3, snug_nil _ _, rfl⟩
        case round =>
          obtain ⟨k, hk, rfl, S, v, v', H, hS, hR⟩ := hrel
          clear H3
          by_cases hkl : k < on
          · obtain ⟨b, off, what, okind, ouser, ox, ov, og, oi, opage, rfl, hb1, _, ook, C0, C1, C2, C3, C4, C5, C6, C7⟩ := HOp.out.at k (by rw [HOl.out]; exact hkl)
            have c1 := (H.b.cell (p := ⟨b, _, none⟩) hb1).trans C1
            have c2 := (H.b.cell (p := ⟨b, _, none⟩) hb1).trans C2
            have c3 := (H.b.cell (p := ⟨b, _, none⟩) hb1).trans C3
            have c4 := (H.b.cell (p := ⟨b, _, none⟩) hb1).trans C4
            have HC1 := Lib.hid C1
            have HC2 := Lib.hid C2
            have HC3 := Lib.hid C3
            have HC4 := Lib.hid C4
            have HG := Lib.hid H
            have HS := Lib.hid hS
            have HR := Lib.hid hR
            have HOk := Lib.hid ook
            clear C0 C1 C2 C3 C4 C5 C6 C7 H hS hR ook hk
            go_wp2_with fail
            go_region_held3 (fun w' => w'.cell? ⟨b, off + k * 8 + 1, none⟩ = some (.int .i64 okind) ∧ w'.cell? ⟨b, off + k * 8 + 2, none⟩ = some (.bool ouser) ∧ w'.cell? ⟨b, off + k * 8 + 3, none⟩ = some (.int .u64 (ox : Int)) ∧ w'.cell? ⟨b, off + k * 8 + 4, none⟩ = some (.int .u64 (ov : Int))) (go_keep) (first
              | (go_at_call 22; (with_reducible refine (access_h (HG.out.drew) 1 rfl HE.out HB1.out okind ouser ox ov HOk.out.1 HOk.out.2).mono ?_); rintro e X0 ⟨rfl, u0, G0'⟩; have G0 : Hold w X0 [mdl ⟨p', tp', A'⟩ v' S, mdl ⟨p, tp, A⟩ u0 (accS S okind ouser ox ov).2] := G0'; clear G0'; have f1 := (G0.b.cell (p := ⟨b, _, none⟩) hb1).trans HC1.out; have f2 := (G0.b.cell (p := ⟨b, _, none⟩) hb1).trans HC2.out; have f3 := (G0.b.cell (p := ⟨b, _, none⟩) hb1).trans HC3.out; have f4 := (G0.b.cell (p := ⟨b, _, none⟩) hb1).trans HC4.out))
            all_goals go_wp2_with fail
            go_region_held3 (fun w' => w'.cell? ⟨b, off + k * 8 + 1, none⟩ = some (.int .i64 okind) ∧ w'.cell? ⟨b, off + k * 8 + 2, none⟩ = some (.bool ouser) ∧ w'.cell? ⟨b, off + k * 8 + 3, none⟩ = some (.int .u64 (ox : Int)) ∧ w'.cell? ⟨b, off + k * 8 + 4, none⟩ = some (.int .u64 (ov : Int))) (go_keep) (first
              | (go_at_call 22; (with_reducible refine (access_h (G0.drew) 0 rfl HE.out HB1.out okind ouser ox ov HOk.out.1 HOk.out.2).mono ?_); rintro e X1 ⟨rfl, u1, G1'⟩; have G1 : Hold w X1 [mdl ⟨p', tp', A'⟩ u1 (accS S okind ouser ox ov).2, mdl ⟨p, tp, A⟩ u0 (accS S okind ouser ox ov).2] := G1'; clear G1'; have f1 := (G1.b.cell (p := ⟨b, _, none⟩) hb1).trans HC1.out; have f2 := (G1.b.cell (p := ⟨b, _, none⟩) hb1).trans HC2.out; have f3 := (G1.b.cell (p := ⟨b, _, none⟩) hb1).trans HC3.out; have f4 := (G1.b.cell (p := ⟨b, _, none⟩) hb1).trans HC4.out))
            all_goals go_wp2
            all_goals go_roundw
            case rel => exact ⟨k + 1, by omega, by simp, _, _, _, G1, HS.out.acc _ _ _ _, HR.out⟩
            case measure => simp [intOf]; omega
          · obtain rfl : on = k := by omega
            clear hkl hk
            obtain ⟨T1, hT1⟩ : ∃ x, applyN S cs = x := ⟨_, rfl⟩
            obtain ⟨own, hown⟩ : ∃ x, ownC (n : Int) cs = x := ⟨_, rfl⟩
            obtain ⟨T2, hT2⟩ : ∃ x, applyN S own = x := ⟨_, rfl⟩
            have hal := (applyN_own (n : Int) cs (S := S) (T := S) ⟨hS, hS, rfl, rfl, rfl⟩).at'
            rw [hown, hT1, hT2] at hal
            have hol : own.length ≤ cn := by rw [← hown, ← Hcsn.out]; exact List.length_filter_le _ _
            obtain ⟨o, ho⟩ : ∃ o, tget T2.2.l 0 (n : Int) = o := ⟨_, rfl⟩
            rw [ho] at hal
            obtain ⟨on2, hon2⟩ : ∃ n, own.length = n := ⟨_, rfl⟩
            rw [hon2] at hol
            have HT1 := Lib.hid hT1
            have HT2 := Lib.hid hT2
            have HOw := Lib.hid hown
            have HOl2 := Lib.hid hon2
            have HG1 := Lib.hid hal
            have HG2 := Lib.hid ho
            have HG := Lib.hid H
            obtain ⟨i0, hi, hz0, hz1, hz2⟩ := info_parts info_choice
            have HI := Lib.hid hi
            have HZ0 := Lib.hid hz0
            have HZ1 := Lib.hid hz1
            have HZ2 := Lib.hid hz2
            clear hal ho hT1 hT2 hown hon2 H hS hR hi hz0 hz1 hz2
            obtain ⟨WA, rfl⟩ : ∃ W, W = wr := ⟨_, rfl⟩
            go_wp2_with fail
            go_loopw [16, 17] (fun v i W => ∃ k : Nat, k ≤ cn ∧ i = .int .i64 k ∧ W.ownsRow WA.heap.size 79 2 v (ownC (n : Int) (cs.take k)).length ((ownC (n : Int) (cs.take k)).flatMap cC) ∧ Below WA.heap.size WA W) (fun _ i _ => cn - (intOf i).toNat)
            case atStart => exact ⟨0, by omega, rfl, World.ownsRow_nil _ _ _ _, Below.refl _ _⟩
            case round =>
              obtain ⟨k, hk, rfl, hrow, B⟩ := hrel
              by_cases hkl : k < cn
              · obtain ⟨b, off, f, pg, rfl, hb, hg, C0, C1⟩ := Hcs.out.at k (by rw [Hcsn.out]; exact hkl)
                have htake : cs.take (k + 1) = cs.take k ++ [(f, pg)] := by
                  have : k < cs.length := by rw [Hcsn.out]; exact hkl
                  rw [List.take_add_one, List.getElem?_eq_getElem this, ← hg]; simp [List.getD, List.getElem?_eq_getElem this]
                have hown1 : ownC (n : Int) (cs.take (k + 1)) = ownC (n : Int) (cs.take k) ++ (if pg = (n : Int) then [(f, pg)] else []) := by
                  unfold ownC
                  rw [htake, List.filter_append]
                  by_cases e : pg = (n : Int)
                  · rw [if_pos e, List.filter_cons_of_pos (by simpa using e)]; rfl
                  · rw [if_neg e, List.filter_cons_of_neg (by simpa using e)]; rfl
                have hol : (ownC (n : Int) (cs.take k)).length ≤ k := by
                  refine Nat.le_trans (List.length_filter_le _ _) ?_
                  rw [List.length_take]; omega
                obtain ⟨q, hq⟩ : ∃ q, ownC (n : Int) (cs.take k) = q := ⟨_, rfl⟩
                rw [hq] at hown1 hol hrow
                obtain ⟨qn, hqn⟩ : ∃ n, q.length = n := ⟨_, rfl⟩
                rw [hqn] at hol hrow
                have HGB := HG.out.b.trans (B.mono HG.out.size)
                have c0 := (HGB.cell (p := ⟨b, _, none⟩) hb).trans C0
                have c1 := (HGB.cell (p := ⟨b, _, none⟩) hb).trans C1
                have hsz := B.size
                have HTk := Lib.hid hown1
                have HQn := Lib.hid hqn
                have HRo := Lib.hid hrow
                have HBB := Lib.hid B
                have hcn9 : cn ≤ 900 := N2.out
                clear C0 C1 hg htake hq hown1 hqn hrow B HGB
                by_cases hpn : pg = (n : Int)
                · subst hpn
                  go_wp2_with (first
                    | (at_builtin; refine wpList_append_own _ rfl _ _ 77 rfl WA.heap.size 79 i0 _ 2 16 Tryz.underlying77 HI.out HZ0.out HZ1.out HZ2.out rfl (by decide) _ _ _ rfl (HRo.out.alloc _) ⟨wr.heap.size, 0, none⟩ 1 1 [.bool f, .int .i64 (n : Int)] rfl rfl (cell_two_new _ _ _ _) (fun x hx => by simp at hx; rcases hx with rfl | rfl <;> rfl) (by unfold maxLen; omega) (by omega) (by simp; omega) ?_; intro v' w3 hown' hgrow3 hnil3; have HO3 := Lib.hid hown'; have HG3 := Lib.hid hgrow3; clear hown' hgrow3 hnil3))
                  go_roundw
                  case rel =>
                    refine ⟨k + 1, by omega, by simp, ?_, (HBB.out.alloc hsz _).grown HG3.out (by simp; omega) (fun r e => ?_)⟩
                    · rw [HTk.out]; simp only [if_true]; rw [List.length_append, HQn.out, List.flatMap_append]; exact HO3.out
                    · exact ((HRo.out.alloc (.cells #[.bool f, .int .i64 (n : Int)] 79)).lt r e).1
                  case measure => simp [intOf]; omega
                · have e : (pg == (n : Int)) = false := beq_eq_false_iff_ne.2 hpn
                  have HPn := Lib.hid hpn
                  clear hpn
                  go_wp2
                  go_roundw
                  case rel => exact ⟨k + 1, by omega, by simp, by rw [HTk.out, if_neg HPn.out, List.append_nil, HQn.out]; exact HRo.out, HBB.out⟩
                  case measure => simp [intOf]; omega
              · obtain rfl : cn = k := by omega
                rw [show cs.take cn = cs from by rw [← Hcsn.out, List.take_length], HOw.out] at hrow
                have H5 := HG.out.crow B hrow
                obtain ⟨a2, c2, hv2, _, _, _⟩ := CRow.view (H5.at 0 rfl : CRow _ 0 _ own)
                rw [HOl2.out] at hv2
                subst hv2
                obtain ⟨is, his⟩ : ∃ b, o.isSome = b := ⟨_, rfl⟩
                obtain ⟨⟨xa, xp, xf, ⟨xw, xu, xx⟩, xd⟩, hx⟩ : ∃ h, o.getD hit0 = h := ⟨_, rfl⟩
                have hkn : ∀ (W : World) (ts : List Thing) (i : Nat) (A : MA) (v : Value) (T : S10), Hold w W ts → ts[i]? = some (mdl A v T) → tget T.l 0 (n : Int) = o → Calls Tryz.prog 23 #[.pointer (some ⟨A.p, 0, none⟩), .int .i64 (n : Int)] W fun e w' => e = .returned (.tuple #[.agg #[.int .i64 xa, .int .i64 xp, .int .i64 xf, .bool xw, .bool xu, .bool xx, .bool xd], .bool is]) ∧ Hold w w' ts := fun W ts i A v T H hi ho => by
                  have := known_h H i hi (n : Int) o ho
                  rw [hx, his] at this; exact this
                have HKn := Lib.hid hkn
                have H5' := Lib.hid H5
                have hon9 : on2 ≤ 900 := Nat.le_trans hol N2.out
                have ho3 : on2 ≤ 9223372036854775807 := by omega
                have hc3 : cn ≤ 9223372036854775807 := Hcsl.out
                have HO3 := Lib.hid ho3
                have HC3 := Lib.hid hc3
                clear hkn hx his H5 hrow B hkl hk hon9 ho3 hc3 hol
                go_wp2_with (first
                  | (go_at_call 46; (with_reducible refine (apply_n H5'.out 2 rfl HE.out HB1.out csa csc cs cn Hcsn.out HC3.out (fun W v' S' H => Hcs.out.below H.b)).mono ?_); rintro e W6 ⟨rfl, v6, H6'⟩; rw [HT1.out] at H6'; have H6 : Hold w W6 [crow (.slice a2 on2 c2) own, mdl ⟨p', tp', A'⟩ v' S, mdl ⟨p, tp, A⟩ v6 T1.2] := H6'; clear H6')
                  | (go_at_call 46; (with_reducible refine (apply_n H6 1 rfl HE.out HB1.out a2 c2 own on2 HOl2.out HO3.out (fun W v' S' H => H.chs 0 rfl)).mono ?_); rintro e W7 ⟨rfl, v7, H7'⟩; rw [HT2.out] at H7'; have H7 : Hold w W7 [crow (.slice a2 on2 c2) own, mdl ⟨p', tp', A'⟩ v7 T2.2, mdl ⟨p, tp, A⟩ v6 T1.2] := H7'; clear H6 H7')
                  | (go_at_call 23; (with_reducible refine (HKn.out _ _ 2 ⟨p, tp, A⟩ _ _ H7 rfl HG1.out).mono ?_); rintro e W8 ⟨rfl, H8⟩; have H8n : Hold w (W8.alloc (.cells #[.int .i64 xa, .int .i64 xp, .int .i64 xf, .bool xw, .bool xu, .bool xx, .bool xd] 49)) [box W8.heap.size 49 [.int .i64 xa, .int .i64 xp, .int .i64 xf, .bool xw, .bool xu, .bool xx, .bool xd], crow (.slice a2 on2 c2) own, mdl ⟨p', tp', A'⟩ v7 T2.2, mdl ⟨p, tp, A⟩ v6 T1.2] := H8.new 49 [.int .i64 xa, .int .i64 xp, .int .i64 xf, .bool xw, .bool xu, .bool xx, .bool xd]; clear H7 H8)
                  | (go_at_call 23; (with_reducible refine (HKn.out _ _ 2 ⟨p', tp', A'⟩ _ _ H8n rfl HG2.out).mono ?_); rintro e W9 ⟨rfl, H9⟩; have x90 := (H9.box 0 rfl).cell (k := 0) rfl; have x91 := (H9.box 0 rfl).cell (k := 1) rfl; have x92 := (H9.box 0 rfl).cell (k := 2) rfl; have x93 := (H9.box 0 rfl).cell (k := 3) rfl; have x94 := (H9.box 0 rfl).cell (k := 4) rfl; have x95 := (H9.box 0 rfl).cell (k := 5) rfl; have x96 := (H9.box 0 rfl).cell (k := 6) rfl; have x9l := (H9.box 0 rfl).lt; clear H8n n0 n9 hn1 p0 p1 holen hlen g0' g1' g2'))
                go_ret
                exact ⟨rfl, H9.b.alloc H9.size _⟩
theorem cpage_walk (w : World) (hg : EC w) (a : Option Addr) (c : Nat) (l : List (Int × Int × Nat)) (hp : Ps w a l) (hlen : l.length ≤ 9223372036854775807) (oa : Option Addr) (oc : Nat) (ops : List Op10) (hop : Ops w oa ops) (holen : ops.length ≤ 9223372036854775807) (csa : Option Addr) (csc : Nat) (cs : List (Bool × Int)) (hcs : Chs w csa cs) (hcslen : cs.length ≤ 9223372036854775807) (page : Int) (hpage : (Lit.int .u16 page).wf = true) :
    Calls Tryz.prog 8 #[.slice a l.length c, .slice oa ops.length oc, .slice csa cs.length csc, .int .u16 page] w fun e w' => e = .returned (.bool true) ∧ Below w.heap.size w w' := by
  obtain ⟨page, rfl, hpg⟩ := nat_u16 hpage
  exact ChoicePage_nat w hg a c l hp hlen oa oc ops hop holen csa csc cs hcs hcslen page hpg
end Go.Proofs.YtgaififhhffpfaaGreatDoor
