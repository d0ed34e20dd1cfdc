/- ChoiceRow's walk. -/
import Derived.Test.YtgaififhhffpfaaGreatDoorHSame
import Derived.Test.YtgaififhhffpfaaGreatDoorHead11
import Derived.Test.YtgaififhhffpfaaGreatDoorChoiceP
import Derived.Test.YtgaififhhffpfaaGreatDoorMRoots
import Derived.Laws.StructEq
namespace Go.Proofs.YtgaififhhffpfaaGreatDoor
open Go.RowKit Go.Shelf
set_option maxRecDepth 100000 in
set_option maxHeartbeats 8000000 in
theorem ChoiceRow_nat (w : World) (hg : EC w) (a : Option Addr) (c : Nat) (l : List (Int × Int × Nat)) (hp : Ps w a l) (hlen : l.length ≤ 9223372036854775807) (oa : Option Addr) (oc : Nat) (ops : List Op10) (hop : Ops w oa ops) (holen : ops.length ≤ 9223372036854775807) (usa : Option Addr) (usc : Nat) (us : List (Bool × Int)) (hus : Chs w usa us) (huslen : us.length ≤ 9223372036854775807) (vsa : Option Addr) (vsc : Nat) (vs : List (Bool × Int)) (hvs : Chs w vsa vs) (hvslen : vs.length ≤ 9223372036854775807) (hcapv : vs.length ≤ vsc) :
    Calls Tryz.prog 9 #[.slice a l.length c, .slice oa ops.length oc, .slice usa us.length usc, .slice vsa vs.length vsc] w fun e w' => e = .returned (.bool true) ∧ Below w.heap.size w w' := by
  have hh := head11_any w hg
  obtain ⟨len, hl⟩ : ∃ len, l.length = len := ⟨_, rfl⟩
  obtain ⟨mem, hmem⟩ : ∃ mem, puts l = mem := ⟨_, rfl⟩
  have hm : ∀ W ts, Hold w W ts → Calls Tryz.prog 15 #[.slice a len c] W fun e w' => ∃ A : GA, e = .returned (.pointer (some ⟨A.p, 0, none⟩)) ∧ Hold w w' (gmem A mem :: ts) := fun W ts H => by
    have := made_h H a c l hp hlen
    rw [hl, hmem] at this; exact this
  have hB1 : 1 ≤ w.heap.size := lt_of_cell hg
  obtain ⟨on, hol⟩ : ∃ n, ops.length = n := ⟨_, rfl⟩
  have hpl := puts_len' l
  rw [hmem] at hpl
  rw [hl] at hlen ⊢
  rw [hol] at holen ⊢
  have HH := Lib.hid hh
  have HM := Lib.hid hm
  have HE := Lib.hid hg
  have HB1 := Lib.hid hB1
  have HOp := Lib.hid hop
  have HOl := Lib.hid hol
  have HPl := Lib.hid hpl
  obtain ⟨un, husn⟩ : ∃ n, us.length = n := ⟨_, rfl⟩
  rw [husn] at huslen ⊢
  have Hus := Lib.hid hus
  have Husn := Lib.hid husn
  have Husl := Lib.hid huslen
  obtain ⟨vn, hvsn⟩ : ∃ n, vs.length = n := ⟨_, rfl⟩
  rw [hvsn] at hvslen ⊢
  have Hvs := Lib.hid hvs
  have Hvsn := Lib.hid hvsn
  have Hvsl := Lib.hid hvslen
  have HCap := Lib.hid hcapv
  clear hh hm hg hB1 hop hol hpl hl hmem hp hus husn hvs hvsn hcapv
  by_cases g0 : (600 : Int) < (len : Int)
  · go_enter Tryz.func9, Tryz.ntmps9
    go_wp2_with (first
      | (go_at_call 45; (with_reducible refine HH.out.mono ?_); rintro e W0 ⟨rfl, b0⟩; have H0 := (Hold.nil w).past b0)
      | (go_at_call 15; (with_reducible refine (HM.out _ _ H0).mono ?_); rintro e W1 ⟨A, rfl, H1⟩; clear b0 H0)
      | (go_at_call 15; (with_reducible refine (HM.out _ _ H1).mono ?_); rintro e W1b ⟨A', rfl, H1b⟩; clear H1))
    go_ret
    exact ⟨rfl, H1b.b⟩
  · by_cases g1 : (200 : Int) < (on : Int)
    · go_enter Tryz.func9, Tryz.ntmps9
      go_wp2_with (first
        | (go_at_call 45; (with_reducible refine HH.out.mono ?_); rintro e W0 ⟨rfl, b0⟩; have H0 := (Hold.nil w).past b0)
        | (go_at_call 15; (with_reducible refine (HM.out _ _ H0).mono ?_); rintro e W1 ⟨A, rfl, H1⟩; clear b0 H0)
        | (go_at_call 15; (with_reducible refine (HM.out _ _ H1).mono ?_); rintro e W1b ⟨A', rfl, H1b⟩; clear H1))
      go_ret
      exact ⟨rfl, H1b.b⟩
    · by_cases g2 : (400 : Int) < (un : Int)
      · go_enter Tryz.func9, Tryz.ntmps9
        go_wp2_with (first
          | (go_at_call 45; (with_reducible refine HH.out.mono ?_); rintro e W0 ⟨rfl, b0⟩; have H0 := (Hold.nil w).past b0)
          | (go_at_call 15; (with_reducible refine (HM.out _ _ H0).mono ?_); rintro e W1 ⟨A, rfl, H1⟩; clear b0 H0)
          | (go_at_call 15; (with_reducible refine (HM.out _ _ H1).mono ?_); rintro e W1b ⟨A', rfl, H1b⟩; clear H1))
        go_ret
        exact ⟨rfl, H1b.b⟩
      · by_cases g3 : (400 : Int) < (vn : Int)
        · go_enter Tryz.func9, Tryz.ntmps9
          go_wp2_with (first
            | (go_at_call 45; (with_reducible refine HH.out.mono ?_); rintro e W0 ⟨rfl, b0⟩; have H0 := (Hold.nil w).past b0)
            | (go_at_call 15; (with_reducible refine (HM.out _ _ H0).mono ?_); rintro e W1 ⟨A, rfl, H1⟩; clear b0 H0)
            | (go_at_call 15; (with_reducible refine (HM.out _ _ H1).mono ?_); rintro e W1b ⟨A', rfl, H1b⟩; clear H1))
          go_ret
          exact ⟨rfl, H1b.b⟩
        · have g0' : decide ((600 : Int) < (len : Int)) = false := decide_eq_false_iff_not.2 g0
          have n0' : len ≤ 600 := by omega
          have g1' : decide ((200 : Int) < (on : Int)) = false := decide_eq_false_iff_not.2 g1
          have n1' : on ≤ 200 := by omega
          have g2' : decide ((400 : Int) < (un : Int)) = false := decide_eq_false_iff_not.2 g2
          have n2' : un ≤ 400 := by omega
          have g3' : decide ((400 : Int) < (vn : Int)) = false := decide_eq_false_iff_not.2 g3
          have n3' : vn ≤ 400 := by omega
          clear g0 g1 g2 g3
          have N0 := Lib.hid n0'
          have N1 := Lib.hid n1'
          have N2 := Lib.hid n2'
          have N3 := Lib.hid n3'
          clear n0' n1' n2' n3'
          go_enter Tryz.func9, Tryz.ntmps9
          go_wp2_with (first
            | (go_at_call 45; (with_reducible refine HH.out.mono ?_); rintro e W0 ⟨rfl, b0⟩; have H0 := (Hold.nil w).past b0)
            | (go_at_call 15; (with_reducible refine (HM.out _ _ H0).mono ?_); rintro e W1 ⟨A, rfl, H1⟩; clear b0 H0)
            | (go_at_call 15; (with_reducible refine (HM.out _ _ H1).mono ?_); rintro e W1b ⟨A', rfl, H1b⟩; clear H1)
            | (go_at_call 16; (with_reducible refine (new_h H1b 1 rfl 1).mono ?_); rintro e W2 ⟨p, tp, rfl, H2'⟩; have H2 : Hold w W2 [gmem A' mem, mdl ⟨p, tp, A⟩ (.slice none 0 0) ⟨mem, 1, []⟩] := H2'; clear H1b H2')
            | (go_at_call 16; (with_reducible refine (new_h H2 0 rfl 1).mono ?_); rintro e W3 ⟨p', tp', rfl, H3'⟩; have H3 : Hold w W3 [mdl ⟨p', tp', A'⟩ (.slice none 0 0) ⟨mem, 1, []⟩, mdl ⟨p, tp, A⟩ (.slice none 0 0) ⟨mem, 1, []⟩] := H3'; clear H2 H3'))
          go_loopw [14] (fun i wr => ∃ k : Nat, k ≤ on ∧ i = .int .i64 k ∧ ∃ S, ∃ v, ∃ v', Hold w wr [mdl ⟨p', tp', A'⟩ v' S, mdl ⟨p, tp, A⟩ v S] ∧ Snug S ∧ S.root = 1) (fun i _ => on - (intOf i).toNat)
          case atStart => exact ⟨0, by omega, rfl, _, _, _, H3, snug_nil _ _, rfl⟩
          case round =>
            obtain ⟨k, hk, rfl, S, v, v', H, hS, hR⟩ := hrel
            clear H3
            by_cases hkl : k < on
            · obtain ⟨b, off, what, okind, ouser, ox, ov, og, oi, opage, rfl, hb1, _, ook, C0, C1, C2, C3, C4, C5, C6, C7⟩ := HOp.out.at k (by rw [HOl.out]; exact hkl)
              have c1 := (H.b.cell (p := ⟨b, _, none⟩) hb1).trans C1
              have c2 := (H.b.cell (p := ⟨b, _, none⟩) hb1).trans C2
              have c3 := (H.b.cell (p := ⟨b, _, none⟩) hb1).trans C3
              have c4 := (H.b.cell (p := ⟨b, _, none⟩) hb1).trans C4
              have HC1 := Lib.hid C1
              have HC2 := Lib.hid C2
              have HC3 := Lib.hid C3
              have HC4 := Lib.hid C4
              have HG := Lib.hid H
              have HS := Lib.hid hS
              have HR := Lib.hid hR
              have HOk := Lib.hid ook
              clear C0 C1 C2 C3 C4 C5 C6 C7 H hS hR ook hk
              go_wp2_with fail
              go_region_held3 (fun w' => w'.cell? ⟨b, off + k * 8 + 1, none⟩ = some (.int .i64 okind) ∧ w'.cell? ⟨b, off + k * 8 + 2, none⟩ = some (.bool ouser) ∧ w'.cell? ⟨b, off + k * 8 + 3, none⟩ = some (.int .u64 (ox : Int)) ∧ w'.cell? ⟨b, off + k * 8 + 4, none⟩ = some (.int .u64 (ov : Int))) (go_keep) (first
                | (go_at_call 22; (with_reducible refine (access_h (HG.out.drew) 1 rfl HE.out HB1.out okind ouser ox ov HOk.out.1 HOk.out.2).mono ?_); rintro e X0 ⟨rfl, u0, G0'⟩; have G0 : Hold w X0 [mdl ⟨p', tp', A'⟩ v' S, mdl ⟨p, tp, A⟩ u0 (accS S okind ouser ox ov).2] := G0'; clear G0'; have f1 := (G0.b.cell (p := ⟨b, _, none⟩) hb1).trans HC1.out; have f2 := (G0.b.cell (p := ⟨b, _, none⟩) hb1).trans HC2.out; have f3 := (G0.b.cell (p := ⟨b, _, none⟩) hb1).trans HC3.out; have f4 := (G0.b.cell (p := ⟨b, _, none⟩) hb1).trans HC4.out))
              all_goals go_wp2_with fail
              go_region_held3 (fun w' => w'.cell? ⟨b, off + k * 8 + 1, none⟩ = some (.int .i64 okind) ∧ w'.cell? ⟨b, off + k * 8 + 2, none⟩ = some (.bool ouser) ∧ w'.cell? ⟨b, off + k * 8 + 3, none⟩ = some (.int .u64 (ox : Int)) ∧ w'.cell? ⟨b, off + k * 8 + 4, none⟩ = some (.int .u64 (ov : Int))) (go_keep) (first
                | (go_at_call 22; (with_reducible refine (access_h (G0.drew) 0 rfl HE.out HB1.out okind ouser ox ov HOk.out.1 HOk.out.2).mono ?_); rintro e X1 ⟨rfl, u1, G1'⟩; have G1 : Hold w X1 [mdl ⟨p', tp', A'⟩ u1 (accS S okind ouser ox ov).2, mdl ⟨p, tp, A⟩ u0 (accS S okind ouser ox ov).2] := G1'; clear G1'; have f1 := (G1.b.cell (p := ⟨b, _, none⟩) hb1).trans HC1.out; have f2 := (G1.b.cell (p := ⟨b, _, none⟩) hb1).trans HC2.out; have f3 := (G1.b.cell (p := ⟨b, _, none⟩) hb1).trans HC3.out; have f4 := (G1.b.cell (p := ⟨b, _, none⟩) hb1).trans HC4.out))
              all_goals go_wp2
              all_goals go_roundw
              case rel => exact ⟨k + 1, by omega, by simp, _, _, _, G1, HS.out.acc _ _ _ _, HR.out⟩
              case measure => simp [intOf]; omega
            · obtain rfl : on = k := by omega
              clear hkl hk
              obtain ⟨⟨n1, S1⟩, hT1⟩ : ∃ x, applyN S us = x := ⟨_, rfl⟩
              obtain ⟨⟨n2, S2⟩, hT2⟩ : ∃ x, applyN S1 vs = x := ⟨_, rfl⟩
              have hT3 : applyN S (us ++ vs) = (n1 + n2, S2) := by rw [applyN_append, hT1, hT2]
              have hS1 : Snug S1 := by have := applyN_snug us hS; rw [hT1] at this; exact this
              have hS2 : Snug S2 := by have := applyN_snug vs hS1; rw [hT2] at this; exact this
              have hb1 := applyN_le S us
              have hb2 := applyN_le S1 vs
              rw [hT1, Husn.out] at hb1
              rw [hT2, Hvsn.out] at hb2
              dsimp only at hb1 hb2
              have hul := Husl.out
              have hvl := Hvsl.out
              have hu4 : un ≤ 400 := N2.out
              have hv4 : vn ≤ 400 := N3.out
              have hw1 : IntKind.i64.wrap ((n1 : Int) + (n2 : Int)) = ((n1 + n2 : Nat) : Int) := by rw [IntKind.wrap_i64]; omega
              have hlen3 : (us ++ vs).length = un + vn := by rw [List.length_append, Husn.out, Hvsn.out]
              have HT1 := Lib.hid hT1
              have HT2 := Lib.hid hT2
              have HT3 := Lib.hid hT3
              have HS1 := Lib.hid hS1
              have HS2 := Lib.hid hS2
              have HG := Lib.hid H
              have HL3 := Lib.hid hlen3
              have HU9 := Lib.hid (show un ≤ 9223372036854775807 by omega)
              have HV9 := Lib.hid (show vn ≤ 9223372036854775807 by omega)
              have HUV9 := Lib.hid (show un + vn ≤ 9223372036854775807 by omega)
              have HUV := Lib.hid (show un + vn ≤ 1000000 by omega)
              have HUV0 := Lib.hid (show 0 + un + vn ≤ 1000000 by omega)
              have HU1 := Lib.hid (show 0 + un ≤ 1000000 by omega)
              clear hT1 hT2 hT3 hS1 hS2 hS hR H hlen3 hul hvl
              by_cases hv0 : vn = 0
              · have hv1 : ¬ ((0 : Int) < (vn : Int)) := by omega
                have hv1' : decide ((0 : Int) < (vn : Int)) = false := decide_eq_false_iff_not.2 hv1
                clear hv0
                go_wp2_with (first
                  | (go_at_call 46; (with_reducible refine (apply_q HG.out 1 rfl HE.out HB1.out usa usc us un HT1.out Husn.out HU9.out (fun W v' S' H => Hus.out.below H.b)).mono ?_); rintro e W6 ⟨rfl, v6, H6'⟩; have H6 : Hold w W6 [mdl ⟨p', tp', A'⟩ v' S, mdl ⟨p, tp, A⟩ v6 S1] := H6'; clear H6')
                  | (go_at_call 46; (with_reducible refine (apply_q H6 1 rfl HE.out HB1.out vsa vsc vs vn HT2.out Hvsn.out HV9.out (fun W v' S' H => Hvs.out.below H.b)).mono ?_); rintro e W7 ⟨rfl, v7, H7'⟩; have H7 : Hold w W7 [mdl ⟨p', tp', A'⟩ v' S, mdl ⟨p, tp, A⟩ v7 S2] := H7'; clear H6 H7'; have HR0 : (W7.alloc (.cells #[] 79)).ownsRow W7.heap.size 79 2 (.slice (some ⟨W7.heap.size, 0, none⟩) 0 0) 0 [] := World.ownsRow_made W7 #[] 0 (Nat.le_refl _) (by decide) rfl; have B0 := (Below.refl W7.heap.size W7).alloc (Nat.le_refl _) (.cells #[] 79); have C1 := Hus.out.below (H7.past B0).b)
                  | (at_builtin; refine wpList_chs rfl _ _ rfl W7.heap.size _ _ _ rfl HR0 usa un usc rfl us Husn.out C1 HU1.out B0.size ?_; intro va W8 R1 g1; have B1 := B0.grown g1 B0.size (fun r e => (HR0.lt r e).1); have C2 := Hvs.out.below (H7.past B1).b; clear g1 HR0 C1)
                  | (at_builtin; refine wpList_chs rfl _ _ rfl W7.heap.size _ _ _ rfl R1 vsa vn vsc rfl vs Hvsn.out C2 HUV0.out B1.size ?_; intro vb W9 R2 g2; have B2 := B1.grown g2 B1.size (fun r e => (R1.lt r e).1); clear g2 R1 C2; rw [List.nil_append, ← List.flatMap_append, show 0 + un + vn = (us ++ vs).length from (Nat.zero_add _ ▸ HL3.out.symm)] at R2; have H9 : Hold w W9 [crow vb (us ++ vs), mdl ⟨p', tp', A'⟩ v' S, mdl ⟨p, tp, A⟩ v7 S2] := H7.crow B2 R2; obtain ⟨a2, c2, hv2, _, _, _⟩ := CRow.view (H9.at 0 rfl : CRow _ 0 _ (us ++ vs)); rw [HL3.out] at hv2; subst hv2; clear R2 B2 H7)
                  | (go_at_call 46; (with_reducible refine (apply_q H9 1 rfl HE.out HB1.out a2 c2 (us ++ vs) (un + vn) HT3.out HL3.out HUV9.out (fun W v' S' H => H.chs 0 rfl)).mono ?_); rintro e W10 ⟨rfl, v10, H10'⟩; have H10 : Hold w W10 [crow (.slice a2 (un + vn) c2) (us ++ vs), mdl ⟨p', tp', A'⟩ v10 S2, mdl ⟨p, tp, A⟩ v7 S2] := H10'; clear H9 H10')
                  | (go_at_call 37; (with_reducible refine (mall_h H10 2 rfl).mono ?_); rintro e X1 ⟨⟨r1, rfl, hr1⟩, b1⟩; have K1 := (H10).past b1; clear b1)
                  | (go_at_call 37; (with_reducible refine (mall_h K1 1 rfl).mono ?_); rintro e X2 ⟨⟨r2, rfl, hr2⟩, b2⟩; have K2 := K1.past b2; have hr1' := hr1.past b2; clear hr1 K1 b2)
                  | (go_at_call 36; (with_reducible refine (hsame_any _ _ _ _ hr1' hr2 (by have := (K2.at 1 rfl : MX _ _ _ _).small; omega)).mono ?_); rintro e X3 ⟨rfl, b3⟩; have K3 := K2.past b3; clear b3 hr1' hr2 K2))
                go_ret
                exact ⟨rfl, K3.b⟩
              · have hv1 : (0 : Int) < (vn : Int) := by omega
                have hv1' : decide ((0 : Int) < (vn : Int)) = true := decide_eq_true hv1
                obtain ⟨q, hqv⟩ : ∃ q, vn = q + 1 := ⟨vn - 1, by omega⟩
                obtain ⟨x, hx⟩ : ∃ x, vs.getD q (false, 0) = x := ⟨_, rfl⟩
                obtain ⟨b, off, rfl, hCx, hvx⟩ : ∃ b off, vsa = some ⟨b, off, none⟩ ∧ Chs w (some ⟨b, off + q * 2, none⟩) [x] ∧ vs = vs.take q ++ [x] := by
                  have hq : q < vs.length := by rw [Hvsn.out]; omega
                  rcases Hvs.out with h | ⟨b, off, h1, h2, h3⟩
                  · rw [h] at hq; simp at hq
                  · refine ⟨b, off, h1, .inr ⟨b, off + q * 2, rfl, h2, fun j hj => ?_⟩, ?_⟩
                    · obtain rfl : j = 0 := by simpa using hj
                      have := h3 q hq
                      rw [hx] at this
                      simpa using this
                    · have e := List.take_add_one (l := vs) (i := q)
                      rw [List.take_of_length_le (by rw [Hvsn.out]; omega), List.getElem?_eq_getElem hq] at e
                      rw [List.getD, List.getElem?_eq_getElem hq] at hx
                      simp at hx
                      rw [hx] at e; simpa using e
                have hTx : ∃ SX, applyN S2 [x] = (0, SX) := by
                  have e2 := HT2.out
                  rw [hvx, applyN_append, applyN_one] at e2
                  have hU := applyN_snug (vs.take q) HS1.out
                  have hag := (apply1_again hU x).1
                  injection e2 with _ e3
                  rw [e3] at hag
                  exact ⟨_, by rw [applyN_one, hag]; rfl⟩
                obtain ⟨SX, hTx⟩ := hTx
                have hcap : vn ≤ vsc := by rw [← Hvsn.out]; exact HCap.out
                have hcne : ¬ (vsc = q) := by omega
                have HTx := Lib.hid hTx
                have HCx := Lib.hid hCx
                have hqi : (vn : Int) - 1 = (q : Int) := by omega
                have hqs : vn - q = 1 := by omega
                have hql : (q : Int) ≤ (vn : Int) := by omega
                clear hqv hTx hCx hx hvx
                go_wp2_with (first
                  | (go_at_call 46; (with_reducible refine (apply_q HG.out 1 rfl HE.out HB1.out usa usc us un HT1.out Husn.out HU9.out (fun W v' S' H => Hus.out.below H.b)).mono ?_); rintro e W6 ⟨rfl, v6, H6'⟩; have H6 : Hold w W6 [mdl ⟨p', tp', A'⟩ v' S, mdl ⟨p, tp, A⟩ v6 S1] := H6'; clear H6')
                  | (go_at_call 46; (with_reducible refine (apply_q H6 1 rfl HE.out HB1.out (some ⟨b, off, none⟩) vsc vs vn HT2.out Hvsn.out HV9.out (fun W v' S' H => Hvs.out.below H.b)).mono ?_); rintro e W7 ⟨rfl, v7, H7'⟩; have H7 : Hold w W7 [mdl ⟨p', tp', A'⟩ v' S, mdl ⟨p, tp, A⟩ v7 S2] := H7'; clear H6 H7'; have HR0 : (W7.alloc (.cells #[] 79)).ownsRow W7.heap.size 79 2 (.slice (some ⟨W7.heap.size, 0, none⟩) 0 0) 0 [] := World.ownsRow_made W7 #[] 0 (Nat.le_refl _) (by decide) rfl; have B0 := (Below.refl W7.heap.size W7).alloc (Nat.le_refl _) (.cells #[] 79); have C1 := Hus.out.below (H7.past B0).b)
                  | (at_builtin; refine wpList_chs rfl _ _ rfl W7.heap.size _ _ _ rfl HR0 usa un usc rfl us Husn.out C1 HU1.out B0.size ?_; intro va W8 R1 g1; have B1 := B0.grown g1 B0.size (fun r e => (HR0.lt r e).1); have C2 := Hvs.out.below (H7.past B1).b; clear g1 HR0 C1)
                  | (at_builtin; refine wpList_chs rfl _ _ rfl W7.heap.size _ _ _ rfl R1 (some ⟨b, off, none⟩) vn vsc rfl vs Hvsn.out C2 HUV0.out B1.size ?_; intro vb W9 R2 g2; have B2 := B1.grown g2 B1.size (fun r e => (R1.lt r e).1); clear g2 R1 C2; rw [List.nil_append, ← List.flatMap_append, show 0 + un + vn = (us ++ vs).length from (Nat.zero_add _ ▸ HL3.out.symm)] at R2; have H9 : Hold w W9 [crow vb (us ++ vs), mdl ⟨p', tp', A'⟩ v' S, mdl ⟨p, tp, A⟩ v7 S2] := H7.crow B2 R2; obtain ⟨a2, c2, hv2, _, _, _⟩ := CRow.view (H9.at 0 rfl : CRow _ 0 _ (us ++ vs)); rw [HL3.out] at hv2; subst hv2; clear R2 B2 H7)
                  | (go_at_call 46; (with_reducible refine (apply_q H9 1 rfl HE.out HB1.out a2 c2 (us ++ vs) (un + vn) HT3.out HL3.out HUV9.out (fun W v' S' H => H.chs 0 rfl)).mono ?_); rintro e W10 ⟨rfl, v10, H10'⟩; have H10 : Hold w W10 [crow (.slice a2 (un + vn) c2) (us ++ vs), mdl ⟨p', tp', A'⟩ v10 S2, mdl ⟨p, tp, A⟩ v7 S2] := H10'; clear H9 H10')
                  | (go_at_call 46; (with_reducible refine (apply_q H10 2 rfl HE.out HB1.out _ _ [x] 1 HTx.out rfl (by decide) (fun W v' S' H => HCx.out.below H.b)).mono ?_); rintro e W11 ⟨rfl, v11, H11'⟩; have H11 : Hold w W11 [crow (.slice a2 (un + vn) c2) (us ++ vs), mdl ⟨p', tp', A'⟩ v10 S2, mdl ⟨p, tp, A⟩ v11 SX] := H11'; clear H10 H11')
                  | (go_at_call 46; (with_reducible refine (apply_q H11 1 rfl HE.out HB1.out _ _ [x] 1 HTx.out rfl (by decide) (fun W v' S' H => HCx.out.below H.b)).mono ?_); rintro e W12 ⟨rfl, v12, H12'⟩; have H12 : Hold w W12 [crow (.slice a2 (un + vn) c2) (us ++ vs), mdl ⟨p', tp', A'⟩ v12 SX, mdl ⟨p, tp, A⟩ v11 SX] := H12'; clear H11 H12')
                  | (go_at_call 37; (with_reducible refine (mall_h H12 2 rfl).mono ?_); rintro e X1 ⟨⟨r1, rfl, hr1⟩, b1⟩; have K1 := (H12).past b1; clear b1)
                  | (go_at_call 37; (with_reducible refine (mall_h K1 1 rfl).mono ?_); rintro e X2 ⟨⟨r2, rfl, hr2⟩, b2⟩; have K2 := K1.past b2; have hr1' := hr1.past b2; clear hr1 K1 b2)
                  | (go_at_call 36; (with_reducible refine (hsame_any _ _ _ _ hr1' hr2 (by have := (K2.at 1 rfl : MX _ _ _ _).small; omega)).mono ?_); rintro e X3 ⟨rfl, b3⟩; have K3 := K2.past b3; clear b3 hr1' hr2 K2))
                go_ret
                exact ⟨rfl, K3.b⟩
end Go.Proofs.YtgaififhhffpfaaGreatDoor
