/- ChoiceMemory's walk. -/
import Derived.Test.YtgaififhhffpfaaGreatDoorHead11
import Derived.Test.YtgaififhhffpfaaGreatDoorChoiceP
import Derived.Test.YtgaififhhffpfaaGreatDoorMRoots
import Derived.Laws.StructEq
namespace Go.Proofs.YtgaififhhffpfaaGreatDoor
open Go.RowKit Go.Shelf
set_option maxRecDepth 100000 in
set_option maxHeartbeats 8000000 in
theorem ChoiceMemory_nat (w : World) (hg : EC w) (a : Option Addr) (c : Nat) (l : List (Int × Int × Nat)) (hp : Ps w a l) (hlen : l.length ≤ 9223372036854775807) (oa : Option Addr) (oc : Nat) (ops : List Op10) (hop : Ops w oa ops) (holen : ops.length ≤ 9223372036854775807) (csa : Option Addr) (csc : Nat) (cs : List (Bool × Int)) (hcs : Chs w csa cs) (hcslen : cs.length ≤ 9223372036854775807) :
    Calls Tryz.prog 12 #[.slice a l.length c, .slice oa ops.length oc, .slice csa cs.length csc] w fun e w' => e = .returned (.bool true) ∧ Below w.heap.size w w' := by
  have hh := head11_any w hg
  obtain ⟨len, hl⟩ : ∃ len, l.length = len := ⟨_, rfl⟩
  obtain ⟨mem, hmem⟩ : ∃ mem, puts l = mem := ⟨_, rfl⟩
  have hm : ∀ W ts, Hold w W ts → Calls Tryz.prog 15 #[.slice a len c] W fun e w' => ∃ A : GA, e = .returned (.pointer (some ⟨A.p, 0, none⟩)) ∧ Hold w w' (gmem A mem :: ts) := fun W ts H => by
    have := made_h H a c l hp hlen
    rw [hl, hmem] at this; exact this
  have hB1 : 1 ≤ w.heap.size := lt_of_cell hg
  obtain ⟨on, hol⟩ : ∃ n, ops.length = n := ⟨_, rfl⟩
  have hpl := puts_len' l
  rw [hmem] at hpl
  rw [hl] at hlen ⊢
  rw [hol] at holen ⊢
  have HH := Lib.hid hh
  have HM := Lib.hid hm
  have HE := Lib.hid hg
  have HB1 := Lib.hid hB1
  have HOp := Lib.hid hop
  have HOl := Lib.hid hol
  have HPl := Lib.hid hpl
  obtain ⟨cn, hcsn⟩ : ∃ n, cs.length = n := ⟨_, rfl⟩
  rw [hcsn] at hcslen ⊢
  have Hcs := Lib.hid hcs
  have Hcsn := Lib.hid hcsn
  have Hcsl := Lib.hid hcslen
  clear hh hm hg hB1 hop hol hpl hl hmem hp hcs hcsn 
  by_cases g0 : (600 : Int) < (len : Int)
  · go_enter Tryz.func12, Tryz.ntmps12
    go_wp2_with (first
      | (go_at_call 45; (with_reducible refine HH.out.mono ?_); rintro e W0 ⟨rfl, b0⟩; have H0 := (Hold.nil w).past b0)
      | (go_at_call 15; (with_reducible refine (HM.out _ _ H0).mono ?_); rintro e W1 ⟨A, rfl, H1⟩; clear b0 H0))
    go_ret
    exact ⟨rfl, H1.b⟩
  · by_cases g1 : (200 : Int) < (on : Int)
    · go_enter Tryz.func12, Tryz.ntmps12
      go_wp2_with (first
        | (go_at_call 45; (with_reducible refine HH.out.mono ?_); rintro e W0 ⟨rfl, b0⟩; have H0 := (Hold.nil w).past b0)
        | (go_at_call 15; (with_reducible refine (HM.out _ _ H0).mono ?_); rintro e W1 ⟨A, rfl, H1⟩; clear b0 H0))
      go_ret
      exact ⟨rfl, H1.b⟩
    · by_cases g2 : (900 : Int) < (cn : Int)
      · go_enter Tryz.func12, Tryz.ntmps12
        go_wp2_with (first
          | (go_at_call 45; (with_reducible refine HH.out.mono ?_); rintro e W0 ⟨rfl, b0⟩; have H0 := (Hold.nil w).past b0)
          | (go_at_call 15; (with_reducible refine (HM.out _ _ H0).mono ?_); rintro e W1 ⟨A, rfl, H1⟩; clear b0 H0))
        go_ret
        exact ⟨rfl, H1.b⟩
      · have g0' : decide ((600 : Int) < (len : Int)) = false := decide_eq_false_iff_not.2 g0
        have n0' : len ≤ 600 := by omega
        have g1' : decide ((200 : Int) < (on : Int)) = false := decide_eq_false_iff_not.2 g1
        have n1' : on ≤ 200 := by omega
        have g2' : decide ((900 : Int) < (cn : Int)) = false := decide_eq_false_iff_not.2 g2
        have n2' : cn ≤ 900 := by omega
        clear g0 g1 g2
        have N0 := Lib.hid n0'
        have N1 := Lib.hid n1'
        have N2 := Lib.hid n2'
        clear n0' n1' n2'
        go_enter Tryz.func12, Tryz.ntmps12
        go_wp2_with (first
          | (go_at_call 45; (with_reducible refine HH.out.mono ?_); rintro e W0 ⟨rfl, b0⟩; have H0 := (Hold.nil w).past b0)
          | (go_at_call 15; (with_reducible refine (HM.out _ _ H0).mono ?_); rintro e W1 ⟨A, rfl, H1⟩; clear b0 H0)
          | (go_at_call 16; (with_reducible refine (new_h H1 0 rfl 1).mono ?_); rintro e W2 ⟨p, tp, rfl, H2'⟩; have H2 : Hold w W2 [mdl ⟨p, tp, A⟩ (.slice none 0 0) ⟨mem, 1, []⟩] := H2'; clear H1 H2'))
        go_loopw [10] (fun i wr => ∃ k : Nat, k ≤ on ∧ i = .int .i64 k ∧ ∃ S, ∃ v, Hold w wr [mdl ⟨p, tp, A⟩ v S] ∧ Snug S ∧ S.root = 1) (fun i _ => on - (intOf i).toNat)
        case atStart => exact ⟨0, by omega, rfl, _, _, H2, snug_nil _ _, rfl⟩
        case round =>
          obtain ⟨k, hk, rfl, S, v, H, hS, hR⟩ := hrel
          clear H2
          by_cases hkl : k < on
          · obtain ⟨b, off, what, okind, ouser, ox, ov, og, oi, opage, rfl, hb1, _, ook, C0, C1, C2, C3, C4, C5, C6, C7⟩ := HOp.out.at k (by rw [HOl.out]; exact hkl)
            have c1 := (H.b.cell (p := ⟨b, _, none⟩) hb1).trans C1
            have c2 := (H.b.cell (p := ⟨b, _, none⟩) hb1).trans C2
            have c3 := (H.b.cell (p := ⟨b, _, none⟩) hb1).trans C3
            have c4 := (H.b.cell (p := ⟨b, _, none⟩) hb1).trans C4
            have HC1 := Lib.hid C1
            have HC2 := Lib.hid C2
            have HC3 := Lib.hid C3
            have HC4 := Lib.hid C4
            have HG := Lib.hid H
            have HS := Lib.hid hS
            have HR := Lib.hid hR
            have HOk := Lib.hid ook
            clear C0 C1 C2 C3 C4 C5 C6 C7 H hS hR ook hk
            go_wp2_with fail
            go_region_held3 (fun w' => w'.cell? ⟨b, off + k * 8 + 1, none⟩ = some (.int .i64 okind) ∧ w'.cell? ⟨b, off + k * 8 + 2, none⟩ = some (.bool ouser) ∧ w'.cell? ⟨b, off + k * 8 + 3, none⟩ = some (.int .u64 (ox : Int)) ∧ w'.cell? ⟨b, off + k * 8 + 4, none⟩ = some (.int .u64 (ov : Int))) (go_keep) (first
              | (go_at_call 22; (with_reducible refine (access_h (HG.out.drew) 0 rfl HE.out HB1.out okind ouser ox ov HOk.out.1 HOk.out.2).mono ?_); rintro e X0 ⟨rfl, u0, G0'⟩; have G0 : Hold w X0 [mdl ⟨p, tp, A⟩ u0 (accS S okind ouser ox ov).2] := G0'; clear G0'; have f1 := (G0.b.cell (p := ⟨b, _, none⟩) hb1).trans HC1.out; have f2 := (G0.b.cell (p := ⟨b, _, none⟩) hb1).trans HC2.out; have f3 := (G0.b.cell (p := ⟨b, _, none⟩) hb1).trans HC3.out; have f4 := (G0.b.cell (p := ⟨b, _, none⟩) hb1).trans HC4.out))
            all_goals go_wp2
            all_goals go_roundw
            case rel => exact ⟨k + 1, by omega, by simp, _, _, G0, HS.out.acc _ _ _ _, HR.out⟩
            case measure => simp [intOf]; omega
          · obtain rfl : on = k := by omega
            clear hkl hk
            have HG := Lib.hid H
            have HS := Lib.hid hS
            obtain ⟨kn, hkn⟩ : ∃ n, S.l.length = n := ⟨_, rfl⟩
            obtain ⟨T, hT⟩ : ∃ x, applyN S cs = x := ⟨_, rfl⟩
            have ham := (applyN_mem cs S).1
            have hal := applyN_len cs S
            have hale := applyN_le S cs
            rw [hT] at ham hal hale
            rw [hkn] at hal
            rw [Hcsn.out] at hale
            obtain ⟨fl, hfl⟩ : ∃ n, fillsC cs = n := ⟨_, rfl⟩
            rw [hfl] at hal
            have hfb : fl ≤ cn := by rw [← hfl, ← Hcsn.out]; exact List.countP_le_length
            have HKn := Lib.hid hkn
            have HT := Lib.hid hT
            have HAm := Lib.hid ham
            have HFl := Lib.hid hfl
            have HL8 := Lib.hid (H.at 0 rfl : MX _ _ _ _).g.len
            have hkb : kn ≤ 512 := by rw [← hkn]; exact (H.at 0 rfl : MX _ _ _ _).small
            clear H hS hR hkn hT ham hfl
            go_wp2_with (first
              | (go_at_call 40; (with_reducible refine (words_h HG.out 0 rfl).mono ?_); rintro e W4 ⟨v4, rfl, H4⟩)
              | (go_at_call 37; (with_reducible refine (mall_h H4 1 rfl).mono ?_); rintro e W5 ⟨⟨v5, rfl, hr5⟩, b5⟩; obtain ⟨a5, c5, hv5⟩ := hr5.slice; rw [HKn.out] at hv5; subst hv5; have H5 := H4.past b5; clear H4 b5 hr5))
            go_loopw [13, 14] (fun f i wr => ∃ k : Nat, k ≤ cn ∧ i = .int .i64 k ∧ f = .int .i64 ((fillsC (cs.take k) : Nat) : Int) ∧ Below W5.heap.size W5 wr) (fun _ i _ => cn - (intOf i).toNat)
            case atStart => exact ⟨0, by omega, rfl, rfl, Below.refl _ _⟩
            case round =>
              obtain ⟨k, hk, rfl, rfl, B⟩ := hrel
              by_cases hkl : k < cn
              · obtain ⟨b, off, f, pg, rfl, hb, hg, C0, C1⟩ := Hcs.out.at k (by rw [Hcsn.out]; exact hkl)
                have htake : fillsC (cs.take (k + 1)) = fillsC (cs.take k) + (if f then 1 else 0) := by
                  have : k < cs.length := by rw [Hcsn.out]; exact hkl
                  have e : cs.take (k + 1) = cs.take k ++ [(f, pg)] := by
                    rw [List.take_add_one, List.getElem?_eq_getElem this, ← hg]; simp [List.getD, List.getElem?_eq_getElem this]
                  unfold fillsC
                  rw [e, List.countP_append]
                  cases f <;> simp
                have hfk : fillsC (cs.take k) ≤ k := by
                  have : fillsC (cs.take k) ≤ (cs.take k).length := List.countP_le_length
                  rw [List.length_take] at this; omega
                obtain ⟨q, hq⟩ : ∃ q, fillsC (cs.take k) = q := ⟨_, rfl⟩
                rw [hq] at htake hfk ⊢
                have HGB := H5.b.trans (B.mono H5.size)
                have c0 := (HGB.cell (p := ⟨b, _, none⟩) hb).trans C0
                have HTk := Lib.hid htake
                have HBB := Lib.hid B
                clear C0 C1 hg htake hq B HGB
                cases f with
                | true =>
                  go_wp2
                  go_roundw
                  case rel => exact ⟨k + 1, by omega, by simp, by rw [HTk.out]; simp, HBB.out⟩
                  case measure => simp [intOf]; omega
                | false =>
                  go_wp2
                  go_roundw
                  case rel => exact ⟨k + 1, by omega, by simp, by rw [HTk.out]; simp, HBB.out⟩
                  case measure => simp [intOf]; omega
              · obtain rfl : cn = k := by omega
                rw [show cs.take cn = cs from by rw [← Hcsn.out, List.take_length], HFl.out]
                have H6 := Lib.hid (H5.past B)
                have hap := fun (W : World) (v' : Value) (H : Hold w W [wds v4 S.mem, mdl ⟨p, tp, A⟩ v' S]) => apply_n H 1 rfl HE.out HB1.out csa csc cs cn Hcsn.out (by omega) (fun W v' S' H => Hcs.out.below H.b)
                have HAp := Lib.hid hap
                obtain ⟨tn, htn⟩ : ∃ n, T.2.l.length = n := ⟨_, rfl⟩
                rw [htn] at hal
                have HTn := Lib.hid htn
                obtain ⟨t1, ht1⟩ : ∃ n, T.1 = n := ⟨_, rfl⟩
                rw [ht1] at hale
                have HT1 := Lib.hid ht1
                have hf9 : fl ≤ 900 := by have := N2.out; omega
                have halz : (tn : Int) ≤ (kn : Int) + (fl : Int) := by omega
                have halez : (t1 : Int) ≤ (cn : Int) := by omega
                have t0z : (0 : Int) ≤ (t1 : Int) := by omega
                clear H5 B hkl hk hap htn ht1 hal hale
                go_wp2_with (first
                  | (go_at_call 46; (with_reducible refine (HAp.out _ _ H6.out).mono ?_); rintro e W7 ⟨he, v7, H7'⟩; rw [HT.out] at he H7'; rw [HT1.out] at he; subst he; have H7 : Hold w W7 [wds v4 S.mem, mdl ⟨p, tp, A⟩ v7 T.2] := H7')
                  | (go_at_call 40; (with_reducible refine (words_h H7 1 rfl).mono ?_); rintro e W8 ⟨v8, rfl, H8⟩)
                  | (go_at_call 39; (with_reducible refine (samew_h H8 0 1 rfl rfl (by rw [HAm.out]; exact HL8.out) HAm.out).mono ?_); rintro e W9 ⟨rfl, H9⟩)
                  | (go_at_call 37; (with_reducible refine (mall_h H9 2 rfl).mono ?_); rintro e W10 ⟨⟨v10, rfl, hr10⟩, b10⟩; obtain ⟨a10, c10, hv10⟩ := hr10.slice; rw [HTn.out] at hv10; subst hv10; have H10 := H9.past b10))
                go_ret
                exact ⟨rfl, H10.b⟩
end Go.Proofs.YtgaififhhffpfaaGreatDoor
