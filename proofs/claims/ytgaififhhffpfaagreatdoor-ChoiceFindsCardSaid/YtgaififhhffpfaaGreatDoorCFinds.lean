/- ChoiceFinds's walk. -/
import Derived.Test.YtgaififhhffpfaaGreatDoorHead11
import Derived.Test.YtgaififhhffpfaaGreatDoorChoiceP
import Derived.Test.YtgaififhhffpfaaGreatDoorMRoots
import Derived.Laws.StructEq
namespace Go.Proofs.YtgaififhhffpfaaGreatDoor
open Go.RowKit Go.Shelf
set_option maxRecDepth 100000 in
set_option maxHeartbeats 8000000 in
theorem ChoiceFinds_nat (w : World) (hg : EC w) (a : Option Addr) (c : Nat) (l : List (Int × Int × Nat)) (hp : Ps w a l) (hlen : l.length ≤ 9223372036854775807) (oa : Option Addr) (oc : Nat) (ops : List Op10) (hop : Ops w oa ops) (holen : ops.length ≤ 9223372036854775807) (page : Nat) (hpg : page < 65536) :
    Calls Tryz.prog 10 #[.slice a l.length c, .slice oa ops.length oc, .int .u16 (page : Int)] w fun e w' => e = .returned (.bool true) ∧ Below w.heap.size w w' := by
  have hh := head11_any w hg
  obtain ⟨len, hl⟩ : ∃ len, l.length = len := ⟨_, rfl⟩
  obtain ⟨mem, hmem⟩ : ∃ mem, puts l = mem := ⟨_, rfl⟩
  have hm : ∀ W ts, Hold w W ts → Calls Tryz.prog 15 #[.slice a len c] W fun e w' => ∃ A : GA, e = .returned (.pointer (some ⟨A.p, 0, none⟩)) ∧ Hold w w' (gmem A mem :: ts) := fun W ts H => by
    have := made_h H a c l hp hlen
    rw [hl, hmem] at this; exact this
  have hB1 : 1 ≤ w.heap.size := lt_of_cell hg
  obtain ⟨on, hol⟩ : ∃ n, ops.length = n := ⟨_, rfl⟩
  have hpl := puts_len' l
  rw [hmem] at hpl
  rw [hl] at hlen ⊢
  rw [hol] at holen ⊢
  have HH := Lib.hid hh
  have HM := Lib.hid hm
  have HE := Lib.hid hg
  have HB1 := Lib.hid hB1
  have HOp := Lib.hid hop
  have HOl := Lib.hid hol
  have HPl := Lib.hid hpl
  obtain ⟨n, hn⟩ : ∃ n : Nat, page % 512 = n := ⟨_, rfl⟩
  have hn1 : (page : Int) % 512 = (n : Int) := by omega
  have n0 : (0 : Int) ≤ (n : Int) := by omega
  have n9 : (n : Int) ≤ 9223372036854775807 := by omega
  have nb : (0 : Int) ≤ (n : Int) ∧ (n : Int) < 512 := by omega
  have p0 : (0 : Int) ≤ (page : Int) := by omega
  have p1 : (page : Int) < 65536 := by omega
  have HNb := Lib.hid nb
  clear hh hm hg hB1 hop hol hpl hl hmem hp  hpg hn nb
  by_cases g0 : (600 : Int) < (len : Int)
  · go_enter Tryz.func10, Tryz.ntmps10
    go_wp2_with (first
      | (go_at_call 45; (with_reducible refine HH.out.mono ?_); rintro e W0 ⟨rfl, b0⟩; have H0 := (Hold.nil w).past b0)
      | (go_at_call 15; (with_reducible refine (HM.out _ _ H0).mono ?_); rintro e W1 ⟨A, rfl, H1⟩; clear b0 H0))
    go_ret
    exact ⟨rfl, H1.b⟩
  · by_cases g1 : (200 : Int) < (on : Int)
    · go_enter Tryz.func10, Tryz.ntmps10
      go_wp2_with (first
        | (go_at_call 45; (with_reducible refine HH.out.mono ?_); rintro e W0 ⟨rfl, b0⟩; have H0 := (Hold.nil w).past b0)
        | (go_at_call 15; (with_reducible refine (HM.out _ _ H0).mono ?_); rintro e W1 ⟨A, rfl, H1⟩; clear b0 H0))
      go_ret
      exact ⟨rfl, H1.b⟩
    · have g0' : decide ((600 : Int) < (len : Int)) = false := decide_eq_false_iff_not.2 g0
      have n0' : len ≤ 600 := by omega
      have g1' : decide ((200 : Int) < (on : Int)) = false := decide_eq_false_iff_not.2 g1
      have n1' : on ≤ 200 := by omega
      clear g0 g1
      have N0 := Lib.hid n0'
      have N1 := Lib.hid n1'
      clear n0' n1'
      go_enter Tryz.func10, Tryz.ntmps10
      go_wp2_with (first
        | (go_at_call 45; (with_reducible refine HH.out.mono ?_); rintro e W0 ⟨rfl, b0⟩; have H0 := (Hold.nil w).past b0)
        | (go_at_call 15; (with_reducible refine (HM.out _ _ H0).mono ?_); rintro e W1 ⟨A, rfl, H1⟩; clear b0 H0)
        | (go_at_call 16; (with_reducible refine (new_h H1 0 rfl 1).mono ?_); rintro e W2 ⟨p, tp, rfl, H2'⟩; have H2 : Hold w W2 [mdl ⟨p, tp, A⟩ (.slice none 0 0) ⟨mem, 1, []⟩] := H2'; clear H1 H2'))
      go_loopw [10] (fun i wr => ∃ k : Nat, k ≤ on ∧ i = .int .i64 k ∧ ∃ S, ∃ v, Hold w wr [mdl ⟨p, tp, A⟩ v S] ∧ Snug S ∧ S.root = 1) (fun i _ => on - (intOf i).toNat)
      case atStart => exact ⟨0, by omega, rfl, _, _, H2, snug_nil _ _, rfl⟩
      case round =>
        obtain ⟨k, hk, rfl, S, v, H, hS, hR⟩ := hrel
        clear H2
        by_cases hkl : k < on
        · obtain ⟨b, off, what, okind, ouser, ox, ov, og, oi, opage, rfl, hb1, _, ook, C0, C1, C2, C3, C4, C5, C6, C7⟩ := HOp.out.at k (by rw [HOl.out]; exact hkl)
          have c1 := (H.b.cell (p := ⟨b, _, none⟩) hb1).trans C1
          have c2 := (H.b.cell (p := ⟨b, _, none⟩) hb1).trans C2
          have c3 := (H.b.cell (p := ⟨b, _, none⟩) hb1).trans C3
          have c4 := (H.b.cell (p := ⟨b, _, none⟩) hb1).trans C4
          have HC1 := Lib.hid C1
          have HC2 := Lib.hid C2
          have HC3 := Lib.hid C3
          have HC4 := Lib.hid C4
          have HG := Lib.hid H
          have HS := Lib.hid hS
          have HR := Lib.hid hR
          have HOk := Lib.hid ook
          clear C0 C1 C2 C3 C4 C5 C6 C7 H hS hR ook hk
          go_wp2_with fail
          go_region_held3 (fun w' => w'.cell? ⟨b, off + k * 8 + 1, none⟩ = some (.int .i64 okind) ∧ w'.cell? ⟨b, off + k * 8 + 2, none⟩ = some (.bool ouser) ∧ w'.cell? ⟨b, off + k * 8 + 3, none⟩ = some (.int .u64 (ox : Int)) ∧ w'.cell? ⟨b, off + k * 8 + 4, none⟩ = some (.int .u64 (ov : Int))) (go_keep) (first
            | (go_at_call 22; (with_reducible refine (access_h (HG.out.drew) 0 rfl HE.out HB1.out okind ouser ox ov HOk.out.1 HOk.out.2).mono ?_); rintro e X0 ⟨rfl, u0, G0'⟩; have G0 : Hold w X0 [mdl ⟨p, tp, A⟩ u0 (accS S okind ouser ox ov).2] := G0'; clear G0'; have f1 := (G0.b.cell (p := ⟨b, _, none⟩) hb1).trans HC1.out; have f2 := (G0.b.cell (p := ⟨b, _, none⟩) hb1).trans HC2.out; have f3 := (G0.b.cell (p := ⟨b, _, none⟩) hb1).trans HC3.out; have f4 := (G0.b.cell (p := ⟨b, _, none⟩) hb1).trans HC4.out))
          all_goals go_wp2
          all_goals go_roundw
          case rel => exact ⟨k + 1, by omega, by simp, _, _, G0, HS.out.acc _ _ _ _, HR.out⟩
          case measure => simp [intOf]; omega
        · obtain rfl : on = k := by omega
          clear hkl hk
          obtain ⟨hk1, hk2, hk3⟩ := apply_refind hS HNb.out
          rw [hR] at hk1 hk2 hk3
          obtain ⟨⟨tn, T⟩, hT⟩ : ∃ x, applyN S [(false, (n : Int)), (true, (n : Int))] = x := ⟨_, rfl⟩
          have ham := (applyN_mem [(false, (n : Int)), (true, (n : Int))] S).1
          rw [hT] at hk1 hk2 ham
          dsimp only at hk1 hk2 ham
          obtain ⟨o1, ho1⟩ : ∃ o, tget S.l 0 (n : Int) = o := ⟨_, rfl⟩
          obtain ⟨fd, hfd⟩ : ∃ b, (findR S.mem 1 [] (n : Int)).1 = b := ⟨_, rfl⟩
          obtain ⟨oh, hoh⟩ : ∃ o, tget (findS ⟨S.mem, 1, []⟩ (n : Int)).l 0 (n : Int) = o := ⟨_, rfl⟩
          obtain ⟨had, hhad⟩ : ∃ b, o1.isSome = b := ⟨_, rfl⟩
          rw [ho1, hhad, hfd] at hk1
          rw [hoh] at hk2 hk3
          rw [hfd] at hk3
          obtain ⟨⟨xa, xp, xf, ⟨xw, xu, xx⟩, xd⟩, hx⟩ : ∃ h, o1.getD hit0 = h := ⟨_, rfl⟩
          obtain ⟨⟨ya, yp, yf, ⟨yw, yu, yx⟩, yd⟩, hy⟩ : ∃ h, oh.getD hit0 = h := ⟨_, rfl⟩
          have hkn1 : ∀ (W : World) (ts : List Thing) (i : Nat) (A : MA) (v : Value) (T : S10), Hold w W ts → ts[i]? = some (mdl A v T) → tget T.l 0 (n : Int) = o1 → Calls Tryz.prog 23 #[.pointer (some ⟨A.p, 0, none⟩), .int .i64 (n : Int)] W fun e w' => e = .returned (.tuple #[.agg #[.int .i64 xa, .int .i64 xp, .int .i64 xf, .bool xw, .bool xu, .bool xx, .bool xd], .bool had]) ∧ Hold w w' ts := fun W ts i A v T H hi ho => by
            have := known_h H i hi (n : Int) o1 ho
            rw [hx, hhad] at this; exact this
          have hkn2 : ∀ (W : World) (ts : List Thing) (i : Nat) (A : MA) (v : Value) (T : S10), Hold w W ts → ts[i]? = some (mdl A v T) → tget T.l 0 (n : Int) = oh → Calls Tryz.prog 23 #[.pointer (some ⟨A.p, 0, none⟩), .int .i64 (n : Int)] W fun e w' => e = .returned (.tuple #[.agg #[.int .i64 ya, .int .i64 yp, .int .i64 yf, .bool yw, .bool yu, .bool yx, .bool yd], .bool fd]) ∧ Hold w w' ts := fun W ts i A v T H hi ho => by
            have := known_h H i hi (n : Int) oh ho
            rw [hy, hk3] at this; exact this
          have hap : ∀ (W : World) (b : Nat) (us : List Thing) (v : Value), Hold w W (box b 79 [.bool false, .int .i64 (n : Int), .bool true, .int .i64 (n : Int)] :: us) → us[1]? = some (mdl ⟨p, tp, A⟩ v S) → Calls Tryz.prog 46 #[.pointer (some ⟨p, 0, none⟩), .slice (some ⟨b, 0, none⟩) 2 2] W
              fun e w' => e = .returned (.int .i64 (tn : Int)) ∧ ∃ v', Hold w w' (box b 79 [.bool false, .int .i64 (n : Int), .bool true, .int .i64 (n : Int)] :: us.set 1 (mdl ⟨p, tp, A⟩ v' T)) := fun W b us v H hi => by
            have := apply_n H 2 hi HE.out HB1.out (some ⟨b, 0, none⟩) 2 [(false, (n : Int)), (true, (n : Int))] 2 rfl (by decide) (fun W v' S' H => chs_blk (rest := []) (H.box 0 rfl))
            rw [hT] at this; exact this
          have hfi : ∀ (W : World) (us : List Thing) (i : Nat) (A : MA) (v : Value), Hold w W us → us[i]? = some (mdl A v ⟨S.mem, 1, []⟩) → Calls Tryz.prog 32 #[.pointer (some ⟨A.p, 0, none⟩), .int .i64 (n : Int)] W
              fun e w' => e = .returned (.bool fd) ∧ ∃ v', Hold w w' (us.set i (mdl A v' (findS ⟨S.mem, 1, []⟩ (n : Int)))) := fun W us i A v H hi => by
            have := find_h H i hi HE.out HB1.out (n : Int)
            dsimp only at this
            rw [hfd] at this; exact this
          have HKn1 := Lib.hid hkn1
          have HKn2 := Lib.hid hkn2
          have HAp := Lib.hid hap
          have HFi := Lib.hid hfi
          have HO1 := Lib.hid ho1
          have HK2 := Lib.hid hk2
          have HOh := Lib.hid hoh
          have HAm := Lib.hid ham
          have HG := Lib.hid H
          clear hkn1 hkn2 hap hfi ho1 hk2 hoh ham H hS hR hT hx hy hhad hk3 hfd
          cases had
          all_goals cases fd
          all_goals
            simp only [Bool.false_eq_true, if_false, if_true, Nat.add_zero, Nat.zero_add, Nat.reduceAdd] at hk1
            subst hk1
            go_wp2_with (first
              | (go_at_call 23; (with_reducible refine (HKn1.out _ _ 0 ⟨p, tp, A⟩ _ _ HG.out rfl HO1.out).mono ?_); rintro e W4 ⟨rfl, H4⟩; have H4n : Hold w (W4.alloc (.cells #[.int .i64 xa, .int .i64 xp, .int .i64 xf, .bool xw, .bool xu, .bool xx, .bool xd] 49)) [box W4.heap.size 49 [.int .i64 xa, .int .i64 xp, .int .i64 xf, .bool xw, .bool xu, .bool xx, .bool xd], mdl ⟨p, tp, A⟩ v S] := H4.new 49 [.int .i64 xa, .int .i64 xp, .int .i64 xf, .bool xw, .bool xu, .bool xx, .bool xd]; have H4m : Hold w ((W4.alloc (.cells #[.int .i64 xa, .int .i64 xp, .int .i64 xf, .bool xw, .bool xu, .bool xx, .bool xd] 49)).alloc (.cells #[.bool false, .int .i64 (n : Int), .bool true, .int .i64 (n : Int)] 79)) [box (W4.heap.size + 1) 79 [.bool false, .int .i64 (n : Int), .bool true, .int .i64 (n : Int)], box W4.heap.size 49 [.int .i64 xa, .int .i64 xp, .int .i64 xf, .bool xw, .bool xu, .bool xx, .bool xd], mdl ⟨p, tp, A⟩ v S] := (by have := H4n.new 79 [.bool false, .int .i64 (n : Int), .bool true, .int .i64 (n : Int)]; rw [World.size_alloc] at this; exact this); clear H4 H4n)
              | (go_at_call 46; (with_reducible refine (HAp.out _ _ _ _ H4m rfl).mono ?_); rintro e W5 ⟨rfl, v5, H5'⟩; have H5 : Hold w W5 [box (W4.heap.size + 1) 79 [.bool false, .int .i64 (n : Int), .bool true, .int .i64 (n : Int)], box W4.heap.size 49 [.int .i64 xa, .int .i64 xp, .int .i64 xf, .bool xw, .bool xu, .bool xx, .bool xd], mdl ⟨p, tp, A⟩ v5 T] := H5'; clear H4m H5')
              | (go_at_call 23; (with_reducible refine (HKn2.out _ _ 2 ⟨p, tp, A⟩ _ _ H5 rfl HK2.out).mono ?_); rintro e W6 ⟨rfl, H6⟩; have H6n : Hold w (W6.alloc (.cells #[.int .i64 ya, .int .i64 yp, .int .i64 yf, .bool yw, .bool yu, .bool yx, .bool yd] 49)) [box W6.heap.size 49 [.int .i64 ya, .int .i64 yp, .int .i64 yf, .bool yw, .bool yu, .bool yx, .bool yd], box (W4.heap.size + 1) 79 [.bool false, .int .i64 (n : Int), .bool true, .int .i64 (n : Int)], box W4.heap.size 49 [.int .i64 xa, .int .i64 xp, .int .i64 xf, .bool xw, .bool xu, .bool xx, .bool xd], mdl ⟨p, tp, A⟩ v5 T] := H6.new 49 [.int .i64 ya, .int .i64 yp, .int .i64 yf, .bool yw, .bool yu, .bool yx, .bool yd]; have H6g : Hold w (W6.alloc (.cells #[.int .i64 ya, .int .i64 yp, .int .i64 yf, .bool yw, .bool yu, .bool yx, .bool yd] 49)) [box W6.heap.size 49 [.int .i64 ya, .int .i64 yp, .int .i64 yf, .bool yw, .bool yu, .bool yx, .bool yd], box (W4.heap.size + 1) 79 [.bool false, .int .i64 (n : Int), .bool true, .int .i64 (n : Int)], box W4.heap.size 49 [.int .i64 xa, .int .i64 xp, .int .i64 xf, .bool xw, .bool xu, .bool xx, .bool xd], gmem A S.mem] := (by have := H6n.gmem 3 rfl; rw [HAm.out] at this; exact this); clear H5 H6 H6n)
              | (go_at_call 16; (with_reducible refine (new_h H6g 3 rfl 1).mono ?_); rintro e W7 ⟨p2, tp2, rfl, H7'⟩; have H7 : Hold w W7 [box W6.heap.size 49 [.int .i64 ya, .int .i64 yp, .int .i64 yf, .bool yw, .bool yu, .bool yx, .bool yd], box (W4.heap.size + 1) 79 [.bool false, .int .i64 (n : Int), .bool true, .int .i64 (n : Int)], box W4.heap.size 49 [.int .i64 xa, .int .i64 xp, .int .i64 xf, .bool xw, .bool xu, .bool xx, .bool xd], mdl ⟨p2, tp2, A⟩ (.slice none 0 0) ⟨S.mem, 1, []⟩] := H7'; clear H6g H7')
              | (go_at_call 32; (with_reducible refine (HFi.out _ _ 3 ⟨p2, tp2, A⟩ _ H7 rfl).mono ?_); rintro e W8 ⟨rfl, v8, H8'⟩; have H8 : Hold w W8 [box W6.heap.size 49 [.int .i64 ya, .int .i64 yp, .int .i64 yf, .bool yw, .bool yu, .bool yx, .bool yd], box (W4.heap.size + 1) 79 [.bool false, .int .i64 (n : Int), .bool true, .int .i64 (n : Int)], box W4.heap.size 49 [.int .i64 xa, .int .i64 xp, .int .i64 xf, .bool xw, .bool xu, .bool xx, .bool xd], mdl ⟨p2, tp2, A⟩ v8 (findS ⟨S.mem, 1, []⟩ (n : Int))] := H8'; clear H7 H8')
              | (go_at_call 23; (with_reducible refine (HKn2.out _ _ 3 ⟨p2, tp2, A⟩ _ _ H8 rfl HOh.out).mono ?_); rintro e W9 ⟨rfl, H9⟩; have x90 := (H9.box 0 rfl).cell (k := 0) rfl; have x91 := (H9.box 0 rfl).cell (k := 1) rfl; have x92 := (H9.box 0 rfl).cell (k := 2) rfl; have x93 := (H9.box 0 rfl).cell (k := 3) rfl; have x94 := (H9.box 0 rfl).cell (k := 4) rfl; have x95 := (H9.box 0 rfl).cell (k := 5) rfl; have x96 := (H9.box 0 rfl).cell (k := 6) rfl; have x9l := (H9.box 0 rfl).lt; clear H8 n0 n9 hn1 p0 p1 holen hlen g0' g1'))
            go_ret
            exact ⟨rfl, H9.b.alloc H9.size _⟩
theorem cfinds_walk (w : World) (hg : EC w) (a : Option Addr) (c : Nat) (l : List (Int × Int × Nat)) (hp : Ps w a l) (hlen : l.length ≤ 9223372036854775807) (oa : Option Addr) (oc : Nat) (ops : List Op10) (hop : Ops w oa ops) (holen : ops.length ≤ 9223372036854775807) (page : Int) (hpage : (Lit.int .u16 page).wf = true) :
    Calls Tryz.prog 10 #[.slice a l.length c, .slice oa ops.length oc, .int .u16 page] w fun e w' => e = .returned (.bool true) ∧ Below w.heap.size w w' := by
  obtain ⟨page, rfl, hpg⟩ := nat_u16 hpage
  exact ChoiceFinds_nat w hg a c l hp hlen oa oc ops hop holen page hpg
end Go.Proofs.YtgaififhhffpfaaGreatDoor
