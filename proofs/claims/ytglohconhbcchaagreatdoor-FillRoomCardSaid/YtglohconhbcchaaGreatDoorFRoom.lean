/- FillRoom's walk. -/
import Derived.Test.YtglohconhbcchaaGreatDoorRowF
import Derived.Laws.StructEq
namespace Go.Proofs.YtglohconhbcchaaGreatDoor
open Go.RowKit Go.Shelf Go.Maps
set_option linter.unusedSimpArgs false
set_option linter.unusedVariables false
set_option maxRecDepth 100000 in
set_option maxHeartbeats 16000000 in
theorem FillRoom_walk (w : World) (hE : EC w) (a : Option Addr) (c : Nat) (l : List (Int × Int × Nat)) (hp : Ps w a l) (hlen : l.length ≤ 9223372036854775807) (oa : Option Addr) (oc : Nat) (ops : List Opf) (hop : Fops w oa ops) (holen : ops.length ≤ 9223372036854775807) :
    Calls Tryz.prog 4 #[.slice a l.length c, .slice oa ops.length oc] w fun e w' => e = .returned (.bool true) ∧ Below w.heap.size w w' := by
  have h0 : 1 ≤ w.heap.size := lt_of_cell hE
  have hh := head17 w hE
  obtain ⟨len, hl⟩ : ∃ len, l.length = len := ⟨_, rfl⟩
  obtain ⟨G0, hG0⟩ : ∃ G, G24 (gputs l) = G := ⟨_, rfl⟩
  have hI0 : FM P24 G0 := hG0 ▸ FM24 _ (gputs_len l)
  have hm : ∀ W, Below w.heap.size w W → Calls Tryz.prog 11 #[.slice a len c] W fun e w' => ∃ wb A, e = .returned (.pointer (some ⟨wb, 0, none⟩)) ∧ HG w w' A P24 V24 G0 [wld wb A] := fun W b => by
    have h := gmade_any W a c l (hp.below b) hlen
    rw [hl, hG0] at h
    exact h.mono fun e w' ⟨wb, A, he, H⟩ => ⟨wb, A, he, ⟨b.trans (H.b.mono b.size), H.so, fun t ht b' hb => Nat.le_trans b.size (H.up t ht b' hb), H.apart⟩⟩
  rw [hl] at hlen ⊢
  obtain ⟨on, hol⟩ : ∃ n, ops.length = n := ⟨_, rfl⟩
  rw [hol] at holen ⊢
  have hgr := fun W => great17 W a oa c oc len on hlen holen
  obtain ⟨gr, hgr'⟩ : ∃ b, (decide (600 < len) || decide (60 < on)) = b := ⟨_, rfl⟩
  rw [hgr'] at hgr
  have HGr := Lib.hid hgr
  have HOp := Lib.hid hop
  have HOl := Lib.hid hol
  clear hgr hop hol hgr'
  have HH := Lib.hid hh
  have HM := Lib.hid hm
  have HI0 := Lib.hid hI0
  have HE := Lib.hid hE
  have H0 := Lib.hid h0
  clear hh hm hI0 hp hl hG0 hlen hE h0
  cases gr with
  | true =>
    go_enter Tryz.func4, Tryz.ntmps4
    go_wp2_with (first
      | (go_at_call 10; (with_reducible refine HH.out.mono ?_); rintro e W0 ⟨rfl, b0⟩)
      | (go_at_call 11; (with_reducible refine (HM.out _ b0).mono ?_); rintro e W1 ⟨wb, A, rfl, H1⟩; clear b0)
      | (go_at_call 12; (with_reducible refine (HGr.out W1).mono ?_); rintro e W2 ⟨rfl, rfl⟩))
    go_ret
    exact ⟨rfl, H1.below⟩  | false =>
    go_enter Tryz.func4, Tryz.ntmps4
    go_wp2_with (first
      | (go_at_call 10; (with_reducible refine HH.out.mono ?_); rintro e W0 ⟨rfl, b0⟩)
      | (go_at_call 11; (with_reducible refine (HM.out _ b0).mono ?_); rintro e W1 ⟨wb, A, rfl, H1⟩; clear b0)
      | (go_at_call 12; (with_reducible refine (HGr.out W1).mono ?_); rintro e W2 ⟨rfl, rfl⟩)
      | (go_at_call 13; (with_reducible refine (made17 H1).mono ?_); rintro e W3 ⟨F, rfl, h3⟩; have HH3 := Lib.hid h3; clear h3))
    clear HM HGr HH H1
    go_loopw [8, 9, 10, 11] (fun i _ _ _ wr => ∃ k : Nat, k ≤ on ∧ i = .int .i64 k ∧ ∃ V, HG w wr A P24 V (frun P24 G0 (ops.take k)) (fths F A P24 [wld wb A])) (fun i _ _ _ _ => on - (intOf i).toNat)
    case atStart => exact ⟨0, by omega, rfl, _, HH3.out⟩
    case round =>
      obtain ⟨k, hk, rfl, V, H⟩ := hrel
      clear HH3
      by_cases hkl : k < on
      · obtain ⟨b, off, ok, oroot, opage, okind, ouser, og, oi, ov, on', rfl, lb, ho, hov, C0, C1, C2, C3, C4, C5, C6, C7, C8⟩ := HOp.out.at k (by rw [HOl.out]; exact hkl)
        have HC0 := Lib.hid C0
        have HC1 := Lib.hid C1
        have HC2 := Lib.hid C2
        have HC3 := Lib.hid C3
        have HC4 := Lib.hid C4
        have HC5 := Lib.hid C5
        have HC6 := Lib.hid C6
        have HC7 := Lib.hid C7
        have HC8 := Lib.hid C8
        have HOv := Lib.hid hov
        clear C0 C1 C2 C3 C4 C5 C6 C7 C8 hov
        obtain ⟨Gk, hGk⟩ : ∃ G, frun P24 G0 (ops.take k) = G := ⟨_, rfl⟩
        have hIk : FM P24 Gk := hGk ▸ frun_fm POk24 HI0.out _
        have hn : frun P24 G0 (ops.take (k + 1)) = (fdo P24 Gk ⟨ok, oroot, opage, okind, ouser, og, oi, ov, on'⟩).2 := by rw [frun_take _ _ _ _ (by rw [HOl.out]; exact hkl), hGk, ho]
        have hIn : FM P24 (fdo P24 Gk ⟨ok, oroot, opage, okind, ouser, og, oi, ov, on'⟩).2 := fdo_fm POk24 hIk _
        rw [hGk] at H
        have hd := fdo24 H HE.out H0.out hIk.1.1 ok oroot opage okind ouser og oi ov on' HOv.out
        have hroom : (ok < 4 ∨ 9 < ok) → ((fdo P24 Gk ⟨ok, oroot, opage, okind, ouser, og, oi, ov, on'⟩).1.is != ((fdo P24 Gk ⟨ok, oroot, opage, okind, ouser, og, oi, ov, on'⟩).1.how == 0)) = false := fun h => by
          rw [fdo_room hIk.1.1 (by decide) ⟨ok, oroot, opage, okind, ouser, og, oi, ov, on'⟩ h (fun _ _ _ _ _ h => wk_err h), ibeq]; simp
        obtain ⟨Gn, hGn⟩ : ∃ G, (fdo P24 Gk ⟨ok, oroot, opage, okind, ouser, og, oi, ov, on'⟩).2 = G := ⟨_, rfl⟩
        obtain ⟨bi, hbi⟩ : ∃ x, (fdo P24 Gk ⟨ok, oroot, opage, okind, ouser, og, oi, ov, on'⟩).1.is = x := ⟨_, rfl⟩
        obtain ⟨hw, hhw⟩ : ∃ x, (fdo P24 Gk ⟨ok, oroot, opage, okind, ouser, og, oi, ov, on'⟩).1.how = x := ⟨_, rfl⟩
        rw [hGn] at hd hn hIn
        rw [hbi, hhw] at hd hroom
        have hinv := hIn.1.1.s
        obtain ⟨m, hml⟩ : ∃ x, (sall Gn.s.ps).length = x := ⟨_, rfl⟩
        have hps : Gn.s.ps.length = m := by rw [← hml]; unfold sall; rw [List.length_map]
        have hm8 : m ≤ 8 := by
          have h1 := hinv.fr
          have h2 := hinv.cnt
          have h3 : P24.many = 8 := rfl
          omega
        have hsl : sleft P24 Gn.s = 8 - m := by unfold sleft; rw [hps]; rfl
        have HD := Lib.hid hd
        have HN := Lib.hid hn
        have HRo := Lib.hid hroom
        have HMl := Lib.hid hml
        have HSl := Lib.hid hsl
        have c0 := (H.below.cell (p := ⟨b, _, none⟩) lb).trans HC0.out
        have c1 := (H.below.cell (p := ⟨b, _, none⟩) lb).trans HC1.out
        have c2 := (H.below.cell (p := ⟨b, _, none⟩) lb).trans HC2.out
        have c3 := (H.below.cell (p := ⟨b, _, none⟩) lb).trans HC3.out
        have c4 := (H.below.cell (p := ⟨b, _, none⟩) lb).trans HC4.out
        have c5 := (H.below.cell (p := ⟨b, _, none⟩) lb).trans HC5.out
        have c6 := (H.below.cell (p := ⟨b, _, none⟩) lb).trans HC6.out
        have c7 := (H.below.cell (p := ⟨b, _, none⟩) lb).trans HC7.out
        have c8 := (H.below.cell (p := ⟨b, _, none⟩) lb).trans HC8.out
        have HH := Lib.hid H
        clear H hd hn hIk hGk ho hroom hGn hbi hhw hinv hml hps hsl hIn
        go_wp2_with (go_at_call 16; (with_reducible refine HD.out.mono ?_); rintro e W4 ⟨u4, rfl, V4, h4⟩; have h4' : HG w W4 A P24 V4 Gn (fths F A P24 [wld wb A]) := h4.tail; have HH4 := Lib.hid h4'; clear h4 h4')
        clear c0 c1 c2 c3 c4 c5 c6 c7 c8
        have h4 := HH4.out
        have d2 := (show Blk W4 wb 42 (wldC A) from Hold.at h4 7 rfl).cell (k := 2) rfl
        have dl := (show Blk W4 wb 42 (wldC A) from Hold.at h4 7 rfl).lt
        have c0 := (h4.below.cell (p := ⟨b, _, none⟩) lb).trans HC0.out
        have lb4 := Nat.lt_of_lt_of_le lb h4.below.size
        have hal := fun W (hW : Below W4.heap.size W4 W) => sall_any (HG.sx (HH4.out.past hW))
        have hlf := fun W (hW : Below W4.heap.size W4 W) => left_any (HH4.out.past hW)
        rw [HSl.out] at hlf
        have HAl := Lib.hid hal
        have HLf := Lib.hid hlf
        clear hal hlf h4
        have fm : decide ((m : Int) > 8) = false := decide_eq_false (by omega)
        have fs : IntKind.i64.wrap (((8 - m : Nat) : Int) + (m : Int)) = 8 := by rw [IntKind.wrap_i64]; omega
        have hbz : (ok < 4 ∨ 9 < ok) → bi = (hw == 0) := fun h => by
          have h1 := HRo.out h
          cases bi <;> cases hx : (hw == 0) <;> rw [hx] at h1 <;> first | rfl | cases h1
        have HBz := Lib.hid hbz
        clear hbz HRo
        by_cases h4 : ok < 4
        · have f1 : decide (ok < 4) = true := decide_eq_true h4
          obtain ⟨z, fz⟩ : ∃ z, (hw == 0) = z := ⟨_, rfl⟩
          have hbi := HBz.out (.inl h4)
          rw [fz] at hbi
          subst hbi
          clear h4 HBz
          cases bi
          all_goals
            refine wp_region_held_drew (S := (fun w' => w'.cell? ⟨wb, 2, none⟩ = some (.pointer (some ⟨A.sp, 0, none⟩)) ∧ w'.cell? ⟨b, off + k * 9, none⟩ = some (.int .i64 ok))) (by kernel_rfl) (by (try dsimp only); go_keep) (fun hHeld => ?_)
            refine' wpAnyH_take (i := 0) (v := _) rfl (by kernel_rfl) (by kernel_rfl) (by kernel_rfl) (fun _ _ _ h => h) (Or.inl ⟨by with_unfolding_all rfl, ?_⟩) (by assumption) ?_
            rotate_left
            focus (intro w hSw; (try dsimp only at hSw); go_simp; try (with_reducible rfl))
            try simp only [List.getElem_toArray, List.getElem_cons_zero, Act.put, List.setIfInBounds_toArray, List.set_cons_zero, List.set_cons_succ, f1, fz, fm, fs]
            refine' wpAnyH_take (i := 1) (v := _) rfl (by kernel_rfl) (by kernel_rfl) (by kernel_rfl) (fun _ _ _ h => h) (Or.inl ⟨by with_unfolding_all rfl, ?_⟩) (by assumption) ?_
            rotate_left
            focus (intro w hSw; (try dsimp only at hSw); go_simp; try (with_reducible rfl))
            try simp only [List.getElem_toArray, List.getElem_cons_zero, List.getElem_cons_succ, Act.put, List.setIfInBounds_toArray, List.set_cons_zero, List.set_cons_succ, f1, fz, fm, fs]
            refine' wpAnyH_take (i := 2) (v := _) rfl (by kernel_rfl) (by kernel_rfl) (by kernel_rfl) (fun _ _ _ h => h) (Or.inl ⟨by with_unfolding_all rfl, ?_⟩) (by assumption) ?_
            rotate_left
            focus (intro w hSw; (try dsimp only at hSw); go_simp; try (with_reducible rfl))
            try simp only [List.getElem_toArray, List.getElem_cons_zero, List.getElem_cons_succ, Act.put, List.setIfInBounds_toArray, List.set_cons_zero, List.set_cons_succ, f1, fz, fm, fs]
            refine' wpAnyH_take (i := 3) (v := _) rfl (by kernel_rfl) (by kernel_rfl) (by kernel_rfl) (fun _ _ _ h => h) (Or.inl ⟨by with_unfolding_all rfl, ?_⟩) (by assumption) ?_
            rotate_left
            focus (intro w hSw; (try dsimp only at hSw); go_simp; try (with_reducible rfl))
            try simp only [List.getElem_toArray, List.getElem_cons_zero, List.getElem_cons_succ, Act.put, List.setIfInBounds_toArray, List.set_cons_zero, List.set_cons_succ, f1, fz, fm, fs]
            refine' wpAnyH_take (i := 4) (v := _) rfl (by kernel_rfl) (by kernel_rfl) (by kernel_rfl) (fun _ _ _ h => h) (Or.inl ⟨by with_unfolding_all rfl, ?_⟩) (by assumption) ?_
            rotate_left
            focus (intro w hSw; (try dsimp only at hSw); go_simp; try (with_reducible rfl))
            try simp only [List.getElem_toArray, List.getElem_cons_zero, List.getElem_cons_succ, Act.put, List.setIfInBounds_toArray, List.set_cons_zero, List.set_cons_succ, f1, fz, fm, fs]
            refine' wpAnyH_take (i := 5) (v := _) rfl (by kernel_rfl) (by kernel_rfl) (by kernel_rfl) (fun _ _ _ h => h) (Or.inl ⟨by with_unfolding_all rfl, ?_⟩) (by assumption) ?_
            rotate_left
            focus (intro w hSw; (try dsimp only at hSw); go_simp; try (with_reducible rfl))
            try simp only [List.getElem_toArray, List.getElem_cons_zero, List.getElem_cons_succ, Act.put, List.setIfInBounds_toArray, List.set_cons_zero, List.set_cons_succ, f1, fz, fm, fs]
            refine' wpAnyH_take (i := 6) (v := _) rfl (by kernel_rfl) (by kernel_rfl) (by kernel_rfl) (fun _ _ _ h => h) (Or.inl ⟨by with_unfolding_all rfl, ?_⟩) (by assumption) ?_
            rotate_left
            focus (intro w hSw; (try dsimp only at hSw); go_simp; try (with_reducible rfl))
            try simp only [List.getElem_toArray, List.getElem_cons_zero, List.getElem_cons_succ, Act.put, List.setIfInBounds_toArray, List.set_cons_zero, List.set_cons_succ, f1, fz, fm, fs]
            refine wpAnyH_take (i := 7) (v := undef) rfl (by kernel_rfl) (by kernel_rfl) (by kernel_rfl) (fun _ _ _ h => h) (Or.inr ⟨by with_unfolding_all rfl, rfl⟩) (by assumption) ?_
            try simp only [List.getElem_toArray, List.getElem_cons_zero, List.getElem_cons_succ, Act.put, List.setIfInBounds_toArray, List.set_cons_zero, List.set_cons_succ, f1, fz, fm, fs]
            refine wpAnyH_take (i := 8) (v := undef) rfl (by kernel_rfl) (by kernel_rfl) (by kernel_rfl) (fun _ _ _ h => h) (Or.inr ⟨by with_unfolding_all rfl, rfl⟩) (by assumption) ?_
            try simp only [List.getElem_toArray, List.getElem_cons_zero, List.getElem_cons_succ, Act.put, List.setIfInBounds_toArray, List.set_cons_zero, List.set_cons_succ, f1, fz, fm, fs]
            refine wpAnyH_take (i := 9) (v := undef) rfl (by kernel_rfl) (by kernel_rfl) (by kernel_rfl) (fun _ _ _ h => h) (Or.inr ⟨by with_unfolding_all rfl, rfl⟩) (by assumption) ?_
            try simp only [List.getElem_toArray, List.getElem_cons_zero, List.getElem_cons_succ, Act.put, List.setIfInBounds_toArray, List.set_cons_zero, List.set_cons_succ, f1, fz, fm, fs]
            refine wpAnyH_take (i := 10) (v := undef) rfl (by kernel_rfl) (by kernel_rfl) (by kernel_rfl) (fun _ _ _ h => h) (Or.inr ⟨by with_unfolding_all rfl, rfl⟩) (by assumption) ?_
            try simp only [List.getElem_toArray, List.getElem_cons_zero, List.getElem_cons_succ, Act.put, List.setIfInBounds_toArray, List.set_cons_zero, List.set_cons_succ, f1, fz, fm, fs]
            refine wpAnyH_take (i := 11) (v := undef) rfl (by kernel_rfl) (by kernel_rfl) (by kernel_rfl) (fun _ _ _ h => h) (Or.inr ⟨by with_unfolding_all rfl, rfl⟩) (by assumption) ?_
            try simp only [List.getElem_toArray, List.getElem_cons_zero, List.getElem_cons_succ, Act.put, List.setIfInBounds_toArray, List.set_cons_zero, List.set_cons_succ, f1, fz, fm, fs]
            refine wpAnyH_take (i := 12) (v := undef) rfl (by kernel_rfl) (by kernel_rfl) (by kernel_rfl) (fun _ _ _ h => h) (Or.inr ⟨by with_unfolding_all rfl, rfl⟩) (by assumption) ?_
            try simp only [List.getElem_toArray, List.getElem_cons_zero, List.getElem_cons_succ, Act.put, List.setIfInBounds_toArray, List.set_cons_zero, List.set_cons_succ, f1, fz, fm, fs]
            refine' wpAnyH_take (i := 13) (v := _) rfl (by kernel_rfl) (by kernel_rfl) (by kernel_rfl) (fun _ _ _ h => h) (Or.inl ⟨by with_unfolding_all rfl, ?_⟩) (by assumption) ?_
            rotate_left
            focus (intro w hSw; (try dsimp only at hSw); go_simp; try (with_reducible rfl))
            try simp only [List.getElem_toArray, List.getElem_cons_zero, List.getElem_cons_succ, Act.put, List.setIfInBounds_toArray, List.set_cons_zero, List.set_cons_succ, f1, fz, fm, fs]
            refine' wpAnyH_take (i := 14) (v := _) rfl (by kernel_rfl) (by kernel_rfl) (by kernel_rfl) (fun _ _ _ h => h) (Or.inl ⟨by with_unfolding_all rfl, ?_⟩) (by assumption) ?_
            rotate_left
            focus (intro w hSw; (try dsimp only at hSw); go_simp; try (with_reducible rfl))
            try simp only [List.getElem_toArray, List.getElem_cons_zero, List.getElem_cons_succ, Act.put, List.setIfInBounds_toArray, List.set_cons_zero, List.set_cons_succ, f1, fz, fm, fs]
            refine' wpAnyH_take (i := 15) (v := _) rfl (by kernel_rfl) (by kernel_rfl) (by kernel_rfl) (fun _ _ _ h => h) (Or.inl ⟨by with_unfolding_all rfl, ?_⟩) (by assumption) ?_
            rotate_left
            focus (intro w hSw; (try dsimp only at hSw); go_simp; try (with_reducible rfl))
            try simp only [List.getElem_toArray, List.getElem_cons_zero, List.getElem_cons_succ, Act.put, List.setIfInBounds_toArray, List.set_cons_zero, List.set_cons_succ, f1, fz, fm, fs]
            refine' wpAnyH_take (i := 16) (v := _) rfl (by kernel_rfl) (by kernel_rfl) (by kernel_rfl) (fun _ _ _ h => h) (Or.inl ⟨by with_unfolding_all rfl, ?_⟩) (by assumption) ?_
            rotate_left
            focus (intro w hSw; (try dsimp only at hSw); go_simp; try (with_reducible rfl))
            try simp only [List.getElem_toArray, List.getElem_cons_zero, List.getElem_cons_succ, Act.put, List.setIfInBounds_toArray, List.set_cons_zero, List.set_cons_succ, f1, fz, fm, fs]
            refine' wpAnyH_take (i := 17) (v := _) rfl (by kernel_rfl) (by kernel_rfl) (by kernel_rfl) (fun _ _ _ h => h) (Or.inl ⟨by with_unfolding_all rfl, ?_⟩) (by assumption) ?_
            rotate_left
            focus (intro w hSw; (try dsimp only at hSw); go_simp; try (with_reducible rfl))
            try simp only [List.getElem_toArray, List.getElem_cons_zero, List.getElem_cons_succ, Act.put, List.setIfInBounds_toArray, List.set_cons_zero, List.set_cons_succ, f1, fz, fm, fs]
            refine' wpAnyH_take (i := 18) (v := _) rfl (by kernel_rfl) (by kernel_rfl) (by kernel_rfl) (fun _ _ _ h => h) (Or.inl ⟨by with_unfolding_all rfl, ?_⟩) (by assumption) ?_
            rotate_left
            focus (intro w hSw; (try dsimp only at hSw); go_simp; try (with_reducible rfl))
            try simp only [List.getElem_toArray, List.getElem_cons_zero, List.getElem_cons_succ, Act.put, List.setIfInBounds_toArray, List.set_cons_zero, List.set_cons_succ, f1, fz, fm, fs]
            refine' wpAnyH_take (i := 19) (v := _) rfl (by kernel_rfl) (by kernel_rfl) (by kernel_rfl) (fun _ _ _ h => h) (Or.inl ⟨by with_unfolding_all rfl, ?_⟩) (by assumption) ?_
            rotate_left
            focus (intro w hSw; (try dsimp only at hSw); go_simp; try (with_reducible rfl))
            try simp only [List.getElem_toArray, List.getElem_cons_zero, List.getElem_cons_succ, Act.put, List.setIfInBounds_toArray, List.set_cons_zero, List.set_cons_succ, f1, fz, fm, fs]
            refine' wpAnyH_take (i := 20) (v := _) rfl (by kernel_rfl) (by kernel_rfl) (by kernel_rfl) (fun _ _ _ h => h) (Or.inl ⟨by with_unfolding_all rfl, ?_⟩) (by assumption) ?_
            rotate_left
            focus (intro w hSw; (try dsimp only at hSw); go_simp; try (with_reducible rfl))
            try simp only [List.getElem_toArray, List.getElem_cons_zero, List.getElem_cons_succ, Act.put, List.setIfInBounds_toArray, List.set_cons_zero, List.set_cons_succ, f1, fz, fm, fs]
            refine' wpAnyH_take (i := 21) (v := _) rfl (by kernel_rfl) (by kernel_rfl) (by kernel_rfl) (fun _ _ _ h => h) (Or.inl ⟨by with_unfolding_all rfl, ?_⟩) (by assumption) ?_
            rotate_left
            focus (intro w hSw; (try dsimp only at hSw); go_simp; try (with_reducible rfl))
            try simp only [List.getElem_toArray, List.getElem_cons_zero, List.getElem_cons_succ, Act.put, List.setIfInBounds_toArray, List.set_cons_zero, List.set_cons_succ, f1, fz, fm, fs]
            refine' wpAnyH_take (i := 22) (v := _) rfl (by kernel_rfl) (by kernel_rfl) (by kernel_rfl) (fun _ _ _ h => h) (Or.inl ⟨by with_unfolding_all rfl, ?_⟩) (by assumption) ?_
            rotate_left
            focus (intro w hSw; (try dsimp only at hSw); go_simp; try (with_reducible rfl))
            try simp only [List.getElem_toArray, List.getElem_cons_zero, List.getElem_cons_succ, Act.put, List.setIfInBounds_toArray, List.set_cons_zero, List.set_cons_succ, f1, fz, fm, fs]
            refine' wpAnyH_take (i := 23) (v := _) rfl (by kernel_rfl) (by kernel_rfl) (by kernel_rfl) (fun _ _ _ h => h) (Or.inl ⟨by with_unfolding_all rfl, ?_⟩) (by assumption) ?_
            rotate_left
            focus (intro w hSw; (try dsimp only at hSw); go_simp; try (with_reducible rfl))
            try simp only [List.getElem_toArray, List.getElem_cons_zero, List.getElem_cons_succ, Act.put, List.setIfInBounds_toArray, List.set_cons_zero, List.set_cons_succ, f1, fz, fm, fs]
            refine' wpAnyH_take (i := 24) (v := _) rfl (by kernel_rfl) (by kernel_rfl) (by kernel_rfl) (fun _ _ _ h => h) (Or.inl ⟨by with_unfolding_all rfl, ?_⟩) (by assumption) ?_
            rotate_left
            focus (intro w hSw; (try dsimp only at hSw); go_simp; try (with_reducible rfl))
            try simp only [List.getElem_toArray, List.getElem_cons_zero, List.getElem_cons_succ, Act.put, List.setIfInBounds_toArray, List.set_cons_zero, List.set_cons_succ, f1, fz, fm, fs]
            refine wpAnyH_ready (rs := [25]) (by kernel_rfl) (by simp) ?_
            refine AllReadyH.cons rfl (fun K hK => ?_) AllReadyH.nil
            rw [if_pos (by with_unfolding_all rfl)]
            go_simp
            (go_at_call 20; (with_reducible refine (HAl.out _ (Below.refl W4.heap.size W4).drew).mono ?_); rintro e W5 ⟨⟨v5, rfl, hv5⟩, b5⟩; obtain ⟨a5, c5, rfl⟩ := hv5.form; rw [HMl.out]; have q5 := (Below.refl W4.heap.size W4).drew.trans b5; have pw2 := (show Blk W5 wb 42 (wldC A) from Hold.at (HH4.out.past q5) 7 rfl).cell (k := 2) rfl; have pwl := (show Blk W5 wb 42 (wldC A) from Hold.at (HH4.out.past q5) 7 rfl).lt; have pc0 := ((HH4.out.past q5).below.cell (p := ⟨b, _, none⟩) lb).trans HC0.out; clear hv5 b5)
            refine hK.out _ _ (by (try dsimp only); go_keep) (fun hHeld => ?_)
            clear hK K
            try simp only [List.getElem_toArray, List.getElem_cons_zero, List.getElem_cons_succ, Act.put, List.setIfInBounds_toArray, List.set_cons_zero, List.set_cons_succ]
            refine' wpAnyH_take (i := 26) (v := _) rfl (by kernel_rfl) (by kernel_rfl) (by kernel_rfl) (fun _ _ _ h => h) (Or.inl ⟨by with_unfolding_all rfl, ?_⟩) (by assumption) ?_
            rotate_left
            focus (intro w hSw; (try dsimp only at hSw); go_simp; try (with_reducible rfl))
            try simp only [List.getElem_toArray, List.getElem_cons_zero, List.getElem_cons_succ, Act.put, List.setIfInBounds_toArray, List.set_cons_zero, List.set_cons_succ, f1, fz, fm, fs]
            refine' wpAnyH_take (i := 27) (v := _) rfl (by kernel_rfl) (by kernel_rfl) (by kernel_rfl) (fun _ _ _ h => h) (Or.inl ⟨by with_unfolding_all rfl, ?_⟩) (by assumption) ?_
            rotate_left
            focus (intro w hSw; (try dsimp only at hSw); go_simp; try (with_reducible rfl))
            try simp only [List.getElem_toArray, List.getElem_cons_zero, List.getElem_cons_succ, Act.put, List.setIfInBounds_toArray, List.set_cons_zero, List.set_cons_succ, f1, fz, fm, fs]
            refine' wpAnyH_take (i := 28) (v := _) rfl (by kernel_rfl) (by kernel_rfl) (by kernel_rfl) (fun _ _ _ h => h) (Or.inl ⟨by with_unfolding_all rfl, ?_⟩) (by assumption) ?_
            rotate_left
            focus (intro w hSw; (try dsimp only at hSw); go_simp; try (with_reducible rfl))
            try simp only [List.getElem_toArray, List.getElem_cons_zero, List.getElem_cons_succ, Act.put, List.setIfInBounds_toArray, List.set_cons_zero, List.set_cons_succ, f1, fz, fm, fs]
            refine' wpAnyH_take (i := 29) (v := _) rfl (by kernel_rfl) (by kernel_rfl) (by kernel_rfl) (fun _ _ _ h => h) (Or.inl ⟨by with_unfolding_all rfl, ?_⟩) (by assumption) ?_
            rotate_left
            focus (intro w hSw; (try dsimp only at hSw); go_simp; try (with_reducible rfl))
            try simp only [List.getElem_toArray, List.getElem_cons_zero, List.getElem_cons_succ, Act.put, List.setIfInBounds_toArray, List.set_cons_zero, List.set_cons_succ, f1, fz, fm, fs]
            refine' wpAnyH_take (i := 30) (v := _) rfl (by kernel_rfl) (by kernel_rfl) (by kernel_rfl) (fun _ _ _ h => h) (Or.inl ⟨by with_unfolding_all rfl, ?_⟩) (by assumption) ?_
            rotate_left
            focus (intro w hSw; (try dsimp only at hSw); go_simp; try (with_reducible rfl))
            try simp only [List.getElem_toArray, List.getElem_cons_zero, List.getElem_cons_succ, Act.put, List.setIfInBounds_toArray, List.set_cons_zero, List.set_cons_succ, f1, fz, fm, fs]
            refine' wpAnyH_take (i := 31) (v := _) rfl (by kernel_rfl) (by kernel_rfl) (by kernel_rfl) (fun _ _ _ h => h) (Or.inl ⟨by with_unfolding_all rfl, ?_⟩) (by assumption) ?_
            rotate_left
            focus (intro w hSw; (try dsimp only at hSw); go_simp; try (with_reducible rfl))
            try simp only [List.getElem_toArray, List.getElem_cons_zero, List.getElem_cons_succ, Act.put, List.setIfInBounds_toArray, List.set_cons_zero, List.set_cons_succ, f1, fz, fm, fs]
            refine' wpAnyH_take (i := 32) (v := _) rfl (by kernel_rfl) (by kernel_rfl) (by kernel_rfl) (fun _ _ _ h => h) (Or.inl ⟨by with_unfolding_all rfl, ?_⟩) (by assumption) ?_
            rotate_left
            focus (intro w hSw; (try dsimp only at hSw); go_simp; try (with_reducible rfl))
            try simp only [List.getElem_toArray, List.getElem_cons_zero, List.getElem_cons_succ, Act.put, List.setIfInBounds_toArray, List.set_cons_zero, List.set_cons_succ, f1, fz, fm, fs]
            refine' wpAnyH_take (i := 33) (v := _) rfl (by kernel_rfl) (by kernel_rfl) (by kernel_rfl) (fun _ _ _ h => h) (Or.inl ⟨by with_unfolding_all rfl, ?_⟩) (by assumption) ?_
            rotate_left
            focus (intro w hSw; (try dsimp only at hSw); go_simp; try (with_reducible rfl))
            try simp only [List.getElem_toArray, List.getElem_cons_zero, List.getElem_cons_succ, Act.put, List.setIfInBounds_toArray, List.set_cons_zero, List.set_cons_succ, f1, fz, fm, fs]
            refine' wpAnyH_take (i := 35) (v := _) rfl (by kernel_rfl) (by kernel_rfl) (by kernel_rfl) (fun _ _ _ h => h) (Or.inl ⟨by with_unfolding_all rfl, ?_⟩) (by assumption) ?_
            rotate_left
            focus (intro w hSw; (try dsimp only at hSw); go_simp; try (with_reducible rfl))
            try simp only [List.getElem_toArray, List.getElem_cons_zero, List.getElem_cons_succ, Act.put, List.setIfInBounds_toArray, List.set_cons_zero, List.set_cons_succ, f1, fz, fm, fs]
            refine' wpAnyH_take (i := 36) (v := _) rfl (by kernel_rfl) (by kernel_rfl) (by kernel_rfl) (fun _ _ _ h => h) (Or.inl ⟨by with_unfolding_all rfl, ?_⟩) (by assumption) ?_
            rotate_left
            focus (intro w hSw; (try dsimp only at hSw); go_simp; try (with_reducible rfl))
            try simp only [List.getElem_toArray, List.getElem_cons_zero, List.getElem_cons_succ, Act.put, List.setIfInBounds_toArray, List.set_cons_zero, List.set_cons_succ, f1, fz, fm, fs]
            refine' wpAnyH_take (i := 37) (v := _) rfl (by kernel_rfl) (by kernel_rfl) (by kernel_rfl) (fun _ _ _ h => h) (Or.inl ⟨by with_unfolding_all rfl, ?_⟩) (by assumption) ?_
            rotate_left
            focus (intro w hSw; (try dsimp only at hSw); go_simp; try (with_reducible rfl))
            try simp only [List.getElem_toArray, List.getElem_cons_zero, List.getElem_cons_succ, Act.put, List.setIfInBounds_toArray, List.set_cons_zero, List.set_cons_succ, f1, fz, fm, fs]
            refine' wpAnyH_take (i := 38) (v := _) rfl (by kernel_rfl) (by kernel_rfl) (by kernel_rfl) (fun _ _ _ h => h) (Or.inl ⟨by with_unfolding_all rfl, ?_⟩) (by assumption) ?_
            rotate_left
            focus (intro w hSw; (try dsimp only at hSw); go_simp; try (with_reducible rfl))
            try simp only [List.getElem_toArray, List.getElem_cons_zero, List.getElem_cons_succ, Act.put, List.setIfInBounds_toArray, List.set_cons_zero, List.set_cons_succ, f1, fz, fm, fs]
            refine wpAnyH_ready (rs := [34]) (by kernel_rfl) (by simp) ?_
            refine AllReadyH.cons rfl (fun K hK => ?_) AllReadyH.nil
            rw [if_pos (by with_unfolding_all rfl)]
            go_simp
            (go_at_call 21; (with_reducible refine (HLf.out _ q5).mono ?_); rintro e W6 ⟨rfl, b6⟩; have q6 := q5.trans (b6.mono q5.size); have qw2 := (show Blk W6 wb 42 (wldC A) from Hold.at (HH4.out.past q6) 7 rfl).cell (k := 2) rfl; have qwl := (show Blk W6 wb 42 (wldC A) from Hold.at (HH4.out.past q6) 7 rfl).lt; have qc0 := ((HH4.out.past q6).below.cell (p := ⟨b, _, none⟩) lb).trans HC0.out; clear b6)
            refine hK.out _ _ (by (try dsimp only); go_keep) (fun hHeld => ?_)
            clear hK K
            try simp only [List.getElem_toArray, List.getElem_cons_zero, List.getElem_cons_succ, Act.put, List.setIfInBounds_toArray, List.set_cons_zero, List.set_cons_succ]
            refine wpAnyH_ready (rs := [39]) (by kernel_rfl) (by simp) ?_
            refine AllReadyH.cons rfl (fun K hK => ?_) AllReadyH.nil
            rw [if_pos (by with_unfolding_all rfl)]
            go_simp
            (go_at_call 20; (with_reducible refine (HAl.out _ q6).mono ?_); rintro e W7 ⟨⟨v5, rfl, hv5⟩, b5⟩; obtain ⟨a5, c5, rfl⟩ := hv5.form; rw [HMl.out]; have q7 := q6.trans (b5.mono q6.size); have rw2 := (show Blk W7 wb 42 (wldC A) from Hold.at (HH4.out.past q7) 7 rfl).cell (k := 2) rfl; have rwl := (show Blk W7 wb 42 (wldC A) from Hold.at (HH4.out.past q7) 7 rfl).lt; have rc0 := ((HH4.out.past q7).below.cell (p := ⟨b, _, none⟩) lb).trans HC0.out; clear hv5 b5)
            refine hK.out _ _ (by (try dsimp only); go_keep) (fun hHeld => ?_)
            clear hK K
            try simp only [List.getElem_toArray, List.getElem_cons_zero, List.getElem_cons_succ, Act.put, List.setIfInBounds_toArray, List.set_cons_zero, List.set_cons_succ]
            refine' wpAnyH_take (i := 40) (v := _) rfl (by kernel_rfl) (by kernel_rfl) (by kernel_rfl) (fun _ _ _ h => h) (Or.inl ⟨by with_unfolding_all rfl, ?_⟩) (by assumption) ?_
            rotate_left
            focus (intro w hSw; (try dsimp only at hSw); go_simp; try (with_reducible rfl))
            try simp only [List.getElem_toArray, List.getElem_cons_zero, List.getElem_cons_succ, Act.put, List.setIfInBounds_toArray, List.set_cons_zero, List.set_cons_succ, f1, fz, fm, fs]
            refine' wpAnyH_take (i := 41) (v := _) rfl (by kernel_rfl) (by kernel_rfl) (by kernel_rfl) (fun _ _ _ h => h) (Or.inl ⟨by with_unfolding_all rfl, ?_⟩) (by assumption) ?_
            rotate_left
            focus (intro w hSw; (try dsimp only at hSw); go_simp; try (with_reducible rfl))
            try simp only [List.getElem_toArray, List.getElem_cons_zero, List.getElem_cons_succ, Act.put, List.setIfInBounds_toArray, List.set_cons_zero, List.set_cons_succ, f1, fz, fm, fs]
            refine' wpAnyH_take (i := 42) (v := _) rfl (by kernel_rfl) (by kernel_rfl) (by kernel_rfl) (fun _ _ _ h => h) (Or.inl ⟨by with_unfolding_all rfl, ?_⟩) (by assumption) ?_
            rotate_left
            focus (intro w hSw; (try dsimp only at hSw); go_simp; try (with_reducible rfl))
            try simp only [List.getElem_toArray, List.getElem_cons_zero, List.getElem_cons_succ, Act.put, List.setIfInBounds_toArray, List.set_cons_zero, List.set_cons_succ, f1, fz, fm, fs]
            refine' wpAnyH_take (i := 43) (v := _) rfl (by kernel_rfl) (by kernel_rfl) (by kernel_rfl) (fun _ _ _ h => h) (Or.inl ⟨by with_unfolding_all rfl, ?_⟩) (by assumption) ?_
            rotate_left
            focus (intro w hSw; (try dsimp only at hSw); go_simp; try (with_reducible rfl))
            try simp only [List.getElem_toArray, List.getElem_cons_zero, List.getElem_cons_succ, Act.put, List.setIfInBounds_toArray, List.set_cons_zero, List.set_cons_succ, f1, fz, fm, fs]
            refine wpAnyH_done (by kernel_rfl) ?_ _
            all_goals
              go_wp2_with fail
              go_roundw
              case rel => exact ⟨k + 1, by omega, by simp, V4, by rw [HN.out]; exact HH4.out.past q7⟩
              case measure => simp [intOf]; omega
        · have f1 : decide (ok < 4) = false := decide_eq_false h4
          by_cases h9 : 9 < ok
          · have f2 : decide (ok > 9) = true := decide_eq_true h9
            obtain ⟨z, fz⟩ : ∃ z, (hw == 0) = z := ⟨_, rfl⟩
            have hbi := HBz.out (.inr h9)
            rw [fz] at hbi
            subst hbi
            clear h4 h9 HBz
            cases bi
            all_goals
              refine wp_region_held_drew (S := (fun w' => w'.cell? ⟨wb, 2, none⟩ = some (.pointer (some ⟨A.sp, 0, none⟩)) ∧ w'.cell? ⟨b, off + k * 9, none⟩ = some (.int .i64 ok))) (by kernel_rfl) (by (try dsimp only); go_keep) (fun hHeld => ?_)
              refine' wpAnyH_take (i := 0) (v := _) rfl (by kernel_rfl) (by kernel_rfl) (by kernel_rfl) (fun _ _ _ h => h) (Or.inl ⟨by with_unfolding_all rfl, ?_⟩) (by assumption) ?_
              rotate_left
              focus (intro w hSw; (try dsimp only at hSw); go_simp; try (with_reducible rfl))
              try simp only [List.getElem_toArray, List.getElem_cons_zero, Act.put, List.setIfInBounds_toArray, List.set_cons_zero, List.set_cons_succ, f1, f2, fz, fm, fs]
              refine' wpAnyH_take (i := 1) (v := _) rfl (by kernel_rfl) (by kernel_rfl) (by kernel_rfl) (fun _ _ _ h => h) (Or.inl ⟨by with_unfolding_all rfl, ?_⟩) (by assumption) ?_
              rotate_left
              focus (intro w hSw; (try dsimp only at hSw); go_simp; try (with_reducible rfl))
              try simp only [List.getElem_toArray, List.getElem_cons_zero, List.getElem_cons_succ, Act.put, List.setIfInBounds_toArray, List.set_cons_zero, List.set_cons_succ, f1, f2, fz, fm, fs]
              refine' wpAnyH_take (i := 2) (v := _) rfl (by kernel_rfl) (by kernel_rfl) (by kernel_rfl) (fun _ _ _ h => h) (Or.inl ⟨by with_unfolding_all rfl, ?_⟩) (by assumption) ?_
              rotate_left
              focus (intro w hSw; (try dsimp only at hSw); go_simp; try (with_reducible rfl))
              try simp only [List.getElem_toArray, List.getElem_cons_zero, List.getElem_cons_succ, Act.put, List.setIfInBounds_toArray, List.set_cons_zero, List.set_cons_succ, f1, f2, fz, fm, fs]
              refine' wpAnyH_take (i := 3) (v := _) rfl (by kernel_rfl) (by kernel_rfl) (by kernel_rfl) (fun _ _ _ h => h) (Or.inl ⟨by with_unfolding_all rfl, ?_⟩) (by assumption) ?_
              rotate_left
              focus (intro w hSw; (try dsimp only at hSw); go_simp; try (with_reducible rfl))
              try simp only [List.getElem_toArray, List.getElem_cons_zero, List.getElem_cons_succ, Act.put, List.setIfInBounds_toArray, List.set_cons_zero, List.set_cons_succ, f1, f2, fz, fm, fs]
              refine' wpAnyH_take (i := 4) (v := _) rfl (by kernel_rfl) (by kernel_rfl) (by kernel_rfl) (fun _ _ _ h => h) (Or.inl ⟨by with_unfolding_all rfl, ?_⟩) (by assumption) ?_
              rotate_left
              focus (intro w hSw; (try dsimp only at hSw); go_simp; try (with_reducible rfl))
              try simp only [List.getElem_toArray, List.getElem_cons_zero, List.getElem_cons_succ, Act.put, List.setIfInBounds_toArray, List.set_cons_zero, List.set_cons_succ, f1, f2, fz, fm, fs]
              refine' wpAnyH_take (i := 5) (v := _) rfl (by kernel_rfl) (by kernel_rfl) (by kernel_rfl) (fun _ _ _ h => h) (Or.inl ⟨by with_unfolding_all rfl, ?_⟩) (by assumption) ?_
              rotate_left
              focus (intro w hSw; (try dsimp only at hSw); go_simp; try (with_reducible rfl))
              try simp only [List.getElem_toArray, List.getElem_cons_zero, List.getElem_cons_succ, Act.put, List.setIfInBounds_toArray, List.set_cons_zero, List.set_cons_succ, f1, f2, fz, fm, fs]
              refine' wpAnyH_take (i := 6) (v := _) rfl (by kernel_rfl) (by kernel_rfl) (by kernel_rfl) (fun _ _ _ h => h) (Or.inl ⟨by with_unfolding_all rfl, ?_⟩) (by assumption) ?_
              rotate_left
              focus (intro w hSw; (try dsimp only at hSw); go_simp; try (with_reducible rfl))
              try simp only [List.getElem_toArray, List.getElem_cons_zero, List.getElem_cons_succ, Act.put, List.setIfInBounds_toArray, List.set_cons_zero, List.set_cons_succ, f1, f2, fz, fm, fs]
              refine' wpAnyH_take (i := 7) (v := _) rfl (by kernel_rfl) (by kernel_rfl) (by kernel_rfl) (fun _ _ _ h => h) (Or.inl ⟨by with_unfolding_all rfl, ?_⟩) (by assumption) ?_
              rotate_left
              focus (intro w hSw; (try dsimp only at hSw); go_simp; try (with_reducible rfl))
              try simp only [List.getElem_toArray, List.getElem_cons_zero, List.getElem_cons_succ, Act.put, List.setIfInBounds_toArray, List.set_cons_zero, List.set_cons_succ, f1, f2, fz, fm, fs]
              refine' wpAnyH_take (i := 8) (v := _) rfl (by kernel_rfl) (by kernel_rfl) (by kernel_rfl) (fun _ _ _ h => h) (Or.inl ⟨by with_unfolding_all rfl, ?_⟩) (by assumption) ?_
              rotate_left
              focus (intro w hSw; (try dsimp only at hSw); go_simp; try (with_reducible rfl))
              try simp only [List.getElem_toArray, List.getElem_cons_zero, List.getElem_cons_succ, Act.put, List.setIfInBounds_toArray, List.set_cons_zero, List.set_cons_succ, f1, f2, fz, fm, fs]
              refine' wpAnyH_take (i := 9) (v := _) rfl (by kernel_rfl) (by kernel_rfl) (by kernel_rfl) (fun _ _ _ h => h) (Or.inl ⟨by with_unfolding_all rfl, ?_⟩) (by assumption) ?_
              rotate_left
              focus (intro w hSw; (try dsimp only at hSw); go_simp; try (with_reducible rfl))
              try simp only [List.getElem_toArray, List.getElem_cons_zero, List.getElem_cons_succ, Act.put, List.setIfInBounds_toArray, List.set_cons_zero, List.set_cons_succ, f1, f2, fz, fm, fs]
              refine' wpAnyH_take (i := 10) (v := _) rfl (by kernel_rfl) (by kernel_rfl) (by kernel_rfl) (fun _ _ _ h => h) (Or.inl ⟨by with_unfolding_all rfl, ?_⟩) (by assumption) ?_
              rotate_left
              focus (intro w hSw; (try dsimp only at hSw); go_simp; try (with_reducible rfl))
              try simp only [List.getElem_toArray, List.getElem_cons_zero, List.getElem_cons_succ, Act.put, List.setIfInBounds_toArray, List.set_cons_zero, List.set_cons_succ, f1, f2, fz, fm, fs]
              refine' wpAnyH_take (i := 11) (v := _) rfl (by kernel_rfl) (by kernel_rfl) (by kernel_rfl) (fun _ _ _ h => h) (Or.inl ⟨by with_unfolding_all rfl, ?_⟩) (by assumption) ?_
              rotate_left
              focus (intro w hSw; (try dsimp only at hSw); go_simp; try (with_reducible rfl))
              try simp only [List.getElem_toArray, List.getElem_cons_zero, List.getElem_cons_succ, Act.put, List.setIfInBounds_toArray, List.set_cons_zero, List.set_cons_succ, f1, f2, fz, fm, fs]
              refine' wpAnyH_take (i := 12) (v := _) rfl (by kernel_rfl) (by kernel_rfl) (by kernel_rfl) (fun _ _ _ h => h) (Or.inl ⟨by with_unfolding_all rfl, ?_⟩) (by assumption) ?_
              rotate_left
              focus (intro w hSw; (try dsimp only at hSw); go_simp; try (with_reducible rfl))
              try simp only [List.getElem_toArray, List.getElem_cons_zero, List.getElem_cons_succ, Act.put, List.setIfInBounds_toArray, List.set_cons_zero, List.set_cons_succ, f1, f2, fz, fm, fs]
              refine' wpAnyH_take (i := 13) (v := _) rfl (by kernel_rfl) (by kernel_rfl) (by kernel_rfl) (fun _ _ _ h => h) (Or.inl ⟨by with_unfolding_all rfl, ?_⟩) (by assumption) ?_
              rotate_left
              focus (intro w hSw; (try dsimp only at hSw); go_simp; try (with_reducible rfl))
              try simp only [List.getElem_toArray, List.getElem_cons_zero, List.getElem_cons_succ, Act.put, List.setIfInBounds_toArray, List.set_cons_zero, List.set_cons_succ, f1, f2, fz, fm, fs]
              refine' wpAnyH_take (i := 14) (v := _) rfl (by kernel_rfl) (by kernel_rfl) (by kernel_rfl) (fun _ _ _ h => h) (Or.inl ⟨by with_unfolding_all rfl, ?_⟩) (by assumption) ?_
              rotate_left
              focus (intro w hSw; (try dsimp only at hSw); go_simp; try (with_reducible rfl))
              try simp only [List.getElem_toArray, List.getElem_cons_zero, List.getElem_cons_succ, Act.put, List.setIfInBounds_toArray, List.set_cons_zero, List.set_cons_succ, f1, f2, fz, fm, fs]
              refine' wpAnyH_take (i := 15) (v := _) rfl (by kernel_rfl) (by kernel_rfl) (by kernel_rfl) (fun _ _ _ h => h) (Or.inl ⟨by with_unfolding_all rfl, ?_⟩) (by assumption) ?_
              rotate_left
              focus (intro w hSw; (try dsimp only at hSw); go_simp; try (with_reducible rfl))
              try simp only [List.getElem_toArray, List.getElem_cons_zero, List.getElem_cons_succ, Act.put, List.setIfInBounds_toArray, List.set_cons_zero, List.set_cons_succ, f1, f2, fz, fm, fs]
              refine' wpAnyH_take (i := 16) (v := _) rfl (by kernel_rfl) (by kernel_rfl) (by kernel_rfl) (fun _ _ _ h => h) (Or.inl ⟨by with_unfolding_all rfl, ?_⟩) (by assumption) ?_
              rotate_left
              focus (intro w hSw; (try dsimp only at hSw); go_simp; try (with_reducible rfl))
              try simp only [List.getElem_toArray, List.getElem_cons_zero, List.getElem_cons_succ, Act.put, List.setIfInBounds_toArray, List.set_cons_zero, List.set_cons_succ, f1, f2, fz, fm, fs]
              refine' wpAnyH_take (i := 17) (v := _) rfl (by kernel_rfl) (by kernel_rfl) (by kernel_rfl) (fun _ _ _ h => h) (Or.inl ⟨by with_unfolding_all rfl, ?_⟩) (by assumption) ?_
              rotate_left
              focus (intro w hSw; (try dsimp only at hSw); go_simp; try (with_reducible rfl))
              try simp only [List.getElem_toArray, List.getElem_cons_zero, List.getElem_cons_succ, Act.put, List.setIfInBounds_toArray, List.set_cons_zero, List.set_cons_succ, f1, f2, fz, fm, fs]
              refine' wpAnyH_take (i := 18) (v := _) rfl (by kernel_rfl) (by kernel_rfl) (by kernel_rfl) (fun _ _ _ h => h) (Or.inl ⟨by with_unfolding_all rfl, ?_⟩) (by assumption) ?_
              rotate_left
              focus (intro w hSw; (try dsimp only at hSw); go_simp; try (with_reducible rfl))
              try simp only [List.getElem_toArray, List.getElem_cons_zero, List.getElem_cons_succ, Act.put, List.setIfInBounds_toArray, List.set_cons_zero, List.set_cons_succ, f1, f2, fz, fm, fs]
              refine' wpAnyH_take (i := 19) (v := _) rfl (by kernel_rfl) (by kernel_rfl) (by kernel_rfl) (fun _ _ _ h => h) (Or.inl ⟨by with_unfolding_all rfl, ?_⟩) (by assumption) ?_
              rotate_left
              focus (intro w hSw; (try dsimp only at hSw); go_simp; try (with_reducible rfl))
              try simp only [List.getElem_toArray, List.getElem_cons_zero, List.getElem_cons_succ, Act.put, List.setIfInBounds_toArray, List.set_cons_zero, List.set_cons_succ, f1, f2, fz, fm, fs]
              refine' wpAnyH_take (i := 20) (v := _) rfl (by kernel_rfl) (by kernel_rfl) (by kernel_rfl) (fun _ _ _ h => h) (Or.inl ⟨by with_unfolding_all rfl, ?_⟩) (by assumption) ?_
              rotate_left
              focus (intro w hSw; (try dsimp only at hSw); go_simp; try (with_reducible rfl))
              try simp only [List.getElem_toArray, List.getElem_cons_zero, List.getElem_cons_succ, Act.put, List.setIfInBounds_toArray, List.set_cons_zero, List.set_cons_succ, f1, f2, fz, fm, fs]
              refine' wpAnyH_take (i := 21) (v := _) rfl (by kernel_rfl) (by kernel_rfl) (by kernel_rfl) (fun _ _ _ h => h) (Or.inl ⟨by with_unfolding_all rfl, ?_⟩) (by assumption) ?_
              rotate_left
              focus (intro w hSw; (try dsimp only at hSw); go_simp; try (with_reducible rfl))
              try simp only [List.getElem_toArray, List.getElem_cons_zero, List.getElem_cons_succ, Act.put, List.setIfInBounds_toArray, List.set_cons_zero, List.set_cons_succ, f1, f2, fz, fm, fs]
              refine' wpAnyH_take (i := 22) (v := _) rfl (by kernel_rfl) (by kernel_rfl) (by kernel_rfl) (fun _ _ _ h => h) (Or.inl ⟨by with_unfolding_all rfl, ?_⟩) (by assumption) ?_
              rotate_left
              focus (intro w hSw; (try dsimp only at hSw); go_simp; try (with_reducible rfl))
              try simp only [List.getElem_toArray, List.getElem_cons_zero, List.getElem_cons_succ, Act.put, List.setIfInBounds_toArray, List.set_cons_zero, List.set_cons_succ, f1, f2, fz, fm, fs]
              refine' wpAnyH_take (i := 23) (v := _) rfl (by kernel_rfl) (by kernel_rfl) (by kernel_rfl) (fun _ _ _ h => h) (Or.inl ⟨by with_unfolding_all rfl, ?_⟩) (by assumption) ?_
              rotate_left
              focus (intro w hSw; (try dsimp only at hSw); go_simp; try (with_reducible rfl))
              try simp only [List.getElem_toArray, List.getElem_cons_zero, List.getElem_cons_succ, Act.put, List.setIfInBounds_toArray, List.set_cons_zero, List.set_cons_succ, f1, f2, fz, fm, fs]
              refine' wpAnyH_take (i := 24) (v := _) rfl (by kernel_rfl) (by kernel_rfl) (by kernel_rfl) (fun _ _ _ h => h) (Or.inl ⟨by with_unfolding_all rfl, ?_⟩) (by assumption) ?_
              rotate_left
              focus (intro w hSw; (try dsimp only at hSw); go_simp; try (with_reducible rfl))
              try simp only [List.getElem_toArray, List.getElem_cons_zero, List.getElem_cons_succ, Act.put, List.setIfInBounds_toArray, List.set_cons_zero, List.set_cons_succ, f1, f2, fz, fm, fs]
              refine wpAnyH_ready (rs := [25]) (by kernel_rfl) (by simp) ?_
              refine AllReadyH.cons rfl (fun K hK => ?_) AllReadyH.nil
              rw [if_pos (by with_unfolding_all rfl)]
              go_simp
              (go_at_call 20; (with_reducible refine (HAl.out _ (Below.refl W4.heap.size W4).drew).mono ?_); rintro e W5 ⟨⟨v5, rfl, hv5⟩, b5⟩; obtain ⟨a5, c5, rfl⟩ := hv5.form; rw [HMl.out]; have q5 := (Below.refl W4.heap.size W4).drew.trans b5; have pw2 := (show Blk W5 wb 42 (wldC A) from Hold.at (HH4.out.past q5) 7 rfl).cell (k := 2) rfl; have pwl := (show Blk W5 wb 42 (wldC A) from Hold.at (HH4.out.past q5) 7 rfl).lt; have pc0 := ((HH4.out.past q5).below.cell (p := ⟨b, _, none⟩) lb).trans HC0.out; clear hv5 b5)
              refine hK.out _ _ (by (try dsimp only); go_keep) (fun hHeld => ?_)
              clear hK K
              try simp only [List.getElem_toArray, List.getElem_cons_zero, List.getElem_cons_succ, Act.put, List.setIfInBounds_toArray, List.set_cons_zero, List.set_cons_succ]
              refine' wpAnyH_take (i := 26) (v := _) rfl (by kernel_rfl) (by kernel_rfl) (by kernel_rfl) (fun _ _ _ h => h) (Or.inl ⟨by with_unfolding_all rfl, ?_⟩) (by assumption) ?_
              rotate_left
              focus (intro w hSw; (try dsimp only at hSw); go_simp; try (with_reducible rfl))
              try simp only [List.getElem_toArray, List.getElem_cons_zero, List.getElem_cons_succ, Act.put, List.setIfInBounds_toArray, List.set_cons_zero, List.set_cons_succ, f1, f2, fz, fm, fs]
              refine' wpAnyH_take (i := 27) (v := _) rfl (by kernel_rfl) (by kernel_rfl) (by kernel_rfl) (fun _ _ _ h => h) (Or.inl ⟨by with_unfolding_all rfl, ?_⟩) (by assumption) ?_
              rotate_left
              focus (intro w hSw; (try dsimp only at hSw); go_simp; try (with_reducible rfl))
              try simp only [List.getElem_toArray, List.getElem_cons_zero, List.getElem_cons_succ, Act.put, List.setIfInBounds_toArray, List.set_cons_zero, List.set_cons_succ, f1, f2, fz, fm, fs]
              refine' wpAnyH_take (i := 28) (v := _) rfl (by kernel_rfl) (by kernel_rfl) (by kernel_rfl) (fun _ _ _ h => h) (Or.inl ⟨by with_unfolding_all rfl, ?_⟩) (by assumption) ?_
              rotate_left
              focus (intro w hSw; (try dsimp only at hSw); go_simp; try (with_reducible rfl))
              try simp only [List.getElem_toArray, List.getElem_cons_zero, List.getElem_cons_succ, Act.put, List.setIfInBounds_toArray, List.set_cons_zero, List.set_cons_succ, f1, f2, fz, fm, fs]
              refine' wpAnyH_take (i := 29) (v := _) rfl (by kernel_rfl) (by kernel_rfl) (by kernel_rfl) (fun _ _ _ h => h) (Or.inl ⟨by with_unfolding_all rfl, ?_⟩) (by assumption) ?_
              rotate_left
              focus (intro w hSw; (try dsimp only at hSw); go_simp; try (with_reducible rfl))
              try simp only [List.getElem_toArray, List.getElem_cons_zero, List.getElem_cons_succ, Act.put, List.setIfInBounds_toArray, List.set_cons_zero, List.set_cons_succ, f1, f2, fz, fm, fs]
              refine' wpAnyH_take (i := 30) (v := _) rfl (by kernel_rfl) (by kernel_rfl) (by kernel_rfl) (fun _ _ _ h => h) (Or.inl ⟨by with_unfolding_all rfl, ?_⟩) (by assumption) ?_
              rotate_left
              focus (intro w hSw; (try dsimp only at hSw); go_simp; try (with_reducible rfl))
              try simp only [List.getElem_toArray, List.getElem_cons_zero, List.getElem_cons_succ, Act.put, List.setIfInBounds_toArray, List.set_cons_zero, List.set_cons_succ, f1, f2, fz, fm, fs]
              refine' wpAnyH_take (i := 31) (v := _) rfl (by kernel_rfl) (by kernel_rfl) (by kernel_rfl) (fun _ _ _ h => h) (Or.inl ⟨by with_unfolding_all rfl, ?_⟩) (by assumption) ?_
              rotate_left
              focus (intro w hSw; (try dsimp only at hSw); go_simp; try (with_reducible rfl))
              try simp only [List.getElem_toArray, List.getElem_cons_zero, List.getElem_cons_succ, Act.put, List.setIfInBounds_toArray, List.set_cons_zero, List.set_cons_succ, f1, f2, fz, fm, fs]
              refine' wpAnyH_take (i := 32) (v := _) rfl (by kernel_rfl) (by kernel_rfl) (by kernel_rfl) (fun _ _ _ h => h) (Or.inl ⟨by with_unfolding_all rfl, ?_⟩) (by assumption) ?_
              rotate_left
              focus (intro w hSw; (try dsimp only at hSw); go_simp; try (with_reducible rfl))
              try simp only [List.getElem_toArray, List.getElem_cons_zero, List.getElem_cons_succ, Act.put, List.setIfInBounds_toArray, List.set_cons_zero, List.set_cons_succ, f1, f2, fz, fm, fs]
              refine' wpAnyH_take (i := 33) (v := _) rfl (by kernel_rfl) (by kernel_rfl) (by kernel_rfl) (fun _ _ _ h => h) (Or.inl ⟨by with_unfolding_all rfl, ?_⟩) (by assumption) ?_
              rotate_left
              focus (intro w hSw; (try dsimp only at hSw); go_simp; try (with_reducible rfl))
              try simp only [List.getElem_toArray, List.getElem_cons_zero, List.getElem_cons_succ, Act.put, List.setIfInBounds_toArray, List.set_cons_zero, List.set_cons_succ, f1, f2, fz, fm, fs]
              refine' wpAnyH_take (i := 35) (v := _) rfl (by kernel_rfl) (by kernel_rfl) (by kernel_rfl) (fun _ _ _ h => h) (Or.inl ⟨by with_unfolding_all rfl, ?_⟩) (by assumption) ?_
              rotate_left
              focus (intro w hSw; (try dsimp only at hSw); go_simp; try (with_reducible rfl))
              try simp only [List.getElem_toArray, List.getElem_cons_zero, List.getElem_cons_succ, Act.put, List.setIfInBounds_toArray, List.set_cons_zero, List.set_cons_succ, f1, f2, fz, fm, fs]
              refine' wpAnyH_take (i := 36) (v := _) rfl (by kernel_rfl) (by kernel_rfl) (by kernel_rfl) (fun _ _ _ h => h) (Or.inl ⟨by with_unfolding_all rfl, ?_⟩) (by assumption) ?_
              rotate_left
              focus (intro w hSw; (try dsimp only at hSw); go_simp; try (with_reducible rfl))
              try simp only [List.getElem_toArray, List.getElem_cons_zero, List.getElem_cons_succ, Act.put, List.setIfInBounds_toArray, List.set_cons_zero, List.set_cons_succ, f1, f2, fz, fm, fs]
              refine' wpAnyH_take (i := 37) (v := _) rfl (by kernel_rfl) (by kernel_rfl) (by kernel_rfl) (fun _ _ _ h => h) (Or.inl ⟨by with_unfolding_all rfl, ?_⟩) (by assumption) ?_
              rotate_left
              focus (intro w hSw; (try dsimp only at hSw); go_simp; try (with_reducible rfl))
              try simp only [List.getElem_toArray, List.getElem_cons_zero, List.getElem_cons_succ, Act.put, List.setIfInBounds_toArray, List.set_cons_zero, List.set_cons_succ, f1, f2, fz, fm, fs]
              refine' wpAnyH_take (i := 38) (v := _) rfl (by kernel_rfl) (by kernel_rfl) (by kernel_rfl) (fun _ _ _ h => h) (Or.inl ⟨by with_unfolding_all rfl, ?_⟩) (by assumption) ?_
              rotate_left
              focus (intro w hSw; (try dsimp only at hSw); go_simp; try (with_reducible rfl))
              try simp only [List.getElem_toArray, List.getElem_cons_zero, List.getElem_cons_succ, Act.put, List.setIfInBounds_toArray, List.set_cons_zero, List.set_cons_succ, f1, f2, fz, fm, fs]
              refine wpAnyH_ready (rs := [34]) (by kernel_rfl) (by simp) ?_
              refine AllReadyH.cons rfl (fun K hK => ?_) AllReadyH.nil
              rw [if_pos (by with_unfolding_all rfl)]
              go_simp
              (go_at_call 21; (with_reducible refine (HLf.out _ q5).mono ?_); rintro e W6 ⟨rfl, b6⟩; have q6 := q5.trans (b6.mono q5.size); have qw2 := (show Blk W6 wb 42 (wldC A) from Hold.at (HH4.out.past q6) 7 rfl).cell (k := 2) rfl; have qwl := (show Blk W6 wb 42 (wldC A) from Hold.at (HH4.out.past q6) 7 rfl).lt; have qc0 := ((HH4.out.past q6).below.cell (p := ⟨b, _, none⟩) lb).trans HC0.out; clear b6)
              refine hK.out _ _ (by (try dsimp only); go_keep) (fun hHeld => ?_)
              clear hK K
              try simp only [List.getElem_toArray, List.getElem_cons_zero, List.getElem_cons_succ, Act.put, List.setIfInBounds_toArray, List.set_cons_zero, List.set_cons_succ]
              refine wpAnyH_ready (rs := [39]) (by kernel_rfl) (by simp) ?_
              refine AllReadyH.cons rfl (fun K hK => ?_) AllReadyH.nil
              rw [if_pos (by with_unfolding_all rfl)]
              go_simp
              (go_at_call 20; (with_reducible refine (HAl.out _ q6).mono ?_); rintro e W7 ⟨⟨v5, rfl, hv5⟩, b5⟩; obtain ⟨a5, c5, rfl⟩ := hv5.form; rw [HMl.out]; have q7 := q6.trans (b5.mono q6.size); have rw2 := (show Blk W7 wb 42 (wldC A) from Hold.at (HH4.out.past q7) 7 rfl).cell (k := 2) rfl; have rwl := (show Blk W7 wb 42 (wldC A) from Hold.at (HH4.out.past q7) 7 rfl).lt; have rc0 := ((HH4.out.past q7).below.cell (p := ⟨b, _, none⟩) lb).trans HC0.out; clear hv5 b5)
              refine hK.out _ _ (by (try dsimp only); go_keep) (fun hHeld => ?_)
              clear hK K
              try simp only [List.getElem_toArray, List.getElem_cons_zero, List.getElem_cons_succ, Act.put, List.setIfInBounds_toArray, List.set_cons_zero, List.set_cons_succ]
              refine' wpAnyH_take (i := 40) (v := _) rfl (by kernel_rfl) (by kernel_rfl) (by kernel_rfl) (fun _ _ _ h => h) (Or.inl ⟨by with_unfolding_all rfl, ?_⟩) (by assumption) ?_
              rotate_left
              focus (intro w hSw; (try dsimp only at hSw); go_simp; try (with_reducible rfl))
              try simp only [List.getElem_toArray, List.getElem_cons_zero, List.getElem_cons_succ, Act.put, List.setIfInBounds_toArray, List.set_cons_zero, List.set_cons_succ, f1, f2, fz, fm, fs]
              refine' wpAnyH_take (i := 41) (v := _) rfl (by kernel_rfl) (by kernel_rfl) (by kernel_rfl) (fun _ _ _ h => h) (Or.inl ⟨by with_unfolding_all rfl, ?_⟩) (by assumption) ?_
              rotate_left
              focus (intro w hSw; (try dsimp only at hSw); go_simp; try (with_reducible rfl))
              try simp only [List.getElem_toArray, List.getElem_cons_zero, List.getElem_cons_succ, Act.put, List.setIfInBounds_toArray, List.set_cons_zero, List.set_cons_succ, f1, f2, fz, fm, fs]
              refine' wpAnyH_take (i := 42) (v := _) rfl (by kernel_rfl) (by kernel_rfl) (by kernel_rfl) (fun _ _ _ h => h) (Or.inl ⟨by with_unfolding_all rfl, ?_⟩) (by assumption) ?_
              rotate_left
              focus (intro w hSw; (try dsimp only at hSw); go_simp; try (with_reducible rfl))
              try simp only [List.getElem_toArray, List.getElem_cons_zero, List.getElem_cons_succ, Act.put, List.setIfInBounds_toArray, List.set_cons_zero, List.set_cons_succ, f1, f2, fz, fm, fs]
              refine' wpAnyH_take (i := 43) (v := _) rfl (by kernel_rfl) (by kernel_rfl) (by kernel_rfl) (fun _ _ _ h => h) (Or.inl ⟨by with_unfolding_all rfl, ?_⟩) (by assumption) ?_
              rotate_left
              focus (intro w hSw; (try dsimp only at hSw); go_simp; try (with_reducible rfl))
              try simp only [List.getElem_toArray, List.getElem_cons_zero, List.getElem_cons_succ, Act.put, List.setIfInBounds_toArray, List.set_cons_zero, List.set_cons_succ, f1, f2, fz, fm, fs]
              refine wpAnyH_done (by kernel_rfl) ?_ _
              all_goals
                go_wp2_with fail
                go_roundw
                case rel => exact ⟨k + 1, by omega, by simp, V4, by rw [HN.out]; exact HH4.out.past q7⟩
                case measure => simp [intOf]; omega
          · have f2 : decide (ok > 9) = false := decide_eq_false h9
            clear h4 h9 HBz
            refine wp_region_held_drew (S := (fun w' => w'.cell? ⟨wb, 2, none⟩ = some (.pointer (some ⟨A.sp, 0, none⟩)) ∧ w'.cell? ⟨b, off + k * 9, none⟩ = some (.int .i64 ok))) (by kernel_rfl) (by (try dsimp only); go_keep) (fun hHeld => ?_)
            refine' wpAnyH_take (i := 0) (v := _) rfl (by kernel_rfl) (by kernel_rfl) (by kernel_rfl) (fun _ _ _ h => h) (Or.inl ⟨by with_unfolding_all rfl, ?_⟩) (by assumption) ?_
            rotate_left
            focus (intro w hSw; (try dsimp only at hSw); go_simp; try (with_reducible rfl))
            try simp only [List.getElem_toArray, List.getElem_cons_zero, Act.put, List.setIfInBounds_toArray, List.set_cons_zero, List.set_cons_succ, f1, f2, fm, fs]
            refine' wpAnyH_take (i := 1) (v := _) rfl (by kernel_rfl) (by kernel_rfl) (by kernel_rfl) (fun _ _ _ h => h) (Or.inl ⟨by with_unfolding_all rfl, ?_⟩) (by assumption) ?_
            rotate_left
            focus (intro w hSw; (try dsimp only at hSw); go_simp; try (with_reducible rfl))
            try simp only [List.getElem_toArray, List.getElem_cons_zero, List.getElem_cons_succ, Act.put, List.setIfInBounds_toArray, List.set_cons_zero, List.set_cons_succ, f1, f2, fm, fs]
            refine' wpAnyH_take (i := 2) (v := _) rfl (by kernel_rfl) (by kernel_rfl) (by kernel_rfl) (fun _ _ _ h => h) (Or.inl ⟨by with_unfolding_all rfl, ?_⟩) (by assumption) ?_
            rotate_left
            focus (intro w hSw; (try dsimp only at hSw); go_simp; try (with_reducible rfl))
            try simp only [List.getElem_toArray, List.getElem_cons_zero, List.getElem_cons_succ, Act.put, List.setIfInBounds_toArray, List.set_cons_zero, List.set_cons_succ, f1, f2, fm, fs]
            refine' wpAnyH_take (i := 3) (v := _) rfl (by kernel_rfl) (by kernel_rfl) (by kernel_rfl) (fun _ _ _ h => h) (Or.inl ⟨by with_unfolding_all rfl, ?_⟩) (by assumption) ?_
            rotate_left
            focus (intro w hSw; (try dsimp only at hSw); go_simp; try (with_reducible rfl))
            try simp only [List.getElem_toArray, List.getElem_cons_zero, List.getElem_cons_succ, Act.put, List.setIfInBounds_toArray, List.set_cons_zero, List.set_cons_succ, f1, f2, fm, fs]
            refine' wpAnyH_take (i := 4) (v := _) rfl (by kernel_rfl) (by kernel_rfl) (by kernel_rfl) (fun _ _ _ h => h) (Or.inl ⟨by with_unfolding_all rfl, ?_⟩) (by assumption) ?_
            rotate_left
            focus (intro w hSw; (try dsimp only at hSw); go_simp; try (with_reducible rfl))
            try simp only [List.getElem_toArray, List.getElem_cons_zero, List.getElem_cons_succ, Act.put, List.setIfInBounds_toArray, List.set_cons_zero, List.set_cons_succ, f1, f2, fm, fs]
            refine' wpAnyH_take (i := 5) (v := _) rfl (by kernel_rfl) (by kernel_rfl) (by kernel_rfl) (fun _ _ _ h => h) (Or.inl ⟨by with_unfolding_all rfl, ?_⟩) (by assumption) ?_
            rotate_left
            focus (intro w hSw; (try dsimp only at hSw); go_simp; try (with_reducible rfl))
            try simp only [List.getElem_toArray, List.getElem_cons_zero, List.getElem_cons_succ, Act.put, List.setIfInBounds_toArray, List.set_cons_zero, List.set_cons_succ, f1, f2, fm, fs]
            refine' wpAnyH_take (i := 6) (v := _) rfl (by kernel_rfl) (by kernel_rfl) (by kernel_rfl) (fun _ _ _ h => h) (Or.inl ⟨by with_unfolding_all rfl, ?_⟩) (by assumption) ?_
            rotate_left
            focus (intro w hSw; (try dsimp only at hSw); go_simp; try (with_reducible rfl))
            try simp only [List.getElem_toArray, List.getElem_cons_zero, List.getElem_cons_succ, Act.put, List.setIfInBounds_toArray, List.set_cons_zero, List.set_cons_succ, f1, f2, fm, fs]
            refine' wpAnyH_take (i := 7) (v := _) rfl (by kernel_rfl) (by kernel_rfl) (by kernel_rfl) (fun _ _ _ h => h) (Or.inl ⟨by with_unfolding_all rfl, ?_⟩) (by assumption) ?_
            rotate_left
            focus (intro w hSw; (try dsimp only at hSw); go_simp; try (with_reducible rfl))
            try simp only [List.getElem_toArray, List.getElem_cons_zero, List.getElem_cons_succ, Act.put, List.setIfInBounds_toArray, List.set_cons_zero, List.set_cons_succ, f1, f2, fm, fs]
            refine' wpAnyH_take (i := 8) (v := _) rfl (by kernel_rfl) (by kernel_rfl) (by kernel_rfl) (fun _ _ _ h => h) (Or.inl ⟨by with_unfolding_all rfl, ?_⟩) (by assumption) ?_
            rotate_left
            focus (intro w hSw; (try dsimp only at hSw); go_simp; try (with_reducible rfl))
            try simp only [List.getElem_toArray, List.getElem_cons_zero, List.getElem_cons_succ, Act.put, List.setIfInBounds_toArray, List.set_cons_zero, List.set_cons_succ, f1, f2, fm, fs]
            refine' wpAnyH_take (i := 9) (v := _) rfl (by kernel_rfl) (by kernel_rfl) (by kernel_rfl) (fun _ _ _ h => h) (Or.inl ⟨by with_unfolding_all rfl, ?_⟩) (by assumption) ?_
            rotate_left
            focus (intro w hSw; (try dsimp only at hSw); go_simp; try (with_reducible rfl))
            try simp only [List.getElem_toArray, List.getElem_cons_zero, List.getElem_cons_succ, Act.put, List.setIfInBounds_toArray, List.set_cons_zero, List.set_cons_succ, f1, f2, fm, fs]
            refine' wpAnyH_take (i := 10) (v := _) rfl (by kernel_rfl) (by kernel_rfl) (by kernel_rfl) (fun _ _ _ h => h) (Or.inl ⟨by with_unfolding_all rfl, ?_⟩) (by assumption) ?_
            rotate_left
            focus (intro w hSw; (try dsimp only at hSw); go_simp; try (with_reducible rfl))
            try simp only [List.getElem_toArray, List.getElem_cons_zero, List.getElem_cons_succ, Act.put, List.setIfInBounds_toArray, List.set_cons_zero, List.set_cons_succ, f1, f2, fm, fs]
            refine' wpAnyH_take (i := 11) (v := _) rfl (by kernel_rfl) (by kernel_rfl) (by kernel_rfl) (fun _ _ _ h => h) (Or.inl ⟨by with_unfolding_all rfl, ?_⟩) (by assumption) ?_
            rotate_left
            focus (intro w hSw; (try dsimp only at hSw); go_simp; try (with_reducible rfl))
            try simp only [List.getElem_toArray, List.getElem_cons_zero, List.getElem_cons_succ, Act.put, List.setIfInBounds_toArray, List.set_cons_zero, List.set_cons_succ, f1, f2, fm, fs]
            refine' wpAnyH_take (i := 12) (v := _) rfl (by kernel_rfl) (by kernel_rfl) (by kernel_rfl) (fun _ _ _ h => h) (Or.inl ⟨by with_unfolding_all rfl, ?_⟩) (by assumption) ?_
            rotate_left
            focus (intro w hSw; (try dsimp only at hSw); go_simp; try (with_reducible rfl))
            try simp only [List.getElem_toArray, List.getElem_cons_zero, List.getElem_cons_succ, Act.put, List.setIfInBounds_toArray, List.set_cons_zero, List.set_cons_succ, f1, f2, fm, fs]
            refine' wpAnyH_take (i := 13) (v := _) rfl (by kernel_rfl) (by kernel_rfl) (by kernel_rfl) (fun _ _ _ h => h) (Or.inl ⟨by with_unfolding_all rfl, ?_⟩) (by assumption) ?_
            rotate_left
            focus (intro w hSw; (try dsimp only at hSw); go_simp; try (with_reducible rfl))
            try simp only [List.getElem_toArray, List.getElem_cons_zero, List.getElem_cons_succ, Act.put, List.setIfInBounds_toArray, List.set_cons_zero, List.set_cons_succ, f1, f2, fm, fs]
            refine' wpAnyH_take (i := 14) (v := _) rfl (by kernel_rfl) (by kernel_rfl) (by kernel_rfl) (fun _ _ _ h => h) (Or.inl ⟨by with_unfolding_all rfl, ?_⟩) (by assumption) ?_
            rotate_left
            focus (intro w hSw; (try dsimp only at hSw); go_simp; try (with_reducible rfl))
            try simp only [List.getElem_toArray, List.getElem_cons_zero, List.getElem_cons_succ, Act.put, List.setIfInBounds_toArray, List.set_cons_zero, List.set_cons_succ, f1, f2, fm, fs]
            refine wpAnyH_take (i := 15) (v := undef) rfl (by kernel_rfl) (by kernel_rfl) (by kernel_rfl) (fun _ _ _ h => h) (Or.inr ⟨by with_unfolding_all rfl, rfl⟩) (by assumption) ?_
            try simp only [List.getElem_toArray, List.getElem_cons_zero, List.getElem_cons_succ, Act.put, List.setIfInBounds_toArray, List.set_cons_zero, List.set_cons_succ, f1, f2, fm, fs]
            refine wpAnyH_take (i := 16) (v := undef) rfl (by kernel_rfl) (by kernel_rfl) (by kernel_rfl) (fun _ _ _ h => h) (Or.inr ⟨by with_unfolding_all rfl, rfl⟩) (by assumption) ?_
            try simp only [List.getElem_toArray, List.getElem_cons_zero, List.getElem_cons_succ, Act.put, List.setIfInBounds_toArray, List.set_cons_zero, List.set_cons_succ, f1, f2, fm, fs]
            refine wpAnyH_take (i := 17) (v := undef) rfl (by kernel_rfl) (by kernel_rfl) (by kernel_rfl) (fun _ _ _ h => h) (Or.inr ⟨by with_unfolding_all rfl, rfl⟩) (by assumption) ?_
            try simp only [List.getElem_toArray, List.getElem_cons_zero, List.getElem_cons_succ, Act.put, List.setIfInBounds_toArray, List.set_cons_zero, List.set_cons_succ, f1, f2, fm, fs]
            refine wpAnyH_take (i := 18) (v := undef) rfl (by kernel_rfl) (by kernel_rfl) (by kernel_rfl) (fun _ _ _ h => h) (Or.inr ⟨by with_unfolding_all rfl, rfl⟩) (by assumption) ?_
            try simp only [List.getElem_toArray, List.getElem_cons_zero, List.getElem_cons_succ, Act.put, List.setIfInBounds_toArray, List.set_cons_zero, List.set_cons_succ, f1, f2, fm, fs]
            refine' wpAnyH_take (i := 19) (v := _) rfl (by kernel_rfl) (by kernel_rfl) (by kernel_rfl) (fun _ _ _ h => h) (Or.inl ⟨by with_unfolding_all rfl, ?_⟩) (by assumption) ?_
            rotate_left
            focus (intro w hSw; (try dsimp only at hSw); go_simp; try (with_reducible rfl))
            try simp only [List.getElem_toArray, List.getElem_cons_zero, List.getElem_cons_succ, Act.put, List.setIfInBounds_toArray, List.set_cons_zero, List.set_cons_succ, f1, f2, fm, fs]
            refine' wpAnyH_take (i := 20) (v := _) rfl (by kernel_rfl) (by kernel_rfl) (by kernel_rfl) (fun _ _ _ h => h) (Or.inl ⟨by with_unfolding_all rfl, ?_⟩) (by assumption) ?_
            rotate_left
            focus (intro w hSw; (try dsimp only at hSw); go_simp; try (with_reducible rfl))
            try simp only [List.getElem_toArray, List.getElem_cons_zero, List.getElem_cons_succ, Act.put, List.setIfInBounds_toArray, List.set_cons_zero, List.set_cons_succ, f1, f2, fm, fs]
            refine' wpAnyH_take (i := 21) (v := _) rfl (by kernel_rfl) (by kernel_rfl) (by kernel_rfl) (fun _ _ _ h => h) (Or.inl ⟨by with_unfolding_all rfl, ?_⟩) (by assumption) ?_
            rotate_left
            focus (intro w hSw; (try dsimp only at hSw); go_simp; try (with_reducible rfl))
            try simp only [List.getElem_toArray, List.getElem_cons_zero, List.getElem_cons_succ, Act.put, List.setIfInBounds_toArray, List.set_cons_zero, List.set_cons_succ, f1, f2, fm, fs]
            refine' wpAnyH_take (i := 22) (v := _) rfl (by kernel_rfl) (by kernel_rfl) (by kernel_rfl) (fun _ _ _ h => h) (Or.inl ⟨by with_unfolding_all rfl, ?_⟩) (by assumption) ?_
            rotate_left
            focus (intro w hSw; (try dsimp only at hSw); go_simp; try (with_reducible rfl))
            try simp only [List.getElem_toArray, List.getElem_cons_zero, List.getElem_cons_succ, Act.put, List.setIfInBounds_toArray, List.set_cons_zero, List.set_cons_succ, f1, f2, fm, fs]
            refine' wpAnyH_take (i := 23) (v := _) rfl (by kernel_rfl) (by kernel_rfl) (by kernel_rfl) (fun _ _ _ h => h) (Or.inl ⟨by with_unfolding_all rfl, ?_⟩) (by assumption) ?_
            rotate_left
            focus (intro w hSw; (try dsimp only at hSw); go_simp; try (with_reducible rfl))
            try simp only [List.getElem_toArray, List.getElem_cons_zero, List.getElem_cons_succ, Act.put, List.setIfInBounds_toArray, List.set_cons_zero, List.set_cons_succ, f1, f2, fm, fs]
            refine' wpAnyH_take (i := 24) (v := _) rfl (by kernel_rfl) (by kernel_rfl) (by kernel_rfl) (fun _ _ _ h => h) (Or.inl ⟨by with_unfolding_all rfl, ?_⟩) (by assumption) ?_
            rotate_left
            focus (intro w hSw; (try dsimp only at hSw); go_simp; try (with_reducible rfl))
            try simp only [List.getElem_toArray, List.getElem_cons_zero, List.getElem_cons_succ, Act.put, List.setIfInBounds_toArray, List.set_cons_zero, List.set_cons_succ, f1, f2, fm, fs]
            refine wpAnyH_ready (rs := [25]) (by kernel_rfl) (by simp) ?_
            refine AllReadyH.cons rfl (fun K hK => ?_) AllReadyH.nil
            rw [if_pos (by with_unfolding_all rfl)]
            go_simp
            (go_at_call 20; (with_reducible refine (HAl.out _ (Below.refl W4.heap.size W4).drew).mono ?_); rintro e W5 ⟨⟨v5, rfl, hv5⟩, b5⟩; obtain ⟨a5, c5, rfl⟩ := hv5.form; rw [HMl.out]; have q5 := (Below.refl W4.heap.size W4).drew.trans b5; have pw2 := (show Blk W5 wb 42 (wldC A) from Hold.at (HH4.out.past q5) 7 rfl).cell (k := 2) rfl; have pwl := (show Blk W5 wb 42 (wldC A) from Hold.at (HH4.out.past q5) 7 rfl).lt; have pc0 := ((HH4.out.past q5).below.cell (p := ⟨b, _, none⟩) lb).trans HC0.out; clear hv5 b5)
            refine hK.out _ _ (by (try dsimp only); go_keep) (fun hHeld => ?_)
            clear hK K
            try simp only [List.getElem_toArray, List.getElem_cons_zero, List.getElem_cons_succ, Act.put, List.setIfInBounds_toArray, List.set_cons_zero, List.set_cons_succ]
            refine' wpAnyH_take (i := 26) (v := _) rfl (by kernel_rfl) (by kernel_rfl) (by kernel_rfl) (fun _ _ _ h => h) (Or.inl ⟨by with_unfolding_all rfl, ?_⟩) (by assumption) ?_
            rotate_left
            focus (intro w hSw; (try dsimp only at hSw); go_simp; try (with_reducible rfl))
            try simp only [List.getElem_toArray, List.getElem_cons_zero, List.getElem_cons_succ, Act.put, List.setIfInBounds_toArray, List.set_cons_zero, List.set_cons_succ, f1, f2, fm, fs]
            refine' wpAnyH_take (i := 27) (v := _) rfl (by kernel_rfl) (by kernel_rfl) (by kernel_rfl) (fun _ _ _ h => h) (Or.inl ⟨by with_unfolding_all rfl, ?_⟩) (by assumption) ?_
            rotate_left
            focus (intro w hSw; (try dsimp only at hSw); go_simp; try (with_reducible rfl))
            try simp only [List.getElem_toArray, List.getElem_cons_zero, List.getElem_cons_succ, Act.put, List.setIfInBounds_toArray, List.set_cons_zero, List.set_cons_succ, f1, f2, fm, fs]
            refine' wpAnyH_take (i := 28) (v := _) rfl (by kernel_rfl) (by kernel_rfl) (by kernel_rfl) (fun _ _ _ h => h) (Or.inl ⟨by with_unfolding_all rfl, ?_⟩) (by assumption) ?_
            rotate_left
            focus (intro w hSw; (try dsimp only at hSw); go_simp; try (with_reducible rfl))
            try simp only [List.getElem_toArray, List.getElem_cons_zero, List.getElem_cons_succ, Act.put, List.setIfInBounds_toArray, List.set_cons_zero, List.set_cons_succ, f1, f2, fm, fs]
            refine' wpAnyH_take (i := 29) (v := _) rfl (by kernel_rfl) (by kernel_rfl) (by kernel_rfl) (fun _ _ _ h => h) (Or.inl ⟨by with_unfolding_all rfl, ?_⟩) (by assumption) ?_
            rotate_left
            focus (intro w hSw; (try dsimp only at hSw); go_simp; try (with_reducible rfl))
            try simp only [List.getElem_toArray, List.getElem_cons_zero, List.getElem_cons_succ, Act.put, List.setIfInBounds_toArray, List.set_cons_zero, List.set_cons_succ, f1, f2, fm, fs]
            refine' wpAnyH_take (i := 30) (v := _) rfl (by kernel_rfl) (by kernel_rfl) (by kernel_rfl) (fun _ _ _ h => h) (Or.inl ⟨by with_unfolding_all rfl, ?_⟩) (by assumption) ?_
            rotate_left
            focus (intro w hSw; (try dsimp only at hSw); go_simp; try (with_reducible rfl))
            try simp only [List.getElem_toArray, List.getElem_cons_zero, List.getElem_cons_succ, Act.put, List.setIfInBounds_toArray, List.set_cons_zero, List.set_cons_succ, f1, f2, fm, fs]
            refine' wpAnyH_take (i := 31) (v := _) rfl (by kernel_rfl) (by kernel_rfl) (by kernel_rfl) (fun _ _ _ h => h) (Or.inl ⟨by with_unfolding_all rfl, ?_⟩) (by assumption) ?_
            rotate_left
            focus (intro w hSw; (try dsimp only at hSw); go_simp; try (with_reducible rfl))
            try simp only [List.getElem_toArray, List.getElem_cons_zero, List.getElem_cons_succ, Act.put, List.setIfInBounds_toArray, List.set_cons_zero, List.set_cons_succ, f1, f2, fm, fs]
            refine' wpAnyH_take (i := 32) (v := _) rfl (by kernel_rfl) (by kernel_rfl) (by kernel_rfl) (fun _ _ _ h => h) (Or.inl ⟨by with_unfolding_all rfl, ?_⟩) (by assumption) ?_
            rotate_left
            focus (intro w hSw; (try dsimp only at hSw); go_simp; try (with_reducible rfl))
            try simp only [List.getElem_toArray, List.getElem_cons_zero, List.getElem_cons_succ, Act.put, List.setIfInBounds_toArray, List.set_cons_zero, List.set_cons_succ, f1, f2, fm, fs]
            refine' wpAnyH_take (i := 33) (v := _) rfl (by kernel_rfl) (by kernel_rfl) (by kernel_rfl) (fun _ _ _ h => h) (Or.inl ⟨by with_unfolding_all rfl, ?_⟩) (by assumption) ?_
            rotate_left
            focus (intro w hSw; (try dsimp only at hSw); go_simp; try (with_reducible rfl))
            try simp only [List.getElem_toArray, List.getElem_cons_zero, List.getElem_cons_succ, Act.put, List.setIfInBounds_toArray, List.set_cons_zero, List.set_cons_succ, f1, f2, fm, fs]
            refine' wpAnyH_take (i := 35) (v := _) rfl (by kernel_rfl) (by kernel_rfl) (by kernel_rfl) (fun _ _ _ h => h) (Or.inl ⟨by with_unfolding_all rfl, ?_⟩) (by assumption) ?_
            rotate_left
            focus (intro w hSw; (try dsimp only at hSw); go_simp; try (with_reducible rfl))
            try simp only [List.getElem_toArray, List.getElem_cons_zero, List.getElem_cons_succ, Act.put, List.setIfInBounds_toArray, List.set_cons_zero, List.set_cons_succ, f1, f2, fm, fs]
            refine' wpAnyH_take (i := 36) (v := _) rfl (by kernel_rfl) (by kernel_rfl) (by kernel_rfl) (fun _ _ _ h => h) (Or.inl ⟨by with_unfolding_all rfl, ?_⟩) (by assumption) ?_
            rotate_left
            focus (intro w hSw; (try dsimp only at hSw); go_simp; try (with_reducible rfl))
            try simp only [List.getElem_toArray, List.getElem_cons_zero, List.getElem_cons_succ, Act.put, List.setIfInBounds_toArray, List.set_cons_zero, List.set_cons_succ, f1, f2, fm, fs]
            refine' wpAnyH_take (i := 37) (v := _) rfl (by kernel_rfl) (by kernel_rfl) (by kernel_rfl) (fun _ _ _ h => h) (Or.inl ⟨by with_unfolding_all rfl, ?_⟩) (by assumption) ?_
            rotate_left
            focus (intro w hSw; (try dsimp only at hSw); go_simp; try (with_reducible rfl))
            try simp only [List.getElem_toArray, List.getElem_cons_zero, List.getElem_cons_succ, Act.put, List.setIfInBounds_toArray, List.set_cons_zero, List.set_cons_succ, f1, f2, fm, fs]
            refine' wpAnyH_take (i := 38) (v := _) rfl (by kernel_rfl) (by kernel_rfl) (by kernel_rfl) (fun _ _ _ h => h) (Or.inl ⟨by with_unfolding_all rfl, ?_⟩) (by assumption) ?_
            rotate_left
            focus (intro w hSw; (try dsimp only at hSw); go_simp; try (with_reducible rfl))
            try simp only [List.getElem_toArray, List.getElem_cons_zero, List.getElem_cons_succ, Act.put, List.setIfInBounds_toArray, List.set_cons_zero, List.set_cons_succ, f1, f2, fm, fs]
            refine wpAnyH_ready (rs := [34]) (by kernel_rfl) (by simp) ?_
            refine AllReadyH.cons rfl (fun K hK => ?_) AllReadyH.nil
            rw [if_pos (by with_unfolding_all rfl)]
            go_simp
            (go_at_call 21; (with_reducible refine (HLf.out _ q5).mono ?_); rintro e W6 ⟨rfl, b6⟩; have q6 := q5.trans (b6.mono q5.size); have qw2 := (show Blk W6 wb 42 (wldC A) from Hold.at (HH4.out.past q6) 7 rfl).cell (k := 2) rfl; have qwl := (show Blk W6 wb 42 (wldC A) from Hold.at (HH4.out.past q6) 7 rfl).lt; have qc0 := ((HH4.out.past q6).below.cell (p := ⟨b, _, none⟩) lb).trans HC0.out; clear b6)
            refine hK.out _ _ (by (try dsimp only); go_keep) (fun hHeld => ?_)
            clear hK K
            try simp only [List.getElem_toArray, List.getElem_cons_zero, List.getElem_cons_succ, Act.put, List.setIfInBounds_toArray, List.set_cons_zero, List.set_cons_succ]
            refine wpAnyH_ready (rs := [39]) (by kernel_rfl) (by simp) ?_
            refine AllReadyH.cons rfl (fun K hK => ?_) AllReadyH.nil
            rw [if_pos (by with_unfolding_all rfl)]
            go_simp
            (go_at_call 20; (with_reducible refine (HAl.out _ q6).mono ?_); rintro e W7 ⟨⟨v5, rfl, hv5⟩, b5⟩; obtain ⟨a5, c5, rfl⟩ := hv5.form; rw [HMl.out]; have q7 := q6.trans (b5.mono q6.size); have rw2 := (show Blk W7 wb 42 (wldC A) from Hold.at (HH4.out.past q7) 7 rfl).cell (k := 2) rfl; have rwl := (show Blk W7 wb 42 (wldC A) from Hold.at (HH4.out.past q7) 7 rfl).lt; have rc0 := ((HH4.out.past q7).below.cell (p := ⟨b, _, none⟩) lb).trans HC0.out; clear hv5 b5)
            refine hK.out _ _ (by (try dsimp only); go_keep) (fun hHeld => ?_)
            clear hK K
            try simp only [List.getElem_toArray, List.getElem_cons_zero, List.getElem_cons_succ, Act.put, List.setIfInBounds_toArray, List.set_cons_zero, List.set_cons_succ]
            refine' wpAnyH_take (i := 40) (v := _) rfl (by kernel_rfl) (by kernel_rfl) (by kernel_rfl) (fun _ _ _ h => h) (Or.inl ⟨by with_unfolding_all rfl, ?_⟩) (by assumption) ?_
            rotate_left
            focus (intro w hSw; (try dsimp only at hSw); go_simp; try (with_reducible rfl))
            try simp only [List.getElem_toArray, List.getElem_cons_zero, List.getElem_cons_succ, Act.put, List.setIfInBounds_toArray, List.set_cons_zero, List.set_cons_succ, f1, f2, fm, fs]
            refine' wpAnyH_take (i := 41) (v := _) rfl (by kernel_rfl) (by kernel_rfl) (by kernel_rfl) (fun _ _ _ h => h) (Or.inl ⟨by with_unfolding_all rfl, ?_⟩) (by assumption) ?_
            rotate_left
            focus (intro w hSw; (try dsimp only at hSw); go_simp; try (with_reducible rfl))
            try simp only [List.getElem_toArray, List.getElem_cons_zero, List.getElem_cons_succ, Act.put, List.setIfInBounds_toArray, List.set_cons_zero, List.set_cons_succ, f1, f2, fm, fs]
            refine' wpAnyH_take (i := 42) (v := _) rfl (by kernel_rfl) (by kernel_rfl) (by kernel_rfl) (fun _ _ _ h => h) (Or.inl ⟨by with_unfolding_all rfl, ?_⟩) (by assumption) ?_
            rotate_left
            focus (intro w hSw; (try dsimp only at hSw); go_simp; try (with_reducible rfl))
            try simp only [List.getElem_toArray, List.getElem_cons_zero, List.getElem_cons_succ, Act.put, List.setIfInBounds_toArray, List.set_cons_zero, List.set_cons_succ, f1, f2, fm, fs]
            refine' wpAnyH_take (i := 43) (v := _) rfl (by kernel_rfl) (by kernel_rfl) (by kernel_rfl) (fun _ _ _ h => h) (Or.inl ⟨by with_unfolding_all rfl, ?_⟩) (by assumption) ?_
            rotate_left
            focus (intro w hSw; (try dsimp only at hSw); go_simp; try (with_reducible rfl))
            try simp only [List.getElem_toArray, List.getElem_cons_zero, List.getElem_cons_succ, Act.put, List.setIfInBounds_toArray, List.set_cons_zero, List.set_cons_succ, f1, f2, fm, fs]
            refine wpAnyH_done (by kernel_rfl) ?_ _
            all_goals
              go_wp2_with fail
              go_roundw
              case rel => exact ⟨k + 1, by omega, by simp, V4, by rw [HN.out]; exact HH4.out.past q7⟩
              case measure => simp [intOf]; omega
      · obtain rfl : on = k := by omega
        have HH := Lib.hid H
        clear H
        go_wp2_with fail
        go_ret
        exact ⟨rfl, HH.out.below⟩
end Go.Proofs.YtglohconhbcchaaGreatDoor
