/- GuardLoose's walk. -/
import Derived.Test.YtldmlmojokicaaaGlaw
import Derived.Test.YtldmlmojokicaaaGuP
import Derived.Laws.StructEq
namespace Go.Proofs.Ytldmlmojokicaaa
open Go.RowKit Go.Shelf Go.Maps
set_option maxRecDepth 100000 in
set_option maxHeartbeats 16000000 in
theorem GuardLoose_walk (w : World) (a : Option Addr) (c : Nat) (l : List (Int × Int × Nat)) (hp : Ps w a l) (hlen : l.length ≤ 9223372036854775807) (oa : Option Addr) (oc : Nat) (ops : List Opg) (hop : Gops w oa ops) (holen : ops.length ≤ 9223372036854775807) :
    Calls Try.prog 3 #[.slice a l.length c, .slice oa ops.length oc] w fun e w' => e = .returned (.bool true) ∧ Below w.heap.size w w' := by
  have hh := ghead_any w
  obtain ⟨len, hl⟩ : ∃ len, l.length = len := ⟨_, rfl⟩
  obtain ⟨on, hol⟩ : ∃ n, ops.length = n := ⟨_, rfl⟩
  obtain ⟨G0, hG0⟩ : ∃ G, G24 (gputs l) = G := ⟨_, rfl⟩
  have hI0 : GInv P24 G0 := hG0 ▸ G24_inv _ (gputs_len l)
  have hm : ∀ W, Below w.heap.size w W → Calls Try.prog 11 #[.slice a len c] W fun e w' => ∃ wb A, e = .returned (.pointer (some ⟨wb, 0, none⟩)) ∧ HG w w' A P24 V24 G0 [wld wb A] := fun W b => by
    have h := gmade_any W a c l (hp.below b) hlen
    rw [hl, hG0] at h
    exact h.mono fun e w' ⟨wb, A, he, H⟩ => ⟨wb, A, he, H.base b⟩
  rw [hl] at hlen ⊢
  rw [hol] at holen ⊢
  have hgr := fun W => great_any W a oa c oc len on hlen holen
  obtain ⟨gr, hgr'⟩ : ∃ b, (decide (600 < len) || decide (120 < on)) = b := ⟨_, rfl⟩
  rw [hgr'] at hgr
  have HH := Lib.hid hh
  have HM := Lib.hid hm
  have HGr := Lib.hid hgr
  have HI0 := Lib.hid hI0
  have HOp := Lib.hid hop
  have HOl := Lib.hid hol
  clear hh hm hgr hI0 hop hol hp hl hG0 hgr' hlen
  cases gr with
  | true =>
    go_enter Try.func3, Try.ntmps3
    go_wp2_with (first
      | (go_at_call 10; (with_reducible refine HH.out.mono ?_); rintro e W0 ⟨rfl, b0⟩)
      | (go_at_call 11; (with_reducible refine (HM.out _ b0).mono ?_); rintro e W1 ⟨wb, A, rfl, H1⟩; clear b0)
      | (go_at_call 12; (with_reducible refine (HGr.out W1).mono ?_); rintro e W2 ⟨rfl, rfl⟩))
    go_ret
    exact ⟨rfl, H1.below⟩
  | false =>
    go_enter Try.func3, Try.ntmps3
    go_wp2_with (first
      | (go_at_call 10; (with_reducible refine HH.out.mono ?_); rintro e W0 ⟨rfl, b0⟩)
      | (go_at_call 11; (with_reducible refine (HM.out _ b0).mono ?_); rintro e W1 ⟨wb, A, rfl, H1⟩; clear b0)
      | (go_at_call 12; (with_reducible refine (HGr.out W1).mono ?_); rintro e W2 ⟨rfl, rfl⟩))
    clear HM HGr HH
    go_loopw [7] (fun i wr => ∃ k : Nat, k ≤ on ∧ i = .int .i64 k ∧ ∃ V, HG w wr A P24 V (grun P24 G0 (ops.take k)) [wld wb A]) (fun i _ => on - (intOf i).toNat)
    case atStart => exact ⟨0, by omega, rfl, _, H1⟩
    case round =>
      obtain ⟨k, hk, rfl, V, H⟩ := hrel
      clear H1
      by_cases hkl : k < on
      · obtain ⟨b, off, ok, okg, okv, okr, op, oi, og, ow, ou, ox, ov, rfl, lb, ho, hov, C0, C1, C2, C3, C4, C5, C6, C7, C8, C9, C10⟩ := HOp.out.at k (by rw [HOl.out]; exact hkl)
        have HC0 := Lib.hid C0
        have HC1 := Lib.hid C1
        have HC2 := Lib.hid C2
        have HC3 := Lib.hid C3
        have HC4 := Lib.hid C4
        have HC5 := Lib.hid C5
        have HC6 := Lib.hid C6
        have HC7 := Lib.hid C7
        have HC8 := Lib.hid C8
        have HC9 := Lib.hid C9
        have HC10 := Lib.hid C10
        have HOv := Lib.hid hov
        clear C0 C1 C2 C3 C4 C5 C6 C7 C8 C9 C10 hov
        obtain ⟨Gk, hGk⟩ : ∃ G, grun P24 G0 (ops.take k) = G := ⟨_, rfl⟩
        have hIk : GInv P24 Gk := hGk ▸ grun_inv HI0.out _
        have hn : grun P24 G0 (ops.take (k + 1)) = (gdo P24 Gk ⟨ok, okg, okv, okr, op, oi, og, ⟨ow, ou, ox⟩, ov⟩).2 := by rw [grun_take _ _ _ _ (by rw [HOl.out]; exact hkl), hGk, ho]
        have hIn : GInv P24 (gdo P24 Gk ⟨ok, okg, okv, okr, op, oi, og, ⟨ow, ou, ox⟩, ov⟩).2 := gdo_inv hIk _
        rw [hGk] at H
        have hd := fun W (hW : Below wr.heap.size wr W) => gdo24 (H.past hW) hIk ok okg okv okr op oi og ow ou ox ov HOv.out
        have hlo := fun W (hW : Below wr.heap.size wr W) => gloose_any (H.past hW) og
        have hlaw := lo_op (P := P24) Gk ⟨ok, okg, okv, okr, op, oi, og, ⟨ow, ou, ox⟩, ov⟩
        obtain ⟨Gn, hGn⟩ : ∃ G, (gdo P24 Gk ⟨ok, okg, okv, okr, op, oi, og, ⟨ow, ou, ox⟩, ov⟩).2 = G := ⟨_, rfl⟩
        obtain ⟨bi, hbi⟩ : ∃ x, (gdo P24 Gk ⟨ok, okg, okv, okr, op, oi, og, ⟨ow, ou, ox⟩, ov⟩).1.2 = x := ⟨_, rfl⟩
        obtain ⟨bw, hbw⟩ : ∃ x, Gk.loose.contains og = x := ⟨_, rfl⟩
        obtain ⟨ba, hba⟩ : ∃ x, Gn.loose.contains og = x := ⟨_, rfl⟩
        rw [hGn] at hd hn hIn
        rw [hbi] at hd
        rw [hbw] at hlo
        have hlaw' : ok = 8 → (bi && bw || (bi != (ba && !bw))) = false := fun h => by
          have h1 := hlaw h
          rw [hGn, hbi] at h1
          dsimp only at h1
          rw [hbw, hba] at h1
          exact h1
        clear hlaw hbi hbw hGn hIk hGk ho
        have HD := Lib.hid hd
        have HN := Lib.hid hn
        have HIn := Lib.hid hIn
        have HLo := Lib.hid hlo
        have HLaw := Lib.hid hlaw'
        have HBa := Lib.hid hba
        clear hd hn hIn hlo hlaw' hba
        have c6 := (H.below.cell (p := ⟨b, _, none⟩) lb).trans HC6.out
        have d4 := H.wd.cell (k := 4) rfl
        have dl := H.wd.lt
        have HH := Lib.hid H
        clear H
        go_wp2_with fail
        go_region_held3 (fun w' => w'.cell? ⟨wb, 4, none⟩ = some (.pointer (some ⟨A.dp, 0, none⟩)) ∧ w'.cell? ⟨b, off + k * 11 + 6, none⟩ = some (.int .i64 og)) (go_keep) (first
          | (go_at_call 13; (with_reducible refine (HLo.out _ ((Below.refl _ wr).drew)).mono ?_); rintro e W3 ⟨rfl, b3⟩; have q3 := (Below.refl wr.heap.size wr).drew.trans b3; have H3 := HH.out.past q3; have e6 := (H3.below.cell (p := ⟨b, _, none⟩) lb).trans HC6.out; have x4 := H3.wd.cell (k := 4) rfl; have xl := H3.wd.lt; have HH3 := Lib.hid H3; clear H3))
        all_goals clear c6 d4 dl
        all_goals
          have H3 := HH3.out
          have e0 := (H3.below.cell (p := ⟨b, _, none⟩) lb).trans HC0.out
          have e1 := (H3.below.cell (p := ⟨b, _, none⟩) lb).trans HC1.out
          have e2 := (H3.below.cell (p := ⟨b, _, none⟩) lb).trans HC2.out
          have e3 := (H3.below.cell (p := ⟨b, _, none⟩) lb).trans HC3.out
          have e4 := (H3.below.cell (p := ⟨b, _, none⟩) lb).trans HC4.out
          have e5 := (H3.below.cell (p := ⟨b, _, none⟩) lb).trans HC5.out
          have e6 := (H3.below.cell (p := ⟨b, _, none⟩) lb).trans HC6.out
          have e7 := (H3.below.cell (p := ⟨b, _, none⟩) lb).trans HC7.out
          have e8 := (H3.below.cell (p := ⟨b, _, none⟩) lb).trans HC8.out
          have e9 := (H3.below.cell (p := ⟨b, _, none⟩) lb).trans HC9.out
          have e10 := (H3.below.cell (p := ⟨b, _, none⟩) lb).trans HC10.out
          clear H3
          go_wp2_with (go_at_call 14; (with_reducible refine (HD.out W3 q3).mono ?_); rintro e W4 ⟨⟨x4', rfl⟩, V4, h4⟩; have HH4 := Lib.hid h4; have g0 := (h4.below.cell (p := ⟨b, _, none⟩) lb).trans HC0.out; have g6 := (h4.below.cell (p := ⟨b, _, none⟩) lb).trans HC6.out; have u4' := h4.wd.cell (k := 4) rfl; have ul' := h4.wd.lt; clear h4)
          clear e0 e1 e2 e3 e4 e5 e6 e7 e8 e9 e10
          have hlo2 := fun W (hW : Below W4.heap.size W4 W) => gloose_any (HH4.out.past hW) og
          rw [HBa.out] at hlo2
          have HLo2 := Lib.hid hlo2
          clear hlo2
          by_cases h8 : ok = 8
          · have hlw := HLaw.out h8
            subst h8
            cases bi
            · cases ba
              · refine wp_region_held_drew (S := (fun w' => w'.cell? ⟨wb, 4, none⟩ = some (.pointer (some ⟨A.dp, 0, none⟩)) ∧ w'.cell? ⟨b, off + k * 11, none⟩ = some (.int .i64 8) ∧ w'.cell? ⟨b, off + k * 11 + 6, none⟩ = some (.int .i64 og))) (by kernel_rfl) (by (try dsimp only); go_keep) (fun hHeld => ?_)
                refine' wpAnyH_take (i := 0) (v := _) rfl (by kernel_rfl) (by kernel_rfl) (by kernel_rfl) (fun _ _ _ h => h) (Or.inl ⟨by with_unfolding_all rfl, ?_⟩) (by assumption) ?_
                rotate_left
                focus (intro w hSw; (try dsimp only at hSw); go_simp; try (with_reducible rfl))
                try simp only [List.getElem_toArray, List.getElem_cons_zero, Act.put, List.setIfInBounds_toArray, List.set_cons_zero, List.set_cons_succ]
                refine' wpAnyH_take (i := 1) (v := _) rfl (by kernel_rfl) (by kernel_rfl) (by kernel_rfl) (fun _ _ _ h => h) (Or.inl ⟨by with_unfolding_all rfl, ?_⟩) (by assumption) ?_
                rotate_left
                focus (intro w hSw; (try dsimp only at hSw); go_simp; try (with_reducible rfl))
                try simp only [List.getElem_toArray, List.getElem_cons_zero, List.getElem_cons_succ, Act.put, List.setIfInBounds_toArray, List.set_cons_zero, List.set_cons_succ]
                refine' wpAnyH_take (i := 2) (v := _) rfl (by kernel_rfl) (by kernel_rfl) (by kernel_rfl) (fun _ _ _ h => h) (Or.inl ⟨by with_unfolding_all rfl, ?_⟩) (by assumption) ?_
                rotate_left
                focus (intro w hSw; (try dsimp only at hSw); go_simp; try (with_reducible rfl))
                try simp only [List.getElem_toArray, List.getElem_cons_zero, List.getElem_cons_succ, Act.put, List.setIfInBounds_toArray, List.set_cons_zero, List.set_cons_succ]
                refine' wpAnyH_take (i := 3) (v := _) rfl (by kernel_rfl) (by kernel_rfl) (by kernel_rfl) (fun _ _ _ h => h) (Or.inl ⟨by with_unfolding_all rfl, ?_⟩) (by assumption) ?_
                rotate_left
                focus (intro w hSw; (try dsimp only at hSw); go_simp; try (with_reducible rfl))
                try simp only [List.getElem_toArray, List.getElem_cons_zero, List.getElem_cons_succ, Act.put, List.setIfInBounds_toArray, List.set_cons_zero, List.set_cons_succ]
                refine' wpAnyH_take (i := 4) (v := _) rfl (by kernel_rfl) (by kernel_rfl) (by kernel_rfl) (fun _ _ _ h => h) (Or.inl ⟨by with_unfolding_all rfl, ?_⟩) (by assumption) ?_
                rotate_left
                focus (intro w hSw; (try dsimp only at hSw); go_simp; try (with_reducible rfl))
                try simp only [List.getElem_toArray, List.getElem_cons_zero, List.getElem_cons_succ, Act.put, List.setIfInBounds_toArray, List.set_cons_zero, List.set_cons_succ]
                refine' wpAnyH_take (i := 5) (v := _) rfl (by kernel_rfl) (by kernel_rfl) (by kernel_rfl) (fun _ _ _ h => h) (Or.inl ⟨by with_unfolding_all rfl, ?_⟩) (by assumption) ?_
                rotate_left
                focus (intro w hSw; (try dsimp only at hSw); go_simp; try (with_reducible rfl))
                try simp only [List.getElem_toArray, List.getElem_cons_zero, List.getElem_cons_succ, Act.put, List.setIfInBounds_toArray, List.set_cons_zero, List.set_cons_succ]
                refine' wpAnyH_take (i := 6) (v := _) rfl (by kernel_rfl) (by kernel_rfl) (by kernel_rfl) (fun _ _ _ h => h) (Or.inl ⟨by with_unfolding_all rfl, ?_⟩) (by assumption) ?_
                rotate_left
                focus (intro w hSw; (try dsimp only at hSw); go_simp; try (with_reducible rfl))
                try simp only [List.getElem_toArray, List.getElem_cons_zero, List.getElem_cons_succ, Act.put, List.setIfInBounds_toArray, List.set_cons_zero, List.set_cons_succ]
                refine' wpAnyH_take (i := 7) (v := _) rfl (by kernel_rfl) (by kernel_rfl) (by kernel_rfl) (fun _ _ _ h => h) (Or.inl ⟨by with_unfolding_all rfl, ?_⟩) (by assumption) ?_
                rotate_left
                focus (intro w hSw; (try dsimp only at hSw); go_simp; try (with_reducible rfl))
                try simp only [List.getElem_toArray, List.getElem_cons_zero, List.getElem_cons_succ, Act.put, List.setIfInBounds_toArray, List.set_cons_zero, List.set_cons_succ]
                refine' wpAnyH_take (i := 8) (v := _) rfl (by kernel_rfl) (by kernel_rfl) (by kernel_rfl) (fun _ _ _ h => h) (Or.inl ⟨by with_unfolding_all rfl, ?_⟩) (by assumption) ?_
                rotate_left
                focus (intro w hSw; (try dsimp only at hSw); go_simp; try (with_reducible rfl))
                try simp only [List.getElem_toArray, List.getElem_cons_zero, List.getElem_cons_succ, Act.put, List.setIfInBounds_toArray, List.set_cons_zero, List.set_cons_succ]
                refine wpAnyH_take (i := 9) (v := undef) rfl (by kernel_rfl) (by kernel_rfl) (by kernel_rfl) (fun _ _ _ h => h) (Or.inr ⟨by with_unfolding_all rfl, rfl⟩) (by assumption) ?_
                try simp only [List.getElem_toArray, List.getElem_cons_zero, List.getElem_cons_succ, Act.put, List.setIfInBounds_toArray, List.set_cons_zero, List.set_cons_succ]
                refine' wpAnyH_take (i := 10) (v := _) rfl (by kernel_rfl) (by kernel_rfl) (by kernel_rfl) (fun _ _ _ h => h) (Or.inl ⟨by with_unfolding_all rfl, ?_⟩) (by assumption) ?_
                rotate_left
                focus (intro w hSw; (try dsimp only at hSw); go_simp; try (with_reducible rfl))
                try simp only [List.getElem_toArray, List.getElem_cons_zero, List.getElem_cons_succ, Act.put, List.setIfInBounds_toArray, List.set_cons_zero, List.set_cons_succ]
                refine' wpAnyH_take (i := 11) (v := _) rfl (by kernel_rfl) (by kernel_rfl) (by kernel_rfl) (fun _ _ _ h => h) (Or.inl ⟨by with_unfolding_all rfl, ?_⟩) (by assumption) ?_
                rotate_left
                focus (intro w hSw; (try dsimp only at hSw); go_simp; try (with_reducible rfl))
                try simp only [List.getElem_toArray, List.getElem_cons_zero, List.getElem_cons_succ, Act.put, List.setIfInBounds_toArray, List.set_cons_zero, List.set_cons_succ]
                refine' wpAnyH_take (i := 12) (v := _) rfl (by kernel_rfl) (by kernel_rfl) (by kernel_rfl) (fun _ _ _ h => h) (Or.inl ⟨by with_unfolding_all rfl, ?_⟩) (by assumption) ?_
                rotate_left
                focus (intro w hSw; (try dsimp only at hSw); go_simp; try (with_reducible rfl))
                try simp only [List.getElem_toArray, List.getElem_cons_zero, List.getElem_cons_succ, Act.put, List.setIfInBounds_toArray, List.set_cons_zero, List.set_cons_succ]
                refine' wpAnyH_take (i := 13) (v := _) rfl (by kernel_rfl) (by kernel_rfl) (by kernel_rfl) (fun _ _ _ h => h) (Or.inl ⟨by with_unfolding_all rfl, ?_⟩) (by assumption) ?_
                rotate_left
                focus (intro w hSw; (try dsimp only at hSw); go_simp; try (with_reducible rfl))
                try simp only [List.getElem_toArray, List.getElem_cons_zero, List.getElem_cons_succ, Act.put, List.setIfInBounds_toArray, List.set_cons_zero, List.set_cons_succ]
                refine' wpAnyH_take (i := 14) (v := _) rfl (by kernel_rfl) (by kernel_rfl) (by kernel_rfl) (fun _ _ _ h => h) (Or.inl ⟨by with_unfolding_all rfl, ?_⟩) (by assumption) ?_
                rotate_left
                focus (intro w hSw; (try dsimp only at hSw); go_simp; try (with_reducible rfl))
                try simp only [List.getElem_toArray, List.getElem_cons_zero, List.getElem_cons_succ, Act.put, List.setIfInBounds_toArray, List.set_cons_zero, List.set_cons_succ]
                refine' wpAnyH_take (i := 15) (v := _) rfl (by kernel_rfl) (by kernel_rfl) (by kernel_rfl) (fun _ _ _ h => h) (Or.inl ⟨by with_unfolding_all rfl, ?_⟩) (by assumption) ?_
                rotate_left
                focus (intro w hSw; (try dsimp only at hSw); go_simp; try (with_reducible rfl))
                try simp only [List.getElem_toArray, List.getElem_cons_zero, List.getElem_cons_succ, Act.put, List.setIfInBounds_toArray, List.set_cons_zero, List.set_cons_succ]
                refine' wpAnyH_take (i := 16) (v := _) rfl (by kernel_rfl) (by kernel_rfl) (by kernel_rfl) (fun _ _ _ h => h) (Or.inl ⟨by with_unfolding_all rfl, ?_⟩) (by assumption) ?_
                rotate_left
                focus (intro w hSw; (try dsimp only at hSw); go_simp; try (with_reducible rfl))
                try simp only [List.getElem_toArray, List.getElem_cons_zero, List.getElem_cons_succ, Act.put, List.setIfInBounds_toArray, List.set_cons_zero, List.set_cons_succ]
                refine' wpAnyH_take (i := 17) (v := _) rfl (by kernel_rfl) (by kernel_rfl) (by kernel_rfl) (fun _ _ _ h => h) (Or.inl ⟨by with_unfolding_all rfl, ?_⟩) (by assumption) ?_
                rotate_left
                focus (intro w hSw; (try dsimp only at hSw); go_simp; try (with_reducible rfl))
                try simp only [List.getElem_toArray, List.getElem_cons_zero, List.getElem_cons_succ, Act.put, List.setIfInBounds_toArray, List.set_cons_zero, List.set_cons_succ]
                refine' wpAnyH_take (i := 18) (v := _) rfl (by kernel_rfl) (by kernel_rfl) (by kernel_rfl) (fun _ _ _ h => h) (Or.inl ⟨by with_unfolding_all rfl, ?_⟩) (by assumption) ?_
                rotate_left
                focus (intro w hSw; (try dsimp only at hSw); go_simp; try (with_reducible rfl))
                try simp only [List.getElem_toArray, List.getElem_cons_zero, List.getElem_cons_succ, Act.put, List.setIfInBounds_toArray, List.set_cons_zero, List.set_cons_succ]
                refine' wpAnyH_take (i := 19) (v := _) rfl (by kernel_rfl) (by kernel_rfl) (by kernel_rfl) (fun _ _ _ h => h) (Or.inl ⟨by with_unfolding_all rfl, ?_⟩) (by assumption) ?_
                rotate_left
                focus (intro w hSw; (try dsimp only at hSw); go_simp; try (with_reducible rfl))
                try simp only [List.getElem_toArray, List.getElem_cons_zero, List.getElem_cons_succ, Act.put, List.setIfInBounds_toArray, List.set_cons_zero, List.set_cons_succ]
                refine' wpAnyH_take (i := 20) (v := _) rfl (by kernel_rfl) (by kernel_rfl) (by kernel_rfl) (fun _ _ _ h => h) (Or.inl ⟨by with_unfolding_all rfl, ?_⟩) (by assumption) ?_
                rotate_left
                focus (intro w hSw; (try dsimp only at hSw); go_simp; try (with_reducible rfl))
                try simp only [List.getElem_toArray, List.getElem_cons_zero, List.getElem_cons_succ, Act.put, List.setIfInBounds_toArray, List.set_cons_zero, List.set_cons_succ]
                refine' wpAnyH_take (i := 21) (v := _) rfl (by kernel_rfl) (by kernel_rfl) (by kernel_rfl) (fun _ _ _ h => h) (Or.inl ⟨by with_unfolding_all rfl, ?_⟩) (by assumption) ?_
                rotate_left
                focus (intro w hSw; (try dsimp only at hSw); go_simp; try (with_reducible rfl))
                try simp only [List.getElem_toArray, List.getElem_cons_zero, List.getElem_cons_succ, Act.put, List.setIfInBounds_toArray, List.set_cons_zero, List.set_cons_succ]
                refine wpAnyH_ready (rs := [22]) (by kernel_rfl) (by simp) ?_
                refine AllReadyH.cons rfl (fun K hK => ?_) AllReadyH.nil
                rw [if_pos (by with_unfolding_all rfl)]
                go_simp
                (go_at_call 13; (with_reducible refine (HLo2.out _ ((Below.refl _ W4).drew)).mono ?_); rintro e W5 ⟨rfl, b5⟩; have q5 := (Below.refl W4.heap.size W4).drew.trans b5; have H5 := HH4.out.past q5; have g0 := (H5.below.cell (p := ⟨b, _, none⟩) lb).trans HC0.out; have g6 := (H5.below.cell (p := ⟨b, _, none⟩) lb).trans HC6.out; have z4 := H5.wd.cell (k := 4) rfl; have zl := H5.wd.lt; clear H5)
                refine hK.out _ _ (by (try dsimp only); go_keep) (fun hHeld => ?_)
                clear hK K
                try simp only [List.getElem_toArray, List.getElem_cons_zero, List.getElem_cons_succ, Act.put, List.setIfInBounds_toArray, List.set_cons_zero, List.set_cons_succ]
                refine' wpAnyH_take (i := 23) (v := _) rfl (by kernel_rfl) (by kernel_rfl) (by kernel_rfl) (fun _ _ _ h => h) (Or.inl ⟨by with_unfolding_all rfl, ?_⟩) (by assumption) ?_
                rotate_left
                focus (intro w hSw; (try dsimp only at hSw); go_simp; try (with_reducible rfl))
                try simp only [List.getElem_toArray, List.getElem_cons_zero, List.getElem_cons_succ, Act.put, List.setIfInBounds_toArray, List.set_cons_zero, List.set_cons_succ]
                refine wpAnyH_take (i := 24) (v := undef) rfl (by kernel_rfl) (by kernel_rfl) (by kernel_rfl) (fun _ _ _ h => h) (Or.inr ⟨by with_unfolding_all rfl, rfl⟩) (by assumption) ?_
                try simp only [List.getElem_toArray, List.getElem_cons_zero, List.getElem_cons_succ, Act.put, List.setIfInBounds_toArray, List.set_cons_zero, List.set_cons_succ]
                refine wpAnyH_take (i := 25) (v := undef) rfl (by kernel_rfl) (by kernel_rfl) (by kernel_rfl) (fun _ _ _ h => h) (Or.inr ⟨by with_unfolding_all rfl, rfl⟩) (by assumption) ?_
                try simp only [List.getElem_toArray, List.getElem_cons_zero, List.getElem_cons_succ, Act.put, List.setIfInBounds_toArray, List.set_cons_zero, List.set_cons_succ]
                refine' wpAnyH_take (i := 26) (v := _) rfl (by kernel_rfl) (by kernel_rfl) (by kernel_rfl) (fun _ _ _ h => h) (Or.inl ⟨by with_unfolding_all rfl, ?_⟩) (by assumption) ?_
                rotate_left
                focus (intro w hSw; (try dsimp only at hSw); go_simp; try (with_reducible rfl))
                try simp only [List.getElem_toArray, List.getElem_cons_zero, List.getElem_cons_succ, Act.put, List.setIfInBounds_toArray, List.set_cons_zero, List.set_cons_succ]
                refine' wpAnyH_take (i := 27) (v := _) rfl (by kernel_rfl) (by kernel_rfl) (by kernel_rfl) (fun _ _ _ h => h) (Or.inl ⟨by with_unfolding_all rfl, ?_⟩) (by assumption) ?_
                rotate_left
                focus (intro w hSw; (try dsimp only at hSw); go_simp; try (with_reducible rfl))
                try simp only [List.getElem_toArray, List.getElem_cons_zero, List.getElem_cons_succ, Act.put, List.setIfInBounds_toArray, List.set_cons_zero, List.set_cons_succ]
                refine' wpAnyH_take (i := 28) (v := _) rfl (by kernel_rfl) (by kernel_rfl) (by kernel_rfl) (fun _ _ _ h => h) (Or.inl ⟨by with_unfolding_all rfl, ?_⟩) (by assumption) ?_
                rotate_left
                focus (intro w hSw; (try dsimp only at hSw); go_simp; try (with_reducible rfl))
                try simp only [List.getElem_toArray, List.getElem_cons_zero, List.getElem_cons_succ, Act.put, List.setIfInBounds_toArray, List.set_cons_zero, List.set_cons_succ]
                refine' wpAnyH_take (i := 29) (v := _) rfl (by kernel_rfl) (by kernel_rfl) (by kernel_rfl) (fun _ _ _ h => h) (Or.inl ⟨by with_unfolding_all rfl, ?_⟩) (by assumption) ?_
                rotate_left
                focus (intro w hSw; (try dsimp only at hSw); go_simp; try (with_reducible rfl))
                try simp only [List.getElem_toArray, List.getElem_cons_zero, List.getElem_cons_succ, Act.put, List.setIfInBounds_toArray, List.set_cons_zero, List.set_cons_succ]
                refine wpAnyH_done (by kernel_rfl) ?_ _
                all_goals go_wp2_with fail
                all_goals
                  obtain ⟨WA, rfl⟩ : ∃ W, W = wr := ⟨_, rfl⟩
                  go_loopw [11] (fun i wr => ∃ g : Nat, g ≤ 16 ∧ i = .int .i64 g ∧ HG w wr A P24 V4 Gn [wld wb A]) (fun i _ => 16 - (intOf i).toNat)
                  case atStart => first | exact ⟨0, by omega, rfl, HH4.out.drewN _⟩ | exact ⟨0, by omega, rfl, HH4.out.past q5⟩
                  case round =>
                    obtain ⟨g, hg, rfl, H⟩ := hrel
                    by_cases hg16 : g < 16
                    · have hgz : (g : Int) < 16 := by omega
                      have hof := sof_any H.sx (g : Int)
                      have hlo := fun W (hW : Below wr.heap.size wr W) => gloose_any (H.past hW) (g : Int)
                      have hpr := fun W (hW : Below wr.heap.size wr W) => gprot_any (H.past hW) (g : Int)
                      have hlg := fun h => lo_g HIn.out (g : Int) h
                      have hgp : gprot Gn (g : Int) = (decide (0 < (sof Gn.s.ps (g : Int)).length) && !Gn.loose.contains (g : Int)) := rfl
                      obtain ⟨lo, hlo'⟩ : ∃ x, Gn.loose.contains (g : Int) = x := ⟨_, rfl⟩
                      obtain ⟨pr, hpr'⟩ : ∃ x, gprot Gn (g : Int) = x := ⟨_, rfl⟩
                      obtain ⟨L, hL⟩ : ∃ x, sof Gn.s.ps (g : Int) = x := ⟨_, rfl⟩
                      rw [hlo'] at hlo hgp hlg
                      rw [hpr'] at hpr hgp
                      rw [hL] at hof hgp hlg
                      obtain ⟨n, hn⟩ : ∃ n, L.length = n := ⟨_, rfl⟩
                      rw [hn] at hgp
                      have d2 := H.wd.cell (k := 2) rfl
                      have dl := H.wd.lt
                      have HOf := Lib.hid hof
                      have HLoG := Lib.hid hlo
                      have HPr := Lib.hid hpr
                      have HLg := Lib.hid hlg
                      have HGp := Lib.hid hgp
                      have HNn := Lib.hid hn
                      have HH := Lib.hid H
                      clear hof hlo hpr hlg hgp hn H hlo' hpr' hL
                      by_cases hn0 : n = 0
                      · subst hn0
                        have hlo0 : lo = false := by
                          cases lo
                          · rfl
                          · obtain ⟨p, kk, e1, _⟩ := HLg.out rfl
                            have := HNn.out
                            rw [e1] at this; simp at this
                        subst hlo0
                        have hpr0 : pr = false := by rw [HGp.out]; rfl
                        subst hpr0
                        go_upto_region 17 with (first | (go_at_call 15; (with_reducible refine HOf.out.mono ?_); rintro e W6 ⟨⟨v, rfl, hv⟩, b6⟩; obtain ⟨a6, c6, rfl⟩ := hv.form; rw [HNn.out] at hv ⊢; clear hv))
                        have Q := b6.trans ((bal W6 (.cells #[.int .i64 0, .int .i64 0, .int .i64 0] 37)).mono b6.size)
                        obtain ⟨kb, hkb⟩ : ∃ b, W6.heap.size = b := ⟨_, rfl⟩
                        obtain ⟨W7, hW7⟩ : ∃ W', W6.alloc (.cells #[.int .i64 0, .int .i64 0, .int .i64 0] 37) = W' := ⟨_, rfl⟩
                        rw [hW7, hkb]
                        rw [hW7] at Q
                        clear hW7 b6 hkb
                        have z4 := (HH.out.past Q).wd.cell (k := 4) rfl
                        have zl := (HH.out.past Q).wd.lt
                        go_wp2_with (first
                          | (go_at_call 13; (with_reducible refine (HLoG.out _ Q).mono ?_); rintro e W10 ⟨rfl, b10⟩; replace Q := Q.trans (b10.mono Q.size); clear b10; have z4' := (HH.out.past Q).wd.cell (k := 4) rfl; have zl' := (HH.out.past Q).wd.lt)
                          | (go_at_call 17; (with_reducible refine (HPr.out _ Q).mono ?_); rintro e W11 ⟨rfl, b11⟩; replace Q := Q.trans (b11.mono Q.size); clear b11; have z4'' := (HH.out.past Q).wd.cell (k := 4) rfl; have zl'' := (HH.out.past Q).wd.lt))
                        go_roundw
                        case rel => exact ⟨g + 1, by omega, by simp, HH.out.past Q⟩
                        case measure => simp [intOf]; omega
                      · have fn0 : decide ((n : Int) > 0) = true := decide_eq_true (by omega)
                        have hnL : 0 < L.length := by rw [HNn.out]; omega
                        obtain ⟨p, hp⟩ : ∃ x, L.getD 0 0 = x := ⟨_, rfl⟩
                        have hky := fun W (hW : Below wr.heap.size wr W) => skey_any (HH.out.past hW).sx p _ rfl
                        obtain ⟨⟨kg, kv, kr⟩, hk0⟩ : ∃ x, (skey Gn.s.ps p).getD key0 = x := ⟨_, rfl⟩
                        obtain ⟨ks, hks⟩ : ∃ x, (skey Gn.s.ps p).isSome = x := ⟨_, rfl⟩
                        rw [hk0, hks] at hky
                        have hyes : lo = true → n = 1 ∧ kv = 1 := fun h => by
                          obtain ⟨p', kk, e1, e2, e3⟩ := HLg.out h
                          have e4 := HNn.out
                          rw [e1] at hp e4
                          have e5 : p' = p := hp
                          rw [e5] at e2
                          rw [e2] at hk0
                          have e6 : kk = ⟨kg, kv, kr⟩ := hk0
                          rw [e6] at e3
                          exact ⟨e4.symm, e3⟩
                        have HKy := Lib.hid hky
                        have HYes := Lib.hid hyes
                        have HP := Lib.hid hp
                        have HnL := Lib.hid hnL
                        clear hky hyes hk0 hks hp hnL
                        go_upto_region 17 with (first | (go_at_call 15; (with_reducible refine HOf.out.mono ?_); rintro e W6 ⟨⟨v, rfl, hv⟩, b6⟩; obtain ⟨b9, c9, hv9, lb9, d9⟩ := hv.row.at 0 HnL.out; rw [HNn.out] at hv9; subst hv9; clear hv))
                        have Q := b6.trans ((bal W6 (.cells #[.int .i64 0, .int .i64 0, .int .i64 0] 37)).mono b6.size)
                        have hZ := Blk.new W6 37 [.int .i64 0, .int .i64 0, .int .i64 0]
                        have lb7 : b9 < (W6.alloc (.cells #[.int .i64 0, .int .i64 0, .int .i64 0] 37)).heap.size := by simp; omega
                        have d7 := ((bal W6 (.cells #[.int .i64 0, .int .i64 0, .int .i64 0] 37)).cell (p := ⟨b9, 0, none⟩) lb9).trans d9
                        rw [HP.out] at d7
                        have nkb : b9 ≠ W6.heap.size := by omega
                        have hkw : wr.heap.size ≤ W6.heap.size := b6.size
                        obtain ⟨kb, hkb⟩ : ∃ b, W6.heap.size = b := ⟨_, rfl⟩
                        obtain ⟨W7, hW7⟩ : ∃ W', W6.alloc (.cells #[.int .i64 0, .int .i64 0, .int .i64 0] 37) = W' := ⟨_, rfl⟩
                        rw [show (W6.alloc (.cells ([.int .i64 0, .int .i64 0, .int .i64 0] : List Value).toArray 37)) = W7 from hW7, hkb] at hZ
                        rw [hW7, hkb]
                        rw [hW7] at Q lb7 d7
                        rw [hkb] at nkb hkw
                        clear hW7 b6 hkb lb9 d9
                        have z2 := (HH.out.past Q).wd.cell (k := 2) rfl
                        have zl := (HH.out.past Q).wd.lt
                        have HZ := Lib.hid hZ
                        have HQ := Lib.hid Q
                        have D7 := Lib.hid d7
                        have kl := hZ.lt
                        have nwb : wb ≠ kb := by omega
                        have nwb' : kb ≠ wb := fun e => nwb e.symm
                        have nkb' : kb ≠ b9 := fun e => nkb e.symm
                        clear hZ Q d2 dl
                        go_wp2_with fail
                        go_region_held3 (fun w' => w'.cell? ⟨wb, 2, none⟩ = some (.pointer (some ⟨A.sp, 0, none⟩)) ∧ w'.cell? ⟨b9, 0, none⟩ = some (.int .i64 p)) (go_keep) (first
                          | (go_at_call 16; (with_reducible refine (HKy.out _ HQ.out.drew).mono ?_); rintro e W8 ⟨rfl, b8⟩; have q8 := (Below.refl W7.heap.size W7).drew.trans b8; have ZP := HZ.out.past q8; have zc0 := ZP.cell (k := 0) rfl; have zc1 := ZP.cell (k := 1) rfl; have zc2 := ZP.cell (k := 2) rfl; have zcf := fun j => ZP.free j; have zcl := ZP.lt; have y2 := (HH.out.past (HQ.out.trans (q8.mono HQ.out.size))).wd.cell (k := 2) rfl; have yl := (HH.out.past (HQ.out.trans (q8.mono HQ.out.size))).wd.lt; have y9 := (q8.cell (p := ⟨b9, 0, none⟩) lb7).trans D7.out; have yb9 := Nat.lt_of_lt_of_le lb7 q8.size))
                        all_goals
                          obtain ⟨P9, Q9⟩ := set3 (.int .i64 kg) (.int .i64 kv) (.int .i64 kr) ZP (HQ.out.trans (q8.mono HQ.out.size)) hkw
                          obtain ⟨W9, hW9⟩ : ∃ W', ((W8.setCell ⟨kb, 0, none⟩ (.int .i64 kg)).setCell ⟨kb, 1, none⟩ (.int .i64 kv)).setCell ⟨kb, 2, none⟩ (.int .i64 kr) = W' := ⟨_, rfl⟩
                          rw [hW9] at P9 Q9
                          rw [hW9]
                          clear hW9 q8 b8 ZP zc0 zc1 zc2 zcf zcl y2 yl y9 yb9
                          have v1 := P9.cell (k := 1) rfl
                          have vl := P9.lt
                          have v4 := (HH.out.past Q9).wd.cell (k := 4) rfl
                          have vwl := (HH.out.past Q9).wd.lt
                          have HP9 := Lib.hid P9
                          have HQ9 := Lib.hid Q9
                          clear P9 Q9
                          have Q := Below.refl W9.heap.size W9
                          cases lo with
                          | true =>
                            obtain ⟨hn1, hv1⟩ := HYes.out rfl
                            have fn1 : ((n : Int) != 1) = false := by rw [hn1]; rfl
                            have fv1 : (kv != 1) = false := by rw [hv1]; rfl
                            have hpr0 : pr = false := by rw [HGp.out]; simp
                            subst hpr0
                            clear hn1 hv1
                            go_wp2_with (first
                              | (go_at_call 13; (with_reducible refine (HLoG.out _ (HQ9.out.trans (Q.mono HQ9.out.size))).mono ?_); rintro e W10 ⟨rfl, b10⟩; replace Q := Q.trans (b10.mono Q.size); clear b10; have z4' := ((HH.out.past HQ9.out).past Q).wd.cell (k := 4) rfl; have zl' := ((HH.out.past HQ9.out).past Q).wd.lt; have v1' := (HP9.out.past Q).cell (k := 1) rfl; have vl' := (HP9.out.past Q).lt)
                              | (go_at_call 17; (with_reducible refine (HPr.out _ (HQ9.out.trans (Q.mono HQ9.out.size))).mono ?_); rintro e W11 ⟨rfl, b11⟩; replace Q := Q.trans (b11.mono Q.size); clear b11; have z4'' := ((HH.out.past HQ9.out).past Q).wd.cell (k := 4) rfl; have zl'' := ((HH.out.past HQ9.out).past Q).wd.lt))
                            go_roundw
                            case rel => exact ⟨g + 1, by omega, by simp, (HH.out.past HQ9.out).past Q⟩
                            case measure => simp [intOf]; omega
                          | false =>
                            have hpr0 : pr = true := by rw [HGp.out, decide_eq_true (by omega)]; rfl
                            subst hpr0
                            go_wp2_with (first
                              | (go_at_call 13; (with_reducible refine (HLoG.out _ (HQ9.out.trans (Q.mono HQ9.out.size))).mono ?_); rintro e W10 ⟨rfl, b10⟩; replace Q := Q.trans (b10.mono Q.size); clear b10; have z4' := ((HH.out.past HQ9.out).past Q).wd.cell (k := 4) rfl; have zl' := ((HH.out.past HQ9.out).past Q).wd.lt)
                              | (go_at_call 17; (with_reducible refine (HPr.out _ (HQ9.out.trans (Q.mono HQ9.out.size))).mono ?_); rintro e W11 ⟨rfl, b11⟩; replace Q := Q.trans (b11.mono Q.size); clear b11; have z4'' := ((HH.out.past HQ9.out).past Q).wd.cell (k := 4) rfl; have zl'' := ((HH.out.past HQ9.out).past Q).wd.lt))
                            go_roundw
                            case rel => exact ⟨g + 1, by omega, by simp, (HH.out.past HQ9.out).past Q⟩
                            case measure => simp [intOf]; omega
                    · have fg : decide ((g : Int) < 16) = false := decide_eq_false (by omega)
                      have HH := Lib.hid H
                      clear H
                      go_wp2_with fail
                      go_roundw
                      case rel => exact ⟨k + 1, by omega, by simp, V4, by rw [HN.out]; exact HH.out⟩
                      case measure => simp [intOf]; omega
              · obtain rfl : bw = true := by
                  cases bw
                  · exact absurd hlw (by decide)
                  · rfl
                refine wp_region_held_drew (S := (fun w' => w'.cell? ⟨wb, 4, none⟩ = some (.pointer (some ⟨A.dp, 0, none⟩)) ∧ w'.cell? ⟨b, off + k * 11, none⟩ = some (.int .i64 8) ∧ w'.cell? ⟨b, off + k * 11 + 6, none⟩ = some (.int .i64 og))) (by kernel_rfl) (by (try dsimp only); go_keep) (fun hHeld => ?_)
                refine' wpAnyH_take (i := 0) (v := _) rfl (by kernel_rfl) (by kernel_rfl) (by kernel_rfl) (fun _ _ _ h => h) (Or.inl ⟨by with_unfolding_all rfl, ?_⟩) (by assumption) ?_
                rotate_left
                focus (intro w hSw; (try dsimp only at hSw); go_simp; try (with_reducible rfl))
                try simp only [List.getElem_toArray, List.getElem_cons_zero, Act.put, List.setIfInBounds_toArray, List.set_cons_zero, List.set_cons_succ]
                refine' wpAnyH_take (i := 1) (v := _) rfl (by kernel_rfl) (by kernel_rfl) (by kernel_rfl) (fun _ _ _ h => h) (Or.inl ⟨by with_unfolding_all rfl, ?_⟩) (by assumption) ?_
                rotate_left
                focus (intro w hSw; (try dsimp only at hSw); go_simp; try (with_reducible rfl))
                try simp only [List.getElem_toArray, List.getElem_cons_zero, List.getElem_cons_succ, Act.put, List.setIfInBounds_toArray, List.set_cons_zero, List.set_cons_succ]
                refine' wpAnyH_take (i := 2) (v := _) rfl (by kernel_rfl) (by kernel_rfl) (by kernel_rfl) (fun _ _ _ h => h) (Or.inl ⟨by with_unfolding_all rfl, ?_⟩) (by assumption) ?_
                rotate_left
                focus (intro w hSw; (try dsimp only at hSw); go_simp; try (with_reducible rfl))
                try simp only [List.getElem_toArray, List.getElem_cons_zero, List.getElem_cons_succ, Act.put, List.setIfInBounds_toArray, List.set_cons_zero, List.set_cons_succ]
                refine' wpAnyH_take (i := 3) (v := _) rfl (by kernel_rfl) (by kernel_rfl) (by kernel_rfl) (fun _ _ _ h => h) (Or.inl ⟨by with_unfolding_all rfl, ?_⟩) (by assumption) ?_
                rotate_left
                focus (intro w hSw; (try dsimp only at hSw); go_simp; try (with_reducible rfl))
                try simp only [List.getElem_toArray, List.getElem_cons_zero, List.getElem_cons_succ, Act.put, List.setIfInBounds_toArray, List.set_cons_zero, List.set_cons_succ]
                refine' wpAnyH_take (i := 4) (v := _) rfl (by kernel_rfl) (by kernel_rfl) (by kernel_rfl) (fun _ _ _ h => h) (Or.inl ⟨by with_unfolding_all rfl, ?_⟩) (by assumption) ?_
                rotate_left
                focus (intro w hSw; (try dsimp only at hSw); go_simp; try (with_reducible rfl))
                try simp only [List.getElem_toArray, List.getElem_cons_zero, List.getElem_cons_succ, Act.put, List.setIfInBounds_toArray, List.set_cons_zero, List.set_cons_succ]
                refine' wpAnyH_take (i := 5) (v := _) rfl (by kernel_rfl) (by kernel_rfl) (by kernel_rfl) (fun _ _ _ h => h) (Or.inl ⟨by with_unfolding_all rfl, ?_⟩) (by assumption) ?_
                rotate_left
                focus (intro w hSw; (try dsimp only at hSw); go_simp; try (with_reducible rfl))
                try simp only [List.getElem_toArray, List.getElem_cons_zero, List.getElem_cons_succ, Act.put, List.setIfInBounds_toArray, List.set_cons_zero, List.set_cons_succ]
                refine' wpAnyH_take (i := 6) (v := _) rfl (by kernel_rfl) (by kernel_rfl) (by kernel_rfl) (fun _ _ _ h => h) (Or.inl ⟨by with_unfolding_all rfl, ?_⟩) (by assumption) ?_
                rotate_left
                focus (intro w hSw; (try dsimp only at hSw); go_simp; try (with_reducible rfl))
                try simp only [List.getElem_toArray, List.getElem_cons_zero, List.getElem_cons_succ, Act.put, List.setIfInBounds_toArray, List.set_cons_zero, List.set_cons_succ]
                refine' wpAnyH_take (i := 7) (v := _) rfl (by kernel_rfl) (by kernel_rfl) (by kernel_rfl) (fun _ _ _ h => h) (Or.inl ⟨by with_unfolding_all rfl, ?_⟩) (by assumption) ?_
                rotate_left
                focus (intro w hSw; (try dsimp only at hSw); go_simp; try (with_reducible rfl))
                try simp only [List.getElem_toArray, List.getElem_cons_zero, List.getElem_cons_succ, Act.put, List.setIfInBounds_toArray, List.set_cons_zero, List.set_cons_succ]
                refine' wpAnyH_take (i := 8) (v := _) rfl (by kernel_rfl) (by kernel_rfl) (by kernel_rfl) (fun _ _ _ h => h) (Or.inl ⟨by with_unfolding_all rfl, ?_⟩) (by assumption) ?_
                rotate_left
                focus (intro w hSw; (try dsimp only at hSw); go_simp; try (with_reducible rfl))
                try simp only [List.getElem_toArray, List.getElem_cons_zero, List.getElem_cons_succ, Act.put, List.setIfInBounds_toArray, List.set_cons_zero, List.set_cons_succ]
                refine wpAnyH_take (i := 9) (v := undef) rfl (by kernel_rfl) (by kernel_rfl) (by kernel_rfl) (fun _ _ _ h => h) (Or.inr ⟨by with_unfolding_all rfl, rfl⟩) (by assumption) ?_
                try simp only [List.getElem_toArray, List.getElem_cons_zero, List.getElem_cons_succ, Act.put, List.setIfInBounds_toArray, List.set_cons_zero, List.set_cons_succ]
                refine' wpAnyH_take (i := 10) (v := _) rfl (by kernel_rfl) (by kernel_rfl) (by kernel_rfl) (fun _ _ _ h => h) (Or.inl ⟨by with_unfolding_all rfl, ?_⟩) (by assumption) ?_
                rotate_left
                focus (intro w hSw; (try dsimp only at hSw); go_simp; try (with_reducible rfl))
                try simp only [List.getElem_toArray, List.getElem_cons_zero, List.getElem_cons_succ, Act.put, List.setIfInBounds_toArray, List.set_cons_zero, List.set_cons_succ]
                refine' wpAnyH_take (i := 11) (v := _) rfl (by kernel_rfl) (by kernel_rfl) (by kernel_rfl) (fun _ _ _ h => h) (Or.inl ⟨by with_unfolding_all rfl, ?_⟩) (by assumption) ?_
                rotate_left
                focus (intro w hSw; (try dsimp only at hSw); go_simp; try (with_reducible rfl))
                try simp only [List.getElem_toArray, List.getElem_cons_zero, List.getElem_cons_succ, Act.put, List.setIfInBounds_toArray, List.set_cons_zero, List.set_cons_succ]
                refine' wpAnyH_take (i := 12) (v := _) rfl (by kernel_rfl) (by kernel_rfl) (by kernel_rfl) (fun _ _ _ h => h) (Or.inl ⟨by with_unfolding_all rfl, ?_⟩) (by assumption) ?_
                rotate_left
                focus (intro w hSw; (try dsimp only at hSw); go_simp; try (with_reducible rfl))
                try simp only [List.getElem_toArray, List.getElem_cons_zero, List.getElem_cons_succ, Act.put, List.setIfInBounds_toArray, List.set_cons_zero, List.set_cons_succ]
                refine' wpAnyH_take (i := 13) (v := _) rfl (by kernel_rfl) (by kernel_rfl) (by kernel_rfl) (fun _ _ _ h => h) (Or.inl ⟨by with_unfolding_all rfl, ?_⟩) (by assumption) ?_
                rotate_left
                focus (intro w hSw; (try dsimp only at hSw); go_simp; try (with_reducible rfl))
                try simp only [List.getElem_toArray, List.getElem_cons_zero, List.getElem_cons_succ, Act.put, List.setIfInBounds_toArray, List.set_cons_zero, List.set_cons_succ]
                refine' wpAnyH_take (i := 14) (v := _) rfl (by kernel_rfl) (by kernel_rfl) (by kernel_rfl) (fun _ _ _ h => h) (Or.inl ⟨by with_unfolding_all rfl, ?_⟩) (by assumption) ?_
                rotate_left
                focus (intro w hSw; (try dsimp only at hSw); go_simp; try (with_reducible rfl))
                try simp only [List.getElem_toArray, List.getElem_cons_zero, List.getElem_cons_succ, Act.put, List.setIfInBounds_toArray, List.set_cons_zero, List.set_cons_succ]
                refine' wpAnyH_take (i := 15) (v := _) rfl (by kernel_rfl) (by kernel_rfl) (by kernel_rfl) (fun _ _ _ h => h) (Or.inl ⟨by with_unfolding_all rfl, ?_⟩) (by assumption) ?_
                rotate_left
                focus (intro w hSw; (try dsimp only at hSw); go_simp; try (with_reducible rfl))
                try simp only [List.getElem_toArray, List.getElem_cons_zero, List.getElem_cons_succ, Act.put, List.setIfInBounds_toArray, List.set_cons_zero, List.set_cons_succ]
                refine' wpAnyH_take (i := 16) (v := _) rfl (by kernel_rfl) (by kernel_rfl) (by kernel_rfl) (fun _ _ _ h => h) (Or.inl ⟨by with_unfolding_all rfl, ?_⟩) (by assumption) ?_
                rotate_left
                focus (intro w hSw; (try dsimp only at hSw); go_simp; try (with_reducible rfl))
                try simp only [List.getElem_toArray, List.getElem_cons_zero, List.getElem_cons_succ, Act.put, List.setIfInBounds_toArray, List.set_cons_zero, List.set_cons_succ]
                refine' wpAnyH_take (i := 17) (v := _) rfl (by kernel_rfl) (by kernel_rfl) (by kernel_rfl) (fun _ _ _ h => h) (Or.inl ⟨by with_unfolding_all rfl, ?_⟩) (by assumption) ?_
                rotate_left
                focus (intro w hSw; (try dsimp only at hSw); go_simp; try (with_reducible rfl))
                try simp only [List.getElem_toArray, List.getElem_cons_zero, List.getElem_cons_succ, Act.put, List.setIfInBounds_toArray, List.set_cons_zero, List.set_cons_succ]
                refine' wpAnyH_take (i := 18) (v := _) rfl (by kernel_rfl) (by kernel_rfl) (by kernel_rfl) (fun _ _ _ h => h) (Or.inl ⟨by with_unfolding_all rfl, ?_⟩) (by assumption) ?_
                rotate_left
                focus (intro w hSw; (try dsimp only at hSw); go_simp; try (with_reducible rfl))
                try simp only [List.getElem_toArray, List.getElem_cons_zero, List.getElem_cons_succ, Act.put, List.setIfInBounds_toArray, List.set_cons_zero, List.set_cons_succ]
                refine' wpAnyH_take (i := 19) (v := _) rfl (by kernel_rfl) (by kernel_rfl) (by kernel_rfl) (fun _ _ _ h => h) (Or.inl ⟨by with_unfolding_all rfl, ?_⟩) (by assumption) ?_
                rotate_left
                focus (intro w hSw; (try dsimp only at hSw); go_simp; try (with_reducible rfl))
                try simp only [List.getElem_toArray, List.getElem_cons_zero, List.getElem_cons_succ, Act.put, List.setIfInBounds_toArray, List.set_cons_zero, List.set_cons_succ]
                refine' wpAnyH_take (i := 20) (v := _) rfl (by kernel_rfl) (by kernel_rfl) (by kernel_rfl) (fun _ _ _ h => h) (Or.inl ⟨by with_unfolding_all rfl, ?_⟩) (by assumption) ?_
                rotate_left
                focus (intro w hSw; (try dsimp only at hSw); go_simp; try (with_reducible rfl))
                try simp only [List.getElem_toArray, List.getElem_cons_zero, List.getElem_cons_succ, Act.put, List.setIfInBounds_toArray, List.set_cons_zero, List.set_cons_succ]
                refine' wpAnyH_take (i := 21) (v := _) rfl (by kernel_rfl) (by kernel_rfl) (by kernel_rfl) (fun _ _ _ h => h) (Or.inl ⟨by with_unfolding_all rfl, ?_⟩) (by assumption) ?_
                rotate_left
                focus (intro w hSw; (try dsimp only at hSw); go_simp; try (with_reducible rfl))
                try simp only [List.getElem_toArray, List.getElem_cons_zero, List.getElem_cons_succ, Act.put, List.setIfInBounds_toArray, List.set_cons_zero, List.set_cons_succ]
                refine wpAnyH_ready (rs := [22]) (by kernel_rfl) (by simp) ?_
                refine AllReadyH.cons rfl (fun K hK => ?_) AllReadyH.nil
                rw [if_pos (by with_unfolding_all rfl)]
                go_simp
                (go_at_call 13; (with_reducible refine (HLo2.out _ ((Below.refl _ W4).drew)).mono ?_); rintro e W5 ⟨rfl, b5⟩; have q5 := (Below.refl W4.heap.size W4).drew.trans b5; have H5 := HH4.out.past q5; have g0 := (H5.below.cell (p := ⟨b, _, none⟩) lb).trans HC0.out; have g6 := (H5.below.cell (p := ⟨b, _, none⟩) lb).trans HC6.out; have z4 := H5.wd.cell (k := 4) rfl; have zl := H5.wd.lt; clear H5)
                refine hK.out _ _ (by (try dsimp only); go_keep) (fun hHeld => ?_)
                clear hK K
                try simp only [List.getElem_toArray, List.getElem_cons_zero, List.getElem_cons_succ, Act.put, List.setIfInBounds_toArray, List.set_cons_zero, List.set_cons_succ]
                refine' wpAnyH_take (i := 23) (v := _) rfl (by kernel_rfl) (by kernel_rfl) (by kernel_rfl) (fun _ _ _ h => h) (Or.inl ⟨by with_unfolding_all rfl, ?_⟩) (by assumption) ?_
                rotate_left
                focus (intro w hSw; (try dsimp only at hSw); go_simp; try (with_reducible rfl))
                try simp only [List.getElem_toArray, List.getElem_cons_zero, List.getElem_cons_succ, Act.put, List.setIfInBounds_toArray, List.set_cons_zero, List.set_cons_succ]
                refine' wpAnyH_take (i := 24) (v := _) rfl (by kernel_rfl) (by kernel_rfl) (by kernel_rfl) (fun _ _ _ h => h) (Or.inl ⟨by with_unfolding_all rfl, ?_⟩) (by assumption) ?_
                rotate_left
                focus (intro w hSw; (try dsimp only at hSw); go_simp; try (with_reducible rfl))
                try simp only [List.getElem_toArray, List.getElem_cons_zero, List.getElem_cons_succ, Act.put, List.setIfInBounds_toArray, List.set_cons_zero, List.set_cons_succ]
                refine' wpAnyH_take (i := 25) (v := _) rfl (by kernel_rfl) (by kernel_rfl) (by kernel_rfl) (fun _ _ _ h => h) (Or.inl ⟨by with_unfolding_all rfl, ?_⟩) (by assumption) ?_
                rotate_left
                focus (intro w hSw; (try dsimp only at hSw); go_simp; try (with_reducible rfl))
                try simp only [List.getElem_toArray, List.getElem_cons_zero, List.getElem_cons_succ, Act.put, List.setIfInBounds_toArray, List.set_cons_zero, List.set_cons_succ]
                refine' wpAnyH_take (i := 26) (v := _) rfl (by kernel_rfl) (by kernel_rfl) (by kernel_rfl) (fun _ _ _ h => h) (Or.inl ⟨by with_unfolding_all rfl, ?_⟩) (by assumption) ?_
                rotate_left
                focus (intro w hSw; (try dsimp only at hSw); go_simp; try (with_reducible rfl))
                try simp only [List.getElem_toArray, List.getElem_cons_zero, List.getElem_cons_succ, Act.put, List.setIfInBounds_toArray, List.set_cons_zero, List.set_cons_succ]
                refine' wpAnyH_take (i := 27) (v := _) rfl (by kernel_rfl) (by kernel_rfl) (by kernel_rfl) (fun _ _ _ h => h) (Or.inl ⟨by with_unfolding_all rfl, ?_⟩) (by assumption) ?_
                rotate_left
                focus (intro w hSw; (try dsimp only at hSw); go_simp; try (with_reducible rfl))
                try simp only [List.getElem_toArray, List.getElem_cons_zero, List.getElem_cons_succ, Act.put, List.setIfInBounds_toArray, List.set_cons_zero, List.set_cons_succ]
                refine' wpAnyH_take (i := 28) (v := _) rfl (by kernel_rfl) (by kernel_rfl) (by kernel_rfl) (fun _ _ _ h => h) (Or.inl ⟨by with_unfolding_all rfl, ?_⟩) (by assumption) ?_
                rotate_left
                focus (intro w hSw; (try dsimp only at hSw); go_simp; try (with_reducible rfl))
                try simp only [List.getElem_toArray, List.getElem_cons_zero, List.getElem_cons_succ, Act.put, List.setIfInBounds_toArray, List.set_cons_zero, List.set_cons_succ]
                refine' wpAnyH_take (i := 29) (v := _) rfl (by kernel_rfl) (by kernel_rfl) (by kernel_rfl) (fun _ _ _ h => h) (Or.inl ⟨by with_unfolding_all rfl, ?_⟩) (by assumption) ?_
                rotate_left
                focus (intro w hSw; (try dsimp only at hSw); go_simp; try (with_reducible rfl))
                try simp only [List.getElem_toArray, List.getElem_cons_zero, List.getElem_cons_succ, Act.put, List.setIfInBounds_toArray, List.set_cons_zero, List.set_cons_succ]
                refine wpAnyH_done (by kernel_rfl) ?_ _
                all_goals go_wp2_with fail
                all_goals
                  obtain ⟨WA, rfl⟩ : ∃ W, W = wr := ⟨_, rfl⟩
                  go_loopw [11] (fun i wr => ∃ g : Nat, g ≤ 16 ∧ i = .int .i64 g ∧ HG w wr A P24 V4 Gn [wld wb A]) (fun i _ => 16 - (intOf i).toNat)
                  case atStart => first | exact ⟨0, by omega, rfl, HH4.out.drewN _⟩ | exact ⟨0, by omega, rfl, HH4.out.past q5⟩
                  case round =>
                    obtain ⟨g, hg, rfl, H⟩ := hrel
                    by_cases hg16 : g < 16
                    · have hgz : (g : Int) < 16 := by omega
                      have hof := sof_any H.sx (g : Int)
                      have hlo := fun W (hW : Below wr.heap.size wr W) => gloose_any (H.past hW) (g : Int)
                      have hpr := fun W (hW : Below wr.heap.size wr W) => gprot_any (H.past hW) (g : Int)
                      have hlg := fun h => lo_g HIn.out (g : Int) h
                      have hgp : gprot Gn (g : Int) = (decide (0 < (sof Gn.s.ps (g : Int)).length) && !Gn.loose.contains (g : Int)) := rfl
                      obtain ⟨lo, hlo'⟩ : ∃ x, Gn.loose.contains (g : Int) = x := ⟨_, rfl⟩
                      obtain ⟨pr, hpr'⟩ : ∃ x, gprot Gn (g : Int) = x := ⟨_, rfl⟩
                      obtain ⟨L, hL⟩ : ∃ x, sof Gn.s.ps (g : Int) = x := ⟨_, rfl⟩
                      rw [hlo'] at hlo hgp hlg
                      rw [hpr'] at hpr hgp
                      rw [hL] at hof hgp hlg
                      obtain ⟨n, hn⟩ : ∃ n, L.length = n := ⟨_, rfl⟩
                      rw [hn] at hgp
                      have d2 := H.wd.cell (k := 2) rfl
                      have dl := H.wd.lt
                      have HOf := Lib.hid hof
                      have HLoG := Lib.hid hlo
                      have HPr := Lib.hid hpr
                      have HLg := Lib.hid hlg
                      have HGp := Lib.hid hgp
                      have HNn := Lib.hid hn
                      have HH := Lib.hid H
                      clear hof hlo hpr hlg hgp hn H hlo' hpr' hL
                      by_cases hn0 : n = 0
                      · subst hn0
                        have hlo0 : lo = false := by
                          cases lo
                          · rfl
                          · obtain ⟨p, kk, e1, _⟩ := HLg.out rfl
                            have := HNn.out
                            rw [e1] at this; simp at this
                        subst hlo0
                        have hpr0 : pr = false := by rw [HGp.out]; rfl
                        subst hpr0
                        go_upto_region 17 with (first | (go_at_call 15; (with_reducible refine HOf.out.mono ?_); rintro e W6 ⟨⟨v, rfl, hv⟩, b6⟩; obtain ⟨a6, c6, rfl⟩ := hv.form; rw [HNn.out] at hv ⊢; clear hv))
                        have Q := b6.trans ((bal W6 (.cells #[.int .i64 0, .int .i64 0, .int .i64 0] 37)).mono b6.size)
                        obtain ⟨kb, hkb⟩ : ∃ b, W6.heap.size = b := ⟨_, rfl⟩
                        obtain ⟨W7, hW7⟩ : ∃ W', W6.alloc (.cells #[.int .i64 0, .int .i64 0, .int .i64 0] 37) = W' := ⟨_, rfl⟩
                        rw [hW7, hkb]
                        rw [hW7] at Q
                        clear hW7 b6 hkb
                        have z4 := (HH.out.past Q).wd.cell (k := 4) rfl
                        have zl := (HH.out.past Q).wd.lt
                        go_wp2_with (first
                          | (go_at_call 13; (with_reducible refine (HLoG.out _ Q).mono ?_); rintro e W10 ⟨rfl, b10⟩; replace Q := Q.trans (b10.mono Q.size); clear b10; have z4' := (HH.out.past Q).wd.cell (k := 4) rfl; have zl' := (HH.out.past Q).wd.lt)
                          | (go_at_call 17; (with_reducible refine (HPr.out _ Q).mono ?_); rintro e W11 ⟨rfl, b11⟩; replace Q := Q.trans (b11.mono Q.size); clear b11; have z4'' := (HH.out.past Q).wd.cell (k := 4) rfl; have zl'' := (HH.out.past Q).wd.lt))
                        go_roundw
                        case rel => exact ⟨g + 1, by omega, by simp, HH.out.past Q⟩
                        case measure => simp [intOf]; omega
                      · have fn0 : decide ((n : Int) > 0) = true := decide_eq_true (by omega)
                        have hnL : 0 < L.length := by rw [HNn.out]; omega
                        obtain ⟨p, hp⟩ : ∃ x, L.getD 0 0 = x := ⟨_, rfl⟩
                        have hky := fun W (hW : Below wr.heap.size wr W) => skey_any (HH.out.past hW).sx p _ rfl
                        obtain ⟨⟨kg, kv, kr⟩, hk0⟩ : ∃ x, (skey Gn.s.ps p).getD key0 = x := ⟨_, rfl⟩
                        obtain ⟨ks, hks⟩ : ∃ x, (skey Gn.s.ps p).isSome = x := ⟨_, rfl⟩
                        rw [hk0, hks] at hky
                        have hyes : lo = true → n = 1 ∧ kv = 1 := fun h => by
                          obtain ⟨p', kk, e1, e2, e3⟩ := HLg.out h
                          have e4 := HNn.out
                          rw [e1] at hp e4
                          have e5 : p' = p := hp
                          rw [e5] at e2
                          rw [e2] at hk0
                          have e6 : kk = ⟨kg, kv, kr⟩ := hk0
                          rw [e6] at e3
                          exact ⟨e4.symm, e3⟩
                        have HKy := Lib.hid hky
                        have HYes := Lib.hid hyes
                        have HP := Lib.hid hp
                        have HnL := Lib.hid hnL
                        clear hky hyes hk0 hks hp hnL
                        go_upto_region 17 with (first | (go_at_call 15; (with_reducible refine HOf.out.mono ?_); rintro e W6 ⟨⟨v, rfl, hv⟩, b6⟩; obtain ⟨b9, c9, hv9, lb9, d9⟩ := hv.row.at 0 HnL.out; rw [HNn.out] at hv9; subst hv9; clear hv))
                        have Q := b6.trans ((bal W6 (.cells #[.int .i64 0, .int .i64 0, .int .i64 0] 37)).mono b6.size)
                        have hZ := Blk.new W6 37 [.int .i64 0, .int .i64 0, .int .i64 0]
                        have lb7 : b9 < (W6.alloc (.cells #[.int .i64 0, .int .i64 0, .int .i64 0] 37)).heap.size := by simp; omega
                        have d7 := ((bal W6 (.cells #[.int .i64 0, .int .i64 0, .int .i64 0] 37)).cell (p := ⟨b9, 0, none⟩) lb9).trans d9
                        rw [HP.out] at d7
                        have nkb : b9 ≠ W6.heap.size := by omega
                        have hkw : wr.heap.size ≤ W6.heap.size := b6.size
                        obtain ⟨kb, hkb⟩ : ∃ b, W6.heap.size = b := ⟨_, rfl⟩
                        obtain ⟨W7, hW7⟩ : ∃ W', W6.alloc (.cells #[.int .i64 0, .int .i64 0, .int .i64 0] 37) = W' := ⟨_, rfl⟩
                        rw [show (W6.alloc (.cells ([.int .i64 0, .int .i64 0, .int .i64 0] : List Value).toArray 37)) = W7 from hW7, hkb] at hZ
                        rw [hW7, hkb]
                        rw [hW7] at Q lb7 d7
                        rw [hkb] at nkb hkw
                        clear hW7 b6 hkb lb9 d9
                        have z2 := (HH.out.past Q).wd.cell (k := 2) rfl
                        have zl := (HH.out.past Q).wd.lt
                        have HZ := Lib.hid hZ
                        have HQ := Lib.hid Q
                        have D7 := Lib.hid d7
                        have kl := hZ.lt
                        have nwb : wb ≠ kb := by omega
                        have nwb' : kb ≠ wb := fun e => nwb e.symm
                        have nkb' : kb ≠ b9 := fun e => nkb e.symm
                        clear hZ Q d2 dl
                        go_wp2_with fail
                        go_region_held3 (fun w' => w'.cell? ⟨wb, 2, none⟩ = some (.pointer (some ⟨A.sp, 0, none⟩)) ∧ w'.cell? ⟨b9, 0, none⟩ = some (.int .i64 p)) (go_keep) (first
                          | (go_at_call 16; (with_reducible refine (HKy.out _ HQ.out.drew).mono ?_); rintro e W8 ⟨rfl, b8⟩; have q8 := (Below.refl W7.heap.size W7).drew.trans b8; have ZP := HZ.out.past q8; have zc0 := ZP.cell (k := 0) rfl; have zc1 := ZP.cell (k := 1) rfl; have zc2 := ZP.cell (k := 2) rfl; have zcf := fun j => ZP.free j; have zcl := ZP.lt; have y2 := (HH.out.past (HQ.out.trans (q8.mono HQ.out.size))).wd.cell (k := 2) rfl; have yl := (HH.out.past (HQ.out.trans (q8.mono HQ.out.size))).wd.lt; have y9 := (q8.cell (p := ⟨b9, 0, none⟩) lb7).trans D7.out; have yb9 := Nat.lt_of_lt_of_le lb7 q8.size))
                        all_goals
                          obtain ⟨P9, Q9⟩ := set3 (.int .i64 kg) (.int .i64 kv) (.int .i64 kr) ZP (HQ.out.trans (q8.mono HQ.out.size)) hkw
                          obtain ⟨W9, hW9⟩ : ∃ W', ((W8.setCell ⟨kb, 0, none⟩ (.int .i64 kg)).setCell ⟨kb, 1, none⟩ (.int .i64 kv)).setCell ⟨kb, 2, none⟩ (.int .i64 kr) = W' := ⟨_, rfl⟩
                          rw [hW9] at P9 Q9
                          rw [hW9]
                          clear hW9 q8 b8 ZP zc0 zc1 zc2 zcf zcl y2 yl y9 yb9
                          have v1 := P9.cell (k := 1) rfl
                          have vl := P9.lt
                          have v4 := (HH.out.past Q9).wd.cell (k := 4) rfl
                          have vwl := (HH.out.past Q9).wd.lt
                          have HP9 := Lib.hid P9
                          have HQ9 := Lib.hid Q9
                          clear P9 Q9
                          have Q := Below.refl W9.heap.size W9
                          cases lo with
                          | true =>
                            obtain ⟨hn1, hv1⟩ := HYes.out rfl
                            have fn1 : ((n : Int) != 1) = false := by rw [hn1]; rfl
                            have fv1 : (kv != 1) = false := by rw [hv1]; rfl
                            have hpr0 : pr = false := by rw [HGp.out]; simp
                            subst hpr0
                            clear hn1 hv1
                            go_wp2_with (first
                              | (go_at_call 13; (with_reducible refine (HLoG.out _ (HQ9.out.trans (Q.mono HQ9.out.size))).mono ?_); rintro e W10 ⟨rfl, b10⟩; replace Q := Q.trans (b10.mono Q.size); clear b10; have z4' := ((HH.out.past HQ9.out).past Q).wd.cell (k := 4) rfl; have zl' := ((HH.out.past HQ9.out).past Q).wd.lt; have v1' := (HP9.out.past Q).cell (k := 1) rfl; have vl' := (HP9.out.past Q).lt)
                              | (go_at_call 17; (with_reducible refine (HPr.out _ (HQ9.out.trans (Q.mono HQ9.out.size))).mono ?_); rintro e W11 ⟨rfl, b11⟩; replace Q := Q.trans (b11.mono Q.size); clear b11; have z4'' := ((HH.out.past HQ9.out).past Q).wd.cell (k := 4) rfl; have zl'' := ((HH.out.past HQ9.out).past Q).wd.lt))
                            go_roundw
                            case rel => exact ⟨g + 1, by omega, by simp, (HH.out.past HQ9.out).past Q⟩
                            case measure => simp [intOf]; omega
                          | false =>
                            have hpr0 : pr = true := by rw [HGp.out, decide_eq_true (by omega)]; rfl
                            subst hpr0
                            go_wp2_with (first
                              | (go_at_call 13; (with_reducible refine (HLoG.out _ (HQ9.out.trans (Q.mono HQ9.out.size))).mono ?_); rintro e W10 ⟨rfl, b10⟩; replace Q := Q.trans (b10.mono Q.size); clear b10; have z4' := ((HH.out.past HQ9.out).past Q).wd.cell (k := 4) rfl; have zl' := ((HH.out.past HQ9.out).past Q).wd.lt)
                              | (go_at_call 17; (with_reducible refine (HPr.out _ (HQ9.out.trans (Q.mono HQ9.out.size))).mono ?_); rintro e W11 ⟨rfl, b11⟩; replace Q := Q.trans (b11.mono Q.size); clear b11; have z4'' := ((HH.out.past HQ9.out).past Q).wd.cell (k := 4) rfl; have zl'' := ((HH.out.past HQ9.out).past Q).wd.lt))
                            go_roundw
                            case rel => exact ⟨g + 1, by omega, by simp, (HH.out.past HQ9.out).past Q⟩
                            case measure => simp [intOf]; omega
                    · have fg : decide ((g : Int) < 16) = false := decide_eq_false (by omega)
                      have HH := Lib.hid H
                      clear H
                      go_wp2_with fail
                      go_roundw
                      case rel => exact ⟨k + 1, by omega, by simp, V4, by rw [HN.out]; exact HH.out⟩
                      case measure => simp [intOf]; omega
            · obtain ⟨rfl, rfl⟩ : bw = false ∧ ba = true := by
                cases bw <;> cases ba <;> first | exact ⟨rfl, rfl⟩ | exact absurd hlw (by decide)
              go_region_held3 (fun w' => w'.cell? ⟨wb, 4, none⟩ = some (.pointer (some ⟨A.dp, 0, none⟩)) ∧ w'.cell? ⟨b, off + k * 11, none⟩ = some (.int .i64 8) ∧ w'.cell? ⟨b, off + k * 11 + 6, none⟩ = some (.int .i64 og)) (go_keep) (first
                | (go_at_call 13; (with_reducible refine (HLo2.out _ ((Below.refl _ W4).drew)).mono ?_); rintro e W5 ⟨rfl, b5⟩; have q5 := (Below.refl W4.heap.size W4).drew.trans b5; have H5 := HH4.out.past q5; have g0 := (H5.below.cell (p := ⟨b, _, none⟩) lb).trans HC0.out; have g6 := (H5.below.cell (p := ⟨b, _, none⟩) lb).trans HC6.out; have z4 := H5.wd.cell (k := 4) rfl; have zl := H5.wd.lt; clear H5))
              all_goals go_wp2_with fail
              all_goals
                obtain ⟨WA, rfl⟩ : ∃ W, W = wr := ⟨_, rfl⟩
                go_loopw [11] (fun i wr => ∃ g : Nat, g ≤ 16 ∧ i = .int .i64 g ∧ HG w wr A P24 V4 Gn [wld wb A]) (fun i _ => 16 - (intOf i).toNat)
                case atStart => first | exact ⟨0, by omega, rfl, HH4.out.drewN _⟩ | exact ⟨0, by omega, rfl, HH4.out.past q5⟩
                case round =>
                  obtain ⟨g, hg, rfl, H⟩ := hrel
                  by_cases hg16 : g < 16
                  · have hgz : (g : Int) < 16 := by omega
                    have hof := sof_any H.sx (g : Int)
                    have hlo := fun W (hW : Below wr.heap.size wr W) => gloose_any (H.past hW) (g : Int)
                    have hpr := fun W (hW : Below wr.heap.size wr W) => gprot_any (H.past hW) (g : Int)
                    have hlg := fun h => lo_g HIn.out (g : Int) h
                    have hgp : gprot Gn (g : Int) = (decide (0 < (sof Gn.s.ps (g : Int)).length) && !Gn.loose.contains (g : Int)) := rfl
                    obtain ⟨lo, hlo'⟩ : ∃ x, Gn.loose.contains (g : Int) = x := ⟨_, rfl⟩
                    obtain ⟨pr, hpr'⟩ : ∃ x, gprot Gn (g : Int) = x := ⟨_, rfl⟩
                    obtain ⟨L, hL⟩ : ∃ x, sof Gn.s.ps (g : Int) = x := ⟨_, rfl⟩
                    rw [hlo'] at hlo hgp hlg
                    rw [hpr'] at hpr hgp
                    rw [hL] at hof hgp hlg
                    obtain ⟨n, hn⟩ : ∃ n, L.length = n := ⟨_, rfl⟩
                    rw [hn] at hgp
                    have d2 := H.wd.cell (k := 2) rfl
                    have dl := H.wd.lt
                    have HOf := Lib.hid hof
                    have HLoG := Lib.hid hlo
                    have HPr := Lib.hid hpr
                    have HLg := Lib.hid hlg
                    have HGp := Lib.hid hgp
                    have HNn := Lib.hid hn
                    have HH := Lib.hid H
                    clear hof hlo hpr hlg hgp hn H hlo' hpr' hL
                    by_cases hn0 : n = 0
                    · subst hn0
                      have hlo0 : lo = false := by
                        cases lo
                        · rfl
                        · obtain ⟨p, kk, e1, _⟩ := HLg.out rfl
                          have := HNn.out
                          rw [e1] at this; simp at this
                      subst hlo0
                      have hpr0 : pr = false := by rw [HGp.out]; rfl
                      subst hpr0
                      go_upto_region 17 with (first | (go_at_call 15; (with_reducible refine HOf.out.mono ?_); rintro e W6 ⟨⟨v, rfl, hv⟩, b6⟩; obtain ⟨a6, c6, rfl⟩ := hv.form; rw [HNn.out] at hv ⊢; clear hv))
                      have Q := b6.trans ((bal W6 (.cells #[.int .i64 0, .int .i64 0, .int .i64 0] 37)).mono b6.size)
                      obtain ⟨kb, hkb⟩ : ∃ b, W6.heap.size = b := ⟨_, rfl⟩
                      obtain ⟨W7, hW7⟩ : ∃ W', W6.alloc (.cells #[.int .i64 0, .int .i64 0, .int .i64 0] 37) = W' := ⟨_, rfl⟩
                      rw [hW7, hkb]
                      rw [hW7] at Q
                      clear hW7 b6 hkb
                      have z4 := (HH.out.past Q).wd.cell (k := 4) rfl
                      have zl := (HH.out.past Q).wd.lt
                      go_wp2_with (first
                        | (go_at_call 13; (with_reducible refine (HLoG.out _ Q).mono ?_); rintro e W10 ⟨rfl, b10⟩; replace Q := Q.trans (b10.mono Q.size); clear b10; have z4' := (HH.out.past Q).wd.cell (k := 4) rfl; have zl' := (HH.out.past Q).wd.lt)
                        | (go_at_call 17; (with_reducible refine (HPr.out _ Q).mono ?_); rintro e W11 ⟨rfl, b11⟩; replace Q := Q.trans (b11.mono Q.size); clear b11; have z4'' := (HH.out.past Q).wd.cell (k := 4) rfl; have zl'' := (HH.out.past Q).wd.lt))
                      go_roundw
                      case rel => exact ⟨g + 1, by omega, by simp, HH.out.past Q⟩
                      case measure => simp [intOf]; omega
                    · have fn0 : decide ((n : Int) > 0) = true := decide_eq_true (by omega)
                      have hnL : 0 < L.length := by rw [HNn.out]; omega
                      obtain ⟨p, hp⟩ : ∃ x, L.getD 0 0 = x := ⟨_, rfl⟩
                      have hky := fun W (hW : Below wr.heap.size wr W) => skey_any (HH.out.past hW).sx p _ rfl
                      obtain ⟨⟨kg, kv, kr⟩, hk0⟩ : ∃ x, (skey Gn.s.ps p).getD key0 = x := ⟨_, rfl⟩
                      obtain ⟨ks, hks⟩ : ∃ x, (skey Gn.s.ps p).isSome = x := ⟨_, rfl⟩
                      rw [hk0, hks] at hky
                      have hyes : lo = true → n = 1 ∧ kv = 1 := fun h => by
                        obtain ⟨p', kk, e1, e2, e3⟩ := HLg.out h
                        have e4 := HNn.out
                        rw [e1] at hp e4
                        have e5 : p' = p := hp
                        rw [e5] at e2
                        rw [e2] at hk0
                        have e6 : kk = ⟨kg, kv, kr⟩ := hk0
                        rw [e6] at e3
                        exact ⟨e4.symm, e3⟩
                      have HKy := Lib.hid hky
                      have HYes := Lib.hid hyes
                      have HP := Lib.hid hp
                      have HnL := Lib.hid hnL
                      clear hky hyes hk0 hks hp hnL
                      go_upto_region 17 with (first | (go_at_call 15; (with_reducible refine HOf.out.mono ?_); rintro e W6 ⟨⟨v, rfl, hv⟩, b6⟩; obtain ⟨b9, c9, hv9, lb9, d9⟩ := hv.row.at 0 HnL.out; rw [HNn.out] at hv9; subst hv9; clear hv))
                      have Q := b6.trans ((bal W6 (.cells #[.int .i64 0, .int .i64 0, .int .i64 0] 37)).mono b6.size)
                      have hZ := Blk.new W6 37 [.int .i64 0, .int .i64 0, .int .i64 0]
                      have lb7 : b9 < (W6.alloc (.cells #[.int .i64 0, .int .i64 0, .int .i64 0] 37)).heap.size := by simp; omega
                      have d7 := ((bal W6 (.cells #[.int .i64 0, .int .i64 0, .int .i64 0] 37)).cell (p := ⟨b9, 0, none⟩) lb9).trans d9
                      rw [HP.out] at d7
                      have nkb : b9 ≠ W6.heap.size := by omega
                      have hkw : wr.heap.size ≤ W6.heap.size := b6.size
                      obtain ⟨kb, hkb⟩ : ∃ b, W6.heap.size = b := ⟨_, rfl⟩
                      obtain ⟨W7, hW7⟩ : ∃ W', W6.alloc (.cells #[.int .i64 0, .int .i64 0, .int .i64 0] 37) = W' := ⟨_, rfl⟩
                      rw [show (W6.alloc (.cells ([.int .i64 0, .int .i64 0, .int .i64 0] : List Value).toArray 37)) = W7 from hW7, hkb] at hZ
                      rw [hW7, hkb]
                      rw [hW7] at Q lb7 d7
                      rw [hkb] at nkb hkw
                      clear hW7 b6 hkb lb9 d9
                      have z2 := (HH.out.past Q).wd.cell (k := 2) rfl
                      have zl := (HH.out.past Q).wd.lt
                      have HZ := Lib.hid hZ
                      have HQ := Lib.hid Q
                      have D7 := Lib.hid d7
                      have kl := hZ.lt
                      have nwb : wb ≠ kb := by omega
                      have nwb' : kb ≠ wb := fun e => nwb e.symm
                      have nkb' : kb ≠ b9 := fun e => nkb e.symm
                      clear hZ Q d2 dl
                      go_wp2_with fail
                      go_region_held3 (fun w' => w'.cell? ⟨wb, 2, none⟩ = some (.pointer (some ⟨A.sp, 0, none⟩)) ∧ w'.cell? ⟨b9, 0, none⟩ = some (.int .i64 p)) (go_keep) (first
                        | (go_at_call 16; (with_reducible refine (HKy.out _ HQ.out.drew).mono ?_); rintro e W8 ⟨rfl, b8⟩; have q8 := (Below.refl W7.heap.size W7).drew.trans b8; have ZP := HZ.out.past q8; have zc0 := ZP.cell (k := 0) rfl; have zc1 := ZP.cell (k := 1) rfl; have zc2 := ZP.cell (k := 2) rfl; have zcf := fun j => ZP.free j; have zcl := ZP.lt; have y2 := (HH.out.past (HQ.out.trans (q8.mono HQ.out.size))).wd.cell (k := 2) rfl; have yl := (HH.out.past (HQ.out.trans (q8.mono HQ.out.size))).wd.lt; have y9 := (q8.cell (p := ⟨b9, 0, none⟩) lb7).trans D7.out; have yb9 := Nat.lt_of_lt_of_le lb7 q8.size))
                      all_goals
                        obtain ⟨P9, Q9⟩ := set3 (.int .i64 kg) (.int .i64 kv) (.int .i64 kr) ZP (HQ.out.trans (q8.mono HQ.out.size)) hkw
                        obtain ⟨W9, hW9⟩ : ∃ W', ((W8.setCell ⟨kb, 0, none⟩ (.int .i64 kg)).setCell ⟨kb, 1, none⟩ (.int .i64 kv)).setCell ⟨kb, 2, none⟩ (.int .i64 kr) = W' := ⟨_, rfl⟩
                        rw [hW9] at P9 Q9
                        rw [hW9]
                        clear hW9 q8 b8 ZP zc0 zc1 zc2 zcf zcl y2 yl y9 yb9
                        have v1 := P9.cell (k := 1) rfl
                        have vl := P9.lt
                        have v4 := (HH.out.past Q9).wd.cell (k := 4) rfl
                        have vwl := (HH.out.past Q9).wd.lt
                        have HP9 := Lib.hid P9
                        have HQ9 := Lib.hid Q9
                        clear P9 Q9
                        have Q := Below.refl W9.heap.size W9
                        cases lo with
                        | true =>
                          obtain ⟨hn1, hv1⟩ := HYes.out rfl
                          have fn1 : ((n : Int) != 1) = false := by rw [hn1]; rfl
                          have fv1 : (kv != 1) = false := by rw [hv1]; rfl
                          have hpr0 : pr = false := by rw [HGp.out]; simp
                          subst hpr0
                          clear hn1 hv1
                          go_wp2_with (first
                            | (go_at_call 13; (with_reducible refine (HLoG.out _ (HQ9.out.trans (Q.mono HQ9.out.size))).mono ?_); rintro e W10 ⟨rfl, b10⟩; replace Q := Q.trans (b10.mono Q.size); clear b10; have z4' := ((HH.out.past HQ9.out).past Q).wd.cell (k := 4) rfl; have zl' := ((HH.out.past HQ9.out).past Q).wd.lt; have v1' := (HP9.out.past Q).cell (k := 1) rfl; have vl' := (HP9.out.past Q).lt)
                            | (go_at_call 17; (with_reducible refine (HPr.out _ (HQ9.out.trans (Q.mono HQ9.out.size))).mono ?_); rintro e W11 ⟨rfl, b11⟩; replace Q := Q.trans (b11.mono Q.size); clear b11; have z4'' := ((HH.out.past HQ9.out).past Q).wd.cell (k := 4) rfl; have zl'' := ((HH.out.past HQ9.out).past Q).wd.lt))
                          go_roundw
                          case rel => exact ⟨g + 1, by omega, by simp, (HH.out.past HQ9.out).past Q⟩
                          case measure => simp [intOf]; omega
                        | false =>
                          have hpr0 : pr = true := by rw [HGp.out, decide_eq_true (by omega)]; rfl
                          subst hpr0
                          go_wp2_with (first
                            | (go_at_call 13; (with_reducible refine (HLoG.out _ (HQ9.out.trans (Q.mono HQ9.out.size))).mono ?_); rintro e W10 ⟨rfl, b10⟩; replace Q := Q.trans (b10.mono Q.size); clear b10; have z4' := ((HH.out.past HQ9.out).past Q).wd.cell (k := 4) rfl; have zl' := ((HH.out.past HQ9.out).past Q).wd.lt)
                            | (go_at_call 17; (with_reducible refine (HPr.out _ (HQ9.out.trans (Q.mono HQ9.out.size))).mono ?_); rintro e W11 ⟨rfl, b11⟩; replace Q := Q.trans (b11.mono Q.size); clear b11; have z4'' := ((HH.out.past HQ9.out).past Q).wd.cell (k := 4) rfl; have zl'' := ((HH.out.past HQ9.out).past Q).wd.lt))
                          go_roundw
                          case rel => exact ⟨g + 1, by omega, by simp, (HH.out.past HQ9.out).past Q⟩
                          case measure => simp [intOf]; omega
                  · have fg : decide ((g : Int) < 16) = false := decide_eq_false (by omega)
                    have HH := Lib.hid H
                    clear H
                    go_wp2_with fail
                    go_roundw
                    case rel => exact ⟨k + 1, by omega, by simp, V4, by rw [HN.out]; exact HH.out⟩
                    case measure => simp [intOf]; omega
          · have f8 : (ok == 8) = false := beq_eq_false_iff_ne.2 h8
            go_quiet (fail)
            go_wp2_with fail
            all_goals
              obtain ⟨WA, rfl⟩ : ∃ W, W = wr := ⟨_, rfl⟩
              go_loopw [11] (fun i wr => ∃ g : Nat, g ≤ 16 ∧ i = .int .i64 g ∧ HG w wr A P24 V4 Gn [wld wb A]) (fun i _ => 16 - (intOf i).toNat)
              case atStart => first | exact ⟨0, by omega, rfl, HH4.out.drewN _⟩ | exact ⟨0, by omega, rfl, HH4.out.past q5⟩
              case round =>
                obtain ⟨g, hg, rfl, H⟩ := hrel
                by_cases hg16 : g < 16
                · have hgz : (g : Int) < 16 := by omega
                  have hof := sof_any H.sx (g : Int)
                  have hlo := fun W (hW : Below wr.heap.size wr W) => gloose_any (H.past hW) (g : Int)
                  have hpr := fun W (hW : Below wr.heap.size wr W) => gprot_any (H.past hW) (g : Int)
                  have hlg := fun h => lo_g HIn.out (g : Int) h
                  have hgp : gprot Gn (g : Int) = (decide (0 < (sof Gn.s.ps (g : Int)).length) && !Gn.loose.contains (g : Int)) := rfl
                  obtain ⟨lo, hlo'⟩ : ∃ x, Gn.loose.contains (g : Int) = x := ⟨_, rfl⟩
                  obtain ⟨pr, hpr'⟩ : ∃ x, gprot Gn (g : Int) = x := ⟨_, rfl⟩
                  obtain ⟨L, hL⟩ : ∃ x, sof Gn.s.ps (g : Int) = x := ⟨_, rfl⟩
                  rw [hlo'] at hlo hgp hlg
                  rw [hpr'] at hpr hgp
                  rw [hL] at hof hgp hlg
                  obtain ⟨n, hn⟩ : ∃ n, L.length = n := ⟨_, rfl⟩
                  rw [hn] at hgp
                  have d2 := H.wd.cell (k := 2) rfl
                  have dl := H.wd.lt
                  have HOf := Lib.hid hof
                  have HLoG := Lib.hid hlo
                  have HPr := Lib.hid hpr
                  have HLg := Lib.hid hlg
                  have HGp := Lib.hid hgp
                  have HNn := Lib.hid hn
                  have HH := Lib.hid H
                  clear hof hlo hpr hlg hgp hn H hlo' hpr' hL
                  by_cases hn0 : n = 0
                  · subst hn0
                    have hlo0 : lo = false := by
                      cases lo
                      · rfl
                      · obtain ⟨p, kk, e1, _⟩ := HLg.out rfl
                        have := HNn.out
                        rw [e1] at this; simp at this
                    subst hlo0
                    have hpr0 : pr = false := by rw [HGp.out]; rfl
                    subst hpr0
                    go_upto_region 17 with (first | (go_at_call 15; (with_reducible refine HOf.out.mono ?_); rintro e W6 ⟨⟨v, rfl, hv⟩, b6⟩; obtain ⟨a6, c6, rfl⟩ := hv.form; rw [HNn.out] at hv ⊢; clear hv))
                    have Q := b6.trans ((bal W6 (.cells #[.int .i64 0, .int .i64 0, .int .i64 0] 37)).mono b6.size)
                    obtain ⟨kb, hkb⟩ : ∃ b, W6.heap.size = b := ⟨_, rfl⟩
                    obtain ⟨W7, hW7⟩ : ∃ W', W6.alloc (.cells #[.int .i64 0, .int .i64 0, .int .i64 0] 37) = W' := ⟨_, rfl⟩
                    rw [hW7, hkb]
                    rw [hW7] at Q
                    clear hW7 b6 hkb
                    have z4 := (HH.out.past Q).wd.cell (k := 4) rfl
                    have zl := (HH.out.past Q).wd.lt
                    go_wp2_with (first
                      | (go_at_call 13; (with_reducible refine (HLoG.out _ Q).mono ?_); rintro e W10 ⟨rfl, b10⟩; replace Q := Q.trans (b10.mono Q.size); clear b10; have z4' := (HH.out.past Q).wd.cell (k := 4) rfl; have zl' := (HH.out.past Q).wd.lt)
                      | (go_at_call 17; (with_reducible refine (HPr.out _ Q).mono ?_); rintro e W11 ⟨rfl, b11⟩; replace Q := Q.trans (b11.mono Q.size); clear b11; have z4'' := (HH.out.past Q).wd.cell (k := 4) rfl; have zl'' := (HH.out.past Q).wd.lt))
                    go_roundw
                    case rel => exact ⟨g + 1, by omega, by simp, HH.out.past Q⟩
                    case measure => simp [intOf]; omega
                  · have fn0 : decide ((n : Int) > 0) = true := decide_eq_true (by omega)
                    have hnL : 0 < L.length := by rw [HNn.out]; omega
                    obtain ⟨p, hp⟩ : ∃ x, L.getD 0 0 = x := ⟨_, rfl⟩
                    have hky := fun W (hW : Below wr.heap.size wr W) => skey_any (HH.out.past hW).sx p _ rfl
                    obtain ⟨⟨kg, kv, kr⟩, hk0⟩ : ∃ x, (skey Gn.s.ps p).getD key0 = x := ⟨_, rfl⟩
                    obtain ⟨ks, hks⟩ : ∃ x, (skey Gn.s.ps p).isSome = x := ⟨_, rfl⟩
                    rw [hk0, hks] at hky
                    have hyes : lo = true → n = 1 ∧ kv = 1 := fun h => by
                      obtain ⟨p', kk, e1, e2, e3⟩ := HLg.out h
                      have e4 := HNn.out
                      rw [e1] at hp e4
                      have e5 : p' = p := hp
                      rw [e5] at e2
                      rw [e2] at hk0
                      have e6 : kk = ⟨kg, kv, kr⟩ := hk0
                      rw [e6] at e3
                      exact ⟨e4.symm, e3⟩
                    have HKy := Lib.hid hky
                    have HYes := Lib.hid hyes
                    have HP := Lib.hid hp
                    have HnL := Lib.hid hnL
                    clear hky hyes hk0 hks hp hnL
                    go_upto_region 17 with (first | (go_at_call 15; (with_reducible refine HOf.out.mono ?_); rintro e W6 ⟨⟨v, rfl, hv⟩, b6⟩; obtain ⟨b9, c9, hv9, lb9, d9⟩ := hv.row.at 0 HnL.out; rw [HNn.out] at hv9; subst hv9; clear hv))
                    have Q := b6.trans ((bal W6 (.cells #[.int .i64 0, .int .i64 0, .int .i64 0] 37)).mono b6.size)
                    have hZ := Blk.new W6 37 [.int .i64 0, .int .i64 0, .int .i64 0]
                    have lb7 : b9 < (W6.alloc (.cells #[.int .i64 0, .int .i64 0, .int .i64 0] 37)).heap.size := by simp; omega
                    have d7 := ((bal W6 (.cells #[.int .i64 0, .int .i64 0, .int .i64 0] 37)).cell (p := ⟨b9, 0, none⟩) lb9).trans d9
                    rw [HP.out] at d7
                    have nkb : b9 ≠ W6.heap.size := by omega
                    have hkw : wr.heap.size ≤ W6.heap.size := b6.size
                    obtain ⟨kb, hkb⟩ : ∃ b, W6.heap.size = b := ⟨_, rfl⟩
                    obtain ⟨W7, hW7⟩ : ∃ W', W6.alloc (.cells #[.int .i64 0, .int .i64 0, .int .i64 0] 37) = W' := ⟨_, rfl⟩
                    rw [show (W6.alloc (.cells ([.int .i64 0, .int .i64 0, .int .i64 0] : List Value).toArray 37)) = W7 from hW7, hkb] at hZ
                    rw [hW7, hkb]
                    rw [hW7] at Q lb7 d7
                    rw [hkb] at nkb hkw
                    clear hW7 b6 hkb lb9 d9
                    have z2 := (HH.out.past Q).wd.cell (k := 2) rfl
                    have zl := (HH.out.past Q).wd.lt
                    have HZ := Lib.hid hZ
                    have HQ := Lib.hid Q
                    have D7 := Lib.hid d7
                    have kl := hZ.lt
                    have nwb : wb ≠ kb := by omega
                    have nwb' : kb ≠ wb := fun e => nwb e.symm
                    have nkb' : kb ≠ b9 := fun e => nkb e.symm
                    clear hZ Q d2 dl
                    go_wp2_with fail
                    go_region_held3 (fun w' => w'.cell? ⟨wb, 2, none⟩ = some (.pointer (some ⟨A.sp, 0, none⟩)) ∧ w'.cell? ⟨b9, 0, none⟩ = some (.int .i64 p)) (go_keep) (first
                      | (go_at_call 16; (with_reducible refine (HKy.out _ HQ.out.drew).mono ?_); rintro e W8 ⟨rfl, b8⟩; have q8 := (Below.refl W7.heap.size W7).drew.trans b8; have ZP := HZ.out.past q8; have zc0 := ZP.cell (k := 0) rfl; have zc1 := ZP.cell (k := 1) rfl; have zc2 := ZP.cell (k := 2) rfl; have zcf := fun j => ZP.free j; have zcl := ZP.lt; have y2 := (HH.out.past (HQ.out.trans (q8.mono HQ.out.size))).wd.cell (k := 2) rfl; have yl := (HH.out.past (HQ.out.trans (q8.mono HQ.out.size))).wd.lt; have y9 := (q8.cell (p := ⟨b9, 0, none⟩) lb7).trans D7.out; have yb9 := Nat.lt_of_lt_of_le lb7 q8.size))
                    all_goals
                      obtain ⟨P9, Q9⟩ := set3 (.int .i64 kg) (.int .i64 kv) (.int .i64 kr) ZP (HQ.out.trans (q8.mono HQ.out.size)) hkw
                      obtain ⟨W9, hW9⟩ : ∃ W', ((W8.setCell ⟨kb, 0, none⟩ (.int .i64 kg)).setCell ⟨kb, 1, none⟩ (.int .i64 kv)).setCell ⟨kb, 2, none⟩ (.int .i64 kr) = W' := ⟨_, rfl⟩
                      rw [hW9] at P9 Q9
                      rw [hW9]
                      clear hW9 q8 b8 ZP zc0 zc1 zc2 zcf zcl y2 yl y9 yb9
                      have v1 := P9.cell (k := 1) rfl
                      have vl := P9.lt
                      have v4 := (HH.out.past Q9).wd.cell (k := 4) rfl
                      have vwl := (HH.out.past Q9).wd.lt
                      have HP9 := Lib.hid P9
                      have HQ9 := Lib.hid Q9
                      clear P9 Q9
                      have Q := Below.refl W9.heap.size W9
                      cases lo with
                      | true =>
                        obtain ⟨hn1, hv1⟩ := HYes.out rfl
                        have fn1 : ((n : Int) != 1) = false := by rw [hn1]; rfl
                        have fv1 : (kv != 1) = false := by rw [hv1]; rfl
                        have hpr0 : pr = false := by rw [HGp.out]; simp
                        subst hpr0
                        clear hn1 hv1
                        go_wp2_with (first
                          | (go_at_call 13; (with_reducible refine (HLoG.out _ (HQ9.out.trans (Q.mono HQ9.out.size))).mono ?_); rintro e W10 ⟨rfl, b10⟩; replace Q := Q.trans (b10.mono Q.size); clear b10; have z4' := ((HH.out.past HQ9.out).past Q).wd.cell (k := 4) rfl; have zl' := ((HH.out.past HQ9.out).past Q).wd.lt; have v1' := (HP9.out.past Q).cell (k := 1) rfl; have vl' := (HP9.out.past Q).lt)
                          | (go_at_call 17; (with_reducible refine (HPr.out _ (HQ9.out.trans (Q.mono HQ9.out.size))).mono ?_); rintro e W11 ⟨rfl, b11⟩; replace Q := Q.trans (b11.mono Q.size); clear b11; have z4'' := ((HH.out.past HQ9.out).past Q).wd.cell (k := 4) rfl; have zl'' := ((HH.out.past HQ9.out).past Q).wd.lt))
                        go_roundw
                        case rel => exact ⟨g + 1, by omega, by simp, (HH.out.past HQ9.out).past Q⟩
                        case measure => simp [intOf]; omega
                      | false =>
                        have hpr0 : pr = true := by rw [HGp.out, decide_eq_true (by omega)]; rfl
                        subst hpr0
                        go_wp2_with (first
                          | (go_at_call 13; (with_reducible refine (HLoG.out _ (HQ9.out.trans (Q.mono HQ9.out.size))).mono ?_); rintro e W10 ⟨rfl, b10⟩; replace Q := Q.trans (b10.mono Q.size); clear b10; have z4' := ((HH.out.past HQ9.out).past Q).wd.cell (k := 4) rfl; have zl' := ((HH.out.past HQ9.out).past Q).wd.lt)
                          | (go_at_call 17; (with_reducible refine (HPr.out _ (HQ9.out.trans (Q.mono HQ9.out.size))).mono ?_); rintro e W11 ⟨rfl, b11⟩; replace Q := Q.trans (b11.mono Q.size); clear b11; have z4'' := ((HH.out.past HQ9.out).past Q).wd.cell (k := 4) rfl; have zl'' := ((HH.out.past HQ9.out).past Q).wd.lt))
                        go_roundw
                        case rel => exact ⟨g + 1, by omega, by simp, (HH.out.past HQ9.out).past Q⟩
                        case measure => simp [intOf]; omega
                · have fg : decide ((g : Int) < 16) = false := decide_eq_false (by omega)
                  have HH := Lib.hid H
                  clear H
                  go_wp2_with fail
                  go_roundw
                  case rel => exact ⟨k + 1, by omega, by simp, V4, by rw [HN.out]; exact HH.out⟩
                  case measure => simp [intOf]; omega

      · obtain rfl : on = k := by omega
        have HH := Lib.hid H
        clear H
        go_wp2_with fail
        go_ret
        exact ⟨rfl, HH.out.below⟩
end Go.Proofs.Ytldmlmojokicaaa
