/- GuardDrops's walk. -/
import Derived.Test.YtldmlmojokicaaaGlaw
import Derived.Test.YtldmlmojokicaaaGuP
import Derived.Laws.StructEq
namespace Go.Proofs.Ytldmlmojokicaaa
open Go.RowKit Go.Shelf Go.Maps
set_option maxRecDepth 100000 in
set_option maxHeartbeats 16000000 in
theorem GuardDrops_nat (w : World) (a : Option Addr) (c : Nat) (l : List (Int × Int × Nat)) (hp : Ps w a l) (hlen : l.length ≤ 9223372036854775807) (oa : Option Addr) (oc : Nat) (ops : List Opg) (hop : Gops w oa ops) (holen : ops.length ≤ 9223372036854775807) (x : Nat) (hx : x < 256) :
    Calls Try.prog 8 #[.slice a l.length c, .slice oa ops.length oc, .int .u8 (x : Int)] w fun e w' => e = .returned (.bool true) ∧ Below w.heap.size w w' := by
  have hh := ghead_any w
  obtain ⟨len, hl⟩ : ∃ len, l.length = len := ⟨_, rfl⟩
  obtain ⟨on, hol⟩ : ∃ n, ops.length = n := ⟨_, rfl⟩
  obtain ⟨G0, hG0⟩ : ∃ G, G24 (gputs l) = G := ⟨_, rfl⟩
  have hI0 : GInv P24 G0 := hG0 ▸ G24_inv _ (gputs_len l)
  have hm : ∀ W, Below w.heap.size w W → Calls Try.prog 11 #[.slice a len c] W fun e w' => ∃ wb A, e = .returned (.pointer (some ⟨wb, 0, none⟩)) ∧ HG w w' A P24 V24 G0 [wld wb A] := fun W b => by
    have h := gmade_any W a c l (hp.below b) hlen
    rw [hl, hG0] at h
    exact h.mono fun e w' ⟨wb, A, he, H⟩ => ⟨wb, A, he, H.base b⟩
  rw [hl] at hlen ⊢
  rw [hol] at holen ⊢
  have hgr := fun W => great_any W a oa c oc len on hlen holen
  obtain ⟨gr, hgr'⟩ : ∃ b, (decide (600 < len) || decide (120 < on)) = b := ⟨_, rfl⟩
  rw [hgr'] at hgr
  have HH := Lib.hid hh
  have HM := Lib.hid hm
  have HGr := Lib.hid hgr
  have HI0 := Lib.hid hI0
  have HOp := Lib.hid hop
  have HOl := Lib.hid hol
  clear hh hm hgr hI0 hop hol hp hl hG0 hgr' hlen
  cases gr with
  | true =>
    go_enter Try.func8, Try.ntmps8
    go_wp2_with (first
      | (go_at_call 10; (with_reducible refine HH.out.mono ?_); rintro e W0 ⟨rfl, b0⟩)
      | (go_at_call 11; (with_reducible refine (HM.out _ b0).mono ?_); rintro e W1 ⟨wb, A, rfl, H1⟩; clear b0)
      | (go_at_call 12; (with_reducible refine (HGr.out W1).mono ?_); rintro e W2 ⟨rfl, rfl⟩))
    go_ret
    exact ⟨rfl, H1.below⟩
  | false =>
    go_enter Try.func8, Try.ntmps8
    go_wp2_with (first
      | (go_at_call 10; (with_reducible refine HH.out.mono ?_); rintro e W0 ⟨rfl, b0⟩)
      | (go_at_call 11; (with_reducible refine (HM.out _ b0).mono ?_); rintro e W1 ⟨wb, A, rfl, H1⟩; clear b0)
      | (go_at_call 12; (with_reducible refine (HGr.out W1).mono ?_); rintro e W2 ⟨rfl, rfl⟩))
    clear HM HGr HH
    go_loopw [9] (fun i wr => ∃ k : Nat, k ≤ on ∧ i = .int .i64 k ∧ ∃ V, HG w wr A P24 V (grun P24 G0 (ops.take k)) [wld wb A]) (fun i _ => on - (intOf i).toNat)
    case atStart => exact ⟨0, by omega, rfl, _, H1⟩
    case round =>
      obtain ⟨k, hk, rfl, V, H⟩ := hrel
      clear H1
      by_cases hkl : k < on
      · obtain ⟨b, off, ok, okg, okv, okr, op, oi, og, ow, ou, ox, ov, rfl, lb, ho, hov, C0, C1, C2, C3, C4, C5, C6, C7, C8, C9, C10⟩ := HOp.out.at k (by rw [HOl.out]; exact hkl)
        have HC0 := Lib.hid C0
        have HC1 := Lib.hid C1
        have HC2 := Lib.hid C2
        have HC3 := Lib.hid C3
        have HC4 := Lib.hid C4
        have HC5 := Lib.hid C5
        have HC6 := Lib.hid C6
        have HC7 := Lib.hid C7
        have HC8 := Lib.hid C8
        have HC9 := Lib.hid C9
        have HC10 := Lib.hid C10
        have HOv := Lib.hid hov
        clear C0 C1 C2 C3 C4 C5 C6 C7 C8 C9 C10 hov
        obtain ⟨Gk, hGk⟩ : ∃ G, grun P24 G0 (ops.take k) = G := ⟨_, rfl⟩
        have hIk : GInv P24 Gk := hGk ▸ grun_inv HI0.out _
        have hn : grun P24 G0 (ops.take (k + 1)) = (gdo P24 Gk ⟨ok, okg, okv, okr, op, oi, og, ⟨ow, ou, ox⟩, ov⟩).2 := by rw [grun_take _ _ _ _ (by rw [HOl.out]; exact hkl), hGk, ho]
        rw [hGk] at H
        have hd := gdo24 H hIk ok okg okv okr op oi og ow ou ox ov HOv.out
        have HD := Lib.hid hd
        have HN := Lib.hid hn
        have c0 := (H.below.cell (p := ⟨b, _, none⟩) lb).trans HC0.out
        have c1 := (H.below.cell (p := ⟨b, _, none⟩) lb).trans HC1.out
        have c2 := (H.below.cell (p := ⟨b, _, none⟩) lb).trans HC2.out
        have c3 := (H.below.cell (p := ⟨b, _, none⟩) lb).trans HC3.out
        have c4 := (H.below.cell (p := ⟨b, _, none⟩) lb).trans HC4.out
        have c5 := (H.below.cell (p := ⟨b, _, none⟩) lb).trans HC5.out
        have c6 := (H.below.cell (p := ⟨b, _, none⟩) lb).trans HC6.out
        have c7 := (H.below.cell (p := ⟨b, _, none⟩) lb).trans HC7.out
        have c8 := (H.below.cell (p := ⟨b, _, none⟩) lb).trans HC8.out
        have c9 := (H.below.cell (p := ⟨b, _, none⟩) lb).trans HC9.out
        have c10 := (H.below.cell (p := ⟨b, _, none⟩) lb).trans HC10.out
        have HH := Lib.hid H
        clear H hd hn hIk hGk ho
        go_wp2_with (go_at_call 14; (with_reducible refine HD.out.mono ?_); rintro e W3 ⟨⟨x3, rfl⟩, V3, h3⟩; have H3 := Lib.hid h3; clear h3)
        go_roundw
        case rel => exact ⟨k + 1, by omega, by simp, V3, by rw [HN.out]; exact H3.out⟩
        case measure => simp [intOf]; omega

      · obtain rfl : on = k := by omega
        rw [show ops.take on = ops from by rw [← HOl.out, List.take_length]] at H
        have HI := Lib.hid (grun_inv HI0.out ops)
        obtain ⟨G, hG⟩ : ∃ G, grun P24 G0 ops = G := ⟨_, rfl⟩
        rw [hG] at H HI
        clear hkl hk hG
        have hall := sall_any H.sx
        have hI := HI.out
        obtain ⟨n, hn⟩ : ∃ n, (sall G.s.ps).length = n := ⟨_, rfl⟩
        have hsm : n ≤ 1000 := by
          have h1 := hI.s.le
          have h2 : (sall G.s.ps).length = G.s.ps.length := by unfold sall; rw [List.length_map]
          omega
        have hpn : G.s.ps.length = n := by rw [← hn]; unfold sall; rw [List.length_map]
        have d2 := H.wd.cell (k := 2) rfl
        have dl := H.wd.lt
        have HAll := Lib.hid hall
        have HNn := Lib.hid hn
        have HPn := Lib.hid hpn
        have HH := Lib.hid H
        clear hall hI hn hpn H HOp HOl HI0
        by_cases hn0 : n = 0
        · subst hn0
          have hdr : (gdrop G 4).1 = false := by
            have : G.s.ps = [] := List.eq_nil_of_length_eq_zero HPn.out
            unfold gdrop skey spage
            rw [this]; rfl
          have HDr := Lib.hid hdr
          clear hdr
          go_wp2_with (first
            | (go_at_call 26; (with_reducible refine HAll.out.mono ?_); rintro e W3 ⟨⟨v, rfl, hv⟩, b3⟩; obtain ⟨a3, c3, rfl⟩ := hv.form; rw [HNn.out] at hv ⊢; clear hv; have H3 := HH.out.past b3; have x4 := H3.wd.cell (k := 4) rfl; have xl := H3.wd.lt; have hd := gdrop_h H3 4; rw [HDr.out] at hd; have HD := Lib.hid hd; clear hd H3)
            | (go_at_call 34; (with_reducible refine HD.out.mono ?_); rintro e W4 ⟨rfl, V4, h4⟩; have HH4 := Lib.hid h4; clear h4))
          go_ret
          exact ⟨rfl, HH4.out.below⟩
        · have fn0 : ((n : Int) == 0) = false := beq_eq_false_iff_ne.2 (by omega)
          obtain ⟨q, hq⟩ : ∃ q, x % n = q := ⟨_, rfl⟩
          have hqn : q < n := by rw [← hq]; exact Nat.mod_lt _ (by omega)
          have hmd : (x : Int).tmod (n : Int) = (q : Int) := by rw [← hq]; rfl
          obtain ⟨pg, hpg, hpf⟩ : ∃ pg, pg ∈ G.s.ps ∧ (sall G.s.ps).getD q 0 = pg.f := by
            have hql : q < G.s.ps.length := by rw [HPn.out]; exact hqn
            refine ⟨G.s.ps[q], List.getElem_mem hql, ?_⟩
            unfold sall
            rw [List.getD, List.getElem?_map, List.getElem?_eq_getElem hql]; rfl
          have hnq : q < (sall G.s.ps).length := by rw [HNn.out]; exact hqn
          obtain ⟨pf, ⟨kg, kv, kr⟩, psl⟩ := pg
          have hk := skey_mem HI.out.s hpg
          dsimp only at hk hpf
          have hky : ∀ W, Below wr.heap.size wr W → Calls Try.prog 16 #[.pointer (some ⟨A.sp, 0, none⟩), .int .i64 pf] W fun e w' => e = .returned (.tuple #[.agg #[.int .i64 kg, .int .i64 kv, .int .i64 kr], .bool true]) ∧ Below W.heap.size W w' := fun W hW => skey_any (HH.out.past hW).sx pf _ hk
          have hof := fun W (hW : Below wr.heap.size wr W) => sof_any (HH.out.past hW).sx kg
          obtain ⟨G1, hG1⟩ : ∃ g : GS, { G with l := tput P24.most G.l ⟨0, 5, 0, ⟨false, false, false⟩, false⟩ } = g := ⟨_, rfl⟩
          have hput : ∀ W V ts, HG w W A P24 V G ts → Calls Try.prog 18 #[.pointer (some ⟨A.tp, 0, none⟩), .agg #[.int .i64 0, .int .i64 5, .int .i64 0, .bool false, .bool false, .bool false, .bool false]] W fun e w' => (∃ r, e = .returned r) ∧ ∃ V', HG w w' A P24 V' G1 ts := fun W V ts h => hG1 ▸ tput_h h (by decide) ⟨0, 5, 0, ⟨false, false, false⟩, false⟩
          have hI1 : GInv P24 G1 := hG1 ▸ tput_inv HI.out _
          have hs1 : G1.s = G.s := by rw [← hG1]
          have hpg1 : (⟨pf, ⟨kg, kv, kr⟩, psl⟩ : Pg) ∈ G1.s.ps := by rw [hs1]; exact hpg
          obtain ⟨y1, y2, y3, y4, y5⟩ := gdrop_view hI1 hpg1
          obtain ⟨G2, hG2⟩ : ∃ g, (gdrop G1 pf).2 = g := ⟨_, rfl⟩
          dsimp only at y1 y2 y3 y4 y5
          rw [hG2] at y2 y3 y4 y5
          rw [hs1] at y4 y5
          rw [HNn.out] at y4
          have hdr : ∀ W V ts, HG w W A P24 V G1 ts → Calls Try.prog 34 #[.pointer (some ⟨A.dp, 0, none⟩), .int .i64 pf] W fun e w' => e = .returned (.bool true) ∧ ∃ V', HG w w' A P24 V' G2 ts := fun W V ts h => by
            have := gdrop_h h pf
            rw [y1, hG2] at this; exact this
          have hnd : (gdrop G2 pf).2 = G2 := by
            revert y3
            unfold gdrop
            cases skey G2.s.ps pf with
            | none => exact fun _ => rfl
            | some k => intro h; simp at h
          have hdr2 : ∀ W V ts, HG w W A P24 V G2 ts → Calls Try.prog 34 #[.pointer (some ⟨A.dp, 0, none⟩), .int .i64 pf] W fun e w' => e = .returned (.bool false) ∧ ∃ V', HG w w' A P24 V' G2 ts := fun W V ts h => by
            have := gdrop_h h pf
            rw [y3, hnd] at this; exact this
          have hmany : ∀ W V ts, HG w W A P24 V G2 ts → Calls Try.prog 22 #[.pointer (some ⟨A.tp, 0, none⟩)] W fun e w' => e = .returned (.int .i64 0) ∧ W = w' := fun W V ts h => by
            have := many_any h
            rw [y2] at this; exact this
          obtain ⟨m3, hm3⟩ : ∃ m, (sall G2.s.ps).length = m := ⟨_, rfl⟩
          obtain ⟨m1, hm1⟩ : ∃ m, (sof G.s.ps kg).length = m := ⟨_, rfl⟩
          obtain ⟨m2, hm2⟩ : ∃ m, (sof G2.s.ps kg).length = m := ⟨_, rfl⟩
          have hm1s : m1 ≤ 1000 := by rw [← hm1]; exact sof_len HI.out.s kg
          have f3 : ((m3 : Int) == (n : Int) - 1) = true := by rw [hm3] at y4; exact beq_iff_eq.2 (by omega)
          obtain ⟨lo2, hlo2⟩ : ∃ x, G2.loose.contains kg = x := ⟨_, rfl⟩
          obtain ⟨pr2, hpr2⟩ : ∃ x, gprot G2 kg = x := ⟨_, rfl⟩
          have h18 : kr = 0 → lo2 = false ∧ m2 + 1 = m1 ∧ pr2 = decide ((m1 : Int) > 1) := fun h0 => by
            obtain ⟨z1, z2⟩ := y5 h0
            have e1 : lo2 = false := by rw [← hlo2]; simpa using z2
            rw [hm1, hm2] at z1
            refine ⟨e1, z1, ?_⟩
            rw [← hpr2]
            unfold gprot
            rw [hlo2, e1, hm2]
            simp only [Bool.not_false, Bool.and_true]
            rw [decide_eq_decide]
            omega
          have hall2 := fun W V ts (h : HG w W A P24 V G2 ts) => sall_any h.sx
          have hof2 := fun W V ts (h : HG w W A P24 V G2 ts) => sof_any h.sx kg
          have hlo2' := fun W V ts (h : HG w W A P24 V G2 ts) => gloose_any h kg
          have hpr2' := fun W V ts (h : HG w W A P24 V G2 ts) => gprot_any h kg
          rw [hlo2] at hlo2'
          rw [hpr2] at hpr2'
          have HKy := Lib.hid hky
          have HOf := Lib.hid hof
          have HPut := Lib.hid hput
          have HDr := Lib.hid hdr
          have HDr2 := Lib.hid hdr2
          have HMany := Lib.hid hmany
          have HAll2 := Lib.hid hall2
          have HOf2 := Lib.hid hof2
          have HLo2 := Lib.hid hlo2'
          have HPr2 := Lib.hid hpr2'
          have H18 := Lib.hid h18
          have HM1 := Lib.hid hm1
          have HM2 := Lib.hid hm2
          have HM3 := Lib.hid hm3
          have HNq := Lib.hid hnq
          have HPf := Lib.hid hpf
          clear hky hof hput hdr hdr2 hmany hall2 hof2 hlo2' hpr2' h18 hm1 hm2 hm3 hnq hpf hk hpg hpg1 hI1 hs1 y1 y2 y3 y4 y5 hG1 hG2 hnd hlo2 hpr2 hq
          go_upto_region 14 with (first
            | (go_at_call 26; (with_reducible refine HAll.out.mono ?_); rintro e W3 ⟨⟨v, rfl, hv⟩, b3⟩; obtain ⟨b9, c9, hv9, lb9, d9⟩ := hv.row.at q HNq.out; rw [HNn.out] at hv9; subst hv9; clear hv; rw [HPf.out] at d9; have H3 := HH.out.past b3; have x2 := H3.wd.cell (k := 2) rfl; have xl := H3.wd.lt; clear H3)
            | (go_at_call 16; (with_reducible refine (HKy.out W3 b3).mono ?_); rintro e W4 ⟨rfl, b4⟩; have Q4 := b3.trans (b4.mono b3.size)))
          obtain ⟨kb, hkb⟩ : ∃ b, W4.heap.size = b := ⟨_, rfl⟩
          have H5' := (HH.out.past Q4).add (bal W4 (.cells #[.int .i64 kg, .int .i64 kv, .int .i64 kr] 37)) (box W4.heap.size 37 [.int .i64 kg, .int .i64 kv, .int .i64 kr]) (Blk.new W4 37 [.int .i64 kg, .int .i64 kv, .int .i64 kr]) (fun b e => Nat.le_of_eq e.symm)
          obtain ⟨W5, hW5⟩ : ∃ W', W4.alloc (.cells #[.int .i64 kg, .int .i64 kv, .int .i64 kr] 37) = W' := ⟨_, rfl⟩
          rw [show (W4.alloc (.cells ([.int .i64 kg, .int .i64 kv, .int .i64 kr] : List Value).toArray 37)) = W5 from hW5, hkb] at H5'
          have H5 : HG w W5 A P24 V G [box kb 37 [.int .i64 kg, .int .i64 kv, .int .i64 kr], wld wb A] := H5'
          rw [hW5, hkb]
          have hof5 : ∀ W, Below W5.heap.size W5 W → Calls Try.prog 15 #[.pointer (some ⟨A.sp, 0, none⟩), .int .i64 kg] W fun e w' => (∃ v, e = .returned v ∧ NewI W.heap.size w' v (sof G.s.ps kg)) ∧ Below W.heap.size W w' := fun W hW => sof_any (H5.past hW).sx kg
          have HOf5 := Lib.hid hof5
          have h2 := H5.wd2.cell (k := 2) rfl
          have hwl := H5.wd2.lt
          have hb0 := (show Blk W5 kb 37 _ from H5.top).cell (k := 0) rfl
          have hbl := (show Blk W5 kb 37 _ from H5.top).lt
          have HH5 := Lib.hid H5
          clear hW5 hkb H5' H5 hof5 Q4 b3 b4 lb9 d9 x2 xl d2 dl HH HOf HKy
          go_wp2_with fail
          go_region_held3 (fun w' => w'.cell? ⟨wb, 2, none⟩ = some (.pointer (some ⟨A.sp, 0, none⟩)) ∧ w'.cell? ⟨kb, 0, none⟩ = some (.int .i64 kg)) (go_keep) (first
            | (go_at_call 15; (with_reducible refine (HOf5.out _ ((Below.refl _ W5).drew)).mono ?_); rintro e W6 ⟨⟨v6, rfl, hv6⟩, b6⟩; obtain ⟨a6, c6, rfl⟩ := hv6.form; rw [HM1.out] at hv6 ⊢; clear hv6; have q6 := (Below.refl W5.heap.size W5).drew.trans b6; have H6 := HH5.out.past q6; have h2' := H6.wd2.cell (k := 2) rfl; have hwl' := H6.wd2.lt; have hb0' := (show Blk W6 kb 37 _ from H6.top).cell (k := 0) rfl; have hbl' := (show Blk W6 kb 37 _ from H6.top).lt; have g3 := H6.wd2.cell (k := 3) rfl; have HH6 := Lib.hid H6; clear H6 q6))
          all_goals
            go_wp2_with (first
              | (go_at_call 18; (with_reducible refine (HPut.out _ _ _ HH6.out).mono ?_); rintro e W7 ⟨⟨r7, rfl⟩, V7, h7⟩; have g4 := h7.wd2.cell (k := 4) rfl; have gl := h7.wd2.lt; have HH7 := Lib.hid h7; clear h7)
              | (go_at_call 34; (with_reducible refine (HDr.out _ _ _ HH7.out).mono ?_); rintro e W8 ⟨rfl, V8, h8⟩; have k2 := h8.wd2.cell (k := 2) rfl; have k4 := h8.wd2.cell (k := 4) rfl; have kl := h8.wd2.lt; have kb0 := (show Blk W8 kb 37 _ from h8.top).cell (k := 0) rfl; have kbl := (show Blk W8 kb 37 _ from h8.top).lt; have HH8 := Lib.hid h8; clear h8))
            go_region_held3 (fun w' => w'.cell? ⟨wb, 2, none⟩ = some (.pointer (some ⟨A.sp, 0, none⟩)) ∧ w'.cell? ⟨kb, 0, none⟩ = some (.int .i64 kg)) (go_keep) (first
              | (go_at_call 15; (with_reducible refine (HOf2.out _ _ _ HH8.out.drew).mono ?_); rintro e W9 ⟨⟨v9, rfl, hv9⟩, b9'⟩; obtain ⟨a9, c9', rfl⟩ := hv9.form; rw [HM2.out] at hv9 ⊢; clear hv9; have q9 := (Below.refl W8.heap.size W8).drew.trans b9'; have H9 := HH8.out.past q9; have n2 := H9.wd2.cell (k := 2) rfl; have n4 := H9.wd2.cell (k := 4) rfl; have nl := H9.wd2.lt; have nb0 := (show Blk W9 kb 37 _ from H9.top).cell (k := 0) rfl; have nb2 := (show Blk W9 kb 37 _ from H9.top).cell (k := 2) rfl; have nbl := (show Blk W9 kb 37 _ from H9.top).lt; have HH9 := Lib.hid H9; clear H9 q9))
          all_goals
            by_cases hkr : kr = 0
            · obtain ⟨e1, e2, e3⟩ := H18.out hkr
              subst hkr e1
              have fw : IntKind.i64.wrap ((m1 : Int) - 1) = (m1 : Int) - 1 := by unfold IntKind.wrap; simp [IntKind.signed, IntKind.bits]; omega
              have f1 : ((m2 : Int) != (m1 : Int) - 1) = false := bne_eq_false_iff_eq.2 (by omega)
              obtain ⟨gm, hgm⟩ : ∃ x, decide ((m1 : Int) > 1) = x := ⟨_, rfl⟩
              rw [hgm] at e3
              subst e3
              clear e2
              cases pr2
              all_goals
                go_wp2_with fail
                go_region_held3 (fun w' => w'.cell? ⟨wb, 4, none⟩ = some (.pointer (some ⟨A.dp, 0, none⟩)) ∧ w'.cell? ⟨kb, 0, none⟩ = some (.int .i64 kg) ∧ w'.cell? ⟨kb, 2, none⟩ = some (.int .i64 0)) (go_keep) (first
                  | (go_at_call 13; (with_reducible refine (HLo2.out _ _ _ HH9.out.drew).mono ?_); rintro e W10 ⟨rfl, b10⟩; have q10 := (Below.refl W9.heap.size W9).drew.trans b10; have H10 := HH9.out.past q10; have p4 := H10.wd2.cell (k := 4) rfl; have pl := H10.wd2.lt; have pb0 := (show Blk W10 kb 37 _ from H10.top).cell (k := 0) rfl; have pb2 := (show Blk W10 kb 37 _ from H10.top).cell (k := 2) rfl; have pbl := (show Blk W10 kb 37 _ from H10.top).lt; have HH10 := Lib.hid H10; clear H10 q10)
                  | (go_at_call 17; (with_reducible refine (HPr2.out _ _ _ HH10.out).mono ?_); rintro e W11 ⟨rfl, b11⟩; have H11 := HH10.out.past b11; have r4 := H11.wd2.cell (k := 4) rfl; have rl := H11.wd2.lt; have rb0 := (show Blk W11 kb 37 _ from H11.top).cell (k := 0) rfl; have rb2 := (show Blk W11 kb 37 _ from H11.top).cell (k := 2) rfl; have rbl := (show Blk W11 kb 37 _ from H11.top).lt; have HH11 := Lib.hid H11; clear H11))
                all_goals
                  go_wp2_with (first
                    | (go_at_call 34; (with_reducible refine (HDr2.out _ _ _ HH11.out).mono ?_); rintro e W12 ⟨rfl, V12, h12⟩; have s3 := h12.wd2.cell (k := 3) rfl; have s2 := h12.wd2.cell (k := 2) rfl; have sl := h12.wd2.lt; have HH12 := Lib.hid h12; clear h12)
                    | (go_at_call 22; (with_reducible refine (HMany.out _ _ _ HH12.out).mono ?_); rintro e W13 ⟨rfl, rfl⟩)
                    | (go_at_call 26; (with_reducible refine (HAll2.out _ _ _ HH12.out).mono ?_); rintro e W14 ⟨⟨v14, rfl, hv14⟩, b14⟩; obtain ⟨a14, c14, rfl⟩ := hv14.form; rw [HM3.out] at hv14 ⊢; clear hv14; have HH14 := Lib.hid (HH12.out.past b14); clear b14))
                  go_ret
                  exact ⟨rfl, HH14.out.below⟩
            · have f1 : (kr == 0) = false := beq_eq_false_iff_ne.2 hkr
              go_wp2_with fail
              go_quiet (fail)
              go_wp2_with (first
                | (go_at_call 34; (with_reducible refine (HDr2.out _ _ _ (HH9.out.drewN _)).mono ?_); rintro e W12 ⟨rfl, V12, h12⟩; have s3 := h12.wd2.cell (k := 3) rfl; have s2 := h12.wd2.cell (k := 2) rfl; have sl := h12.wd2.lt; have HH12 := Lib.hid h12; clear h12)
                | (go_at_call 22; (with_reducible refine (HMany.out _ _ _ HH12.out).mono ?_); rintro e W13 ⟨rfl, rfl⟩)
                | (go_at_call 26; (with_reducible refine (HAll2.out _ _ _ HH12.out).mono ?_); rintro e W14 ⟨⟨v14, rfl, hv14⟩, b14⟩; obtain ⟨a14, c14, rfl⟩ := hv14.form; rw [HM3.out] at hv14 ⊢; clear hv14; have HH14 := Lib.hid (HH12.out.past b14); clear b14))
              go_ret
              exact ⟨rfl, HH14.out.below⟩
theorem u8_bd {v : Int} (h : (Lit.int .u8 v).wf = true) : ∃ n : Nat, v = (n : Int) ∧ n < 256 := by
  simp [Lit.wf, IntKind.min, IntKind.max, IntKind.signed, IntKind.bits] at h
  exact ⟨v.toNat, by omega, by omega⟩
theorem GuardDrops_walk (w : World) (a : Option Addr) (c : Nat) (l : List (Int × Int × Nat)) (hp : Ps w a l) (hlen : l.length ≤ 9223372036854775807) (oa : Option Addr) (oc : Nat) (ops : List Opg) (hop : Gops w oa ops) (holen : ops.length ≤ 9223372036854775807) (x : Int) (hx : (Lit.int .u8 x).wf = true) :
    Calls Try.prog 8 #[.slice a l.length c, .slice oa ops.length oc, .int .u8 x] w fun e w' => e = .returned (.bool true) ∧ Below w.heap.size w w' := by
  obtain ⟨x, rfl, hx'⟩ := u8_bd hx
  exact GuardDrops_nat w a c l hp hlen oa oc ops hop holen x hx'
end Go.Proofs.Ytldmlmojokicaaa
