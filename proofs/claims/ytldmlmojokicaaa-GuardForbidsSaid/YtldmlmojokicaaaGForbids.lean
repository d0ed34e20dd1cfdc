/- GuardForbids's walk. -/
import Derived.Test.YtldmlmojokicaaaGlaw
import Derived.Test.YtldmlmojokicaaaGuP
import Derived.Laws.StructEq
namespace Go.Proofs.Ytldmlmojokicaaa
open Go.RowKit Go.Shelf Go.Maps
theorem row_at {w : World} {bb n c : Nat} {L : List Int} {g : Int} (h : RowI w (.slice (some ⟨bb, 0, none⟩) n c) L) (hn : L.length = n) (m : Nat) (hm : m < n) (hg : L.getD m 0 = g) : w.cell? ⟨bb, m, none⟩ = some (.int .i64 g) := by
  obtain ⟨b, c', e, _, d⟩ := RowI.at h m (by rw [hn]; exact hm)
  injection e with e1 e2 e3
  injection e1 with e1
  injection e1 with e1
  subst e1
  rw [← hg]; exact d
set_option maxRecDepth 100000 in
set_option maxHeartbeats 32000000 in
theorem GuardForbids_walk (w00 : World) (a : Option Addr) (c : Nat) (l : List (Int × Int × Nat)) (hp : Ps w00 a l) (hlen : l.length ≤ 9223372036854775807) (oa : Option Addr) (oc : Nat) (ops : List Opg) (hop : Gops w00 oa ops) (holen : ops.length ≤ 9223372036854775807) (kg kv kr : Int) :
    Calls Try.prog 4 #[.slice a l.length c, .slice oa ops.length oc, .agg #[.int .i64 kg, .int .i64 kv, .int .i64 kr]] w00 fun e w' => e = .returned (.bool true) ∧ Below w00.heap.size w00 w' := by
  have bw0 := bal w00 (.cells #[.int .i64 kg, .int .i64 kv, .int .i64 kr] 37)
  have hkb0 := Blk.new w00 37 [.int .i64 kg, .int .i64 kv, .int .i64 kr]
  obtain ⟨kb, hkb⟩ : ∃ b, w00.heap.size = b := ⟨_, rfl⟩
  obtain ⟨w, hw00⟩ : ∃ W', w00.alloc (.cells #[.int .i64 kg, .int .i64 kv, .int .i64 kr] 37) = W' := ⟨_, rfl⟩
  rw [show (w00.alloc (.cells ([.int .i64 kg, .int .i64 kv, .int .i64 kr] : List Value).toArray 37)) = w from hw00, hkb] at hkb0
  rw [hw00] at bw0
  replace hp := hp.below bw0
  replace hop := hop.below bw0
  have hb0 : ∀ W, Below w.heap.size w W → Below w00.heap.size w00 W := fun W h => bw0.trans (h.mono bw0.size)
  have HKB := Lib.hid hkb0
  have HKb := Lib.hid hkb
  have HW00 := Lib.hid hw00
  have B0 := Lib.hid hb0
  clear bw0 hkb0 hkb hw00 hb0
  have hh := ghead_any w
  obtain ⟨len, hl⟩ : ∃ len, l.length = len := ⟨_, rfl⟩
  obtain ⟨on, hol⟩ : ∃ n, ops.length = n := ⟨_, rfl⟩
  obtain ⟨G0, hG0⟩ : ∃ G, G24 (gputs l) = G := ⟨_, rfl⟩
  have hI0 : GInv P24 G0 := hG0 ▸ G24_inv _ (gputs_len l)
  have hm : ∀ W, Below w.heap.size w W → Calls Try.prog 11 #[.slice a len c] W fun e w' => ∃ wb A, e = .returned (.pointer (some ⟨wb, 0, none⟩)) ∧ HG w w' A P24 V24 G0 [wld wb A] := fun W b => by
    have h := gmade_any W a c l (hp.below b) hlen
    rw [hl, hG0] at h
    exact h.mono fun e w' ⟨wb, A, he, H⟩ => ⟨wb, A, he, H.base b⟩
  rw [hl] at hlen ⊢
  rw [hol] at holen ⊢
  have hgr := fun W => great_any W a oa c oc len on hlen holen
  obtain ⟨gr, hgr'⟩ : ∃ b, (decide (600 < len) || decide (120 < on)) = b := ⟨_, rfl⟩
  rw [hgr'] at hgr
  have HH := Lib.hid hh
  have HM := Lib.hid hm
  have HGr := Lib.hid hgr
  have HI0 := Lib.hid hI0
  have HOp := Lib.hid hop
  have HOl := Lib.hid hol
  clear hh hm hgr hI0 hop hol hp hl hG0 hgr' hlen
  cases gr with
  | true =>
    go_enter Try.func4, Try.ntmps4
    go_upto_region 1 with (fail)
    rw [HW00.out, HKb.out]
    go_wp2_with (first
      | (go_at_call 10; (with_reducible refine HH.out.mono ?_); rintro e W0 ⟨rfl, b0⟩)
      | (go_at_call 11; (with_reducible refine (HM.out _ b0).mono ?_); rintro e W1 ⟨wb, A, rfl, H1⟩; clear b0)
      | (go_at_call 12; (with_reducible refine (HGr.out W1).mono ?_); rintro e W2 ⟨rfl, rfl⟩))
    go_ret
    exact ⟨rfl, B0.out _ H1.below⟩
  | false =>
    go_enter Try.func4, Try.ntmps4
    go_upto_region 1 with (fail)
    rw [HW00.out, HKb.out]
    go_wp2_with (first
      | (go_at_call 10; (with_reducible refine HH.out.mono ?_); rintro e W0 ⟨rfl, b0⟩)
      | (go_at_call 11; (with_reducible refine (HM.out _ b0).mono ?_); rintro e W1 ⟨wb, A, rfl, H1⟩; clear b0)
      | (go_at_call 12; (with_reducible refine (HGr.out W1).mono ?_); rintro e W2 ⟨rfl, rfl⟩))
    clear HM HGr HH
    go_loopw [9] (fun i wr => ∃ k : Nat, k ≤ on ∧ i = .int .i64 k ∧ ∃ V, HG w wr A P24 V (grun P24 G0 (ops.take k)) [wld wb A]) (fun i _ => on - (intOf i).toNat)
    case atStart => exact ⟨0, by omega, rfl, _, H1⟩
    case round =>
      obtain ⟨k, hk, rfl, V, H⟩ := hrel
      clear H1
      by_cases hkl : k < on
      · obtain ⟨b, off, ok, okg, okv, okr, op, oi, og, ow, ou, ox, ov, rfl, lb, ho, hov, C0, C1, C2, C3, C4, C5, C6, C7, C8, C9, C10⟩ := HOp.out.at k (by rw [HOl.out]; exact hkl)
        have HC0 := Lib.hid C0
        have HC1 := Lib.hid C1
        have HC2 := Lib.hid C2
        have HC3 := Lib.hid C3
        have HC4 := Lib.hid C4
        have HC5 := Lib.hid C5
        have HC6 := Lib.hid C6
        have HC7 := Lib.hid C7
        have HC8 := Lib.hid C8
        have HC9 := Lib.hid C9
        have HC10 := Lib.hid C10
        have HOv := Lib.hid hov
        clear C0 C1 C2 C3 C4 C5 C6 C7 C8 C9 C10 hov
        obtain ⟨Gk, hGk⟩ : ∃ G, grun P24 G0 (ops.take k) = G := ⟨_, rfl⟩
        have hIk : GInv P24 Gk := hGk ▸ grun_inv HI0.out _
        have hn : grun P24 G0 (ops.take (k + 1)) = (gdo P24 Gk ⟨ok, okg, okv, okr, op, oi, og, ⟨ow, ou, ox⟩, ov⟩).2 := by rw [grun_take _ _ _ _ (by rw [HOl.out]; exact hkl), hGk, ho]
        rw [hGk] at H
        have hd := gdo24 H hIk ok okg okv okr op oi og ow ou ox ov HOv.out
        have HD := Lib.hid hd
        have HN := Lib.hid hn
        have c0 := (H.below.cell (p := ⟨b, _, none⟩) lb).trans HC0.out
        have c1 := (H.below.cell (p := ⟨b, _, none⟩) lb).trans HC1.out
        have c2 := (H.below.cell (p := ⟨b, _, none⟩) lb).trans HC2.out
        have c3 := (H.below.cell (p := ⟨b, _, none⟩) lb).trans HC3.out
        have c4 := (H.below.cell (p := ⟨b, _, none⟩) lb).trans HC4.out
        have c5 := (H.below.cell (p := ⟨b, _, none⟩) lb).trans HC5.out
        have c6 := (H.below.cell (p := ⟨b, _, none⟩) lb).trans HC6.out
        have c7 := (H.below.cell (p := ⟨b, _, none⟩) lb).trans HC7.out
        have c8 := (H.below.cell (p := ⟨b, _, none⟩) lb).trans HC8.out
        have c9 := (H.below.cell (p := ⟨b, _, none⟩) lb).trans HC9.out
        have c10 := (H.below.cell (p := ⟨b, _, none⟩) lb).trans HC10.out
        have HH := Lib.hid H
        clear H hd hn hIk hGk ho
        go_wp2_with (go_at_call 14; (with_reducible refine HD.out.mono ?_); rintro e W3 ⟨⟨x3, rfl⟩, V3, h3⟩; have H3 := Lib.hid h3; clear h3)
        go_roundw
        case rel => exact ⟨k + 1, by omega, by simp, V3, by rw [HN.out]; exact H3.out⟩
        case measure => simp [intOf]; omega

      · obtain rfl : on = k := by omega
        rw [show ops.take on = ops from by rw [← HOl.out, List.take_length]] at H
        have HI := Lib.hid (grun_inv HI0.out ops)
        obtain ⟨G, hG⟩ : ∃ G, grun P24 G0 ops = G := ⟨_, rfl⟩
        rw [hG] at H HI
        clear hkl hk hG
        have hI := HI.out
        obtain ⟨G1, hG1⟩ : ∃ g : GS, { G with l := tput P24.most G.l ⟨0, 5, 0, ⟨false, false, false⟩, false⟩ } = g := ⟨_, rfl⟩
        have hput : ∀ W V ts, HG w W A P24 V G ts → Calls Try.prog 18 #[.pointer (some ⟨A.tp, 0, none⟩), .agg #[.int .i64 0, .int .i64 5, .int .i64 0, .bool false, .bool false, .bool false, .bool false]] W fun e w' => (∃ r, e = .returned r) ∧ ∃ V', HG w w' A P24 V' G1 ts := fun W V ts h => hG1 ▸ tput_h h (by decide) ⟨0, 5, 0, ⟨false, false, false⟩, false⟩
        have hI1 : GInv P24 G1 := hG1 ▸ tput_inv hI _
        obtain ⟨had, hhad⟩ : ∃ x, gwrit G1 kg = x := ⟨_, rfl⟩
        obtain ⟨lo, hlo⟩ : ∃ x, G1.loose.contains kg = x := ⟨_, rfl⟩
        obtain ⟨fo, hfo⟩ : ∃ x, sfind G1.s.ps ⟨kg, kv, kr⟩ = x := ⟨_, rfl⟩
        obtain ⟨there, hth⟩ : ∃ x, fo.isSome = x := ⟨_, rfl⟩
        obtain ⟨isv, his⟩ : ∃ x, (gmake P24 G1 ⟨kg, kv, kr⟩).1.isSome = x := ⟨_, rfl⟩
        obtain ⟨mv, hmv⟩ : ∃ x, (gmake P24 G1 ⟨kg, kv, kr⟩).1.getD 0 = x := ⟨_, rfl⟩
        obtain ⟨G2, hG2⟩ : ∃ g, (gmake P24 G1 ⟨kg, kv, kr⟩).2 = g := ⟨_, rfl⟩
        have hI2 : GInv P24 G2 := hG2 ▸ gmake_inv hI1 _
        have hlaw : there = false → isv = true → kr = 0 → gwrit G2 kg = false ∧ (had = true ∨ lo = true → G2.l = []) := fun h1 h2 h3 => by
          have hno : sfind G1.s.ps ⟨kg, kv, kr⟩ = none := by
            rw [hfo]
            rw [h1] at hth
            cases fo with
            | none => rfl
            | some x => simp at hth
          have := gmake_forbids POk24 hI1 ⟨kg, kv, kr⟩ hno (his.trans h2) h3
          rw [hG2] at this
          dsimp only at this
          rw [hhad, hlo] at this
          exact this
        have hwr1 : ∀ W V ts, HG w W A P24 V G1 (wld wb A :: ts) → Calls Try.prog 19 #[.pointer (some ⟨wb, 0, none⟩), .int .i64 kg] W fun e w' => e = .returned (.bool had) ∧ Below W.heap.size W w' := fun W V ts h => hhad ▸ gwrit_any h kg
        have hfi : ∀ W V ts, HG w W A P24 V G1 ts → Calls Try.prog 20 #[.pointer (some ⟨A.sp, 0, none⟩), .agg #[.int .i64 kg, .int .i64 kv, .int .i64 kr]] W fun e w' => e = .returned (.tuple #[.int .i64 (fo.getD 0), .bool there]) ∧ Below W.heap.size W w' := fun W V ts h => hth ▸ sfind_any h.sx kg kv kr fo hfo
        have hlo1 : ∀ W V ts, HG w W A P24 V G1 ts → Calls Try.prog 13 #[.pointer (some ⟨A.dp, 0, none⟩), .int .i64 kg] W fun e w' => e = .returned (.bool lo) ∧ Below W.heap.size W w' := fun W V ts h => hlo ▸ gloose_any h kg
        have hmk : ∀ W V ts, HG w W A P24 V G1 ts → Calls Try.prog 21 #[.pointer (some ⟨A.dp, 0, none⟩), .agg #[.int .i64 kg, .int .i64 kv, .int .i64 kr]] W fun e w' => e = .returned (.tuple #[.int .i64 mv, .bool isv]) ∧ ∃ V', HG w w' A P24 V' G2 ts := fun W V ts h => by
          have := gmake_h h kg kv kr
          rw [his, hmv, hG2] at this
          exact this
        have d3 := H.wd.cell (k := 3) rfl
        have dl := H.wd.lt
        have HPut := Lib.hid hput
        have HLaw := Lib.hid hlaw
        have HWr1 := Lib.hid hwr1
        have HFi := Lib.hid hfi
        have HLo1 := Lib.hid hlo1
        have HMk := Lib.hid hmk
        have HI2 := Lib.hid hI2
        have HH := Lib.hid H
        obtain ⟨fv, hfv⟩ : ∃ x, fo.getD 0 = x := ⟨_, rfl⟩
        rw [hfv] at HFi
        clear hfv
        clear hput hlaw hwr1 hfi hlo1 hmk hI2 hI1 H hhad hlo hfo hth his hmv hG2 hG1 HI hI HOp HOl HI0
        go_wp2_with (first
          | (go_at_call 18; (with_reducible refine (HPut.out _ _ _ HH.out).mono ?_); rintro e W3 ⟨⟨r3, rfl⟩, V3, h3⟩; have p3k0 := (HKB.out.past h3.below).cell (k := 0) rfl; have p3k1 := (HKB.out.past h3.below).cell (k := 1) rfl; have p3k2 := (HKB.out.past h3.below).cell (k := 2) rfl; have p3kl := (HKB.out.past h3.below).lt; have HH3 := Lib.hid h3; clear h3)
          | (go_at_call 19; (with_reducible refine (HWr1.out _ _ _ HH3.out).mono ?_); rintro e W4 ⟨rfl, b4⟩; have h4 := HH3.out.past b4; have p4k0 := (HKB.out.past h4.below).cell (k := 0) rfl; have p4k1 := (HKB.out.past h4.below).cell (k := 1) rfl; have p4k2 := (HKB.out.past h4.below).cell (k := 2) rfl; have p4kl := (HKB.out.past h4.below).lt; have q42 := h4.wd.cell (k := 2) rfl; have q4l := h4.wd.lt; have HH4 := Lib.hid h4; clear h4 b4))
        go_region_held3 (fun w' => w'.cell? ⟨wb, 2, none⟩ = some (.pointer (some ⟨A.sp, 0, none⟩)) ∧ w'.cell? ⟨kb, 0, none⟩ = some (.int .i64 kg) ∧ w'.cell? ⟨kb, 1, none⟩ = some (.int .i64 kv) ∧ w'.cell? ⟨kb, 2, none⟩ = some (.int .i64 kr)) (go_keep) (first
          | (go_at_call 20; (with_reducible refine (HFi.out _ _ _ HH4.out.drew).mono ?_); rintro e W5 ⟨rfl, b5⟩; have h5 := HH4.out.past ((Below.refl W4.heap.size W4).drew.trans b5); have p5k0 := (HKB.out.past h5.below).cell (k := 0) rfl; have p5k1 := (HKB.out.past h5.below).cell (k := 1) rfl; have p5k2 := (HKB.out.past h5.below).cell (k := 2) rfl; have p5kl := (HKB.out.past h5.below).lt; have q52 := h5.wd.cell (k := 2) rfl; have q54 := h5.wd.cell (k := 4) rfl; have q5l := h5.wd.lt; have HH5 := Lib.hid h5; clear h5))
        all_goals
          go_wp2_with fail
          go_region_held3 (fun w' => w'.cell? ⟨wb, 4, none⟩ = some (.pointer (some ⟨A.dp, 0, none⟩)) ∧ w'.cell? ⟨kb, 0, none⟩ = some (.int .i64 kg)) (go_keep) (first
            | (go_at_call 13; (with_reducible refine (HLo1.out _ _ _ HH5.out.drew).mono ?_); rintro e W6 ⟨rfl, b6⟩; have h6 := HH5.out.past ((Below.refl W5.heap.size W5).drew.trans b6); have p6k0 := (HKB.out.past h6.below).cell (k := 0) rfl; have p6k1 := (HKB.out.past h6.below).cell (k := 1) rfl; have p6k2 := (HKB.out.past h6.below).cell (k := 2) rfl; have p6kl := (HKB.out.past h6.below).lt; have q64 := h6.wd.cell (k := 4) rfl; have q6l := h6.wd.lt; have HH6 := Lib.hid h6; clear h6))
        all_goals
          go_wp2_with fail
          go_region_held3 (fun w' => w'.cell? ⟨wb, 4, none⟩ = some (.pointer (some ⟨A.dp, 0, none⟩)) ∧ w'.cell? ⟨kb, 0, none⟩ = some (.int .i64 kg) ∧ w'.cell? ⟨kb, 1, none⟩ = some (.int .i64 kv) ∧ w'.cell? ⟨kb, 2, none⟩ = some (.int .i64 kr)) (go_keep) (first
            | (go_at_call 21; (with_reducible refine (HMk.out _ _ _ HH6.out.drew).mono ?_); rintro e W7 ⟨rfl, V7, h7⟩; have p7k0 := (HKB.out.past h7.below).cell (k := 0) rfl; have p7k1 := (HKB.out.past h7.below).cell (k := 1) rfl; have p7k2 := (HKB.out.past h7.below).cell (k := 2) rfl; have p7kl := (HKB.out.past h7.below).lt; have q73 := h7.wd.cell (k := 3) rfl; have q74 := h7.wd.cell (k := 4) rfl; have q7l := h7.wd.lt; have HH7 := Lib.hid h7; clear h7))
        all_goals
          have hwr2 : ∀ W, Below W7.heap.size W7 W → Calls Try.prog 19 #[.pointer (some ⟨wb, 0, none⟩), .int .i64 kg] W fun e w' => e = .returned (.bool (gwrit G2 kg)) ∧ Below W.heap.size W w' := fun W hW => gwrit_any (HH7.out.past hW) kg
          have hmn2 : ∀ W, Below W7.heap.size W7 W → Calls Try.prog 22 #[.pointer (some ⟨A.tp, 0, none⟩)] W fun e w' => e = .returned (.int .i64 (G2.l.length : Int)) ∧ W = w' := fun W hW => many_any (HH7.out.past hW)
          obtain ⟨wv, hwv⟩ : ∃ x, gwrit G2 kg = x := ⟨_, rfl⟩
          obtain ⟨mn, hmn⟩ : ∃ x, G2.l.length = x := ⟨_, rfl⟩
          rw [hwv] at hwr2
          rw [hmn] at hmn2
          have hcase : there = true ∨ (there = false ∧ isv = false) ∨ (there = false ∧ isv = true ∧ (kr == 0) = false) ∨ (there = false ∧ isv = true ∧ (kr == 0) = true ∧ wv = false ∧ had = true ∧ mn = 0) ∨ (there = false ∧ isv = true ∧ (kr == 0) = true ∧ wv = false ∧ had = false ∧ lo = true ∧ mn = 0) ∨ (there = false ∧ isv = true ∧ (kr == 0) = true ∧ wv = false ∧ had = false ∧ lo = false) := by
            cases there with
            | true => exact .inl rfl
            | false =>
              cases isv with
              | false => exact .inr (.inl ⟨rfl, rfl⟩)
              | true =>
                by_cases h0 : kr = 0
                · obtain ⟨e1, e2⟩ := HLaw.out rfl rfl h0
                  have f0 : (kr == 0) = true := beq_iff_eq.2 h0
                  rw [hwv] at e1
                  have e3 : had = true ∨ lo = true → mn = 0 := fun h => by
                    have := e2 h
                    rw [this] at hmn
                    exact hmn.symm
                  cases had with
                  | true => exact .inr (.inr (.inr (.inl ⟨rfl, rfl, f0, e1, rfl, e3 (.inl rfl)⟩)))
                  | false =>
                    cases lo with
                    | true => exact .inr (.inr (.inr (.inr (.inl ⟨rfl, rfl, f0, e1, rfl, rfl, e3 (.inr rfl)⟩))))
                    | false => exact .inr (.inr (.inr (.inr (.inr ⟨rfl, rfl, f0, e1, rfl, rfl⟩))))
                · exact .inr (.inr (.inl ⟨rfl, rfl, beq_eq_false_iff_ne.2 h0⟩))
          have HWr2 := Lib.hid hwr2
          have HMn2 := Lib.hid hmn2
          have Q := Below.refl W7.heap.size W7
          clear hwr2 hmn2 hwv hmn HLaw
          rcases hcase with rfl | ⟨rfl, rfl⟩ | ⟨rfl, rfl, f0⟩ | ⟨rfl, rfl, f0, rfl, rfl, rfl⟩ | ⟨rfl, rfl, f0, rfl, rfl, rfl, rfl⟩ | ⟨rfl, rfl, f0, rfl, rfl, rfl⟩
        all_goals
          go_upto_region 16 with (first
            | (go_at_call 19; (with_reducible refine (HWr2.out _ Q).mono ?_); rintro e W8 ⟨rfl, b8⟩; replace Q := Q.trans (b8.mono Q.size); clear b8; have h8 := HH7.out.past Q; have q83 := h8.wd.cell (k := 3) rfl; have q8l := h8.wd.lt; clear h8)
            | (go_at_call 22; (with_reducible refine (HMn2.out _ Q).mono ?_); rintro e W9 ⟨rfl, rfl⟩))
        all_goals
          have H9 := HH7.out.past Q
          have HH9 := Lib.hid H9
          have HQ := Lib.hid Q
          have hli := fun W (hW : Below W7.heap.size W7 W) => glist_any (HH7.out.past hW) HI2.out.few
          obtain ⟨L, hL⟩ : ∃ l, G2.loose = l := ⟨_, rfl⟩
          obtain ⟨n, hn⟩ : ∃ n, L.length = n := ⟨_, rfl⟩
          have hnb : n ≤ 1000 := by rw [← hn, ← hL]; exact HI2.out.few
          rw [hL] at hli
          have HLi := Lib.hid hli
          have HL := Lib.hid hL
          have HNn := Lib.hid hn
          clear H9 Q hli hL hn
          have m4 := HH9.out.wd.cell (k := 4) rfl
          have ml := HH9.out.wd.lt
          go_wp2_with (first
            | (go_at_call 23; (with_reducible refine (HLi.out _ HQ.out).mono ?_); rintro e W10 ⟨⟨v, rfl, hv⟩, b10⟩; obtain ⟨a10, c10, rfl⟩ := hv.form; have h10 : HG w W10 A P24 V7 G2 (ints (.slice a10 L.length c10) L :: [wld wb A]) := HH9.out.add b10 _ hv.row (fun b hb => hv.lo b hb); rw [HNn.out] at h10 ⊢; have HH10 := Lib.hid h10; clear h10 hv b10))
          obtain ⟨WA, rfl⟩ : ∃ W, W = wr := ⟨_, rfl⟩
          go_loopw [17] (fun i wr => ∃ m : Nat, m ≤ n ∧ i = .int .i64 m ∧ ∃ V', HG w wr A P24 V' (fbl P24 G2 (L.take m)) [wld wb A, ints (.slice a10 n c10) L]) (fun i _ => n - (intOf i).toNat)
          case atStart => exact ⟨0, by omega, rfl, V7, HH10.out.swap⟩
          case round =>
            obtain ⟨m, hm, rfl, V', H3⟩ := hrel
            clear HH10
            by_cases hmn : m < n
            · have hmL : m < L.length := by rw [HNn.out]; exact hmn
              obtain ⟨bb, cc, hv, lb, d0⟩ := RowI.at (show RowI wr (.slice a10 n c10) L from H3.top2) m hmL
              rw [HNn.out] at hv
              obtain ⟨rfl, rfl⟩ : a10 = some ⟨bb, 0, none⟩ ∧ c10 = cc := by injection hv with h1 h2 h3; exact ⟨h1, h3⟩
              have ht : fbl P24 G2 (L.take (m + 1)) = (glook P24 { (fbl P24 G2 (L.take m)) with l := tput P24.most (fbl P24 G2 (L.take m)).l ⟨0, 5, 0, ⟨false, false, false⟩, false⟩ } (L.getD m 0)).2 := foldl_take _ 0 G2 L m hmL
              have hlm := fbl_loose (P := P24) L G2 HI2.out.lnd m HL.out.symm
              have hIm := fbl_inv HI2.out (L.take m)
              rw [HL.out] at hlm
              obtain ⟨g, hg⟩ : ∃ x, L.getD m 0 = x := ⟨_, rfl⟩
              have hgl : (fbl P24 G2 (L.take m)).loose.contains g = true := by
                have hd : L.drop m = L.getD m 0 :: L.drop (m + 1) := by rw [List.drop_eq_getElem_cons hmL, List.getD, List.getElem?_eq_getElem hmL]; rfl
                rw [hlm, hd, hg, List.contains_cons]
                simp
              rw [hg] at d0 ht
              obtain ⟨Gm, hGm⟩ : ∃ G, fbl P24 G2 (L.take m) = G := ⟨_, rfl⟩
              rw [hGm] at ht hIm hgl H3
              obtain ⟨Gp, hGp⟩ : ∃ G : GS, { Gm with l := tput P24.most Gm.l ⟨0, 5, 0, ⟨false, false, false⟩, false⟩ } = G := ⟨_, rfl⟩
              have hput2 : ∀ W V ts, HG w W A P24 V Gm ts → Calls Try.prog 18 #[.pointer (some ⟨A.tp, 0, none⟩), .agg #[.int .i64 0, .int .i64 5, .int .i64 0, .bool false, .bool false, .bool false, .bool false]] W fun e w' => (∃ r, e = .returned r) ∧ ∃ V', HG w w' A P24 V' Gp ts := fun W V ts h => hGp ▸ tput_h h (by decide) ⟨0, 5, 0, ⟨false, false, false⟩, false⟩
              have hIp : GInv P24 Gp := hGp ▸ tput_inv hIm _
              have hgp : Gp.loose.contains g = true := by rw [← hGp]; exact hgl
              rw [hGp] at ht
              obtain ⟨q, _, hq, _, _⟩ := lo_g hIp g hgp
              obtain ⟨z1, z2, _⟩ := glook_view POk24 hIp g hgp q hq
              have z3 := glook_writ POk24 hIp g hgp
              have z4 := glook_not P24 Gp g
              rw [← ht] at z2 z3 z4
              obtain ⟨Gn, hGn⟩ : ∃ G, fbl P24 G2 (L.take (m + 1)) = G := ⟨_, rfl⟩
              rw [hGn] at ht z2 z3 z4
              have z5 : Gn.loose.contains g = false := by simpa using z4
              have hlk : ∀ W V ts, HG w W A P24 V Gp ts → Calls Try.prog 24 #[.pointer (some ⟨A.dp, 0, none⟩), .int .i64 g] W fun e w' => e = .returned (.bool true) ∧ ∃ V', HG w w' A P24 V' Gn ts := fun W V ts h => by
                have := look_h h g
                rw [z1, ← ht] at this; exact this
              have hwr3 : ∀ W V ts, HG w W A P24 V Gn (wld wb A :: ts) → Calls Try.prog 19 #[.pointer (some ⟨wb, 0, none⟩), .int .i64 g] W fun e w' => e = .returned (.bool false) ∧ Below W.heap.size W w' := fun W V ts h => z3 ▸ gwrit_any h g
              have hmn3 : ∀ W V ts, HG w W A P24 V Gn ts → Calls Try.prog 22 #[.pointer (some ⟨A.tp, 0, none⟩)] W fun e w' => e = .returned (.int .i64 0) ∧ W = w' := fun W V ts h => by
                have := many_any h
                rw [z2] at this; exact this
              have hlo3 : ∀ W V ts, HG w W A P24 V Gn ts → Calls Try.prog 13 #[.pointer (some ⟨A.dp, 0, none⟩), .int .i64 g] W fun e w' => e = .returned (.bool false) ∧ Below W.heap.size W w' := fun W V ts h => z5 ▸ gloose_any h g
              have e3 := H3.wd.cell (k := 3) rfl
              have el := H3.wd.lt
              have HPut2 := Lib.hid hput2
              have HLk := Lib.hid hlk
              have HWr3 := Lib.hid hwr3
              have HMn3 := Lib.hid hmn3
              have HLo3 := Lib.hid hlo3
              have HGn := Lib.hid hGn
              have HG' := Lib.hid hg
              have HH3 := Lib.hid H3
              clear hput2 hlk hwr3 hmn3 hlo3 hGn hIp hgp hIm hgl ht hGm hGp hlm z1 z2 z3 z4 z5 hq H3 hv hg hmL d0
              go_wp2_with (go_at_call 18; (with_reducible refine (HPut2.out _ _ _ HH3.out).mono ?_); rintro e X1 ⟨⟨r1, rfl⟩, Y1, x1⟩; have z1 := row_at (show RowI _ (.slice (some ⟨bb, 0, none⟩) n c10) L from x1.top2) HNn.out m hmn HG'.out; have y1 := (show RowI _ (.slice (some ⟨bb, 0, none⟩) n c10) L from x1.top2).lt' bb rfl; have v13 := x1.wd.cell (k := 3) rfl; have v14 := x1.wd.cell (k := 4) rfl; have v1l := x1.wd.lt; have HX1 := Lib.hid x1; clear x1)
              go_region_held3 (fun w' => w'.cell? ⟨wb, 3, none⟩ = some (.pointer (some ⟨A.tp, 0, none⟩)) ∧ w'.cell? ⟨wb, 4, none⟩ = some (.pointer (some ⟨A.dp, 0, none⟩)) ∧ w'.cell? ⟨bb, m, none⟩ = some (.int .i64 g)) (go_keep) (first
                | (go_at_call 24; (with_reducible refine (HLk.out _ _ _ HX1.out.drew).mono ?_); rintro e X2 ⟨rfl, Y2, x2⟩; have z2 := row_at (show RowI _ (.slice (some ⟨bb, 0, none⟩) n c10) L from x2.top2) HNn.out m hmn HG'.out; have y2 := (show RowI _ (.slice (some ⟨bb, 0, none⟩) n c10) L from x2.top2).lt' bb rfl; have v23 := x2.wd.cell (k := 3) rfl; have v24 := x2.wd.cell (k := 4) rfl; have v2l := x2.wd.lt; have HX2 := Lib.hid x2; clear x2)
                | (go_at_call 19; (with_reducible refine (HWr3.out _ _ _ HX2.out).mono ?_); rintro e X3 ⟨rfl, b3⟩; have x3 := HX2.out.past b3; have z3 := row_at (show RowI _ (.slice (some ⟨bb, 0, none⟩) n c10) L from x3.top2) HNn.out m hmn HG'.out; have y3 := (show RowI _ (.slice (some ⟨bb, 0, none⟩) n c10) L from x3.top2).lt' bb rfl; have v33 := x3.wd.cell (k := 3) rfl; have v34 := x3.wd.cell (k := 4) rfl; have v3l := x3.wd.lt; have HX3 := Lib.hid x3; clear x3 b3)
                | (go_at_call 22; (with_reducible refine (HMn3.out _ _ _ HX3.out).mono ?_); rintro e X4 ⟨rfl, rfl⟩)
                | (go_at_call 13; (with_reducible refine (HLo3.out _ _ _ HX3.out).mono ?_); rintro e X5 ⟨rfl, b5⟩; have x5 := HX3.out.past b5; have z5 := row_at (show RowI _ (.slice (some ⟨bb, 0, none⟩) n c10) L from x5.top2) HNn.out m hmn HG'.out; have y5 := (show RowI _ (.slice (some ⟨bb, 0, none⟩) n c10) L from x5.top2).lt' bb rfl; have v53 := x5.wd.cell (k := 3) rfl; have v54 := x5.wd.cell (k := 4) rfl; have v5l := x5.wd.lt; have HX5 := Lib.hid x5; clear x5 b5))
              all_goals go_wp2
              all_goals go_roundw
              case rel => exact ⟨m + 1, by omega, by simp, _, by rw [HGn.out]; exact HX5.out⟩
              case measure => simp [intOf]; omega
            · obtain rfl : n = m := by omega
              have hlm := fbl_loose (P := P24) L G2 HI2.out.lnd n HL.out.symm
              rw [HL.out, List.drop_of_length_le (by rw [HNn.out]; exact Nat.le_refl _)] at hlm
              have hIm := fbl_inv HI2.out (L.take n)
              obtain ⟨Gm, hGm⟩ : ∃ G, fbl P24 G2 (L.take n) = G := ⟨_, rfl⟩
              rw [hGm] at hlm hIm H3
              have hli2 := glist_any H3 hIm.few
              rw [hlm] at hli2
              have HLi2 := Lib.hid hli2
              have e4 := H3.wd.cell (k := 4) rfl
              have el := H3.wd.lt
              have HH3 := Lib.hid H3
              clear hli2 hlm hIm H3 hGm
              go_wp2_with (go_at_call 23; (with_reducible refine HLi2.out.mono ?_); rintro e X6 ⟨⟨v6, rfl, hv6⟩, b6⟩; obtain ⟨a6, c6, he6⟩ := hv6.form; have he6' : v6 = .slice a6 0 c6 := he6; subst he6'; have HX6 := Lib.hid (HH3.out.past b6); clear hv6 he6 b6)
              go_ret
              exact ⟨rfl, B0.out _ HX6.out.below⟩
end Go.Proofs.Ytldmlmojokicaaa
