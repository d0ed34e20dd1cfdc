/- GuardReach's walk. -/
import Derived.Test.YtldmlmojokicaaaGlaw
import Derived.Test.YtldmlmojokicaaaGReP
import Derived.Test.YtldmlmojokicaaaRefE
import Derived.Laws.StructEq
namespace Go.Proofs.Ytldmlmojokicaaa
open Go.RowKit Go.Shelf Go.Maps
theorem row_at {w : World} {bb n c : Nat} {L : List Int} {g : Int} (h : RowI w (.slice (some ⟨bb, 0, none⟩) n c) L) (hn : L.length = n) (m : Nat) (hm : m < n) (hg : L.getD m 0 = g) : w.cell? ⟨bb, m, none⟩ = some (.int .i64 g) := by
  obtain ⟨b, c', e, _, d⟩ := RowI.at h m (by rw [hn]; exact hm)
  injection e with e1 e2 e3
  injection e1 with e1
  injection e1 with e1
  subst e1
  rw [← hg]; exact d
set_option maxRecDepth 100000 in
set_option maxHeartbeats 32000000 in
theorem GuardReach_nat (w : World) (a : Option Addr) (c : Nat) (l : List (Int × Int × Nat)) (hp : Ps w a l) (hlen : l.length ≤ 9223372036854775807) (oa : Option Addr) (oc : Nat) (ops : List Opg) (hop : Gops w oa ops) (holen : ops.length ≤ 9223372036854775807) (root : Int) (a8 : Nat) (ha8 : a8 < 256) (i8 : Nat) (hi8 : i8 < 256) (p16 : Nat) (hp16 : p16 < 65536) :
    Calls Try.prog 6 #[.slice a l.length c, .slice oa ops.length oc, .int .i64 root, .int .u8 (a8 : Int), .int .u8 (i8 : Int), .int .u16 (p16 : Int)] w fun e w' => e = .returned (.bool true) ∧ Below w.heap.size w w' := by
  have hh := ghead_any w
  obtain ⟨len, hl⟩ : ∃ len, l.length = len := ⟨_, rfl⟩
  obtain ⟨on, hol⟩ : ∃ n, ops.length = n := ⟨_, rfl⟩
  obtain ⟨G0, hG0⟩ : ∃ G, G24 (gputs l) = G := ⟨_, rfl⟩
  have hI0 : GInv P24 G0 := hG0 ▸ G24_inv _ (gputs_len l)
  have hm : ∀ W, Below w.heap.size w W → Calls Try.prog 11 #[.slice a len c] W fun e w' => ∃ wb A, e = .returned (.pointer (some ⟨wb, 0, none⟩)) ∧ HG w w' A P24 V24 G0 [wld wb A] := fun W b => by
    have h := gmade_any W a c l (hp.below b) hlen
    rw [hl, hG0] at h
    exact h.mono fun e w' ⟨wb, A, he, H⟩ => ⟨wb, A, he, H.base b⟩
  rw [hl] at hlen ⊢
  rw [hol] at holen ⊢
  have hgr := fun W => great_any W a oa c oc len on hlen holen
  obtain ⟨gr, hgr'⟩ : ∃ b, (decide (600 < len) || decide (120 < on)) = b := ⟨_, rfl⟩
  rw [hgr'] at hgr
  have HH := Lib.hid hh
  have HM := Lib.hid hm
  have HGr := Lib.hid hgr
  have HI0 := Lib.hid hI0
  have HOp := Lib.hid hop
  have HOl := Lib.hid hol
  clear hh hm hgr hI0 hop hol hp hl hG0 hgr' hlen
  cases gr with
  | true =>
    go_enter Try.func6, Try.ntmps6
    go_wp2_with (first
      | (go_at_call 10; (with_reducible refine HH.out.mono ?_); rintro e W0 ⟨rfl, b0⟩)
      | (go_at_call 11; (with_reducible refine (HM.out _ b0).mono ?_); rintro e W1 ⟨wb, A, rfl, H1⟩; clear b0)
      | (go_at_call 12; (with_reducible refine (HGr.out W1).mono ?_); rintro e W2 ⟨rfl, rfl⟩))
    go_ret
    exact ⟨rfl, H1.below⟩
  | false =>
    go_enter Try.func6, Try.ntmps6
    go_wp2_with (first
      | (go_at_call 10; (with_reducible refine HH.out.mono ?_); rintro e W0 ⟨rfl, b0⟩)
      | (go_at_call 11; (with_reducible refine (HM.out _ b0).mono ?_); rintro e W1 ⟨wb, A, rfl, H1⟩; clear b0)
      | (go_at_call 12; (with_reducible refine (HGr.out W1).mono ?_); rintro e W2 ⟨rfl, rfl⟩))
    clear HM HGr HH
    go_loopw [15] (fun i wr => ∃ k : Nat, k ≤ on ∧ i = .int .i64 k ∧ ∃ V, HG w wr A P24 V (grun P24 G0 (ops.take k)) [wld wb A]) (fun i _ => on - (intOf i).toNat)
    case atStart => exact ⟨0, by omega, rfl, _, H1⟩
    case round =>
      obtain ⟨k, hk, rfl, V, H⟩ := hrel
      clear H1
      by_cases hkl : k < on
      · obtain ⟨b, off, ok, okg, okv, okr, op, oi, og, ow, ou, ox, ov, rfl, lb, ho, hov, C0, C1, C2, C3, C4, C5, C6, C7, C8, C9, C10⟩ := HOp.out.at k (by rw [HOl.out]; exact hkl)
        have HC0 := Lib.hid C0
        have HC1 := Lib.hid C1
        have HC2 := Lib.hid C2
        have HC3 := Lib.hid C3
        have HC4 := Lib.hid C4
        have HC5 := Lib.hid C5
        have HC6 := Lib.hid C6
        have HC7 := Lib.hid C7
        have HC8 := Lib.hid C8
        have HC9 := Lib.hid C9
        have HC10 := Lib.hid C10
        have HOv := Lib.hid hov
        clear C0 C1 C2 C3 C4 C5 C6 C7 C8 C9 C10 hov
        obtain ⟨Gk, hGk⟩ : ∃ G, grun P24 G0 (ops.take k) = G := ⟨_, rfl⟩
        have hIk : GInv P24 Gk := hGk ▸ grun_inv HI0.out _
        have hn : grun P24 G0 (ops.take (k + 1)) = (gdo P24 Gk ⟨ok, okg, okv, okr, op, oi, og, ⟨ow, ou, ox⟩, ov⟩).2 := by rw [grun_take _ _ _ _ (by rw [HOl.out]; exact hkl), hGk, ho]
        rw [hGk] at H
        have hd := gdo24 H hIk ok okg okv okr op oi og ow ou ox ov HOv.out
        have HD := Lib.hid hd
        have HN := Lib.hid hn
        have c0 := (H.below.cell (p := ⟨b, _, none⟩) lb).trans HC0.out
        have c1 := (H.below.cell (p := ⟨b, _, none⟩) lb).trans HC1.out
        have c2 := (H.below.cell (p := ⟨b, _, none⟩) lb).trans HC2.out
        have c3 := (H.below.cell (p := ⟨b, _, none⟩) lb).trans HC3.out
        have c4 := (H.below.cell (p := ⟨b, _, none⟩) lb).trans HC4.out
        have c5 := (H.below.cell (p := ⟨b, _, none⟩) lb).trans HC5.out
        have c6 := (H.below.cell (p := ⟨b, _, none⟩) lb).trans HC6.out
        have c7 := (H.below.cell (p := ⟨b, _, none⟩) lb).trans HC7.out
        have c8 := (H.below.cell (p := ⟨b, _, none⟩) lb).trans HC8.out
        have c9 := (H.below.cell (p := ⟨b, _, none⟩) lb).trans HC9.out
        have c10 := (H.below.cell (p := ⟨b, _, none⟩) lb).trans HC10.out
        have HH := Lib.hid H
        clear H hd hn hIk hGk ho
        go_wp2_with (go_at_call 14; (with_reducible refine HD.out.mono ?_); rintro e W3 ⟨⟨x3, rfl⟩, V3, h3⟩; have H3 := Lib.hid h3; clear h3)
        go_roundw
        case rel => exact ⟨k + 1, by omega, by simp, V3, by rw [HN.out]; exact H3.out⟩
        case measure => simp [intOf]; omega

      · obtain rfl : on = k := by omega
        rw [show ops.take on = ops from by rw [← HOl.out, List.take_length]] at H
        have HI := Lib.hid (grun_inv HI0.out ops)
        obtain ⟨G, hG⟩ : ∃ G, grun P24 G0 ops = G := ⟨_, rfl⟩
        rw [hG] at H HI
        clear hkl hk hG
        obtain ⟨k8, hk8⟩ : ∃ t, i8 % 8 = t := ⟨_, rfl⟩
        obtain ⟨n9, hn9⟩ : ∃ t, p16 % 512 = t := ⟨_, rfl⟩
        have hmk : (i8 : Int).tmod 8 = (k8 : Int) := by rw [← hk8]; rfl
        have hmn : (p16 : Int).tmod 512 = (n9 : Int) := by rw [← hn9]; rfl
        have hk8' : k8 < 8 := by omega
        have hn9' : n9 < 512 := by omega
        have hall := sall_any H.sx
        obtain ⟨n, hn⟩ : ∃ n, (sall G.s.ps).length = n := ⟨_, rfl⟩
        have hsm : n ≤ 256 := by
          have h1 := HI.out.s.le
          have h2 : (sall G.s.ps).length = G.s.ps.length := by unfold sall; rw [List.length_map]
          omega
        have hpn : G.s.ps.length = n := by rw [← hn]; unfold sall; rw [List.length_map]
        have d2 := H.wd.cell (k := 2) rfl
        have dl := H.wd.lt
        have HAll := Lib.hid hall
        have HNn := Lib.hid hn
        have HPn := Lib.hid hpn
        have HH := Lib.hid H
        clear hall hn hpn H HOp HOl HI0 hk8 hn9
        by_cases hn0 : n = 0
        · subst hn0
          have hno : sfind G.s.ps ⟨root, 3, 0⟩ = none := by
            have : G.s.ps = [] := List.eq_nil_of_length_eq_zero HPn.out
            rw [this]; rfl
          have HNo := Lib.hid hno
          clear hno
          go_wp2_with (first
            | (go_at_call 26; (with_reducible refine HAll.out.mono ?_); rintro e W3 ⟨⟨v, rfl, hv⟩, b3⟩; obtain ⟨a3, c3, rfl⟩ := hv.form; rw [HNn.out] at hv ⊢; clear hv; have H3 := HH.out.past b3; have x4 := H3.wd.cell (k := 4) rfl; have xl := H3.wd.lt; have hr := reach_no H3 root 4 0 (.inl HNo.out); have HR := Lib.hid hr; have HH3 := Lib.hid H3; clear hr H3)
            | (go_at_call 31; (with_reducible refine HR.out.mono ?_); rintro e W4 ⟨rfl, b4⟩; have HH4 := Lib.hid (HH3.out.past b4); clear b4))
          go_ret
          exact ⟨rfl, HH4.out.below⟩
        · have fn0 : ((n : Int) == 0) = false := beq_eq_false_iff_ne.2 (by omega)
          obtain ⟨q, hq⟩ : ∃ q, a8 % n = q := ⟨_, rfl⟩
          have hqn : q < n := by rw [← hq]; exact Nat.mod_lt _ (by omega)
          have hmd : (a8 : Int).tmod (n : Int) = (q : Int) := by rw [← hq]; rfl
          have hnq : q < (sall G.s.ps).length := by rw [HNn.out]; exact hqn
          obtain ⟨pf, hpf⟩ : ∃ x, (sall G.s.ps).getD q 0 = x := ⟨_, rfl⟩
          have HNq := Lib.hid hnq
          have HPf := Lib.hid hpf
          clear hnq hpf hq
          cases hso : sfind G.s.ps ⟨root, 3, 0⟩ with
          | none =>
            have HSo := Lib.hid hso
            clear hso
            go_wp2_with (first
              | (go_at_call 26; (with_reducible refine HAll.out.mono ?_); rintro e W3 ⟨⟨v, rfl, hv⟩, b3⟩; obtain ⟨b9, c9, hv9, lb9, d9⟩ := hv.row.at q HNq.out; rw [HNn.out] at hv9; subst hv9; clear hv; rw [HPf.out] at d9; have H3 := HH.out.past b3; have x4 := H3.wd.cell (k := 4) rfl; have xl := H3.wd.lt; have HH3 := Lib.hid H3; clear H3 b3)
              | (go_at_call 31; (with_reducible refine ((reach_no HH3.out root pf (k8 : Int) (.inl HSo.out))).mono ?_); rintro e W4 ⟨rfl, b4⟩; have HH4 := Lib.hid (HH3.out.past b4); clear b4))
            obtain ⟨WB, rfl⟩ : ∃ W, W = wr := ⟨_, rfl⟩
            go_loopw [21, 22] (fun t i wr => i = .int .i64 0 ∧ t = .bool false ∧ HG w wr A P24 V G [wld wb A]) (fun _ _ _ => 0)
            case atStart => exact ⟨rfl, rfl, HH4.out⟩
            case round =>
              obtain ⟨rfl, rfl, H5⟩ := hrel
              have e2 := H5.wd.cell (k := 2) rfl
              have el := H5.wd.lt
              have hfi : ∀ W V ts, HG w W A P24 V G ts → Calls Try.prog 20 #[.pointer (some ⟨A.sp, 0, none⟩), .agg #[.int .i64 root, .int .i64 3, .int .i64 0]] W fun e w' => e = .returned (.tuple #[.int .i64 0, .bool false]) ∧ Below W.heap.size W w' := fun W V ts h => sfind_any h.sx root 3 0 none HSo.out
              have HFi := Lib.hid hfi
              have HH5 := Lib.hid H5
              clear hfi H5
              go_wp2_with (go_at_call 20; (with_reducible refine (HFi.out _ _ _ HH5.out).mono ?_); rintro e W6 ⟨rfl, b6⟩; have HH6 := Lib.hid (HH5.out.past b6); clear b6)
              obtain ⟨WC, rfl⟩ : ∃ W, W = wr := ⟨_, rfl⟩
              go_loopw [23, 24, 25, 26] (fun f is ps lv wr => f = .int .i64 0 ∧ is = .bool false ∧ ps = .bool false ∧ lv = .int .i64 3 ∧ HG w wr A P24 V G [wld wb A]) (fun _ _ _ _ _ => 0)
              case atStart => exact ⟨rfl, rfl, rfl, rfl, HH6.out⟩
              case round =>
                obtain ⟨rfl, rfl, rfl, rfl, H7⟩ := hrel
                have HH7 := Lib.hid H7
                clear H7
                go_wp2_with fail
                go_ret
                exact ⟨rfl, HH7.out.below⟩
          | some top =>
            have hmem := greach_mem (k := k8) (n := n9) root pf top (by omega) (by omega) hso
            have hsort := greach_sorted HI.out root pf k8 (by omega)
            obtain ⟨L, hL⟩ : ∃ l, greach G.s.ps root pf (k8 : Int) = l := ⟨_, rfl⟩
            obtain ⟨R, hR⟩ : ∃ x, rpass G.s.ps pf (k8 : Int) (n9 : Int) 3 top true = x := ⟨_, rfl⟩
            rw [hL] at hmem hsort
            rw [hR] at hmem
            obtain ⟨m, hm⟩ : ∃ x, L.length = x := ⟨_, rfl⟩
            have hre : ∀ W V ts, HG w W A P24 V G ts → Calls Try.prog 31 #[.pointer (some ⟨A.dp, 0, none⟩), .int .i64 root, .int .i64 pf, .int .i64 (k8 : Int)] W fun e w' => ∃ v, e = .returned v ∧ HG w w' A P24 V G (ints v L :: ts) := fun W V ts h => hL ▸ reach_yes h root pf top k8 hk8' hso
            have hfi : ∀ W V ts, HG w W A P24 V G ts → Calls Try.prog 20 #[.pointer (some ⟨A.sp, 0, none⟩), .agg #[.int .i64 root, .int .i64 3, .int .i64 0]] W fun e w' => e = .returned (.tuple #[.int .i64 top, .bool true]) ∧ Below W.heap.size W w' := fun W V ts h => sfind_any h.sx root 3 0 (some top) hso
            have HMem := Lib.hid hmem
            have HSort := Lib.hid hsort
            have HRe := Lib.hid hre
            have HFi := Lib.hid hfi
            have HM := Lib.hid hm
            have HRR := Lib.hid hR
            clear hmem hsort hre hfi hm hR hL hso
            go_wp2_with (first
              | (go_at_call 26; (with_reducible refine HAll.out.mono ?_); rintro e W3 ⟨⟨v, rfl, hv⟩, b3⟩; obtain ⟨b9, c9, hv9, lb9, d9⟩ := hv.row.at q HNq.out; rw [HNn.out] at hv9; subst hv9; clear hv; rw [HPf.out] at d9; have H3 := HH.out.past b3; have x4 := H3.wd.cell (k := 4) rfl; have xl := H3.wd.lt; have HH3 := Lib.hid H3; clear H3 b3)
              | (go_at_call 31; (with_reducible refine (HRe.out _ _ _ HH3.out).mono ?_); rintro e W4 ⟨v4, rfl, h4⟩; obtain ⟨a4, c4, rfl⟩ := RowI.form0 h4.top; rw [HM.out] at h4 ⊢; have HH4 := Lib.hid h4; clear h4))
            obtain ⟨WB, rfl⟩ : ∃ W, W = wr := ⟨_, rfl⟩
            go_loopw [21, 22] (fun t i wr => ∃ j : Nat, j ≤ m ∧ i = .int .i64 j ∧ t = .bool ((L.take j).any fun x => decide (x = (n9 : Int))) ∧ HG w wr A P24 V G (ints (.slice a4 m c4) L :: [wld wb A])) (fun _ i _ => m - (intOf i).toNat)
            case atStart => exact ⟨0, by omega, rfl, rfl, HH4.out⟩
            case round =>
              obtain ⟨j, hj, rfl, rfl, H5⟩ := hrel
              by_cases hjm : j < m
              · have hjL : j < L.length := by rw [HM.out]; exact hjm
                obtain ⟨b9, d9, hv9, lb9, c9⟩ := RowI.at (show RowI wr (.slice a4 m c4) L from H5.top) j hjL
                rw [HM.out] at hv9
                obtain ⟨rfl, rfl⟩ : a4 = some ⟨b9, 0, none⟩ ∧ c4 = d9 := by injection hv9 with h1 h2 h3; exact ⟨h1, h3⟩
                have hany : ((L.take (j + 1)).any fun x => decide (x = (n9 : Int))) = (((L.take j).any fun x => decide (x = (n9 : Int))) || decide (L.getD j 0 = (n9 : Int))) := by
                  rw [List.take_add_one, List.getElem?_eq_getElem hjL, List.any_append, List.getD, List.getElem?_eq_getElem hjL]; simp
                have hprev : 0 < j → wr.cell? ⟨b9, j - 1, none⟩ = some (.int .i64 (L.getD (j - 1) 0)) ∧ ¬ (L.getD j 0 ≤ L.getD (j - 1) 0) := fun h0 => by
                  have hj1 : j - 1 < L.length := by omega
                  refine ⟨row_at (show RowI wr (.slice (some ⟨b9, 0, none⟩) m c4) L from H5.top) HM.out (j - 1) (by omega) rfl, ?_⟩
                  have := List.pairwise_iff_getElem.1 HSort.out (j - 1) j hj1 hjL (by omega)
                  rw [List.getD, List.getElem?_eq_getElem hjL, List.getD, List.getElem?_eq_getElem hj1]
                  simp only [Option.getD_some]; omega
                obtain ⟨xj, hxj⟩ : ∃ x, L.getD j 0 = x := ⟨_, rfl⟩
                obtain ⟨xp, hxp⟩ : ∃ x, L.getD (j - 1) 0 = x := ⟨_, rfl⟩
                obtain ⟨td, htd⟩ : ∃ x, ((L.take j).any fun x => decide (x = (n9 : Int))) = x := ⟨_, rfl⟩
                rw [hxj] at hany hprev c9
                rw [hxp] at hprev
                rw [htd] at hany
                rw [htd]
                have hms : m ≤ 9223372036854775807 := by
                  rcases (show RowI wr (.slice (some ⟨b9, 0, none⟩) m c4) L from H5.top).view with ⟨h1, h2⟩ | ⟨g, cap, rest, h1, h2, h3, h4, h5⟩
                  · simp at h1
                  · have := HM.out
                    unfold maxLen at h4
                    omega
                have HAny := Lib.hid hany
                have HH5 := Lib.hid H5
                clear hany hxj hxp htd H5 hjL hv9
                have ftd : td = true ∨ td = false ∧ (xj == (n9 : Int)) = true ∨ td = false ∧ (xj == (n9 : Int)) = false := by
                  cases td
                  · by_cases h : xj = (n9 : Int)
                    · exact .inr (.inl ⟨rfl, beq_iff_eq.2 h⟩)
                    · exact .inr (.inr ⟨rfl, beq_eq_false_iff_ne.2 h⟩)
                  · exact .inl rfl
                have hend : ∀ b, (b = (td || (xj == (n9 : Int)))) → .bool b = (.bool ((L.take (j + 1)).any fun x => decide (x = (n9 : Int))) : Value) := fun b hb => by rw [hb, HAny.out]; rfl
                have HEnd := Lib.hid hend
                clear hend
                by_cases hj0 : j = 0
                · have fj : decide ((j : Int) > 0) = false := decide_eq_false (by omega)
                  have fjn : decide (0 < j) = false := decide_eq_false (by omega)
                  clear hprev hj0
                  rcases ftd with rfl | ⟨rfl, f1⟩ | ⟨rfl, f1⟩
                  all_goals
                    go_wp2_with fail
                    go_quiet (fail)
                    go_wp2_with fail
                    go_roundw
                    case rel => exact ⟨j + 1, by omega, by simp, HEnd.out _ (by simp [*]), HH5.out.drewN _⟩
                    case measure => simp [intOf]; omega
                · obtain ⟨c8, hlt⟩ := hprev (by omega)
                  have f8 : decide (xj ≤ xp) = false := decide_eq_false hlt
                  have fj : decide ((j : Int) > 0) = true := decide_eq_true (by omega)
                  have fjn : decide (0 < j) = true := decide_eq_true (by omega)
                  obtain ⟨jp, hjp⟩ : ∃ x, j - 1 = x := ⟨_, rfl⟩
                  rw [hjp] at c8
                  have fw : IntKind.i64.wrap ((j : Int) - 1) = (jp : Int) := by rw [IntKind.wrap_i64]; omega
                  have fj1 : (jp : Int) < (m : Int) := by omega
                  have fj2 : jp < m := by omega
                  clear hprev hlt hjp hj0
                  rcases ftd with rfl | ⟨rfl, f1⟩ | ⟨rfl, f1⟩
                  all_goals
                    go_wp2_with fail
                    go_quiet (fail)
                    go_wp2_with fail
                    go_roundw
                    case rel => exact ⟨j + 1, by omega, by simp, HEnd.out _ (by simp [*]), HH5.out.drewN _⟩
                    case measure => simp [intOf]; omega
              · obtain rfl : m = j := by omega
                rw [show L.take m = L from by rw [← HM.out, List.take_length], HMem.out]
                have e2 := H5.wd2.cell (k := 2) rfl
                have el := H5.wd2.lt
                have HH5 := Lib.hid H5
                clear H5
                go_wp2_with (go_at_call 20; (with_reducible refine (HFi.out _ _ _ HH5.out).mono ?_); rintro e W6 ⟨rfl, b6⟩; have HH6 := Lib.hid (HH5.out.past b6); clear b6)
                obtain ⟨WC, rfl⟩ : ∃ W, W = wr := ⟨_, rfl⟩
                go_loopw [23, 24, 25, 26] (fun f is ps lv wr => ∃ (F : Int) (I pv : Bool) (l : Nat), l ≤ 3 ∧ f = .int .i64 F ∧ is = .bool I ∧ ps = .bool pv ∧ lv = .int .i64 l ∧ (pv || rpass G.s.ps pf (k8 : Int) (n9 : Int) l F I) = R ∧ HG w wr A P24 V G (ints (.slice a4 m c4) L :: [wld wb A])) (fun _ _ _ lv _ => (intOf lv).toNat)
                case atStart => exact ⟨top, true, false, 3, by omega, rfl, rfl, rfl, rfl, by rw [HRR.out]; rfl, HH6.out⟩
                case round =>
                  obtain ⟨F, I, pv, l, hl, rfl, rfl, rfl, rfl, hR, H7⟩ := hrel
                  clear HH6
                  have hexit : (l = 0 ∨ I = false) → pv = R := fun h => by
                    rcases h with h | h
                    · subst h; simpa [rpass] using hR
                    · subst h; simpa [rpass_not] using hR
                  by_cases hl0 : l = 0
                  · have e := hexit (.inl hl0)
                    subst e
                    have f1 : decide ((l : Int) ≥ 1) = false := decide_eq_false (by omega)
                    have HH7 := Lib.hid H7
                    clear H7 hexit hR
                    go_wp2_with fail
                    go_ret
                    exact ⟨by simp, HH7.out.below⟩
                  · have f1 : decide ((l : Int) ≥ 1) = true := decide_eq_true (by omega)
                    cases I with
                    | false =>
                      have e := hexit (.inr rfl)
                      subst e
                      have HH7 := Lib.hid H7
                      clear H7 hexit hR
                      go_wp2_with fail
                      go_ret
                      exact ⟨by simp, HH7.out.below⟩
                    | true =>
                      obtain ⟨l', rfl⟩ : ∃ l', l = l' + 1 := ⟨l - 1, by omega⟩
                      clear hexit hl0
                      obtain ⟨jx, hjx⟩ : ∃ x, ix (n9 : Int) ((l' + 1 : Nat) : Int) = x := ⟨_, rfl⟩
                      obtain ⟨so, hso'⟩ : ∃ x, sslot G.s.ps F jx = x := ⟨_, rfl⟩
                      obtain ⟨⟨xk, xd, ⟨xw, xu, xx⟩⟩, hx⟩ : ∃ x, so.getD slt0 = x := ⟨_, rfl⟩
                      obtain ⟨sb, hsb⟩ : ∃ x, so.isSome = x := ⟨_, rfl⟩
                      have hstep : rpass G.s.ps pf (k8 : Int) (n9 : Int) (l' + 1) F true = ((decide (F = pf) && decide (jx = (k8 : Int))) || rpass G.s.ps pf (k8 : Int) (n9 : Int) l' xd (decide (xk = 1))) := by
                        rw [rpass, Bool.true_and, hjx, hso', hx]
                      rw [hstep] at hR
                      obtain ⟨R2, hR2⟩ : ∃ x, rpass G.s.ps pf (k8 : Int) (n9 : Int) l' xd (decide (xk = 1)) = x := ⟨_, rfl⟩
                      rw [hR2] at hR
                      have hix : ∀ W, Calls Try.prog 32 #[.int .i64 (n9 : Int), .int .i64 ((l' + 1 : Nat) : Int)] W fun e w' => e = .returned (.int .i64 jx) ∧ W = w' := fun W => hjx ▸ ridx_any W (n9 : Int) ((l' + 1 : Nat) : Int)
                      obtain ⟨LL, hLL⟩ : ∃ x, l' + 1 = x := ⟨_, rfl⟩
                      rw [hLL] at hix hl f1
                      rw [hLL]
                      have hst : ∀ W, Below wr.heap.size wr W → Calls Try.prog 27 #[.pointer (some ⟨A.sp, 0, none⟩), .int .i64 F, .int .i64 jx] W fun e w' => e = .returned (.tuple #[.agg #[.int .i64 xk, .int .i64 xd, .bool xw, .bool xu, .bool xx], .bool sb]) ∧ Below W.heap.size W w' := fun W hW => by
                        have := sslot_any (H7.past hW).sx F jx so hso'
                        rw [hx, hsb] at this; exact this
                      have e2 := H7.wd2.cell (k := 2) rfl
                      have el := H7.wd2.lt
                      have hL8 : LL ≤ 3 := hl
                      have n1 : wb ≠ wr.heap.size := by omega
                      have n1' : wr.heap.size ≠ wb := by omega
                      have HIx := Lib.hid hix
                      have HSt := Lib.hid hst
                      have HR2 := Lib.hid hR2
                      have HR := Lib.hid hR
                      have HLL := Lib.hid hLL
                      have HH7 := Lib.hid H7
                      have hcase : pv = true ∨ (pv = false ∧ (F == pf) = false) ∨ (pv = false ∧ (F == pf) = true) := by
                        cases pv
                        · by_cases h : F = pf
                          · exact .inr (.inr ⟨rfl, beq_iff_eq.2 h⟩)
                          · exact .inr (.inl ⟨rfl, beq_eq_false_iff_ne.2 h⟩)
                        · exact .inl rfl
                      have hfin : ∀ b : Bool, b = (pv || ((F == pf) && (jx == (k8 : Int)))) → (b || rpass G.s.ps pf (k8 : Int) (n9 : Int) l' xd (xk == 1)) = R := fun b hb => by
                        rw [← HR.out, hb, ← HR2.out, Bool.or_assoc]; rfl
                      have HFin := Lib.hid hfin
                      clear hix hst hR2 hR hLL hjx hso' hx hsb hstep H7 hfin
                      rcases hcase with rfl | ⟨rfl, f2⟩ | ⟨rfl, f2⟩
                      all_goals
                        go_wp2_with (go_at_call 32; (with_reducible refine (HIx.out _).mono ?_); rintro e WX ⟨rfl, rfl⟩)
                        go_region_held3 (fun w' => w'.cell? ⟨wb, 2, none⟩ = some (.pointer (some ⟨A.sp, 0, none⟩))) (go_keep) (first
                          | (go_at_call 32; (with_reducible refine (HIx.out _).mono ?_); rintro e WX ⟨rfl, rfl⟩)
                          | (go_at_call 27; (with_reducible refine (HSt.out wr.drew ((Below.refl _ wr).drew)).mono ?_); rintro e W2 ⟨rfl, b2⟩; have q2 := (Below.refl wr.heap.size wr).drew.trans b2; have y2 := (HH7.out.past q2).wd2.cell (k := 2) rfl; have yl := (HH7.out.past q2).wd2.lt)
                          | (go_at_call 27; (with_reducible refine (HSt.out (wr.alloc (.cells #[.int .i64 0, .int .i64 0, .bool false, .bool false, .bool false] 62)).drew ((bal wr (.cells #[.int .i64 0, .int .i64 0, .bool false, .bool false, .bool false] 62)).drew)).mono ?_); rintro e W2 ⟨rfl, b2⟩; have q2 := (bal wr (.cells #[.int .i64 0, .int .i64 0, .bool false, .bool false, .bool false] 62)).drew.trans (b2.mono (by simp)); have y2 := (HH7.out.past q2).wd2.cell (k := 2) rfl; have yl := (HH7.out.past q2).wd2.lt; have ZP := (Blk.new wr 62 [.int .i64 0, .int .i64 0, .bool false, .bool false, .bool false]).drew.past b2; have zc0 := ZP.cell (k := 0) rfl; have zc1 := ZP.cell (k := 1) rfl; have zc2 := ZP.cell (k := 2) rfl; have zc3 := ZP.cell (k := 3) rfl; have zc4 := ZP.cell (k := 4) rfl; have zcf := fun j => ZP.free j; have zcl := ZP.lt))
                        all_goals (first
                          | (obtain ⟨P5, q5⟩ := set5 (.int .i64 xk) (.int .i64 xd) (.bool xw) (.bool xu) (.bool xx) ZP q2 (Nat.le_refl _)
                             obtain ⟨pb, hpb⟩ : ∃ t, wr.heap.size = t := ⟨_, rfl⟩
                             obtain ⟨W5, hW5⟩ : ∃ W', ((((W2.setCell ⟨wr.heap.size, 0, none⟩ (.int .i64 xk)).setCell ⟨wr.heap.size, 1, none⟩ (.int .i64 xd)).setCell ⟨wr.heap.size, 2, none⟩ (.bool xw)).setCell ⟨wr.heap.size, 3, none⟩ (.bool xu)).setCell ⟨wr.heap.size, 4, none⟩ (.bool xx) = W' := ⟨_, rfl⟩
                             have lpb : wr.heap.size ≤ pb := Nat.le_of_eq hpb
                             rw [hW5] at P5 q5
                             rw [hpb] at P5
                             rw [hW5, hpb]
                             clear hW5 hpb q2 b2 ZP zc0 zc1 zc2 zc3 zc4 zcf zcl y2 yl)
                          | (have bn := bal W2 (.cells #[.int .i64 xk, .int .i64 xd, .bool xw, .bool xu, .bool xx] 62)
                             have P5 := Blk.new W2 62 [.int .i64 xk, .int .i64 xd, .bool xw, .bool xu, .bool xx]
                             have q5 := q2.trans (bn.mono q2.size)
                             obtain ⟨pb, hpb⟩ : ∃ t, W2.heap.size = t := ⟨_, rfl⟩
                             obtain ⟨W5, hW5⟩ : ∃ W', W2.alloc (.cells #[.int .i64 xk, .int .i64 xd, .bool xw, .bool xu, .bool xx] 62) = W' := ⟨_, rfl⟩
                             have lpb : wr.heap.size ≤ pb := by rw [← hpb]; exact q2.size
                             rw [show (W2.alloc (.cells ([.int .i64 xk, .int .i64 xd, .bool xw, .bool xu, .bool xx] : List Value).toArray 62)) = W5 from hW5, hpb] at P5
                             rw [hW5] at q5
                             rw [hW5, hpb]
                             clear hW5 hpb bn q2 b2 y2 yl))
                        all_goals
                          have k0 := P5.cell (k := 0) rfl
                          have k1 := P5.cell (k := 1) rfl
                          have kl := P5.lt
                          have HQ5 := Lib.hid q5
                          clear q5 P5 n1 n1' e2 el
                          go_wp2_with fail
                          go_roundw
                          case rel =>
                            have hll := HLL.out
                            refine ⟨xd, (xk == 1), _, l', by omega, rfl, rfl, rfl, by simp; omega, HFin.out _ ?_, HH7.out.past HQ5.out⟩
                            simp [*]
                          case measure => have hll := HLL.out; simp [intOf]; omega
theorem u16_bd {v : Int} (h : (Lit.int .u16 v).wf = true) : ∃ n : Nat, v = (n : Int) ∧ n < 65536 := by
  simp [Lit.wf, IntKind.min, IntKind.max, IntKind.signed, IntKind.bits] at h
  exact ⟨v.toNat, by omega, by omega⟩
theorem u8_bd {v : Int} (h : (Lit.int .u8 v).wf = true) : ∃ n : Nat, v = (n : Int) ∧ n < 256 := by
  simp [Lit.wf, IntKind.min, IntKind.max, IntKind.signed, IntKind.bits] at h
  exact ⟨v.toNat, by omega, by omega⟩
theorem GuardReach_walk (w : World) (a : Option Addr) (c : Nat) (l : List (Int × Int × Nat)) (hp : Ps w a l) (hlen : l.length ≤ 9223372036854775807) (oa : Option Addr) (oc : Nat) (ops : List Opg) (hop : Gops w oa ops) (holen : ops.length ≤ 9223372036854775807) (root : Int) (a8 : Int) (ha8 : (Lit.int .u8 a8).wf = true) (i8 : Int) (hi8 : (Lit.int .u8 i8).wf = true) (p16 : Int) (hp16 : (Lit.int .u16 p16).wf = true) :
    Calls Try.prog 6 #[.slice a l.length c, .slice oa ops.length oc, .int .i64 root, .int .u8 a8, .int .u8 i8, .int .u16 p16] w fun e w' => e = .returned (.bool true) ∧ Below w.heap.size w w' := by
  obtain ⟨a8, rfl, ha8'⟩ := u8_bd ha8
  obtain ⟨i8, rfl, hi8'⟩ := u8_bd hi8
  obtain ⟨p16, rfl, hp16'⟩ := u16_bd hp16
  exact GuardReach_nat w a c l hp hlen oa oc ops hop holen root a8 ha8' i8 hi8' p16 hp16'
end Go.Proofs.Ytldmlmojokicaaa
