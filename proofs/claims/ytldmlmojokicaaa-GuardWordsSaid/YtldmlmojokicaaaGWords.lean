/- GuardWords's walk. -/
import Derived.Test.YtldmlmojokicaaaGlaw
import Derived.Test.YtldmlmojokicaaaGslots
import Derived.Laws.StructEq
namespace Go.Proofs.Ytldmlmojokicaaa
open Go.RowKit Go.Shelf Go.Maps
theorem any_mem {α : Type} {l : List α} {f g : α → Bool} (h : ∀ a, a ∈ l → f a = g a) : l.any f = l.any g := by
  rw [Bool.eq_iff_iff, List.any_eq_true, List.any_eq_true]
  exact ⟨fun ⟨a, h1, h2⟩ => ⟨a, h1, by rw [← h a h1]; exact h2⟩, fun ⟨a, h1, h2⟩ => ⟨a, h1, by rw [h a h1]; exact h2⟩⟩
set_option maxRecDepth 100000 in
set_option maxHeartbeats 32000000 in
theorem GuardWords_nat (w : World) (a : Option Addr) (c : Nat) (l : List (Int × Int × Nat)) (hp : Ps w a l) (hlen : l.length ≤ 9223372036854775807) (oa : Option Addr) (oc : Nat) (ops : List Opg) (hop : Gops w oa ops) (holen : ops.length ≤ 9223372036854775807) (g8 : Nat) (_hg8 : g8 < 256) (i8 : Nat) (_hi8 : i8 < 256) :
    Calls Try.prog 7 #[.slice a l.length c, .slice oa ops.length oc, .int .u8 (g8 : Int), .int .u8 (i8 : Int)] w fun e w' => e = .returned (.bool true) ∧ Below w.heap.size w w' := by
  have hh := ghead_any w
  obtain ⟨len, hl⟩ : ∃ len, l.length = len := ⟨_, rfl⟩
  obtain ⟨on, hol⟩ : ∃ n, ops.length = n := ⟨_, rfl⟩
  obtain ⟨G0, hG0⟩ : ∃ G, G24 (gputs l) = G := ⟨_, rfl⟩
  have hI0 : GInv P24 G0 := hG0 ▸ G24_inv _ (gputs_len l)
  have hm : ∀ W, Below w.heap.size w W → Calls Try.prog 11 #[.slice a len c] W fun e w' => ∃ wb A, e = .returned (.pointer (some ⟨wb, 0, none⟩)) ∧ HG w w' A P24 V24 G0 [wld wb A] := fun W b => by
    have h := gmade_any W a c l (hp.below b) hlen
    rw [hl, hG0] at h
    exact h.mono fun e w' ⟨wb, A, he, H⟩ => ⟨wb, A, he, H.base b⟩
  rw [hl] at hlen ⊢
  rw [hol] at holen ⊢
  have hgr := fun W => great_any W a oa c oc len on hlen holen
  obtain ⟨gr, hgr'⟩ : ∃ b, (decide (600 < len) || decide (120 < on)) = b := ⟨_, rfl⟩
  rw [hgr'] at hgr
  have HH := Lib.hid hh
  have HM := Lib.hid hm
  have HGr := Lib.hid hgr
  have HI0 := Lib.hid hI0
  have HOp := Lib.hid hop
  have HOl := Lib.hid hol
  clear hh hm hgr hI0 hop hol hp hl hG0 hgr' hlen
  cases gr with
  | true =>
    go_enter Try.func7, Try.ntmps7
    go_wp2_with (first
      | (go_at_call 10; (with_reducible refine HH.out.mono ?_); rintro e W0 ⟨rfl, b0⟩)
      | (go_at_call 11; (with_reducible refine (HM.out _ b0).mono ?_); rintro e W1 ⟨wb, A, rfl, H1⟩; clear b0)
      | (go_at_call 12; (with_reducible refine (HGr.out W1).mono ?_); rintro e W2 ⟨rfl, rfl⟩))
    go_ret
    exact ⟨rfl, H1.below⟩
  | false =>
    go_enter Try.func7, Try.ntmps7
    go_wp2_with (first
      | (go_at_call 10; (with_reducible refine HH.out.mono ?_); rintro e W0 ⟨rfl, b0⟩)
      | (go_at_call 11; (with_reducible refine (HM.out _ b0).mono ?_); rintro e W1 ⟨wb, A, rfl, H1⟩; clear b0)
      | (go_at_call 12; (with_reducible refine (HGr.out W1).mono ?_); rintro e W2 ⟨rfl, rfl⟩))
    clear HM HGr HH
    go_loopw [11] (fun i wr => ∃ k : Nat, k ≤ on ∧ i = .int .i64 k ∧ ∃ V, HG w wr A P24 V (grun P24 G0 (ops.take k)) [wld wb A]) (fun i _ => on - (intOf i).toNat)
    case atStart => exact ⟨0, by omega, rfl, _, H1⟩
    case round =>
      obtain ⟨k, hk, rfl, V, H⟩ := hrel
      clear H1
      by_cases hkl : k < on
      · obtain ⟨b, off, ok, okg, okv, okr, op, oi, og, ow, ou, ox, ov, rfl, lb, ho, hov, C0, C1, C2, C3, C4, C5, C6, C7, C8, C9, C10⟩ := HOp.out.at k (by rw [HOl.out]; exact hkl)
        have HC0 := Lib.hid C0
        have HC1 := Lib.hid C1
        have HC2 := Lib.hid C2
        have HC3 := Lib.hid C3
        have HC4 := Lib.hid C4
        have HC5 := Lib.hid C5
        have HC6 := Lib.hid C6
        have HC7 := Lib.hid C7
        have HC8 := Lib.hid C8
        have HC9 := Lib.hid C9
        have HC10 := Lib.hid C10
        have HOv := Lib.hid hov
        clear C0 C1 C2 C3 C4 C5 C6 C7 C8 C9 C10 hov
        obtain ⟨Gk, hGk⟩ : ∃ G, grun P24 G0 (ops.take k) = G := ⟨_, rfl⟩
        have hIk : GInv P24 Gk := hGk ▸ grun_inv HI0.out _
        have hn : grun P24 G0 (ops.take (k + 1)) = (gdo P24 Gk ⟨ok, okg, okv, okr, op, oi, og, ⟨ow, ou, ox⟩, ov⟩).2 := by rw [grun_take _ _ _ _ (by rw [HOl.out]; exact hkl), hGk, ho]
        rw [hGk] at H
        have hd := gdo24 H hIk ok okg okv okr op oi og ow ou ox ov HOv.out
        have HD := Lib.hid hd
        have HN := Lib.hid hn
        have c0 := (H.below.cell (p := ⟨b, _, none⟩) lb).trans HC0.out
        have c1 := (H.below.cell (p := ⟨b, _, none⟩) lb).trans HC1.out
        have c2 := (H.below.cell (p := ⟨b, _, none⟩) lb).trans HC2.out
        have c3 := (H.below.cell (p := ⟨b, _, none⟩) lb).trans HC3.out
        have c4 := (H.below.cell (p := ⟨b, _, none⟩) lb).trans HC4.out
        have c5 := (H.below.cell (p := ⟨b, _, none⟩) lb).trans HC5.out
        have c6 := (H.below.cell (p := ⟨b, _, none⟩) lb).trans HC6.out
        have c7 := (H.below.cell (p := ⟨b, _, none⟩) lb).trans HC7.out
        have c8 := (H.below.cell (p := ⟨b, _, none⟩) lb).trans HC8.out
        have c9 := (H.below.cell (p := ⟨b, _, none⟩) lb).trans HC9.out
        have c10 := (H.below.cell (p := ⟨b, _, none⟩) lb).trans HC10.out
        have HH := Lib.hid H
        clear H hd hn hIk hGk ho
        go_wp2_with (go_at_call 14; (with_reducible refine HD.out.mono ?_); rintro e W3 ⟨⟨x3, rfl⟩, V3, h3⟩; have H3 := Lib.hid h3; clear h3)
        go_roundw
        case rel => exact ⟨k + 1, by omega, by simp, V3, by rw [HN.out]; exact H3.out⟩
        case measure => simp [intOf]; omega

      · obtain rfl : on = k := by omega
        rw [show ops.take on = ops from by rw [← HOl.out, List.take_length]] at H
        have HI := Lib.hid (grun_inv HI0.out ops)
        obtain ⟨G, hG⟩ : ∃ G, grun P24 G0 ops = G := ⟨_, rfl⟩
        rw [hG] at H HI
        clear hkl hk hG
        obtain ⟨t8, ht8⟩ : ∃ t, g8 % 16 = t := ⟨_, rfl⟩
        obtain ⟨k8, hk8⟩ : ∃ t, i8 % 8 = t := ⟨_, rfl⟩
        have hmt : (g8 : Int).tmod 16 = (t8 : Int) := by rw [← ht8]; rfl
        have hmk : (i8 : Int).tmod 8 = (k8 : Int) := by rw [← hk8]; rfl
        have ht8' : t8 < 16 := by omega
        have HK8 := Lib.hid (show k8 < 8 by omega)
        have hall := sall_any H.sx
        obtain ⟨n, hn⟩ : ∃ n, (sall G.s.ps).length = n := ⟨_, rfl⟩
        have hsm : n ≤ 256 := by
          have h1 := HI.out.s.le
          have h2 : (sall G.s.ps).length = G.s.ps.length := by unfold sall; rw [List.length_map]
          omega
        have hpn : G.s.ps.length = n := by rw [← hn]; unfold sall; rw [List.length_map]
        have d2 := H.wd.cell (k := 2) rfl
        have dl := H.wd.lt
        have HAll := Lib.hid hall
        have HNn := Lib.hid hn
        have HPn := Lib.hid hpn
        have HH := Lib.hid H
        clear hall hn hpn H HOp HOl HI0
        go_wp2_with (go_at_call 26; (with_reducible refine HAll.out.mono ?_); rintro e W3 ⟨⟨v, rfl, hv⟩, b3⟩; obtain ⟨a3, c3, rfl⟩ := hv.form; have h3 : HG w W3 A P24 V G (ints (.slice a3 (sall G.s.ps).length c3) (sall G.s.ps) :: [wld wb A]) := HH.out.add b3 _ hv.row (fun b hb => hv.lo b hb); rw [HNn.out] at h3 ⊢; have HA := Lib.hid h3; clear h3 hv b3)
        obtain ⟨WB, rfl⟩ : ∃ W, W = wr := ⟨_, rfl⟩
        clear d2 dl hmt hmk ht8 hk8
        have HSl := Lib.hid (show (slotsOf G.s.ps).length = 8 * n by rw [slots_len HI.out.s.sl, HPn.out])
        go_loopw [15, 16] (fun v i wr => ∃ m : Nat, m ≤ n ∧ i = .int .i64 m ∧ SR W3.heap.size wr v ((slotsOf G.s.ps).take (8 * m)) ∧ Below W3.heap.size W3 wr) (fun _ i _ => n - (intOf i).toNat)
        case atStart => exact ⟨0, by omega, rfl, SR.nil _ _, Below.refl _ _⟩
        case round =>
          obtain ⟨m, hm, rfl, hO, hB⟩ := hrel
          by_cases hmn : m < n
          · have HO0 := Lib.hid hO
            have HB0 := Lib.hid hB
            clear hO hB
            go_wp2_with fail
            obtain ⟨WA, rfl⟩ : ∃ W, W = wr := ⟨_, rfl⟩
            go_loopw [15, 17] (fun v i wr => ∃ q : Nat, q ≤ 8 ∧ i = .int .i64 q ∧ SR W3.heap.size wr v ((slotsOf G.s.ps).take (8 * m + q)) ∧ Below W3.heap.size W3 wr) (fun _ i _ => 8 - (intOf i).toNat)
            case atStart => exact ⟨0, by omega, rfl, HO0.out, HB0.out⟩
            case round =>
              obtain ⟨q, hq, rfl, hO, hB⟩ := hrel
              by_cases hq8 : q < 8
              · have hqz : (q : Int) < 8 := by omega
                have H3 := HA.out.past hB
                have hmp : m < G.s.ps.length := by rw [HPn.out]; exact hmn
                have hpgm : G.s.ps.getD m pg0 ∈ G.s.ps := by rw [List.getD, List.getElem?_eq_getElem hmp]; exact List.getElem_mem hmp
                obtain ⟨b9, d9, hv9, lb9, c9⟩ := RowI.at (show RowI wr (.slice a3 n c3) (sall G.s.ps) from H3.top) m (by rw [HNn.out]; exact hmn)
                rw [HNn.out] at hv9
                obtain ⟨rfl, rfl⟩ : a3 = some ⟨b9, 0, none⟩ ∧ c3 = d9 := by injection hv9 with h1 h2 h3; exact ⟨h1, h3⟩
                have hpf : (sall G.s.ps).getD m 0 = (G.s.ps.getD m pg0).f := by
                  unfold sall
                  rw [List.getD, List.getElem?_map, List.getD, List.getElem?_eq_getElem hmp]; rfl
                obtain ⟨pg, hpg⟩ : ∃ p, G.s.ps.getD m pg0 = p := ⟨_, rfl⟩
                rw [hpg] at hpf hpgm
                obtain ⟨pf, hpf'⟩ : ∃ f, pg.f = f := ⟨_, rfl⟩
                rw [hpf'] at hpf
                rw [hpf] at c9
                have hsl := sslot_of HI.out.s hpgm q hq8
                rw [hpf'] at hsl
                have htk := slots_take HI.out.s.sl m q hmp hq8
                rw [hpg] at htk
                have hle : 8 * m + q + 1 ≤ 8000 := by omega
                have hln : ((slotsOf G.s.ps).take (8 * m + q)).length = 8 * m + q := by rw [List.length_take, slots_len HI.out.s.sl, HPn.out]; omega
                obtain ⟨⟨xk, xd, ⟨xw, xu, xx⟩⟩, hx⟩ : ∃ x, pg.s.getD q slt0 = x := ⟨_, rfl⟩
                rw [hx] at hsl htk
                have hst : ∀ W, Below wr.heap.size wr W → Calls Try.prog 27 #[.pointer (some ⟨A.sp, 0, none⟩), .int .i64 pf, .int .i64 (q : Int)] W fun e w' => e = .returned (.tuple #[.agg #[.int .i64 xk, .int .i64 xd, .bool xw, .bool xu, .bool xx], .bool true]) ∧ Below W.heap.size W w' := fun W hW => sslot_any (H3.past hW).sx pf (q : Int) _ hsl
                obtain ⟨l0, hl0⟩ : ∃ l, (slotsOf G.s.ps).take (8 * m + q) = l := ⟨_, rfl⟩
                rw [hl0] at hO hln htk
                have hcs : (l0 ++ [(⟨xk, xd, ⟨xw, xu, xx⟩⟩ : Slt)]).flatMap slC = l0.flatMap slC ++ [.int .i64 xk, .int .i64 xd, .bool xw, .bool xu, .bool xx] := by rw [List.flatMap_append]; rfl
                obtain ⟨N, hN⟩ : ∃ N, 8 * m + q = N := ⟨_, rfl⟩
                rw [hN] at hle hln
                have e2 := H3.wd2.cell (k := 2) rfl
                have el := H3.wd2.lt
                have HSt := Lib.hid hst
                have HTk := Lib.hid htk
                have HO1 := Lib.hid hO
                have HCs := Lib.hid hcs
                have HLn := Lib.hid hln
                have LR := Lib.hid c9
                have HH3 := Lib.hid H3
                have HB' := Lib.hid hB
                have HNN := Lib.hid hN
                have n1 : wb ≠ wr.heap.size := by omega
                have n1' : wr.heap.size ≠ wb := by omega
                have n2 : b9 ≠ wr.heap.size := by omega
                have n2' : wr.heap.size ≠ b9 := by omega
                clear hst htk hO hcs hln hl0 hsl hx hpf hpgm hpg hpf' hv9 hmp H3 hB hN
                go_wp2_with fail
                go_region_held3 (fun w' => w'.cell? ⟨wb, 2, none⟩ = some (.pointer (some ⟨A.sp, 0, none⟩)) ∧ w'.cell? ⟨b9, m, none⟩ = some (.int .i64 pf)) (go_keep) (first
                  | (go_at_call 27; (with_reducible refine (HSt.out wr.drew ((Below.refl _ wr).drew)).mono ?_); rintro e W2 ⟨rfl, b2⟩; have q2 := (Below.refl wr.heap.size wr).drew.trans b2; have y2 := (HH3.out.past q2).wd2.cell (k := 2) rfl; have yl := (HH3.out.past q2).wd2.lt; have z0 := (q2.cell (p := ⟨b9, m, none⟩) lb9).trans LR.out; have zl := Nat.lt_of_lt_of_le lb9 q2.size)
                  | (go_at_call 27; (with_reducible refine (HSt.out (wr.alloc (.cells #[.int .i64 0, .int .i64 0, .bool false, .bool false, .bool false] 62)).drew ((bal wr (.cells #[.int .i64 0, .int .i64 0, .bool false, .bool false, .bool false] 62)).drew)).mono ?_); rintro e W2 ⟨rfl, b2⟩; have q2 := (bal wr (.cells #[.int .i64 0, .int .i64 0, .bool false, .bool false, .bool false] 62)).drew.trans (b2.mono (by simp)); have y2 := (HH3.out.past q2).wd2.cell (k := 2) rfl; have yl := (HH3.out.past q2).wd2.lt; have z0 := (q2.cell (p := ⟨b9, m, none⟩) lb9).trans LR.out; have zl := Nat.lt_of_lt_of_le lb9 q2.size; have ZP := (Blk.new wr 62 [.int .i64 0, .int .i64 0, .bool false, .bool false, .bool false]).drew.past b2; have zc0 := ZP.cell (k := 0) rfl; have zc1 := ZP.cell (k := 1) rfl; have zc2 := ZP.cell (k := 2) rfl; have zc3 := ZP.cell (k := 3) rfl; have zc4 := ZP.cell (k := 4) rfl; have zcf := fun j => ZP.free j; have zcl := ZP.lt))
                all_goals (first
                  | (obtain ⟨P5, q5⟩ := set5 (.int .i64 xk) (.int .i64 xd) (.bool xw) (.bool xu) (.bool xx) ZP q2 (Nat.le_refl _)
                     obtain ⟨pb, hpb⟩ : ∃ t, wr.heap.size = t := ⟨_, rfl⟩
                     obtain ⟨W5, hW5⟩ : ∃ W', ((((W2.setCell ⟨wr.heap.size, 0, none⟩ (.int .i64 xk)).setCell ⟨wr.heap.size, 1, none⟩ (.int .i64 xd)).setCell ⟨wr.heap.size, 2, none⟩ (.bool xw)).setCell ⟨wr.heap.size, 3, none⟩ (.bool xu)).setCell ⟨wr.heap.size, 4, none⟩ (.bool xx) = W' := ⟨_, rfl⟩
                     have lpb : wr.heap.size ≤ pb := Nat.le_of_eq hpb
                     rw [hW5] at P5 q5
                     rw [hpb] at P5
                     rw [hW5, hpb]
                     clear hW5 hpb q2 b2 ZP zc0 zc1 zc2 zc3 zc4 zcf zcl y2 yl z0 zl)
                  | (have bn := bal W2 (.cells #[.int .i64 xk, .int .i64 xd, .bool xw, .bool xu, .bool xx] 62)
                     have P5 := Blk.new W2 62 [.int .i64 xk, .int .i64 xd, .bool xw, .bool xu, .bool xx]
                     have q5 := q2.trans (bn.mono q2.size)
                     obtain ⟨pb, hpb⟩ : ∃ t, W2.heap.size = t := ⟨_, rfl⟩
                     obtain ⟨W5, hW5⟩ : ∃ W', W2.alloc (.cells #[.int .i64 xk, .int .i64 xd, .bool xw, .bool xu, .bool xx] 62) = W' := ⟨_, rfl⟩
                     have lpb : wr.heap.size ≤ pb := by rw [← hpb]; exact q2.size
                     rw [show (W2.alloc (.cells ([.int .i64 xk, .int .i64 xd, .bool xw, .bool xu, .bool xx] : List Value).toArray 62)) = W5 from hW5, hpb] at P5
                     rw [hW5] at q5
                     rw [hW5, hpb]
                     clear hW5 hpb bn q2 b2 y2 yl z0 zl))
                all_goals
                  have k0 := P5.cell (k := 0) rfl
                  have k1 := P5.cell (k := 1) rfl
                  have k2 := P5.cell (k := 2) rfl
                  have k3 := P5.cell (k := 3) rfl
                  have k4 := P5.cell (k := 4) rfl
                  have kl := P5.lt
                  have BB := HB'.out.trans (q5.mono HB'.out.size)
                  have HBB := Lib.hid BB
                  have hszB := HBB.out.size
                  have hr5 := HO1.out.past q5
                  unfold SR at hr5
                  rw [HLn.out] at hr5
                  have HRow := Lib.hid hr5
                  clear hr5
                  clear BB P5 q5 n1 n1' n2 n2' e2 el
                  obtain ⟨i0, hi, hz0, hz1, hz2⟩ := info_parts info_slot
                  have HI1 := Lib.hid hi
                  have HZ0 := Lib.hid hz0
                  have HZ1 := Lib.hid hz1
                  have HZ2 := Lib.hid hz2
                  clear hi hz0 hz1 hz2
                  go_wp2_with (at_builtin; refine wpList_append_own _ rfl _ _ 60 rfl W3.heap.size 62 i0 _ 5 24 Try.underlying60 HI1.out HZ0.out HZ1.out HZ2.out rfl (by decide) _ _ _ rfl (HRow.out.alloc _) ⟨W5.heap.size, 0, none⟩ 1 1 [.int .i64 xk, .int .i64 xd, .bool xw, .bool xu, .bool xx] rfl rfl (World.news_of_block (cs := #[.int .i64 xk, .int .i64 xd, .bool xw, .bool xu, .bool xx]) (t := 62) (fr := (0, 0)) (heap_alloc_new W5 _)) (by simp [Value.oneCell']) (by unfold maxLen; omega) (by omega) (by simp; omega) ?_; intro v' w3 hown' hgrow3 hnil3; have HO3 := Lib.hid hown'; have HG3 := Lib.hid hgrow3; clear hown' hgrow3 hnil3)
                  go_roundw
                  case rel =>
                    refine ⟨q + 1, by omega, by simp, ?_, (HBB.out.alloc HBB.out.size _).grown HG3.out (by have := HBB.out.size; simp; omega) (fun r e => ((HRow.out.alloc (.cells #[.int .i64 xk, .int .i64 xd, .bool xw, .bool xu, .bool xx] 62)).lt r e).1)⟩
                    rw [show 8 * m + (q + 1) = 8 * m + q + 1 from rfl, HTk.out]
                    unfold SR
                    rw [HCs.out, List.length_append, HLn.out]
                    exact HO3.out
                  case measure => simp [intOf]; omega
              · have fq : decide ((q : Int) < 8) = false := decide_eq_false (by omega)
                have hq' : q = 8 := by omega
                rw [hq'] at hO
                have HO1 := Lib.hid hO
                have HB' := Lib.hid hB
                clear hO hB hq'
                go_wp2_with fail
                go_roundw
                case rel => exact ⟨m + 1, by omega, by simp, HO1.out, HB'.out⟩
                case measure => simp [intOf]; omega

          · obtain rfl : n = m := by omega
            rw [show (slotsOf G.s.ps).take (8 * n) = slotsOf G.s.ps from List.take_of_length_le (by rw [slots_len HI.out.s.sl, HPn.out]; exact Nat.le_refl _)] at hO
            obtain ⟨va, vc, hv'⟩ := hO.form
            rw [HSl.out] at hv'
            subst hv'
            have H4 : HG w wr A P24 V G (srow (.slice va (8 * n) vc) (slotsOf G.s.ps) :: ints (.slice a3 n c3) (sall G.s.ps) :: [wld wb A]) := HA.out.add hB (srow _ _) hO.base0 (fun b hb => hO.lo b hb)
            obtain ⟨G1, hG1⟩ : ∃ g : GS, { G with l := tput P24.most G.l ⟨0, 5, 0, ⟨false, false, false⟩, false⟩ } = g := ⟨_, rfl⟩
            have hput : ∀ W V ts, HG w W A P24 V G ts → Calls Try.prog 18 #[.pointer (some ⟨A.tp, 0, none⟩), .agg #[.int .i64 0, .int .i64 5, .int .i64 0, .bool false, .bool false, .bool false, .bool false]] W fun e w' => (∃ r, e = .returned r) ∧ ∃ V', HG w w' A P24 V' G1 ts := fun W V ts h => hG1 ▸ tput_h h (by decide) ⟨0, 5, 0, ⟨false, false, false⟩, false⟩
            have hI1 : GInv P24 G1 := hG1 ▸ tput_inv HI.out _
            have hs1 : G1.s = G.s := by rw [← hG1]
            have hl1 : G1.l ≠ [] := by rw [← hG1]; unfold tput; simp
            obtain ⟨y1, y2, y3⟩ := gword_view hI1 (t8 : Int) (k8 : Int)
            obtain ⟨G2, hG2⟩ : ∃ g, gword G1 (t8 : Int) (k8 : Int) = g := ⟨_, rfl⟩
            rw [hG2] at y1 y2 y3
            rw [hs1] at y1 y2 y3
            have hwd : ∀ W V ts, HG w W A P24 V G1 ts → Calls Try.prog 33 #[.pointer (some ⟨A.dp, 0, none⟩), .int .i64 (t8 : Int), .int .i64 (k8 : Int)] W fun e w' => (∃ r, e = .returned r) ∧ ∃ V', HG w w' A P24 V' G2 ts := fun W V ts h => hG2 ▸ word_h h (t8 : Int) (k8 : Int)
            have d3 := H4.wd3.cell (k := 3) rfl
            have dl := H4.wd3.lt
            have HPut := Lib.hid hput
            have HWd := Lib.hid hwd
            have HSame := Lib.hid y1
            have HView := Lib.hid y2
            have HLaw := Lib.hid y3
            have HNe := Lib.hid hl1
            have HH4 := Lib.hid H4
            clear hput hwd y1 y2 y3 hl1 hI1 hs1 hG1 hG2 H4 hO hB
            go_wp2_with (first
              | (go_at_call 18; (with_reducible refine (HPut.out _ _ _ HH4.out).mono ?_); rintro e W5 ⟨⟨r5, rfl⟩, V5, h5⟩; have e4 := h5.wd3.cell (k := 4) rfl; have el := h5.wd3.lt; have HH5 := Lib.hid h5; clear h5)
              | (go_at_call 33; (with_reducible refine (HWd.out _ _ _ HH5.out).mono ?_); rintro e W6 ⟨⟨r6, rfl⟩, V6, h6⟩; have HW := Lib.hid h6; clear h6))
            obtain ⟨WC, rfl⟩ : ∃ W, W = wr := ⟨_, rfl⟩
            go_loopw [20, 21] (fun t i wr => ∃ m : Nat, m ≤ n ∧ i = .int .i64 m ∧ t = .bool ((G.s.ps.take m).any fun p => ofB (t8 : Int) p.k && !decide ((p.s.getD k8 slt0).kind = 0)) ∧ Below W6.heap.size W6 wr) (fun _ i _ => n - (intOf i).toNat)
            case atStart => exact ⟨0, by omega, rfl, rfl, Below.refl _ _⟩
            case round =>
              obtain ⟨m, hm, rfl, rfl, hB⟩ := hrel
              by_cases hmn : m < n
              · have H3 := HW.out.past hB
                have H3' := H3.tail
                have hmp : m < G.s.ps.length := by rw [HPn.out]; exact hmn
                have hpgm : G.s.ps.getD m pg0 ∈ G.s.ps := by rw [List.getD, List.getElem?_eq_getElem hmp]; exact List.getElem_mem hmp
                obtain ⟨b9, d9, hv9, lb9, c9⟩ := RowI.at (show RowI wr (.slice a3 n c3) (sall G.s.ps) from H3'.top) m (by rw [HNn.out]; exact hmn)
                rw [HNn.out] at hv9
                obtain ⟨rfl, rfl⟩ : a3 = some ⟨b9, 0, none⟩ ∧ c3 = d9 := by injection hv9 with h1 h2 h3; exact ⟨h1, h3⟩
                have hpf : (sall G.s.ps).getD m 0 = (G.s.ps.getD m pg0).f := by
                  unfold sall
                  rw [List.getD, List.getElem?_map, List.getD, List.getElem?_eq_getElem hmp]; rfl
                obtain ⟨pg, hpg⟩ : ∃ p, G.s.ps.getD m pg0 = p := ⟨_, rfl⟩
                rw [hpg] at hpf hpgm
                obtain ⟨pf, hpf'⟩ : ∃ f, pg.f = f := ⟨_, rfl⟩
                rw [hpf'] at hpf
                rw [hpf] at c9
                have hk := skey_mem HI.out.s hpgm
                rw [hpf', ← HSame.out.key] at hk
                have hnw : ∀ q : Nat, q < 8 → sslot G2.s.ps pf (q : Int) = some (if ofB (t8 : Int) pg.k = true ∧ (q : Int) = (k8 : Int) then slt0 else pg.s.getD q slt0) := fun q hq => by
                  have := HView.out pg hpgm q hq
                  rw [hpf'] at this; exact this
                have hany : ((G.s.ps.take (m + 1)).any fun p => ofB (t8 : Int) p.k && !decide ((p.s.getD k8 slt0).kind = 0)) = (((G.s.ps.take m).any fun p => ofB (t8 : Int) p.k && !decide ((p.s.getD k8 slt0).kind = 0)) || (ofB (t8 : Int) pg.k && !decide ((pg.s.getD k8 slt0).kind = 0))) := by
                  rw [List.take_add_one, List.getElem?_eq_getElem hmp, List.any_append]
                  rw [List.getD, List.getElem?_eq_getElem hmp] at hpg
                  have hpg' : G.s.ps[m] = pg := hpg
                  rw [hpg']; simp
                obtain ⟨T0, hT0⟩ : ∃ x, ((G.s.ps.take m).any fun p => ofB (t8 : Int) p.k && !decide ((p.s.getD k8 slt0).kind = 0)) = x := ⟨_, rfl⟩
                obtain ⟨K0, hK0⟩ : ∃ x, (!decide ((pg.s.getD k8 slt0).kind = 0)) = x := ⟨_, rfl⟩
                obtain ⟨mine, hmine⟩ : ∃ x, ofB (t8 : Int) pg.k = x := ⟨_, rfl⟩
                rw [hT0, hmine, hK0] at hany
                rw [hT0]
                rw [hmine] at hnw
                obtain ⟨⟨kg, kv, kr⟩, hkk⟩ : ∃ x, pg.k = x := ⟨_, rfl⟩
                rw [hkk] at hk hmine
                have hky : ∀ W, Below wr.heap.size wr W → Calls Try.prog 16 #[.pointer (some ⟨A.sp, 0, none⟩), .int .i64 pf] W fun e w' => e = .returned (.tuple #[.agg #[.int .i64 kg, .int .i64 kv, .int .i64 kr], .bool true]) ∧ Below W.heap.size W w' := fun W hW => skey_any (H3.past hW).sx pf _ hk
                have d2 := H3.wd3.cell (k := 2) rfl
                have dl := H3.wd3.lt
                have hc9 : ∀ W, Below W6.heap.size W6 W → W.cell? ⟨b9, m, none⟩ = some (.int .i64 pf) := fun W hW => by
                  have e := row_at (show RowI W (.slice (some ⟨b9, 0, none⟩) n c3) (sall G.s.ps) from (HW.out.past hW).top2) HNn.out m hmn hpf
                  exact e
                have hl9 : ∀ W, Below W6.heap.size W6 W → b9 < W.heap.size := fun W hW => (show RowI W (.slice (some ⟨b9, 0, none⟩) n c3) (sall G.s.ps) from (HW.out.past hW).top2).lt' b9 rfl
                have HC9 := Lib.hid hc9
                have HL9 := Lib.hid hl9
                have HKy := Lib.hid hky
                have HNew := Lib.hid hnw
                have HStep := Lib.hid hany
                have HK0 := Lib.hid hK0
                have HMine := Lib.hid hmine
                have HMn := Lib.hid hmn
                have HPg := Lib.hid hpg
                have LR := Lib.hid c9
                have HB0 := Lib.hid hB
                have HH3 := Lib.hid H3
                have n1 : wb ≠ wr.heap.size := by omega
                have n1' : wr.heap.size ≠ wb := by omega
                have n2 : b9 ≠ wr.heap.size := by omega
                have n2' : wr.heap.size ≠ b9 := by omega
                clear hc9 hl9 hky hnw hany hK0 hmine hpg hpf hpf' hpgm hk hkk hv9 hB H3 H3' hmp hT0
                go_wp2_with fail
                go_region_held3 (fun w' => w'.cell? ⟨wb, 2, none⟩ = some (.pointer (some ⟨A.sp, 0, none⟩)) ∧ w'.cell? ⟨b9, m, none⟩ = some (.int .i64 pf)) (go_keep) (first
                  | (go_at_call 16; (with_reducible refine (HKy.out wr.drew ((Below.refl _ wr).drew)).mono ?_); rintro e W2 ⟨rfl, b2⟩; have q2 := (Below.refl wr.heap.size wr).drew.trans b2; have y2 := (HH3.out.past q2).wd3.cell (k := 2) rfl; have yl := (HH3.out.past q2).wd3.lt; have z0 := (q2.cell (p := ⟨b9, m, none⟩) lb9).trans LR.out; have zl := Nat.lt_of_lt_of_le lb9 q2.size)
                  | (go_at_call 16; (with_reducible refine (HKy.out (wr.alloc (.cells #[.int .i64 0, .int .i64 0, .int .i64 0] 37)).drew ((bal wr (.cells #[.int .i64 0, .int .i64 0, .int .i64 0] 37)).drew)).mono ?_); rintro e W2 ⟨rfl, b2⟩; have q2 := (bal wr (.cells #[.int .i64 0, .int .i64 0, .int .i64 0] 37)).drew.trans (b2.mono (by simp)); have y2 := (HH3.out.past q2).wd3.cell (k := 2) rfl; have yl := (HH3.out.past q2).wd3.lt; have z0 := (q2.cell (p := ⟨b9, m, none⟩) lb9).trans LR.out; have zl := Nat.lt_of_lt_of_le lb9 q2.size; have ZP := (Blk.new wr 37 [.int .i64 0, .int .i64 0, .int .i64 0]).drew.past b2; have zc0 := ZP.cell (k := 0) rfl; have zc1 := ZP.cell (k := 1) rfl; have zc2 := ZP.cell (k := 2) rfl; have zcf := fun j => ZP.free j; have zcl := ZP.lt))
                all_goals (first
                  | (obtain ⟨P5, q5⟩ := set3 (.int .i64 kg) (.int .i64 kv) (.int .i64 kr) ZP q2 (Nat.le_refl _)
                     obtain ⟨pb, hpb⟩ : ∃ t, wr.heap.size = t := ⟨_, rfl⟩
                     obtain ⟨W5, hW5⟩ : ∃ W', ((W2.setCell ⟨wr.heap.size, 0, none⟩ (.int .i64 kg)).setCell ⟨wr.heap.size, 1, none⟩ (.int .i64 kv)).setCell ⟨wr.heap.size, 2, none⟩ (.int .i64 kr) = W' := ⟨_, rfl⟩
                     rw [hW5] at P5 q5
                     rw [hpb] at P5
                     rw [hW5, hpb]
                     clear hW5 hpb q2 b2 ZP zc0 zc1 zc2 zcf zcl y2 yl z0 zl)
                  | (have bn := bal W2 (.cells #[.int .i64 kg, .int .i64 kv, .int .i64 kr] 37)
                     have P5 := Blk.new W2 37 [.int .i64 kg, .int .i64 kv, .int .i64 kr]
                     have q5 := q2.trans (bn.mono q2.size)
                     obtain ⟨pb, hpb⟩ : ∃ t, W2.heap.size = t := ⟨_, rfl⟩
                     obtain ⟨W5, hW5⟩ : ∃ W', W2.alloc (.cells #[.int .i64 kg, .int .i64 kv, .int .i64 kr] 37) = W' := ⟨_, rfl⟩
                     rw [show (W2.alloc (.cells ([.int .i64 kg, .int .i64 kv, .int .i64 kr] : List Value).toArray 37)) = W5 from hW5, hpb] at P5
                     rw [hW5] at q5
                     rw [hW5, hpb]
                     clear hW5 hpb bn q2 b2 y2 yl z0 zl))
                all_goals
                  have g0 := P5.cell (k := 0) rfl
                  have g2 := P5.cell (k := 2) rfl
                  have gl := P5.lt
                  have HB5 := Lib.hid (HB0.out.trans (q5.mono HB0.out.size))
                  clear q5 P5 n1 n1' n2 n2' lb9 d2 dl
                  have hcase : ((kr == 0) = false ∧ mine = false) ∨ ((kr == 0) = true ∧ (kg == (t8 : Int)) = mine) := by
                    have e := HMine.out
                    unfold ofB at e
                    by_cases h0 : kr = 0
                    · refine .inr ⟨beq_iff_eq.2 h0, ?_⟩
                      rw [← e]
                      simp only [h0, decide_true, Bool.true_and]
                      rfl
                    · exact .inl ⟨beq_eq_false_iff_ne.2 h0, by rw [← e]; simp [h0]⟩
                  rcases hcase with ⟨f1, rfl⟩ | ⟨f1, f2⟩
                  · go_wp2_with fail
                    obtain ⟨WD, rfl⟩ : ∃ W, W = wr := ⟨_, rfl⟩
                    go_loopw [20, 25] (fun t i wr => ∃ q : Nat, q ≤ 8 ∧ i = .int .i64 q ∧ t = .bool (T0 || (false && decide (k8 < q) && K0)) ∧ Below W6.heap.size W6 wr) (fun _ i _ => 8 - (intOf i).toNat)
                    case atStart => exact ⟨0, by omega, rfl, by simp, HB5.out⟩
                    case round =>
                      obtain ⟨q, hq, rfl, rfl, hB⟩ := hrel
                      by_cases hq8 : q < 8
                      · have hqz : (q : Int) < 8 := by omega
                        have H3 := HW.out.past hB
                        obtain ⟨d0, e0, hv0, lb0, o0, o1, o2, o3, o4⟩ := SR.at (show SR 0 wr (.slice va (8 * n) vc) (slotsOf G.s.ps) from H3.top) (8 * m + q) (by rw [HSl.out]; omega)
                        rw [HSl.out] at hv0
                        obtain ⟨rfl, rfl⟩ : va = some ⟨d0, 0, none⟩ ∧ vc = e0 := by injection hv0 with h1 h2 h3; exact ⟨h1, h3⟩
                        have hsg := slots_get HI.out.s.sl m q (by rw [HPn.out]; exact HMn.out) hq8
                        rw [HPg.out] at hsg
                        have hsd : (slotsOf G.s.ps).getD (8 * m + q) slt0 = pg.s.getD q slt0 := by rw [List.getD, hsg]; rfl
                        rw [hsd] at o0 o1 o2 o3 o4
                        have hnew := HNew.out q hq8
                        obtain ⟨⟨xk, xd, ⟨xw, xu, xx⟩⟩, hx⟩ : ∃ x, pg.s.getD q slt0 = x := ⟨_, rfl⟩
                        rw [hx] at o0 o1 o2 o3 o4 hnew
                        have hK : q = k8 → K0 = !decide (xk = 0) := fun e => by
                          rw [← HK0.out, ← e, hx]
                        obtain ⟨N, hN⟩ : ∃ N, 8 * m + q = N := ⟨_, rfl⟩
                        have hw8 : IntKind.i64.wrap (8 * (m : Int)) = 8 * (m : Int) := by rw [IntKind.wrap_i64]; omega
                        have hwN : IntKind.i64.wrap (8 * (m : Int) + (q : Int)) = (N : Int) := by rw [IntKind.wrap_i64]; omega
                        rw [hN] at o0 o1 o2 o3 o4
                        have hNn : N < 8 * n := by omega
                        have hzz : (N : Int) < 8 * (n : Int) := by omega
                        have d2 := H3.wd3.cell (k := 2) rfl
                        have dl := H3.wd3.lt
                        have O0 := Lib.hid o0
                        have O1 := Lib.hid o1
                        have O2 := Lib.hid o2
                        have O3 := Lib.hid o3
                        have O4 := Lib.hid o4
                        have c9 := HC9.out wr hB
                        have lb9 := HL9.out wr hB
                        have LR := Lib.hid c9
                        have HB' := Lib.hid hB
                        have HH3 := Lib.hid H3
                        have HHK := Lib.hid hK
                        have n1 : wb ≠ wr.heap.size := by omega
                        have n1' : wr.heap.size ≠ wb := by omega
                        have n2 : b9 ≠ wr.heap.size := by omega
                        have n2' : wr.heap.size ≠ b9 := by omega
                        clear o0 o1 o2 o3 o4 hsg hsd hx hK hN hv0 H3 hB
                        rw [if_neg (by simp)] at hnew
                        have hst : ∀ W, Below wr.heap.size wr W → Calls Try.prog 27 #[.pointer (some ⟨A.sp, 0, none⟩), .int .i64 pf, .int .i64 (q : Int)] W fun e w' => e = .returned (.tuple #[.agg #[.int .i64 xk, .int .i64 xd, .bool xw, .bool xu, .bool xx], .bool true]) ∧ Below W.heap.size W w' := fun W hW => sslot_any (HH3.out.past hW).sx pf (q : Int) _ hnew
                        have HSt := Lib.hid hst
                        clear hst hnew
                        go_wp2_with fail
                        go_region_held3 (fun w' => w'.cell? ⟨wb, 2, none⟩ = some (.pointer (some ⟨A.sp, 0, none⟩)) ∧ w'.cell? ⟨b9, m, none⟩ = some (.int .i64 pf)) (go_keep) (first
                          | (go_at_call 27; (with_reducible refine (HSt.out wr.drew ((Below.refl _ wr).drew)).mono ?_); rintro e W2 ⟨rfl, b2⟩; have q2 := (Below.refl wr.heap.size wr).drew.trans b2; have y2 := (HH3.out.past q2).wd3.cell (k := 2) rfl; have yl := (HH3.out.past q2).wd3.lt; have z0 := (q2.cell (p := ⟨b9, m, none⟩) lb9).trans LR.out; have zl := Nat.lt_of_lt_of_le lb9 q2.size)
                          | (go_at_call 27; (with_reducible refine (HSt.out (wr.alloc (.cells #[.int .i64 0, .int .i64 0, .bool false, .bool false, .bool false] 62)).drew ((bal wr (.cells #[.int .i64 0, .int .i64 0, .bool false, .bool false, .bool false] 62)).drew)).mono ?_); rintro e W2 ⟨rfl, b2⟩; have q2 := (bal wr (.cells #[.int .i64 0, .int .i64 0, .bool false, .bool false, .bool false] 62)).drew.trans (b2.mono (by simp)); have y2 := (HH3.out.past q2).wd3.cell (k := 2) rfl; have yl := (HH3.out.past q2).wd3.lt; have z0 := (q2.cell (p := ⟨b9, m, none⟩) lb9).trans LR.out; have zl := Nat.lt_of_lt_of_le lb9 q2.size; have ZP := (Blk.new wr 62 [.int .i64 0, .int .i64 0, .bool false, .bool false, .bool false]).drew.past b2; have zc0 := ZP.cell (k := 0) rfl; have zc1 := ZP.cell (k := 1) rfl; have zc2 := ZP.cell (k := 2) rfl; have zc3 := ZP.cell (k := 3) rfl; have zc4 := ZP.cell (k := 4) rfl; have zcf := fun j => ZP.free j; have zcl := ZP.lt))
                        all_goals (first
                          | (obtain ⟨P5, q5⟩ := set5 (.int .i64 xk) (.int .i64 xd) (.bool xw) (.bool xu) (.bool xx) ZP q2 (Nat.le_refl _)
                             obtain ⟨pb, hpb⟩ : ∃ t, wr.heap.size = t := ⟨_, rfl⟩
                             obtain ⟨W5, hW5⟩ : ∃ W', ((((W2.setCell ⟨wr.heap.size, 0, none⟩ (.int .i64 xk)).setCell ⟨wr.heap.size, 1, none⟩ (.int .i64 xd)).setCell ⟨wr.heap.size, 2, none⟩ (.bool xw)).setCell ⟨wr.heap.size, 3, none⟩ (.bool xu)).setCell ⟨wr.heap.size, 4, none⟩ (.bool xx) = W' := ⟨_, rfl⟩
                             have lpb : wr.heap.size ≤ pb := Nat.le_of_eq hpb
                             rw [hW5] at P5 q5
                             rw [hpb] at P5
                             rw [hW5, hpb]
                             clear hW5 hpb q2 b2 ZP zc0 zc1 zc2 zc3 zc4 zcf zcl y2 yl z0 zl)
                          | (have bn := bal W2 (.cells #[.int .i64 xk, .int .i64 xd, .bool xw, .bool xu, .bool xx] 62)
                             have P5 := Blk.new W2 62 [.int .i64 xk, .int .i64 xd, .bool xw, .bool xu, .bool xx]
                             have q5 := q2.trans (bn.mono q2.size)
                             obtain ⟨pb, hpb⟩ : ∃ t, W2.heap.size = t := ⟨_, rfl⟩
                             obtain ⟨W5, hW5⟩ : ∃ W', W2.alloc (.cells #[.int .i64 xk, .int .i64 xd, .bool xw, .bool xu, .bool xx] 62) = W' := ⟨_, rfl⟩
                             have lpb : wr.heap.size ≤ pb := by rw [← hpb]; exact q2.size
                             rw [show (W2.alloc (.cells ([.int .i64 xk, .int .i64 xd, .bool xw, .bool xu, .bool xx] : List Value).toArray 62)) = W5 from hW5, hpb] at P5
                             rw [hW5] at q5
                             rw [hW5, hpb]
                             clear hW5 hpb bn q2 b2 y2 yl z0 zl))
                        all_goals
                          have k0 := P5.cell (k := 0) rfl
                          have k1 := P5.cell (k := 1) rfl
                          have k2 := P5.cell (k := 2) rfl
                          have k3 := P5.cell (k := 3) rfl
                          have k4 := P5.cell (k := 4) rfl
                          have kl := P5.lt
                          have v0 := (q5.cell (p := ⟨d0, _, none⟩) lb0).trans O0.out
                          have v1 := (q5.cell (p := ⟨d0, _, none⟩) lb0).trans O1.out
                          have v2 := (q5.cell (p := ⟨d0, _, none⟩) lb0).trans O2.out
                          have v3 := (q5.cell (p := ⟨d0, _, none⟩) lb0).trans O3.out
                          have v4 := (q5.cell (p := ⟨d0, _, none⟩) lb0).trans O4.out
                          have vl := Nat.lt_of_lt_of_le lb0 q5.size
                          have hne := slot_neq
                          have BB := HB'.out.trans (q5.mono HB'.out.size)
                          have HBB := Lib.hid BB
                          have HP5 := Lib.hid P5
                          clear BB q5 P5 n1 n1' n2 n2'
                          go_upto_region 34 with (fail)
                          have b8 := bal W5 (.cells #[.int .i64 xk, .int .i64 xd, .bool xw, .bool xu, .bool xx] 62)
                          have P8 := Blk.new W5 62 [.int .i64 xk, .int .i64 xd, .bool xw, .bool xu, .bool xx]
                          obtain ⟨ob, hob⟩ : ∃ t, W5.heap.size = t := ⟨_, rfl⟩
                          obtain ⟨W8, hW8⟩ : ∃ W', W5.alloc (.cells #[.int .i64 xk, .int .i64 xd, .bool xw, .bool xu, .bool xx] 62) = W' := ⟨_, rfl⟩
                          rw [show (W5.alloc (.cells ([.int .i64 xk, .int .i64 xd, .bool xw, .bool xu, .bool xx] : List Value).toArray 62)) = W8 from hW8, hob] at P8
                          rw [hW8] at b8
                          rw [hW8, hob]
                          have lob : W5.heap.size ≤ ob := Nat.le_of_eq hob
                          clear hW8 hob v0 v1 v2 v3 v4 vl k0 k1 k2 k3 k4
                          have k0 := (HP5.out.past b8).cell (k := 0) rfl
                          have k1 := (HP5.out.past b8).cell (k := 1) rfl
                          have k2 := (HP5.out.past b8).cell (k := 2) rfl
                          have k3 := (HP5.out.past b8).cell (k := 3) rfl
                          have k4 := (HP5.out.past b8).cell (k := 4) rfl
                          have kl8 := (HP5.out.past b8).lt
                          have j0 := P8.cell (k := 0) rfl
                          have j1 := P8.cell (k := 1) rfl
                          have j2 := P8.cell (k := 2) rfl
                          have j3 := P8.cell (k := 3) rfl
                          have j4 := P8.cell (k := 4) rfl
                          have jl := P8.lt
                          have HB8 := Lib.hid (HBB.out.trans (b8.mono HBB.out.size))
                          clear b8
                          go_wp2_with fail
                          go_roundw
                          case rel => exact ⟨q + 1, by omega, by simp, by simp, HB8.out⟩
                          case measure => simp [intOf]; omega
                      · have fq : decide ((q : Int) < 8) = false := decide_eq_false (by omega)
                        have hq' : q = 8 := by omega
                        have HB' := Lib.hid hB
                        clear hB
                        go_wp2_with fail
                        go_roundw
                        case rel =>
                          refine ⟨m + 1, by omega, by simp, ?_, HB'.out⟩
                          rw [HStep.out, hq', decide_eq_true HK8.out, Bool.and_true]
                        case measure => simp [intOf]; omega
                  · go_wp2_with fail
                    obtain ⟨WD, rfl⟩ : ∃ W, W = wr := ⟨_, rfl⟩
                    go_loopw [20, 25] (fun t i wr => ∃ q : Nat, q ≤ 8 ∧ i = .int .i64 q ∧ t = .bool (T0 || (mine && decide (k8 < q) && K0)) ∧ Below W6.heap.size W6 wr) (fun _ i _ => 8 - (intOf i).toNat)
                    case atStart => exact ⟨0, by omega, rfl, by simp, HB5.out⟩
                    case round =>
                      obtain ⟨q, hq, rfl, rfl, hB⟩ := hrel
                      by_cases hq8 : q < 8
                      · have hqz : (q : Int) < 8 := by omega
                        have H3 := HW.out.past hB
                        obtain ⟨d0, e0, hv0, lb0, o0, o1, o2, o3, o4⟩ := SR.at (show SR 0 wr (.slice va (8 * n) vc) (slotsOf G.s.ps) from H3.top) (8 * m + q) (by rw [HSl.out]; omega)
                        rw [HSl.out] at hv0
                        obtain ⟨rfl, rfl⟩ : va = some ⟨d0, 0, none⟩ ∧ vc = e0 := by injection hv0 with h1 h2 h3; exact ⟨h1, h3⟩
                        have hsg := slots_get HI.out.s.sl m q (by rw [HPn.out]; exact HMn.out) hq8
                        rw [HPg.out] at hsg
                        have hsd : (slotsOf G.s.ps).getD (8 * m + q) slt0 = pg.s.getD q slt0 := by rw [List.getD, hsg]; rfl
                        rw [hsd] at o0 o1 o2 o3 o4
                        have hnew := HNew.out q hq8
                        obtain ⟨⟨xk, xd, ⟨xw, xu, xx⟩⟩, hx⟩ : ∃ x, pg.s.getD q slt0 = x := ⟨_, rfl⟩
                        rw [hx] at o0 o1 o2 o3 o4 hnew
                        have hK : q = k8 → K0 = !decide (xk = 0) := fun e => by
                          rw [← HK0.out, ← e, hx]
                        obtain ⟨N, hN⟩ : ∃ N, 8 * m + q = N := ⟨_, rfl⟩
                        have hw8 : IntKind.i64.wrap (8 * (m : Int)) = 8 * (m : Int) := by rw [IntKind.wrap_i64]; omega
                        have hwN : IntKind.i64.wrap (8 * (m : Int) + (q : Int)) = (N : Int) := by rw [IntKind.wrap_i64]; omega
                        rw [hN] at o0 o1 o2 o3 o4
                        have hNn : N < 8 * n := by omega
                        have hzz : (N : Int) < 8 * (n : Int) := by omega
                        have d2 := H3.wd3.cell (k := 2) rfl
                        have dl := H3.wd3.lt
                        have O0 := Lib.hid o0
                        have O1 := Lib.hid o1
                        have O2 := Lib.hid o2
                        have O3 := Lib.hid o3
                        have O4 := Lib.hid o4
                        have c9 := HC9.out wr hB
                        have lb9 := HL9.out wr hB
                        have LR := Lib.hid c9
                        have HB' := Lib.hid hB
                        have HH3 := Lib.hid H3
                        have HHK := Lib.hid hK
                        have n1 : wb ≠ wr.heap.size := by omega
                        have n1' : wr.heap.size ≠ wb := by omega
                        have n2 : b9 ≠ wr.heap.size := by omega
                        have n2' : wr.heap.size ≠ b9 := by omega
                        clear o0 o1 o2 o3 o4 hsg hsd hx hK hN hv0 H3 hB
                        cases mine with
                        | false =>
                          rw [if_neg (by simp)] at hnew
                          have hst : ∀ W, Below wr.heap.size wr W → Calls Try.prog 27 #[.pointer (some ⟨A.sp, 0, none⟩), .int .i64 pf, .int .i64 (q : Int)] W fun e w' => e = .returned (.tuple #[.agg #[.int .i64 xk, .int .i64 xd, .bool xw, .bool xu, .bool xx], .bool true]) ∧ Below W.heap.size W w' := fun W hW => sslot_any (HH3.out.past hW).sx pf (q : Int) _ hnew
                          have HSt := Lib.hid hst
                          clear hst hnew
                          go_wp2_with fail
                          go_region_held3 (fun w' => w'.cell? ⟨wb, 2, none⟩ = some (.pointer (some ⟨A.sp, 0, none⟩)) ∧ w'.cell? ⟨b9, m, none⟩ = some (.int .i64 pf)) (go_keep) (first
                            | (go_at_call 27; (with_reducible refine (HSt.out wr.drew ((Below.refl _ wr).drew)).mono ?_); rintro e W2 ⟨rfl, b2⟩; have q2 := (Below.refl wr.heap.size wr).drew.trans b2; have y2 := (HH3.out.past q2).wd3.cell (k := 2) rfl; have yl := (HH3.out.past q2).wd3.lt; have z0 := (q2.cell (p := ⟨b9, m, none⟩) lb9).trans LR.out; have zl := Nat.lt_of_lt_of_le lb9 q2.size)
                            | (go_at_call 27; (with_reducible refine (HSt.out (wr.alloc (.cells #[.int .i64 0, .int .i64 0, .bool false, .bool false, .bool false] 62)).drew ((bal wr (.cells #[.int .i64 0, .int .i64 0, .bool false, .bool false, .bool false] 62)).drew)).mono ?_); rintro e W2 ⟨rfl, b2⟩; have q2 := (bal wr (.cells #[.int .i64 0, .int .i64 0, .bool false, .bool false, .bool false] 62)).drew.trans (b2.mono (by simp)); have y2 := (HH3.out.past q2).wd3.cell (k := 2) rfl; have yl := (HH3.out.past q2).wd3.lt; have z0 := (q2.cell (p := ⟨b9, m, none⟩) lb9).trans LR.out; have zl := Nat.lt_of_lt_of_le lb9 q2.size; have ZP := (Blk.new wr 62 [.int .i64 0, .int .i64 0, .bool false, .bool false, .bool false]).drew.past b2; have zc0 := ZP.cell (k := 0) rfl; have zc1 := ZP.cell (k := 1) rfl; have zc2 := ZP.cell (k := 2) rfl; have zc3 := ZP.cell (k := 3) rfl; have zc4 := ZP.cell (k := 4) rfl; have zcf := fun j => ZP.free j; have zcl := ZP.lt))
                          all_goals (first
                            | (obtain ⟨P5, q5⟩ := set5 (.int .i64 xk) (.int .i64 xd) (.bool xw) (.bool xu) (.bool xx) ZP q2 (Nat.le_refl _)
                               obtain ⟨pb, hpb⟩ : ∃ t, wr.heap.size = t := ⟨_, rfl⟩
                               obtain ⟨W5, hW5⟩ : ∃ W', ((((W2.setCell ⟨wr.heap.size, 0, none⟩ (.int .i64 xk)).setCell ⟨wr.heap.size, 1, none⟩ (.int .i64 xd)).setCell ⟨wr.heap.size, 2, none⟩ (.bool xw)).setCell ⟨wr.heap.size, 3, none⟩ (.bool xu)).setCell ⟨wr.heap.size, 4, none⟩ (.bool xx) = W' := ⟨_, rfl⟩
                               have lpb : wr.heap.size ≤ pb := Nat.le_of_eq hpb
                               rw [hW5] at P5 q5
                               rw [hpb] at P5
                               rw [hW5, hpb]
                               clear hW5 hpb q2 b2 ZP zc0 zc1 zc2 zc3 zc4 zcf zcl y2 yl z0 zl)
                            | (have bn := bal W2 (.cells #[.int .i64 xk, .int .i64 xd, .bool xw, .bool xu, .bool xx] 62)
                               have P5 := Blk.new W2 62 [.int .i64 xk, .int .i64 xd, .bool xw, .bool xu, .bool xx]
                               have q5 := q2.trans (bn.mono q2.size)
                               obtain ⟨pb, hpb⟩ : ∃ t, W2.heap.size = t := ⟨_, rfl⟩
                               obtain ⟨W5, hW5⟩ : ∃ W', W2.alloc (.cells #[.int .i64 xk, .int .i64 xd, .bool xw, .bool xu, .bool xx] 62) = W' := ⟨_, rfl⟩
                               have lpb : wr.heap.size ≤ pb := by rw [← hpb]; exact q2.size
                               rw [show (W2.alloc (.cells ([.int .i64 xk, .int .i64 xd, .bool xw, .bool xu, .bool xx] : List Value).toArray 62)) = W5 from hW5, hpb] at P5
                               rw [hW5] at q5
                               rw [hW5, hpb]
                               clear hW5 hpb bn q2 b2 y2 yl z0 zl))
                          all_goals
                            have k0 := P5.cell (k := 0) rfl
                            have k1 := P5.cell (k := 1) rfl
                            have k2 := P5.cell (k := 2) rfl
                            have k3 := P5.cell (k := 3) rfl
                            have k4 := P5.cell (k := 4) rfl
                            have kl := P5.lt
                            have v0 := (q5.cell (p := ⟨d0, _, none⟩) lb0).trans O0.out
                            have v1 := (q5.cell (p := ⟨d0, _, none⟩) lb0).trans O1.out
                            have v2 := (q5.cell (p := ⟨d0, _, none⟩) lb0).trans O2.out
                            have v3 := (q5.cell (p := ⟨d0, _, none⟩) lb0).trans O3.out
                            have v4 := (q5.cell (p := ⟨d0, _, none⟩) lb0).trans O4.out
                            have vl := Nat.lt_of_lt_of_le lb0 q5.size
                            have hne := slot_neq
                            have BB := HB'.out.trans (q5.mono HB'.out.size)
                            have HBB := Lib.hid BB
                            have HP5 := Lib.hid P5
                            clear BB q5 P5 n1 n1' n2 n2'
                            go_upto_region 34 with (fail)
                            have b8 := bal W5 (.cells #[.int .i64 xk, .int .i64 xd, .bool xw, .bool xu, .bool xx] 62)
                            have P8 := Blk.new W5 62 [.int .i64 xk, .int .i64 xd, .bool xw, .bool xu, .bool xx]
                            obtain ⟨ob, hob⟩ : ∃ t, W5.heap.size = t := ⟨_, rfl⟩
                            obtain ⟨W8, hW8⟩ : ∃ W', W5.alloc (.cells #[.int .i64 xk, .int .i64 xd, .bool xw, .bool xu, .bool xx] 62) = W' := ⟨_, rfl⟩
                            rw [show (W5.alloc (.cells ([.int .i64 xk, .int .i64 xd, .bool xw, .bool xu, .bool xx] : List Value).toArray 62)) = W8 from hW8, hob] at P8
                            rw [hW8] at b8
                            rw [hW8, hob]
                            have lob : W5.heap.size ≤ ob := Nat.le_of_eq hob
                            clear hW8 hob v0 v1 v2 v3 v4 vl k0 k1 k2 k3 k4
                            have k0 := (HP5.out.past b8).cell (k := 0) rfl
                            have k1 := (HP5.out.past b8).cell (k := 1) rfl
                            have k2 := (HP5.out.past b8).cell (k := 2) rfl
                            have k3 := (HP5.out.past b8).cell (k := 3) rfl
                            have k4 := (HP5.out.past b8).cell (k := 4) rfl
                            have kl8 := (HP5.out.past b8).lt
                            have j0 := P8.cell (k := 0) rfl
                            have j1 := P8.cell (k := 1) rfl
                            have j2 := P8.cell (k := 2) rfl
                            have j3 := P8.cell (k := 3) rfl
                            have j4 := P8.cell (k := 4) rfl
                            have jl := P8.lt
                            have HB8 := Lib.hid (HBB.out.trans (b8.mono HBB.out.size))
                            clear b8
                            go_wp2_with fail
                            go_roundw
                            case rel => exact ⟨q + 1, by omega, by simp, by simp, HB8.out⟩
                            case measure => simp [intOf]; omega
                        | true =>
                          by_cases hqk : q = k8
                          · rw [if_pos ⟨rfl, by rw [hqk]⟩] at hnew
                            have fk : ((q : Int) == (k8 : Int)) = true := beq_iff_eq.2 (by omega)
                            have HQK := Lib.hid hqk
                            clear hqk
                            have hst : ∀ W, Below wr.heap.size wr W → Calls Try.prog 27 #[.pointer (some ⟨A.sp, 0, none⟩), .int .i64 pf, .int .i64 (q : Int)] W fun e w' => e = .returned (.tuple #[.agg #[.int .i64 0, .int .i64 0, .bool false, .bool false, .bool false], .bool true]) ∧ Below W.heap.size W w' := fun W hW => sslot_any (HH3.out.past hW).sx pf (q : Int) _ hnew
                            have HSt := Lib.hid hst
                            clear hst hnew
                            go_wp2_with fail
                            go_region_held3 (fun w' => w'.cell? ⟨wb, 2, none⟩ = some (.pointer (some ⟨A.sp, 0, none⟩)) ∧ w'.cell? ⟨b9, m, none⟩ = some (.int .i64 pf)) (go_keep) (first
                              | (go_at_call 27; (with_reducible refine (HSt.out wr.drew ((Below.refl _ wr).drew)).mono ?_); rintro e W2 ⟨rfl, b2⟩; have q2 := (Below.refl wr.heap.size wr).drew.trans b2; have y2 := (HH3.out.past q2).wd3.cell (k := 2) rfl; have yl := (HH3.out.past q2).wd3.lt; have z0 := (q2.cell (p := ⟨b9, m, none⟩) lb9).trans LR.out; have zl := Nat.lt_of_lt_of_le lb9 q2.size)
                              | (go_at_call 27; (with_reducible refine (HSt.out (wr.alloc (.cells #[.int .i64 0, .int .i64 0, .bool false, .bool false, .bool false] 62)).drew ((bal wr (.cells #[.int .i64 0, .int .i64 0, .bool false, .bool false, .bool false] 62)).drew)).mono ?_); rintro e W2 ⟨rfl, b2⟩; have q2 := (bal wr (.cells #[.int .i64 0, .int .i64 0, .bool false, .bool false, .bool false] 62)).drew.trans (b2.mono (by simp)); have y2 := (HH3.out.past q2).wd3.cell (k := 2) rfl; have yl := (HH3.out.past q2).wd3.lt; have z0 := (q2.cell (p := ⟨b9, m, none⟩) lb9).trans LR.out; have zl := Nat.lt_of_lt_of_le lb9 q2.size; have ZP := (Blk.new wr 62 [.int .i64 0, .int .i64 0, .bool false, .bool false, .bool false]).drew.past b2; have zc0 := ZP.cell (k := 0) rfl; have zc1 := ZP.cell (k := 1) rfl; have zc2 := ZP.cell (k := 2) rfl; have zc3 := ZP.cell (k := 3) rfl; have zc4 := ZP.cell (k := 4) rfl; have zcf := fun j => ZP.free j; have zcl := ZP.lt))
                            all_goals (first
                              | (obtain ⟨P5, q5⟩ := set5 (.int .i64 0) (.int .i64 0) (.bool false) (.bool false) (.bool false) ZP q2 (Nat.le_refl _)
                                 obtain ⟨pb, hpb⟩ : ∃ t, wr.heap.size = t := ⟨_, rfl⟩
                                 obtain ⟨W5, hW5⟩ : ∃ W', ((((W2.setCell ⟨wr.heap.size, 0, none⟩ (.int .i64 0)).setCell ⟨wr.heap.size, 1, none⟩ (.int .i64 0)).setCell ⟨wr.heap.size, 2, none⟩ (.bool false)).setCell ⟨wr.heap.size, 3, none⟩ (.bool false)).setCell ⟨wr.heap.size, 4, none⟩ (.bool false) = W' := ⟨_, rfl⟩
                                 have lpb : wr.heap.size ≤ pb := Nat.le_of_eq hpb
                                 rw [hW5] at P5 q5
                                 rw [hpb] at P5
                                 rw [hW5, hpb]
                                 clear hW5 hpb q2 b2 ZP zc0 zc1 zc2 zc3 zc4 zcf zcl y2 yl z0 zl)
                              | (have bn := bal W2 (.cells #[.int .i64 0, .int .i64 0, .bool false, .bool false, .bool false] 62)
                                 have P5 := Blk.new W2 62 [.int .i64 0, .int .i64 0, .bool false, .bool false, .bool false]
                                 have q5 := q2.trans (bn.mono q2.size)
                                 obtain ⟨pb, hpb⟩ : ∃ t, W2.heap.size = t := ⟨_, rfl⟩
                                 obtain ⟨W5, hW5⟩ : ∃ W', W2.alloc (.cells #[.int .i64 0, .int .i64 0, .bool false, .bool false, .bool false] 62) = W' := ⟨_, rfl⟩
                                 have lpb : wr.heap.size ≤ pb := by rw [← hpb]; exact q2.size
                                 rw [show (W2.alloc (.cells ([.int .i64 0, .int .i64 0, .bool false, .bool false, .bool false] : List Value).toArray 62)) = W5 from hW5, hpb] at P5
                                 rw [hW5] at q5
                                 rw [hW5, hpb]
                                 clear hW5 hpb bn q2 b2 y2 yl z0 zl))
                            all_goals
                              have k0 := P5.cell (k := 0) rfl
                              have k1 := P5.cell (k := 1) rfl
                              have k2 := P5.cell (k := 2) rfl
                              have k3 := P5.cell (k := 3) rfl
                              have k4 := P5.cell (k := 4) rfl
                              have kl := P5.lt
                              have v0 := (q5.cell (p := ⟨d0, _, none⟩) lb0).trans O0.out
                              have v1 := (q5.cell (p := ⟨d0, _, none⟩) lb0).trans O1.out
                              have v2 := (q5.cell (p := ⟨d0, _, none⟩) lb0).trans O2.out
                              have v3 := (q5.cell (p := ⟨d0, _, none⟩) lb0).trans O3.out
                              have v4 := (q5.cell (p := ⟨d0, _, none⟩) lb0).trans O4.out
                              have vl := Nat.lt_of_lt_of_le lb0 q5.size
                              have hne := slot_neq
                              have BB := HB'.out.trans (q5.mono HB'.out.size)
                              have HBB := Lib.hid BB
                              have HP5 := Lib.hid P5
                              clear BB q5 P5 n1 n1' n2 n2'
                              go_upto_region 34 with (fail)
                              have b8 := bal W5 (.cells #[.int .i64 xk, .int .i64 xd, .bool xw, .bool xu, .bool xx] 62)
                              have P8 := Blk.new W5 62 [.int .i64 xk, .int .i64 xd, .bool xw, .bool xu, .bool xx]
                              obtain ⟨ob, hob⟩ : ∃ t, W5.heap.size = t := ⟨_, rfl⟩
                              obtain ⟨W8, hW8⟩ : ∃ W', W5.alloc (.cells #[.int .i64 xk, .int .i64 xd, .bool xw, .bool xu, .bool xx] 62) = W' := ⟨_, rfl⟩
                              rw [show (W5.alloc (.cells ([.int .i64 xk, .int .i64 xd, .bool xw, .bool xu, .bool xx] : List Value).toArray 62)) = W8 from hW8, hob] at P8
                              rw [hW8] at b8
                              rw [hW8, hob]
                              have lob : W5.heap.size ≤ ob := Nat.le_of_eq hob
                              clear hW8 hob v0 v1 v2 v3 v4 vl k0 k1 k2 k3 k4
                              have k0 := (HP5.out.past b8).cell (k := 0) rfl
                              have k1 := (HP5.out.past b8).cell (k := 1) rfl
                              have k2 := (HP5.out.past b8).cell (k := 2) rfl
                              have k3 := (HP5.out.past b8).cell (k := 3) rfl
                              have k4 := (HP5.out.past b8).cell (k := 4) rfl
                              have kl8 := (HP5.out.past b8).lt
                              have j0 := P8.cell (k := 0) rfl
                              have j1 := P8.cell (k := 1) rfl
                              have j2 := P8.cell (k := 2) rfl
                              have j3 := P8.cell (k := 3) rfl
                              have j4 := P8.cell (k := 4) rfl
                              have jl := P8.lt
                              have HB8 := Lib.hid (HBB.out.trans (b8.mono HBB.out.size))
                              have hpn : pb ≠ ob := by omega
                              have hpn' : ob ≠ pb := by omega
                              have jf := fun j => P8.free j
                              clear b8
                              have fT : (T0 || decide (k8 < q) && K0) = T0 := by rw [decide_eq_false (show ¬ k8 < q by have := HQK.out; omega)]; simp
                              rw [fT]
                              clear fT
                              cases T0 with
                              | true =>
                                go_wp2_with fail
                                go_roundw
                                case rel =>
                                  refine ⟨q + 1, by omega, by simp, ?_, ((((((HB8.out.setCell (p := ⟨ob, 0, none⟩) (show W6.heap.size ≤ ob by have := HBB.out.size; omega) _).setCell (p := ⟨ob, 1, none⟩) (show W6.heap.size ≤ ob by have := HBB.out.size; omega) _).setCell (p := ⟨ob, 2, none⟩) (show W6.heap.size ≤ ob by have := HBB.out.size; omega) _).setCell (p := ⟨ob, 3, none⟩) (show W6.heap.size ≤ ob by have := HBB.out.size; omega) _).setCell (p := ⟨ob, 4, none⟩) (show W6.heap.size ≤ ob by have := HBB.out.size; omega) _))⟩
                                  rw [HHK.out HQK.out, HQK.out]
                                  simp
                                case measure => simp [intOf]; omega
                              | false =>
                                go_wp2_with fail
                                go_roundw
                                case rel =>
                                  refine ⟨q + 1, by omega, by simp, ?_, ((((((HB8.out.setCell (p := ⟨ob, 0, none⟩) (show W6.heap.size ≤ ob by have := HBB.out.size; omega) _).setCell (p := ⟨ob, 1, none⟩) (show W6.heap.size ≤ ob by have := HBB.out.size; omega) _).setCell (p := ⟨ob, 2, none⟩) (show W6.heap.size ≤ ob by have := HBB.out.size; omega) _).setCell (p := ⟨ob, 3, none⟩) (show W6.heap.size ≤ ob by have := HBB.out.size; omega) _).setCell (p := ⟨ob, 4, none⟩) (show W6.heap.size ≤ ob by have := HBB.out.size; omega) _))⟩
                                  rw [HHK.out HQK.out, HQK.out]
                                  simp [bne]; rfl
                                case measure => simp [intOf]; omega
                          · rw [if_neg (fun h => hqk (by have := h.2; omega))] at hnew
                            have fk : ((q : Int) == (k8 : Int)) = false := beq_eq_false_iff_ne.2 (by omega)
                            have hst : ∀ W, Below wr.heap.size wr W → Calls Try.prog 27 #[.pointer (some ⟨A.sp, 0, none⟩), .int .i64 pf, .int .i64 (q : Int)] W fun e w' => e = .returned (.tuple #[.agg #[.int .i64 xk, .int .i64 xd, .bool xw, .bool xu, .bool xx], .bool true]) ∧ Below W.heap.size W w' := fun W hW => sslot_any (HH3.out.past hW).sx pf (q : Int) _ hnew
                            have HSt := Lib.hid hst
                            clear hst hnew
                            go_wp2_with fail
                            go_region_held3 (fun w' => w'.cell? ⟨wb, 2, none⟩ = some (.pointer (some ⟨A.sp, 0, none⟩)) ∧ w'.cell? ⟨b9, m, none⟩ = some (.int .i64 pf)) (go_keep) (first
                              | (go_at_call 27; (with_reducible refine (HSt.out wr.drew ((Below.refl _ wr).drew)).mono ?_); rintro e W2 ⟨rfl, b2⟩; have q2 := (Below.refl wr.heap.size wr).drew.trans b2; have y2 := (HH3.out.past q2).wd3.cell (k := 2) rfl; have yl := (HH3.out.past q2).wd3.lt; have z0 := (q2.cell (p := ⟨b9, m, none⟩) lb9).trans LR.out; have zl := Nat.lt_of_lt_of_le lb9 q2.size)
                              | (go_at_call 27; (with_reducible refine (HSt.out (wr.alloc (.cells #[.int .i64 0, .int .i64 0, .bool false, .bool false, .bool false] 62)).drew ((bal wr (.cells #[.int .i64 0, .int .i64 0, .bool false, .bool false, .bool false] 62)).drew)).mono ?_); rintro e W2 ⟨rfl, b2⟩; have q2 := (bal wr (.cells #[.int .i64 0, .int .i64 0, .bool false, .bool false, .bool false] 62)).drew.trans (b2.mono (by simp)); have y2 := (HH3.out.past q2).wd3.cell (k := 2) rfl; have yl := (HH3.out.past q2).wd3.lt; have z0 := (q2.cell (p := ⟨b9, m, none⟩) lb9).trans LR.out; have zl := Nat.lt_of_lt_of_le lb9 q2.size; have ZP := (Blk.new wr 62 [.int .i64 0, .int .i64 0, .bool false, .bool false, .bool false]).drew.past b2; have zc0 := ZP.cell (k := 0) rfl; have zc1 := ZP.cell (k := 1) rfl; have zc2 := ZP.cell (k := 2) rfl; have zc3 := ZP.cell (k := 3) rfl; have zc4 := ZP.cell (k := 4) rfl; have zcf := fun j => ZP.free j; have zcl := ZP.lt))
                            all_goals (first
                              | (obtain ⟨P5, q5⟩ := set5 (.int .i64 xk) (.int .i64 xd) (.bool xw) (.bool xu) (.bool xx) ZP q2 (Nat.le_refl _)
                                 obtain ⟨pb, hpb⟩ : ∃ t, wr.heap.size = t := ⟨_, rfl⟩
                                 obtain ⟨W5, hW5⟩ : ∃ W', ((((W2.setCell ⟨wr.heap.size, 0, none⟩ (.int .i64 xk)).setCell ⟨wr.heap.size, 1, none⟩ (.int .i64 xd)).setCell ⟨wr.heap.size, 2, none⟩ (.bool xw)).setCell ⟨wr.heap.size, 3, none⟩ (.bool xu)).setCell ⟨wr.heap.size, 4, none⟩ (.bool xx) = W' := ⟨_, rfl⟩
                                 have lpb : wr.heap.size ≤ pb := Nat.le_of_eq hpb
                                 rw [hW5] at P5 q5
                                 rw [hpb] at P5
                                 rw [hW5, hpb]
                                 clear hW5 hpb q2 b2 ZP zc0 zc1 zc2 zc3 zc4 zcf zcl y2 yl z0 zl)
                              | (have bn := bal W2 (.cells #[.int .i64 xk, .int .i64 xd, .bool xw, .bool xu, .bool xx] 62)
                                 have P5 := Blk.new W2 62 [.int .i64 xk, .int .i64 xd, .bool xw, .bool xu, .bool xx]
                                 have q5 := q2.trans (bn.mono q2.size)
                                 obtain ⟨pb, hpb⟩ : ∃ t, W2.heap.size = t := ⟨_, rfl⟩
                                 obtain ⟨W5, hW5⟩ : ∃ W', W2.alloc (.cells #[.int .i64 xk, .int .i64 xd, .bool xw, .bool xu, .bool xx] 62) = W' := ⟨_, rfl⟩
                                 have lpb : wr.heap.size ≤ pb := by rw [← hpb]; exact q2.size
                                 rw [show (W2.alloc (.cells ([.int .i64 xk, .int .i64 xd, .bool xw, .bool xu, .bool xx] : List Value).toArray 62)) = W5 from hW5, hpb] at P5
                                 rw [hW5] at q5
                                 rw [hW5, hpb]
                                 clear hW5 hpb bn q2 b2 y2 yl z0 zl))
                            all_goals
                              have k0 := P5.cell (k := 0) rfl
                              have k1 := P5.cell (k := 1) rfl
                              have k2 := P5.cell (k := 2) rfl
                              have k3 := P5.cell (k := 3) rfl
                              have k4 := P5.cell (k := 4) rfl
                              have kl := P5.lt
                              have v0 := (q5.cell (p := ⟨d0, _, none⟩) lb0).trans O0.out
                              have v1 := (q5.cell (p := ⟨d0, _, none⟩) lb0).trans O1.out
                              have v2 := (q5.cell (p := ⟨d0, _, none⟩) lb0).trans O2.out
                              have v3 := (q5.cell (p := ⟨d0, _, none⟩) lb0).trans O3.out
                              have v4 := (q5.cell (p := ⟨d0, _, none⟩) lb0).trans O4.out
                              have vl := Nat.lt_of_lt_of_le lb0 q5.size
                              have hne := slot_neq
                              have BB := HB'.out.trans (q5.mono HB'.out.size)
                              have HBB := Lib.hid BB
                              have HP5 := Lib.hid P5
                              clear BB q5 P5 n1 n1' n2 n2'
                              go_upto_region 34 with (fail)
                              have b8 := bal W5 (.cells #[.int .i64 xk, .int .i64 xd, .bool xw, .bool xu, .bool xx] 62)
                              have P8 := Blk.new W5 62 [.int .i64 xk, .int .i64 xd, .bool xw, .bool xu, .bool xx]
                              obtain ⟨ob, hob⟩ : ∃ t, W5.heap.size = t := ⟨_, rfl⟩
                              obtain ⟨W8, hW8⟩ : ∃ W', W5.alloc (.cells #[.int .i64 xk, .int .i64 xd, .bool xw, .bool xu, .bool xx] 62) = W' := ⟨_, rfl⟩
                              rw [show (W5.alloc (.cells ([.int .i64 xk, .int .i64 xd, .bool xw, .bool xu, .bool xx] : List Value).toArray 62)) = W8 from hW8, hob] at P8
                              rw [hW8] at b8
                              rw [hW8, hob]
                              have lob : W5.heap.size ≤ ob := Nat.le_of_eq hob
                              clear hW8 hob v0 v1 v2 v3 v4 vl k0 k1 k2 k3 k4
                              have k0 := (HP5.out.past b8).cell (k := 0) rfl
                              have k1 := (HP5.out.past b8).cell (k := 1) rfl
                              have k2 := (HP5.out.past b8).cell (k := 2) rfl
                              have k3 := (HP5.out.past b8).cell (k := 3) rfl
                              have k4 := (HP5.out.past b8).cell (k := 4) rfl
                              have kl8 := (HP5.out.past b8).lt
                              have j0 := P8.cell (k := 0) rfl
                              have j1 := P8.cell (k := 1) rfl
                              have j2 := P8.cell (k := 2) rfl
                              have j3 := P8.cell (k := 3) rfl
                              have j4 := P8.cell (k := 4) rfl
                              have jl := P8.lt
                              have HB8 := Lib.hid (HBB.out.trans (b8.mono HBB.out.size))
                              clear b8
                              go_wp2_with fail
                              go_roundw
                              case rel => exact ⟨q + 1, by omega, by simp, by (rw [show decide (k8 < q + 1) = decide (k8 < q) from by rw [decide_eq_decide]; omega]; simp), HB8.out⟩
                              case measure => simp [intOf]; omega
                      · have fq : decide ((q : Int) < 8) = false := decide_eq_false (by omega)
                        have hq' : q = 8 := by omega
                        have HB' := Lib.hid hB
                        clear hB
                        go_wp2_with fail
                        go_roundw
                        case rel =>
                          refine ⟨m + 1, by omega, by simp, ?_, HB'.out⟩
                          rw [HStep.out, hq', decide_eq_true HK8.out, Bool.and_true]
                        case measure => simp [intOf]; omega
              · obtain rfl : n = m := by omega
                rw [show G.s.ps.take n = G.s.ps from by rw [← HPn.out, List.take_length]]
                have H3 := HW.out.past hB
                have hmn2 := many_any H3
                obtain ⟨T, hT⟩ : ∃ x, (G.s.ps.any fun p => ofB (t8 : Int) p.k && !decide ((p.s.getD k8 slt0).kind = 0)) = x := ⟨_, rfl⟩
                rw [hT]
                have hln : ((G2.l.length : Int) == 0) = T := by
                  rw [HLaw.out, any_mem (g := fun p => ofB (t8 : Int) p.k && !decide ((p.s.getD k8 slt0).kind = 0)) (fun p hp => by rw [sslot_of HI.out.s hp k8 HK8.out]; rfl), hT]
                  cases T
                  · have := HNe.out
                    simp [this]
                  · simp
                obtain ⟨ln, hln0⟩ : ∃ x, G2.l.length = x := ⟨_, rfl⟩
                rw [hln0] at hln hmn2
                have d3 := H3.wd3.cell (k := 3) rfl
                have dl := H3.wd3.lt
                have HMn2 := Lib.hid hmn2
                have HH3 := Lib.hid H3
                clear hmn2 H3 hT hln0 hB
                cases T
                all_goals
                  go_wp2_with (go_at_call 22; (with_reducible refine HMn2.out.mono ?_); rintro e X1 ⟨rfl, rfl⟩)
                  go_ret
                  exact ⟨rfl, HH3.out.below⟩
theorem u8_bd {v : Int} (h : (Lit.int .u8 v).wf = true) : ∃ n : Nat, v = (n : Int) ∧ n < 256 := by
  simp [Lit.wf, IntKind.min, IntKind.max, IntKind.signed, IntKind.bits] at h
  exact ⟨v.toNat, by omega, by omega⟩
theorem GuardWords_walk (w : World) (a : Option Addr) (c : Nat) (l : List (Int × Int × Nat)) (hp : Ps w a l) (hlen : l.length ≤ 9223372036854775807) (oa : Option Addr) (oc : Nat) (ops : List Opg) (hop : Gops w oa ops) (holen : ops.length ≤ 9223372036854775807) (g8 : Int) (hg8 : (Lit.int .u8 g8).wf = true) (i8 : Int) (hi8 : (Lit.int .u8 i8).wf = true) :
    Calls Try.prog 7 #[.slice a l.length c, .slice oa ops.length oc, .int .u8 g8, .int .u8 i8] w fun e w' => e = .returned (.bool true) ∧ Below w.heap.size w w' := by
  obtain ⟨g8, rfl, hg8'⟩ := u8_bd hg8
  obtain ⟨i8, rfl, hi8'⟩ := u8_bd hi8
  exact GuardWords_nat w a c l hp hlen oa oc ops hop holen g8 hg8' i8 hi8'
end Go.Proofs.Ytldmlmojokicaaa
