/- GuardLooks's walk. -/
import Derived.Test.YtldmlmojokicaaaGlaw
import Derived.Test.YtldmlmojokicaaaGslots
import Derived.Test.YtldmlmojokicaaaRefE
import Derived.Laws.StructEq
namespace Go.Proofs.Ytldmlmojokicaaa
open Go.RowKit Go.Shelf Go.Maps
def ged1 (G : GS) (x : Int × Int × Nat) : GS := { G with s := { G.s with mem := wr h24 G.s.mem x.1 x.2.1 x.2.2 } }
/-- words of the guest are written -/
def geds (G : GS) (l : List (Int × Int × Nat)) : GS := l.foldl ged1 G
theorem ged1_inv {P : Pm} {G : GS} (h : GInv P G) (x : Int × Int × Nat) : GInv P (ged1 G x) := mem_inv h _ (wr_len _ _ _ _ _)
theorem geds_inv {P : Pm} {G : GS} (h : GInv P G) (l : List (Int × Int × Nat)) : GInv P (geds G l) := foldl_keep (GInv P) ged1 (fun _ _ h => ged1_inv h _) _ _ h
theorem geds_take (G : GS) (l : List (Int × Int × Nat)) (k : Nat) (hk : k < l.length) : geds G (l.take (k + 1)) = ged1 (geds G (l.take k)) (l.getD k (0, 0, 0)) := foldl_take ged1 (0, 0, 0) G l k hk
theorem gset24 {w0 w : World} {A : GAd} {V : GVl} {G : GS} {ts : List Thing} (H : HG w0 w A P24 V G ts) (g i : Int) (v : Nat) (hv : v < 2 ^ 64) :
    Calls Try.prog 25 #[.pointer (some ⟨A.p, 0, none⟩), .int .i64 g, .int .i64 i, .int .u64 (v : Int)] w
      fun e w' => (∃ r, e = .returned r) ∧ HG w0 w' A P24 V (ged1 G (g, i, v)) ts := (gset_h H g i v hv).mono fun _ _ h => ⟨⟨_, h.1⟩, h.2⟩
set_option maxRecDepth 100000 in
set_option maxHeartbeats 100000000 in
theorem GuardLooks_walk (w : World) (a : Option Addr) (c : Nat) (l : List (Int × Int × Nat)) (hp : Ps w a l) (hlen : l.length ≤ 9223372036854775807) (oa : Option Addr) (oc : Nat) (ops : List Opg) (hop : Gops w oa ops) (holen : ops.length ≤ 9223372036854775807) (ea : Option Addr) (ec : Nat) (eds : List (Int × Int × Nat)) (hed : Ps w ea eds) (helen : eds.length ≤ 9223372036854775807) :
    Calls Try.prog 5 #[.slice a l.length c, .slice oa ops.length oc, .slice ea eds.length ec] w fun e w' => e = .returned (.bool true) ∧ Below w.heap.size w w' := by
  have hh := ghead_any w
  obtain ⟨len, hl⟩ : ∃ len, l.length = len := ⟨_, rfl⟩
  obtain ⟨on, hol⟩ : ∃ n, ops.length = n := ⟨_, rfl⟩
  obtain ⟨G0, hG0⟩ : ∃ G, G24 (gputs l) = G := ⟨_, rfl⟩
  have hI0 : GInv P24 G0 := hG0 ▸ G24_inv _ (gputs_len l)
  have hm : ∀ W, Below w.heap.size w W → Calls Try.prog 11 #[.slice a len c] W fun e w' => ∃ wb A, e = .returned (.pointer (some ⟨wb, 0, none⟩)) ∧ HG w w' A P24 V24 G0 [wld wb A] := fun W b => by
    have h := gmade_any W a c l (hp.below b) hlen
    rw [hl, hG0] at h
    exact h.mono fun e w' ⟨wb, A, he, H⟩ => ⟨wb, A, he, H.base b⟩
  rw [hl] at hlen ⊢
  rw [hol] at holen ⊢
  have hgr := fun W => great_any W a oa c oc len on hlen holen
  obtain ⟨gr, hgr'⟩ : ∃ b, (decide (600 < len) || decide (120 < on)) = b := ⟨_, rfl⟩
  rw [hgr'] at hgr
  have HH := Lib.hid hh
  have HM := Lib.hid hm
  have HGr := Lib.hid hgr
  have HI0 := Lib.hid hI0
  have HOp := Lib.hid hop
  have HOl := Lib.hid hol
  clear hh hm hgr hI0 hop hol hp hl hG0 hgr' hlen
  obtain ⟨en, hen⟩ : ∃ n, eds.length = n := ⟨_, rfl⟩
  rw [hen] at helen ⊢
  have HEd := Lib.hid hed
  have HEn := Lib.hid hen
  clear hed hen
  cases gr with
  | true =>
    go_enter Try.func5, Try.ntmps5
    go_wp2_with (first
      | (go_at_call 10; (with_reducible refine HH.out.mono ?_); rintro e W0 ⟨rfl, b0⟩)
      | (go_at_call 11; (with_reducible refine (HM.out _ b0).mono ?_); rintro e W1 ⟨wb, A, rfl, H1⟩; clear b0)
      | (go_at_call 12; (with_reducible refine (HGr.out W1).mono ?_); rintro e W2 ⟨rfl, rfl⟩))
    go_ret
    exact ⟨rfl, H1.below⟩
  | false =>
    by_cases ge : 200 < en
    · have ge1 : decide ((en : Int) > 200) = true := decide_eq_true (by omega)
      have ge2 : decide (200 < en) = true := decide_eq_true ge
      go_enter Try.func5, Try.ntmps5
      go_wp2_with (first
        | (go_at_call 10; (with_reducible refine HH.out.mono ?_); rintro e W0 ⟨rfl, b0⟩)
        | (go_at_call 11; (with_reducible refine (HM.out _ b0).mono ?_); rintro e W1 ⟨wb, A, rfl, H1⟩; clear b0)
        | (go_at_call 12; (with_reducible refine (HGr.out W1).mono ?_); rintro e W2 ⟨rfl, rfl⟩))
      go_ret
      exact ⟨rfl, H1.below⟩
    · have ge1 : decide ((en : Int) > 200) = false := decide_eq_false (by omega)
      have ge2 : decide (200 < en) = false := decide_eq_false ge
      go_enter Try.func5, Try.ntmps5
      go_wp2_with (first
        | (go_at_call 10; (with_reducible refine HH.out.mono ?_); rintro e W0 ⟨rfl, b0⟩)
        | (go_at_call 11; (with_reducible refine (HM.out _ b0).mono ?_); rintro e W1 ⟨wb, A, rfl, H1⟩; clear b0)
        | (go_at_call 12; (with_reducible refine (HGr.out W1).mono ?_); rintro e W2 ⟨rfl, rfl⟩))
      clear HM HGr HH
      go_loopw [9] (fun i wr => ∃ k : Nat, k ≤ on ∧ i = .int .i64 k ∧ ∃ V, HG w wr A P24 V (grun P24 G0 (ops.take k)) [wld wb A]) (fun i _ => on - (intOf i).toNat)
      case atStart => exact ⟨0, by omega, rfl, _, H1⟩
      case round =>
        obtain ⟨k, hk, rfl, V, H⟩ := hrel
        clear H1
        by_cases hkl : k < on
        · obtain ⟨b, off, ok, okg, okv, okr, op, oi, og, ow, ou, ox, ov, rfl, lb, ho, hov, C0, C1, C2, C3, C4, C5, C6, C7, C8, C9, C10⟩ := HOp.out.at k (by rw [HOl.out]; exact hkl)
          have HC0 := Lib.hid C0
          have HC1 := Lib.hid C1
          have HC2 := Lib.hid C2
          have HC3 := Lib.hid C3
          have HC4 := Lib.hid C4
          have HC5 := Lib.hid C5
          have HC6 := Lib.hid C6
          have HC7 := Lib.hid C7
          have HC8 := Lib.hid C8
          have HC9 := Lib.hid C9
          have HC10 := Lib.hid C10
          have HOv := Lib.hid hov
          clear C0 C1 C2 C3 C4 C5 C6 C7 C8 C9 C10 hov
          obtain ⟨Gk, hGk⟩ : ∃ G, grun P24 G0 (ops.take k) = G := ⟨_, rfl⟩
          have hIk : GInv P24 Gk := hGk ▸ grun_inv HI0.out _
          have hn : grun P24 G0 (ops.take (k + 1)) = (gdo P24 Gk ⟨ok, okg, okv, okr, op, oi, og, ⟨ow, ou, ox⟩, ov⟩).2 := by rw [grun_take _ _ _ _ (by rw [HOl.out]; exact hkl), hGk, ho]
          rw [hGk] at H
          have hd := gdo24 H hIk ok okg okv okr op oi og ow ou ox ov HOv.out
          have HD := Lib.hid hd
          have HN := Lib.hid hn
          have c0 := (H.below.cell (p := ⟨b, _, none⟩) lb).trans HC0.out
          have c1 := (H.below.cell (p := ⟨b, _, none⟩) lb).trans HC1.out
          have c2 := (H.below.cell (p := ⟨b, _, none⟩) lb).trans HC2.out
          have c3 := (H.below.cell (p := ⟨b, _, none⟩) lb).trans HC3.out
          have c4 := (H.below.cell (p := ⟨b, _, none⟩) lb).trans HC4.out
          have c5 := (H.below.cell (p := ⟨b, _, none⟩) lb).trans HC5.out
          have c6 := (H.below.cell (p := ⟨b, _, none⟩) lb).trans HC6.out
          have c7 := (H.below.cell (p := ⟨b, _, none⟩) lb).trans HC7.out
          have c8 := (H.below.cell (p := ⟨b, _, none⟩) lb).trans HC8.out
          have c9 := (H.below.cell (p := ⟨b, _, none⟩) lb).trans HC9.out
          have c10 := (H.below.cell (p := ⟨b, _, none⟩) lb).trans HC10.out
          have HH := Lib.hid H
          clear H hd hn hIk hGk ho
          go_wp2_with (go_at_call 14; (with_reducible refine HD.out.mono ?_); rintro e W3 ⟨⟨x3, rfl⟩, V3, h3⟩; have H3 := Lib.hid h3; clear h3)
          go_roundw
          case rel => exact ⟨k + 1, by omega, by simp, V3, by rw [HN.out]; exact H3.out⟩
          case measure => simp [intOf]; omega

        · obtain rfl : on = k := by omega
          rw [show ops.take on = ops from by rw [← HOl.out, List.take_length]] at H
          have HI := Lib.hid (grun_inv HI0.out ops)
          obtain ⟨G, hG⟩ : ∃ G, grun P24 G0 ops = G := ⟨_, rfl⟩
          rw [hG] at H HI
          clear hkl hk hG
          have HH := Lib.hid H
          clear H
          go_wp2_with fail
          obtain ⟨WE, rfl⟩ : ∃ W, W = wr := ⟨_, rfl⟩
          go_loopw [10] (fun i wr => ∃ k : Nat, k ≤ en ∧ i = .int .i64 k ∧ HG w wr A P24 V (geds G (eds.take k)) [wld wb A]) (fun i _ => en - (intOf i).toNat)
          case atStart => exact ⟨0, by omega, rfl, HH.out⟩
          case round =>
            obtain ⟨k, hk, rfl, M⟩ := hrel
            clear HH
            by_cases hkl : k < en
            · obtain ⟨b, off, rfl, hb1, hcs⟩ : ∃ b off, ea = some ⟨b, off, none⟩ ∧ b < w.heap.size ∧ ∀ j, j < eds.length → (eds.getD j (0, 0, 0)).2.2 < 2 ^ 64 ∧
                  w.cell? ⟨b, off + j * 3, none⟩ = some (.int .i64 (eds.getD j (0, 0, 0)).1) ∧ w.cell? ⟨b, off + j * 3 + 1, none⟩ = some (.int .i64 (eds.getD j (0, 0, 0)).2.1) ∧ w.cell? ⟨b, off + j * 3 + 2, none⟩ = some (.int .u64 ((eds.getD j (0, 0, 0)).2.2 : Int)) := by
                rcases HEd.out with h | h
                · have := HEn.out; rw [h] at this; simp at this; omega
                · exact h
              obtain ⟨hv, c0, c1, c2⟩ := hcs k (by rw [HEn.out]; exact hkl)
              have hnext := geds_take G eds k (by rw [HEn.out]; exact hkl)
              obtain ⟨⟨x1, x2, x3⟩, hx⟩ : ∃ x, eds.getD k (0, 0, 0) = x := ⟨_, rfl⟩
              rw [hx] at hv c0 c1 c2 hnext
              dsimp only at hv c0 c1 c2
              have HN := Lib.hid hnext
              have HM := Lib.hid M
              have C0 := Lib.hid c0
              have C1 := Lib.hid c1
              have C2 := Lib.hid c2
              have hB := M.below
              have d1 := M.wd.cell (k := 1) rfl
              have dl := M.wd.lt
              clear c0 c1 c2
              have c0 := (hB.cell (p := ⟨b, _, none⟩) hb1).trans C0.out
              have c1 := (hB.cell (p := ⟨b, _, none⟩) hb1).trans C1.out
              have c2 := (hB.cell (p := ⟨b, _, none⟩) hb1).trans C2.out
              have lb : b < wr.heap.size := Nat.lt_of_lt_of_le hb1 hB.size
              clear hcs hx hnext M hk hB
              go_wp2_with fail
              go_region_held3 (fun w' => w'.cell? ⟨wb, 1, none⟩ = some (.pointer (some ⟨A.p, 0, none⟩)) ∧ w'.cell? ⟨b, off + k * 3, none⟩ = some (.int .i64 x1) ∧ w'.cell? ⟨b, off + k * 3 + 1, none⟩ = some (.int .i64 x2) ∧ w'.cell? ⟨b, off + k * 3 + 2, none⟩ = some (.int .u64 (x3 : Int))) (go_keep) (first | (go_at_call 25; (with_reducible refine (gset24 HM.out.drew x1 x2 x3 hv).mono ?_); rintro e W3 ⟨⟨r3, rfl⟩, hM3⟩; have hB3 := hM3.below; have f0 := (hB3.cell (p := ⟨b, off + k * 3, none⟩) hb1).trans C0.out; have f1 := (hB3.cell (p := ⟨b, off + k * 3 + 1, none⟩) hb1).trans C1.out; have f2 := (hB3.cell (p := ⟨b, off + k * 3 + 2, none⟩) hb1).trans C2.out; have f3 := hM3.wd.cell (k := 1) rfl; have f4 := hM3.wd.lt; have HM3 := Lib.hid hM3; clear hM3 hB3))
              all_goals go_wp2
              all_goals go_roundw
              case rel => exact ⟨k + 1, by omega, by simp, by rw [HN.out]; exact HM3.out⟩
              case measure => simp [intOf]; omega
            · obtain rfl : en = k := by omega
              rw [show eds.take en = eds from by rw [← HEn.out, List.take_length]] at M
              have hIe := geds_inv HI.out eds
              obtain ⟨Ge, hGe⟩ : ∃ G', geds G eds = G' := ⟨_, rfl⟩
              rw [hGe] at M hIe
              clear hGe hk hkl HI
              have HI := Lib.hid hIe
              clear hIe
              have hfew := HI.out.few
              have hli := glist_any M hfew
              obtain ⟨L, hL⟩ : ∃ l, Ge.loose = l := ⟨_, rfl⟩
              obtain ⟨ln, hln⟩ : ∃ n, L.length = n := ⟨_, rfl⟩
              rw [hL] at hli
              have d4 := M.wd.cell (k := 4) rfl
              have dl := M.wd.lt
              have HLi := Lib.hid hli
              have HLn := Lib.hid hln
              have HLo := Lib.hid hL
              have HM := Lib.hid M
              clear hli hfew M hL hln
              by_cases hl0 : ln = 0
              · subst hl0
                go_wp2_with (go_at_call 23; (with_reducible refine HLi.out.mono ?_); rintro e W4 ⟨⟨v, rfl, hv⟩, b4⟩; obtain ⟨a4, c4, rfl⟩ := hv.form; rw [HLn.out]; have HM4 := Lib.hid (HM.out.past b4); clear hv b4)
                go_ret
                exact ⟨rfl, HM4.out.below⟩
              · have fl0 : ((ln : Int) == 0) = false := beq_eq_false_iff_ne.2 (by omega)
                have hlL : 0 < L.length := by rw [HLn.out]; omega
                obtain ⟨g, hg⟩ : ∃ x, L.getD 0 0 = x := ⟨_, rfl⟩
                have hgl : Ge.loose.contains g = true := by
                  rw [HLo.out, ← hg, List.getD, List.getElem?_eq_getElem hlL]
                  simp
                obtain ⟨qf, _, hqf, _, _⟩ := lo_g HI.out g hgl
                obtain ⟨y1, y2, y3, y4, y5, y6, y7⟩ := glook_view POk24 HI.out g hgl qf hqf
                obtain ⟨G2, hG2⟩ : ∃ g', (glook P24 Ge g).2 = g' := ⟨_, rfl⟩
                rw [hG2] at y3 y7
                have hlk : ∀ W V ts, HG w W A P24 V Ge ts → Calls Try.prog 24 #[.pointer (some ⟨A.dp, 0, none⟩), .int .i64 g] W fun e w' => e = .returned (.bool true) ∧ ∃ V', HG w w' A P24 V' G2 ts := fun W V ts h => by
                  have := look_h h g
                  rw [y1, hG2] at this; exact this
                have hof := fun W (hW : Below wr.heap.size wr W) => sof_any (HM.out.past hW).sx g
                rw [hqf] at hof
                have hall : ∀ W V ts, HG w W A P24 V Ge ts → Calls Try.prog 26 #[.pointer (some ⟨A.sp, 0, none⟩)] W fun e w' => (∃ v, e = .returned v ∧ NewI W.heap.size w' v (sall Ge.s.ps)) ∧ Below W.heap.size W w' := fun W V ts h => sall_any h.sx
                obtain ⟨n, hn⟩ : ∃ n, (sall Ge.s.ps).length = n := ⟨_, rfl⟩
                have hsm : n ≤ 256 := by
                  have h1 := HI.out.s.le
                  have h2 : (sall Ge.s.ps).length = Ge.s.ps.length := by unfold sall; rw [List.length_map]
                  omega
                have hpn : Ge.s.ps.length = n := by rw [← hn]; unfold sall; rw [List.length_map]
                have hrd : ∀ q : Int, rd P24.hosts G2.s.mem g q = rd P24.hosts Ge.s.mem g q := fun q => rd_far POk24 y3 g q
                have HLk := Lib.hid hlk
                have HOf := Lib.hid hof
                have HAll := Lib.hid hall
                have HNn := Lib.hid hn
                have HPn := Lib.hid hpn
                have HView := Lib.hid y7
                have HRd := Lib.hid hrd
                have HG0 := Lib.hid hg
                have HlL := Lib.hid hlL
                clear hlk hof hall hn hpn hrd y1 y2 y3 y4 y5 y6 y7 hqf hgl hG2 hg hlL
                go_wp2_with (first
                  | (go_at_call 23; (with_reducible refine HLi.out.mono ?_); rintro e W4 ⟨⟨v, rfl, hv⟩, b4⟩; obtain ⟨b6, c6, hv6, lb6, d6⟩ := hv.row.at 0 HlL.out; rw [HLn.out] at hv6; subst hv6; rw [HG0.out] at d6; clear hv; have h4 := HM.out.past b4; have e2 := h4.wd.cell (k := 2) rfl; have el := h4.wd.lt; have HM4 := Lib.hid h4; clear h4)
                  | (go_at_call 15; (with_reducible refine (HOf.out W4 b4).mono ?_); rintro e W5 ⟨⟨v, rfl, hv⟩, b5⟩; obtain ⟨b7, c7, hv7, _, _⟩ := hv.row.at 0 Nat.zero_lt_one; have hv7' : v = .slice (some ⟨b7, 0, none⟩) 1 c7 := hv7; subst hv7'; have h5 : HG w W5 A P24 V Ge (ints (.slice (some ⟨b7, 0, none⟩) 1 c7) [qf] :: [wld wb A]) := HM4.out.add b5 _ hv.row (fun b hb => hv.lo b hb); have e3 := h5.wd2.cell (k := 2) rfl; have el3 := h5.wd2.lt; have HM5 := Lib.hid h5.swap; clear h5 hv hv7 b5)
                  | (go_at_call 26; (with_reducible refine (HAll.out _ _ _ HM5.out).mono ?_); rintro e W3 ⟨⟨v, rfl, hv⟩, b3⟩; obtain ⟨a3, c3, rfl⟩ := hv.form; have h3 : HG w W3 A P24 V Ge (ints (.slice a3 (sall Ge.s.ps).length c3) (sall Ge.s.ps) :: wld wb A :: [ints (.slice (some ⟨b7, 0, none⟩) 1 c7) [qf]]) := HM5.out.add b3 _ hv.row (fun b hb => hv.lo b hb); rw [HNn.out] at h3 ⊢; have HA := Lib.hid h3; clear h3 hv b3))
                obtain ⟨WB, rfl⟩ : ∃ W, W = wr := ⟨_, rfl⟩
                clear d4 dl e2 el e3 el3 b4 lb6 d6
                have HSl := Lib.hid (show (slotsOf Ge.s.ps).length = 8 * n by rw [slots_len HI.out.s.sl, HPn.out])
                go_loopw [15, 16] (fun v i wr => ∃ m : Nat, m ≤ n ∧ i = .int .i64 m ∧ SR W3.heap.size wr v ((slotsOf Ge.s.ps).take (8 * m)) ∧ Below W3.heap.size W3 wr) (fun _ i _ => n - (intOf i).toNat)
                case atStart => exact ⟨0, by omega, rfl, SR.nil _ _, Below.refl _ _⟩
                case round =>
                  obtain ⟨m, hm, rfl, hO, hB⟩ := hrel
                  by_cases hmn : m < n
                  · have HO0 := Lib.hid hO
                    have HB0 := Lib.hid hB
                    clear hO hB
                    go_wp2_with fail
                    obtain ⟨WA, rfl⟩ : ∃ W, W = wr := ⟨_, rfl⟩
                    go_loopw [15, 17] (fun v i wr => ∃ q : Nat, q ≤ 8 ∧ i = .int .i64 q ∧ SR W3.heap.size wr v ((slotsOf Ge.s.ps).take (8 * m + q)) ∧ Below W3.heap.size W3 wr) (fun _ i _ => 8 - (intOf i).toNat)
                    case atStart => exact ⟨0, by omega, rfl, HO0.out, HB0.out⟩
                    case round =>
                      obtain ⟨q, hq, rfl, hO, hB⟩ := hrel
                      by_cases hq8 : q < 8
                      · have hqz : (q : Int) < 8 := by omega
                        have H3 := HA.out.past hB
                        have hmp : m < Ge.s.ps.length := by rw [HPn.out]; exact hmn
                        have hpgm : Ge.s.ps.getD m pg0 ∈ Ge.s.ps := by rw [List.getD, List.getElem?_eq_getElem hmp]; exact List.getElem_mem hmp
                        obtain ⟨b9, d9, hv9, lb9, c9⟩ := RowI.at (show RowI wr (.slice a3 n c3) (sall Ge.s.ps) from H3.top) m (by rw [HNn.out]; exact hmn)
                        rw [HNn.out] at hv9
                        obtain ⟨rfl, rfl⟩ : a3 = some ⟨b9, 0, none⟩ ∧ c3 = d9 := by injection hv9 with h1 h2 h3; exact ⟨h1, h3⟩
                        have hpf : (sall Ge.s.ps).getD m 0 = (Ge.s.ps.getD m pg0).f := by
                          unfold sall
                          rw [List.getD, List.getElem?_map, List.getD, List.getElem?_eq_getElem hmp]; rfl
                        obtain ⟨pg, hpg⟩ : ∃ p, Ge.s.ps.getD m pg0 = p := ⟨_, rfl⟩
                        rw [hpg] at hpf hpgm
                        obtain ⟨pf, hpf'⟩ : ∃ f, pg.f = f := ⟨_, rfl⟩
                        rw [hpf'] at hpf
                        rw [hpf] at c9
                        have hsl := sslot_of HI.out.s hpgm q hq8
                        rw [hpf'] at hsl
                        have htk := slots_take HI.out.s.sl m q hmp hq8
                        rw [hpg] at htk
                        have hle : 8 * m + q + 1 ≤ 8000 := by omega
                        have hln : ((slotsOf Ge.s.ps).take (8 * m + q)).length = 8 * m + q := by rw [List.length_take, slots_len HI.out.s.sl, HPn.out]; omega
                        obtain ⟨⟨xk, xd, ⟨xw, xu, xx⟩⟩, hx⟩ : ∃ x, pg.s.getD q slt0 = x := ⟨_, rfl⟩
                        rw [hx] at hsl htk
                        have hst : ∀ W, Below wr.heap.size wr W → Calls Try.prog 27 #[.pointer (some ⟨A.sp, 0, none⟩), .int .i64 pf, .int .i64 (q : Int)] W fun e w' => e = .returned (.tuple #[.agg #[.int .i64 xk, .int .i64 xd, .bool xw, .bool xu, .bool xx], .bool true]) ∧ Below W.heap.size W w' := fun W hW => sslot_any (H3.past hW).sx pf (q : Int) _ hsl
                        obtain ⟨l0, hl0⟩ : ∃ l, (slotsOf Ge.s.ps).take (8 * m + q) = l := ⟨_, rfl⟩
                        rw [hl0] at hO hln htk
                        have hcs : (l0 ++ [(⟨xk, xd, ⟨xw, xu, xx⟩⟩ : Slt)]).flatMap slC = l0.flatMap slC ++ [.int .i64 xk, .int .i64 xd, .bool xw, .bool xu, .bool xx] := by rw [List.flatMap_append]; rfl
                        obtain ⟨N, hN⟩ : ∃ N, 8 * m + q = N := ⟨_, rfl⟩
                        rw [hN] at hle hln
                        have e2 := H3.wd2.cell (k := 2) rfl
                        have el := H3.wd2.lt
                        have HSt := Lib.hid hst
                        have HTk := Lib.hid htk
                        have HO1 := Lib.hid hO
                        have HCs := Lib.hid hcs
                        have HLn := Lib.hid hln
                        have LR := Lib.hid c9
                        have HH3 := Lib.hid H3
                        have HB' := Lib.hid hB
                        have HNN := Lib.hid hN
                        have n1 : wb ≠ wr.heap.size := by omega
                        have n1' : wr.heap.size ≠ wb := by omega
                        have n2 : b9 ≠ wr.heap.size := by omega
                        have n2' : wr.heap.size ≠ b9 := by omega
                        clear hst htk hO hcs hln hl0 hsl hx hpf hpgm hpg hpf' hv9 hmp H3 hB hN
                        go_wp2_with fail
                        go_region_held3 (fun w' => w'.cell? ⟨wb, 2, none⟩ = some (.pointer (some ⟨A.sp, 0, none⟩)) ∧ w'.cell? ⟨b9, m, none⟩ = some (.int .i64 pf)) (go_keep) (first
                          | (go_at_call 27; (with_reducible refine (HSt.out wr.drew ((Below.refl _ wr).drew)).mono ?_); rintro e W2 ⟨rfl, b2⟩; have q2 := (Below.refl wr.heap.size wr).drew.trans b2; have y2 := (HH3.out.past q2).wd2.cell (k := 2) rfl; have yl := (HH3.out.past q2).wd2.lt; have z0 := (q2.cell (p := ⟨b9, m, none⟩) lb9).trans LR.out; have zl := Nat.lt_of_lt_of_le lb9 q2.size)
                          | (go_at_call 27; (with_reducible refine (HSt.out (wr.alloc (.cells #[.int .i64 0, .int .i64 0, .bool false, .bool false, .bool false] 62)).drew ((bal wr (.cells #[.int .i64 0, .int .i64 0, .bool false, .bool false, .bool false] 62)).drew)).mono ?_); rintro e W2 ⟨rfl, b2⟩; have q2 := (bal wr (.cells #[.int .i64 0, .int .i64 0, .bool false, .bool false, .bool false] 62)).drew.trans (b2.mono (by simp)); have y2 := (HH3.out.past q2).wd2.cell (k := 2) rfl; have yl := (HH3.out.past q2).wd2.lt; have z0 := (q2.cell (p := ⟨b9, m, none⟩) lb9).trans LR.out; have zl := Nat.lt_of_lt_of_le lb9 q2.size; have ZP := (Blk.new wr 62 [.int .i64 0, .int .i64 0, .bool false, .bool false, .bool false]).drew.past b2; have zc0 := ZP.cell (k := 0) rfl; have zc1 := ZP.cell (k := 1) rfl; have zc2 := ZP.cell (k := 2) rfl; have zc3 := ZP.cell (k := 3) rfl; have zc4 := ZP.cell (k := 4) rfl; have zcf := fun j => ZP.free j; have zcl := ZP.lt))
                        all_goals (first
                          | (obtain ⟨P5, q5⟩ := set5 (.int .i64 xk) (.int .i64 xd) (.bool xw) (.bool xu) (.bool xx) ZP q2 (Nat.le_refl _)
                             obtain ⟨pb, hpb⟩ : ∃ t, wr.heap.size = t := ⟨_, rfl⟩
                             obtain ⟨W5, hW5⟩ : ∃ W', ((((W2.setCell ⟨wr.heap.size, 0, none⟩ (.int .i64 xk)).setCell ⟨wr.heap.size, 1, none⟩ (.int .i64 xd)).setCell ⟨wr.heap.size, 2, none⟩ (.bool xw)).setCell ⟨wr.heap.size, 3, none⟩ (.bool xu)).setCell ⟨wr.heap.size, 4, none⟩ (.bool xx) = W' := ⟨_, rfl⟩
                             have lpb : wr.heap.size ≤ pb := Nat.le_of_eq hpb
                             rw [hW5] at P5 q5
                             rw [hpb] at P5
                             rw [hW5, hpb]
                             clear hW5 hpb q2 b2 ZP zc0 zc1 zc2 zc3 zc4 zcf zcl y2 yl z0 zl)
                          | (have bn := bal W2 (.cells #[.int .i64 xk, .int .i64 xd, .bool xw, .bool xu, .bool xx] 62)
                             have P5 := Blk.new W2 62 [.int .i64 xk, .int .i64 xd, .bool xw, .bool xu, .bool xx]
                             have q5 := q2.trans (bn.mono q2.size)
                             obtain ⟨pb, hpb⟩ : ∃ t, W2.heap.size = t := ⟨_, rfl⟩
                             obtain ⟨W5, hW5⟩ : ∃ W', W2.alloc (.cells #[.int .i64 xk, .int .i64 xd, .bool xw, .bool xu, .bool xx] 62) = W' := ⟨_, rfl⟩
                             have lpb : wr.heap.size ≤ pb := by rw [← hpb]; exact q2.size
                             rw [show (W2.alloc (.cells ([.int .i64 xk, .int .i64 xd, .bool xw, .bool xu, .bool xx] : List Value).toArray 62)) = W5 from hW5, hpb] at P5
                             rw [hW5] at q5
                             rw [hW5, hpb]
                             clear hW5 hpb bn q2 b2 y2 yl z0 zl))
                        all_goals
                          have k0 := P5.cell (k := 0) rfl
                          have k1 := P5.cell (k := 1) rfl
                          have k2 := P5.cell (k := 2) rfl
                          have k3 := P5.cell (k := 3) rfl
                          have k4 := P5.cell (k := 4) rfl
                          have kl := P5.lt
                          have BB := HB'.out.trans (q5.mono HB'.out.size)
                          have HBB := Lib.hid BB
                          have hszB := HBB.out.size
                          have hr5 := HO1.out.past q5
                          unfold SR at hr5
                          rw [HLn.out] at hr5
                          have HRow := Lib.hid hr5
                          clear hr5
                          clear BB P5 q5 n1 n1' n2 n2' e2 el
                          obtain ⟨i0, hi, hz0, hz1, hz2⟩ := info_parts info_slot
                          have HI1 := Lib.hid hi
                          have HZ0 := Lib.hid hz0
                          have HZ1 := Lib.hid hz1
                          have HZ2 := Lib.hid hz2
                          clear hi hz0 hz1 hz2
                          go_wp2_with (at_builtin; refine wpList_append_own _ rfl _ _ 60 rfl W3.heap.size 62 i0 _ 5 24 Try.underlying60 HI1.out HZ0.out HZ1.out HZ2.out rfl (by decide) _ _ _ rfl (HRow.out.alloc _) ⟨W5.heap.size, 0, none⟩ 1 1 [.int .i64 xk, .int .i64 xd, .bool xw, .bool xu, .bool xx] rfl rfl (World.news_of_block (cs := #[.int .i64 xk, .int .i64 xd, .bool xw, .bool xu, .bool xx]) (t := 62) (fr := (0, 0)) (heap_alloc_new W5 _)) (by simp [Value.oneCell']) (by unfold maxLen; omega) (by omega) (by simp; omega) ?_; intro v' w3 hown' hgrow3 hnil3; have HO3 := Lib.hid hown'; have HG3 := Lib.hid hgrow3; clear hown' hgrow3 hnil3)
                          go_roundw
                          case rel =>
                            refine ⟨q + 1, by omega, by simp, ?_, (HBB.out.alloc HBB.out.size _).grown HG3.out (by have := HBB.out.size; simp; omega) (fun r e => ((HRow.out.alloc (.cells #[.int .i64 xk, .int .i64 xd, .bool xw, .bool xu, .bool xx] 62)).lt r e).1)⟩
                            rw [show 8 * m + (q + 1) = 8 * m + q + 1 from rfl, HTk.out]
                            unfold SR
                            rw [HCs.out, List.length_append, HLn.out]
                            exact HO3.out
                          case measure => simp [intOf]; omega
                      · have fq : decide ((q : Int) < 8) = false := decide_eq_false (by omega)
                        have hq' : q = 8 := by omega
                        rw [hq'] at hO
                        have HO1 := Lib.hid hO
                        have HB' := Lib.hid hB
                        clear hO hB hq'
                        go_wp2_with fail
                        go_roundw
                        case rel => exact ⟨m + 1, by omega, by simp, HO1.out, HB'.out⟩
                        case measure => simp [intOf]; omega

                  · obtain rfl : n = m := by omega
                    rw [show (slotsOf Ge.s.ps).take (8 * n) = slotsOf Ge.s.ps from List.take_of_length_le (by rw [slots_len HI.out.s.sl, HPn.out]; exact Nat.le_refl _)] at hO
                    obtain ⟨va, vc, hv'⟩ := hO.form
                    rw [HSl.out] at hv'
                    subst hv'
                    have H4 : HG w wr A P24 V Ge (srow (.slice va (8 * n) vc) (slotsOf Ge.s.ps) :: ints (.slice a3 n c3) (sall Ge.s.ps) :: wld wb A :: [ints (.slice (some ⟨b7, 0, none⟩) 1 c7) [qf]]) := HA.out.add hB (srow _ _) hO.base0 (fun b hb => hO.lo b hb)
                    have d4 := H4.wd3.cell (k := 4) rfl
                    have dl := H4.wd3.lt
                    have HH4 := Lib.hid H4
                    clear H4 hO hB
                    go_wp2_with (go_at_call 24; (with_reducible refine (HLk.out _ _ _ HH4.out).mono ?_); rintro e W6 ⟨rfl, V6, h6⟩; have HW := Lib.hid h6; clear h6)
                    obtain ⟨WC, rfl⟩ : ∃ W, W = wr := ⟨_, rfl⟩
                    go_loopw [20] (fun i wr => ∃ m : Nat, m ≤ n ∧ i = .int .i64 m ∧ Below W6.heap.size W6 wr) (fun i _ => n - (intOf i).toNat)
                    case atStart => exact ⟨0, by omega, rfl, Below.refl _ _⟩
                    case round =>
                      obtain ⟨m, hm, rfl, hB⟩ := hrel
                      by_cases hmn : m < n
                      · have H3 := HW.out.past hB
                        have H3' := H3.tail
                        have hmp : m < Ge.s.ps.length := by rw [HPn.out]; exact hmn
                        have hpgm : Ge.s.ps.getD m pg0 ∈ Ge.s.ps := by rw [List.getD, List.getElem?_eq_getElem hmp]; exact List.getElem_mem hmp
                        obtain ⟨b9, d9, hv9, lb9, c9⟩ := RowI.at (show RowI wr (.slice a3 n c3) (sall Ge.s.ps) from H3'.top) m (by rw [HNn.out]; exact hmn)
                        rw [HNn.out] at hv9
                        obtain ⟨rfl, rfl⟩ : a3 = some ⟨b9, 0, none⟩ ∧ c3 = d9 := by injection hv9 with h1 h2 h3; exact ⟨h1, h3⟩
                        have hpf : (sall Ge.s.ps).getD m 0 = (Ge.s.ps.getD m pg0).f := by
                          unfold sall
                          rw [List.getD, List.getElem?_map, List.getD, List.getElem?_eq_getElem hmp]; rfl
                        obtain ⟨pg, hpg⟩ : ∃ p, Ge.s.ps.getD m pg0 = p := ⟨_, rfl⟩
                        rw [hpg] at hpf hpgm
                        obtain ⟨pf, hpf'⟩ : ∃ f, pg.f = f := ⟨_, rfl⟩
                        rw [hpf'] at hpf
                        rw [hpf] at c9
                        have hc9 : ∀ W, Below W6.heap.size W6 W → W.cell? ⟨b9, m, none⟩ = some (.int .i64 pf) := fun W hW => row_at (show RowI W (.slice (some ⟨b9, 0, none⟩) n c3) (sall Ge.s.ps) from (HW.out.past hW).top2) HNn.out m hmn hpf
                        have hl9 : ∀ W, Below W6.heap.size W6 W → b9 < W.heap.size := fun W hW => (show RowI W (.slice (some ⟨b9, 0, none⟩) n c3) (sall Ge.s.ps) from (HW.out.past hW).top2).lt' b9 rfl
                        have hc7 : ∀ W, Below W6.heap.size W6 W → W.cell? ⟨b7, 0, none⟩ = some (.int .i64 qf) := fun W hW => row_at (show RowI W (.slice (some ⟨b7, 0, none⟩) 1 c7) [qf] from Hold.at (HW.out.past hW) 8 rfl) rfl 0 (by decide) rfl
                        have hl7 : ∀ W, Below W6.heap.size W6 W → b7 < W.heap.size := fun W hW => (show RowI W (.slice (some ⟨b7, 0, none⟩) 1 c7) [qf] from Hold.at (HW.out.past hW) 8 rfl).lt' b7 rfl
                        have HC9 := Lib.hid hc9
                        have HL9 := Lib.hid hl9
                        have HC7 := Lib.hid hc7
                        have HL7 := Lib.hid hl7
                        have HMn := Lib.hid hmn
                        have HPg := Lib.hid hpg
                        have HPm := Lib.hid hpgm
                        have HPf := Lib.hid hpf'
                        have HB0 := Lib.hid hB
                        clear hc9 hl9 hc7 hl7 hpg hpf hpf' hpgm c9 hv9 hB H3 H3' hmp lb9
                        go_wp2_with fail
                        obtain ⟨WD, rfl⟩ : ∃ W, W = wr := ⟨_, rfl⟩
                        go_loopw [21] (fun i wr => ∃ q : Nat, q ≤ 8 ∧ i = .int .i64 q ∧ Below W6.heap.size W6 wr) (fun i _ => 8 - (intOf i).toNat)
                        case atStart => exact ⟨0, by omega, rfl, HB0.out⟩
                        case round =>
                          obtain ⟨q, hq, rfl, hB⟩ := hrel
                          by_cases hq8 : q < 8
                          · have hqz : (q : Int) < 8 := by omega
                            have H3 := HW.out.past hB
                            obtain ⟨d0, e0, hv0, lb0, o0, o1, o2, o3, o4⟩ := SR.at (show SR 0 wr (.slice va (8 * n) vc) (slotsOf Ge.s.ps) from H3.top) (8 * m + q) (by rw [HSl.out]; omega)
                            rw [HSl.out] at hv0
                            obtain ⟨rfl, rfl⟩ : va = some ⟨d0, 0, none⟩ ∧ vc = e0 := by injection hv0 with h1 h2 h3; exact ⟨h1, h3⟩
                            have hsg := slots_get HI.out.s.sl m q (by rw [HPn.out]; exact HMn.out) hq8
                            rw [HPg.out] at hsg
                            have hsd : (slotsOf Ge.s.ps).getD (8 * m + q) slt0 = pg.s.getD q slt0 := by rw [List.getD, hsg]; rfl
                            rw [hsd] at o0 o1 o2 o3 o4
                            have hnew := HView.out pf (q : Int)
                            have hold := sslot_of HI.out.s HPm.out q hq8
                            rw [HPf.out] at hold
                            obtain ⟨⟨xk, xd, ⟨xw, xu, xx⟩⟩, hx⟩ : ∃ x, pg.s.getD q slt0 = x := ⟨_, rfl⟩
                            rw [hx] at o0 o1 o2 o3 o4 hold
                            rw [hold, Option.map_some] at hnew
                            obtain ⟨vv, hvv⟩ : ∃ x, (rd P24.hosts Ge.s.mem g (q : Int)).getD 0 = x := ⟨_, rfl⟩
                            obtain ⟨vb, hvb⟩ : ∃ x, (rd P24.hosts Ge.s.mem g (q : Int)).isSome = x := ⟨_, rfl⟩
                            have hvlt : vv < 2 ^ 64 := by rw [← hvv, ← HRd.out (q : Int)]; exact rd_lt H3.host.bd g (q : Int)
                            unfold keepE noW at hnew
                            rw [hvv] at hnew
                            obtain ⟨⟨ep, ew, eu, ea, ed, eps, enx, ebad, ef⟩, he⟩ : ∃ x, pte vv = x := ⟨_, rfl⟩
                            rw [he] at hnew
                            have hget : ∀ W, Below wr.heap.size wr W → Calls Try.prog 28 #[.pointer (some ⟨A.p, 0, none⟩), .int .i64 g, .int .i64 (q : Int)] W fun e w' => e = .returned (.tuple #[.int .u64 (vv : Int), .bool vb]) ∧ W = w' := fun W hW => by
                              have := get_any W A.p A.gp A.hb A.mb A.fp A.fb P24.hosts G2.s.mem A.cap P24.n g (q : Int) (H3.past hW).host (H3.past hW).guest
                              rw [HRd.out, hvv, hvb] at this; exact this
                            have hpt : ∀ W, Calls Try.prog 30 #[.int .u64 (vv : Int)] W fun r w' => r = .returned (.agg #[.bool ep, .bool ew, .bool eu, .bool ea, .bool ed, .bool eps, .bool enx, .bool ebad, .int .i64 (ef : Int)]) ∧ Below W.heap.size W w' := fun W => refget_any W vv _ he hvlt
                            have hag : ∀ W ww, Calls Try.prog 29 #[.agg #[.int .i64 xk, .int .i64 xd, .bool ww, .bool xu, .bool xx], .agg #[.bool ep, .bool ew, .bool eu, .bool ea, .bool ed, .bool eps, .bool enx, .bool ebad, .int .i64 (ef : Int)]] W fun r w' => r = .returned (.bool (agrees ⟨xk, xd, ⟨ww, xu, xx⟩⟩ ⟨ep, ew, eu, ea, ed, eps, enx, ebad, ef⟩)) ∧ Below W.heap.size W w' := fun W ww => ragrees_any W ⟨xk, xd, ⟨ww, xu, xx⟩⟩ ⟨ep, ew, eu, ea, ed, eps, enx, ebad, ef⟩
                            obtain ⟨ag1, hag1⟩ : ∃ x, agrees ⟨xk, xd, ⟨xw, xu, xx⟩⟩ ⟨ep, ew, eu, ea, ed, eps, enx, ebad, ef⟩ = x := ⟨_, rfl⟩
                            obtain ⟨ag2, hag2⟩ : ∃ x, agrees ⟨xk, xd, ⟨false, xu, xx⟩⟩ ⟨ep, ew, eu, ea, ed, eps, enx, ebad, ef⟩ = x := ⟨_, rfl⟩
                            obtain ⟨N, hN⟩ : ∃ N, 8 * m + q = N := ⟨_, rfl⟩
                            have hw8 : IntKind.i64.wrap (8 * (m : Int)) = 8 * (m : Int) := by rw [IntKind.wrap_i64]; omega
                            have hwN : IntKind.i64.wrap (8 * (m : Int) + (q : Int)) = (N : Int) := by rw [IntKind.wrap_i64]; omega
                            rw [hN] at o0 o1 o2 o3 o4
                            have hNn : N < 8 * n := by omega
                            have hzz : (N : Int) < 8 * (n : Int) := by omega
                            have d2 := H3.wd3.cell (k := 2) rfl
                            have dl := H3.wd3.lt
                            have O0 := Lib.hid o0
                            have O1 := Lib.hid o1
                            have O2 := Lib.hid o2
                            have O3 := Lib.hid o3
                            have O4 := Lib.hid o4
                            have c9 := HC9.out wr hB
                            have lb9 := HL9.out wr hB
                            have LR := Lib.hid c9
                            have HB' := Lib.hid hB
                            have HH3 := Lib.hid H3
                            have HGet := Lib.hid hget
                            have HPt := Lib.hid hpt
                            have HAg := Lib.hid hag
                            have n1 : wb ≠ wr.heap.size := by omega
                            have n1' : wr.heap.size ≠ wb := by omega
                            have n2 : b9 ≠ wr.heap.size := by omega
                            have n2' : wr.heap.size ≠ b9 := by omega
                            clear o0 o1 o2 o3 o4 hsg hsd hx hold hN hv0 H3 hB hget hpt hag he hvv hvb hvlt
                            by_cases hk2 : xk = 2
                            · subst hk2
                              by_cases hg2 : xd = g
                              · have fg : (xd == g) = true := beq_iff_eq.2 hg2
                                rw [if_pos (show (2 : Int) = 2 ∧ xd = g from ⟨rfl, hg2⟩)] at hnew
                                clear hg2
                                dsimp only at hnew
                                by_cases hpq : pf = qf
                                · have fpq : (pf == qf) = true := beq_iff_eq.2 hpq
                                  cases ag2 with
                                  | true =>
                                    rw [if_pos hpq, if_neg (show ¬ ((2 : Int) = 2 ∧ agrees _ _ = false) from fun h => by rw [hag2] at h; exact Bool.noConfusion h.2)] at hnew
                                    clear hpq
                                    as_aux_lemma =>
                                      have hst : ∀ W, Below wr.heap.size wr W → Calls Try.prog 27 #[.pointer (some ⟨A.sp, 0, none⟩), .int .i64 pf, .int .i64 (q : Int)] W fun e w' => e = .returned (.tuple #[.agg #[.int .i64 2, .int .i64 xd, .bool false, .bool xu, .bool xx], .bool true]) ∧ Below W.heap.size W w' := fun W hW => sslot_any (HH3.out.past hW).sx pf (q : Int) _ hnew
                                      have HSt := Lib.hid hst
                                      clear hst hnew
                                      go_wp2_with fail
                                      go_region_held3 (fun w' => w'.cell? ⟨wb, 2, none⟩ = some (.pointer (some ⟨A.sp, 0, none⟩)) ∧ w'.cell? ⟨b9, m, none⟩ = some (.int .i64 pf)) (go_keep) (first
                                        | (go_at_call 27; (with_reducible refine (HSt.out wr.drew ((Below.refl _ wr).drew)).mono ?_); rintro e W2 ⟨rfl, b2⟩; have q2 := (Below.refl wr.heap.size wr).drew.trans b2; have y2 := (HH3.out.past q2).wd3.cell (k := 2) rfl; have yl := (HH3.out.past q2).wd3.lt; have z0 := (q2.cell (p := ⟨b9, m, none⟩) lb9).trans LR.out; have zl := Nat.lt_of_lt_of_le lb9 q2.size)
                                        | (go_at_call 27; (with_reducible refine (HSt.out (wr.alloc (.cells #[.int .i64 0, .int .i64 0, .bool false, .bool false, .bool false] 62)).drew ((bal wr (.cells #[.int .i64 0, .int .i64 0, .bool false, .bool false, .bool false] 62)).drew)).mono ?_); rintro e W2 ⟨rfl, b2⟩; have q2 := (bal wr (.cells #[.int .i64 0, .int .i64 0, .bool false, .bool false, .bool false] 62)).drew.trans (b2.mono (by simp)); have y2 := (HH3.out.past q2).wd3.cell (k := 2) rfl; have yl := (HH3.out.past q2).wd3.lt; have z0 := (q2.cell (p := ⟨b9, m, none⟩) lb9).trans LR.out; have zl := Nat.lt_of_lt_of_le lb9 q2.size; have ZP := (Blk.new wr 62 [.int .i64 0, .int .i64 0, .bool false, .bool false, .bool false]).drew.past b2; have zc0 := ZP.cell (k := 0) rfl; have zc1 := ZP.cell (k := 1) rfl; have zc2 := ZP.cell (k := 2) rfl; have zc3 := ZP.cell (k := 3) rfl; have zc4 := ZP.cell (k := 4) rfl; have zcf := fun j => ZP.free j; have zcl := ZP.lt))
                                      all_goals (first
                                        | (obtain ⟨P5, q5⟩ := set5 (.int .i64 2) (.int .i64 xd) (.bool false) (.bool xu) (.bool xx) ZP q2 (Nat.le_refl _)
                                           obtain ⟨pb, hpb⟩ : ∃ t, wr.heap.size = t := ⟨_, rfl⟩
                                           obtain ⟨W5, hW5⟩ : ∃ W', ((((W2.setCell ⟨wr.heap.size, 0, none⟩ (.int .i64 2)).setCell ⟨wr.heap.size, 1, none⟩ (.int .i64 xd)).setCell ⟨wr.heap.size, 2, none⟩ (.bool false)).setCell ⟨wr.heap.size, 3, none⟩ (.bool xu)).setCell ⟨wr.heap.size, 4, none⟩ (.bool xx) = W' := ⟨_, rfl⟩
                                           have lpb : wr.heap.size ≤ pb := Nat.le_of_eq hpb
                                           rw [hW5] at P5 q5
                                           rw [hpb] at P5
                                           rw [hW5, hpb]
                                           clear hW5 hpb q2 b2 ZP zc0 zc1 zc2 zc3 zc4 zcf zcl y2 yl z0 zl)
                                        | (have bn := bal W2 (.cells #[.int .i64 2, .int .i64 xd, .bool false, .bool xu, .bool xx] 62)
                                           have P5 := Blk.new W2 62 [.int .i64 2, .int .i64 xd, .bool false, .bool xu, .bool xx]
                                           have q5 := q2.trans (bn.mono q2.size)
                                           obtain ⟨pb, hpb⟩ : ∃ t, W2.heap.size = t := ⟨_, rfl⟩
                                           obtain ⟨W5, hW5⟩ : ∃ W', W2.alloc (.cells #[.int .i64 2, .int .i64 xd, .bool false, .bool xu, .bool xx] 62) = W' := ⟨_, rfl⟩
                                           have lpb : wr.heap.size ≤ pb := by rw [← hpb]; exact q2.size
                                           rw [show (W2.alloc (.cells ([.int .i64 2, .int .i64 xd, .bool false, .bool xu, .bool xx] : List Value).toArray 62)) = W5 from hW5, hpb] at P5
                                           rw [hW5] at q5
                                           rw [hW5, hpb]
                                           clear hW5 hpb bn q2 b2 y2 yl z0 zl))
                                      all_goals
                                        have k0 := P5.cell (k := 0) rfl
                                        have k1 := P5.cell (k := 1) rfl
                                        have k2 := P5.cell (k := 2) rfl
                                        have k3 := P5.cell (k := 3) rfl
                                        have k4 := P5.cell (k := 4) rfl
                                        have kl := P5.lt
                                        have v0 := (q5.cell (p := ⟨d0, _, none⟩) lb0).trans O0.out
                                        have v1 := (q5.cell (p := ⟨d0, _, none⟩) lb0).trans O1.out
                                        have v2 := (q5.cell (p := ⟨d0, _, none⟩) lb0).trans O2.out
                                        have v3 := (q5.cell (p := ⟨d0, _, none⟩) lb0).trans O3.out
                                        have v4 := (q5.cell (p := ⟨d0, _, none⟩) lb0).trans O4.out
                                        have vl := Nat.lt_of_lt_of_le lb0 q5.size
                                        have hne := slot_neq
                                        have HQ5 := Lib.hid q5
                                        have HP5 := Lib.hid P5
                                        clear q5 P5 n1 n1' n2 n2' d2 dl c9 lb9
                                        go_upto_region 38 with (fail)
                                        have b8 := bal W5 (.cells #[.int .i64 2, .int .i64 xd, .bool xw, .bool xu, .bool xx] 62)
                                        have P8 := Blk.new W5 62 [.int .i64 2, .int .i64 xd, .bool xw, .bool xu, .bool xx]
                                        obtain ⟨ob, hob⟩ : ∃ t, W5.heap.size = t := ⟨_, rfl⟩
                                        obtain ⟨W8, hW8⟩ : ∃ W', W5.alloc (.cells #[.int .i64 2, .int .i64 xd, .bool xw, .bool xu, .bool xx] 62) = W' := ⟨_, rfl⟩
                                        rw [show (W5.alloc (.cells ([.int .i64 2, .int .i64 xd, .bool xw, .bool xu, .bool xx] : List Value).toArray 62)) = W8 from hW8, hob] at P8
                                        rw [hW8] at b8
                                        rw [hW8, hob]
                                        have lob : W5.heap.size ≤ ob := Nat.le_of_eq hob
                                        clear hW8 hob v0 v1 v2 v3 v4 vl k0 k1 k2 k3 k4
                                        have j0 := P8.cell (k := 0) rfl
                                        have j1 := P8.cell (k := 1) rfl
                                        have j2 := P8.cell (k := 2) rfl
                                        have j3 := P8.cell (k := 3) rfl
                                        have j4 := P8.cell (k := 4) rfl
                                        have jl := P8.lt
                                        have HP8 := Lib.hid P8
                                        clear P8
                                        go_upto_region 39 with (fail)
                                        have b9' := bal W8 (.cells #[.int .i64 2, .int .i64 xd, .bool xw, .bool xu, .bool xx] 62)
                                        have P9 := Blk.new W8 62 [.int .i64 2, .int .i64 xd, .bool xw, .bool xu, .bool xx]
                                        obtain ⟨cb, hcb⟩ : ∃ t, W8.heap.size = t := ⟨_, rfl⟩
                                        obtain ⟨W9, hW9⟩ : ∃ W', W8.alloc (.cells #[.int .i64 2, .int .i64 xd, .bool xw, .bool xu, .bool xx] 62) = W' := ⟨_, rfl⟩
                                        rw [show (W8.alloc (.cells ([.int .i64 2, .int .i64 xd, .bool xw, .bool xu, .bool xx] : List Value).toArray 62)) = W9 from hW9, hcb] at P9
                                        rw [hW9] at b9'
                                        rw [hW9, hcb]
                                        have lcb : W8.heap.size ≤ cb := Nat.le_of_eq hcb
                                        have Q9 := b8.trans (b9'.mono b8.size)
                                        have HO9 := Lib.hid (HP8.out.past b9')
                                        have HK9 := Lib.hid (HP5.out.past Q9)
                                        have npc : pb ≠ cb := by have := b8.size; omega
                                        have npc' : cb ≠ pb := fun e => npc e.symm
                                        have noc : ob ≠ cb := by omega
                                        have noc' : cb ≠ ob := fun e => noc e.symm
                                        have HQ9 := Lib.hid (HQ5.out.trans (Q9.mono HQ5.out.size))
                                        have lwc : wr.heap.size ≤ cb := by have := b8.size; have := HQ5.out.size; omega
                                        clear hW9 hcb j0 j1 j2 j3 j4 jl b8 b9' Q9 kl lob lcb
                                        have j0 := HO9.out.cell (k := 0) rfl
                                        have j1 := HO9.out.cell (k := 1) rfl
                                        have jl := HO9.out.lt
                                        have w0' := P9.cell (k := 0) rfl
                                        have w1' := P9.cell (k := 1) rfl
                                        have w2' := P9.cell (k := 2) rfl
                                        have w3' := P9.cell (k := 3) rfl
                                        have w4' := P9.cell (k := 4) rfl
                                        have wf' := fun j => P9.free j
                                        have wl' := P9.lt
                                        go_upto_region 41 with (fail)
                                        have P10 := P9.set 2 (.bool false)
                                        have HO10 := Lib.hid (HO9.out.other (a := ⟨cb, 2, none⟩) noc (.bool false))
                                        have HK10 := Lib.hid (HK9.out.other (a := ⟨cb, 2, none⟩) npc (.bool false))
                                        have Q10 := HQ9.out.setCell (p := ⟨cb, 2, none⟩) lwc (.bool false)
                                        obtain ⟨W10, hW10⟩ : ∃ W', W9.setCell ⟨cb, 2, none⟩ (.bool false) = W' := ⟨_, rfl⟩
                                        rw [hW10] at P10 Q10 HO10 HK10
                                        rw [hW10]
                                        clear hW10 j0 j1 jl w0' w1' w2' w3' w4' wf' wl'
                                        have HP10 := Lib.hid (show Blk W10 cb 62 [.int .i64 2, .int .i64 xd, .bool false, .bool xu, .bool xx] from P10)
                                        have HQ10 := Lib.hid Q10
                                        clear P10 Q10 P9
                                        have BB := HB'.out.trans (HQ10.out.mono HB'.out.size)
                                        have HBB := Lib.hid BB
                                        have c9 := HC9.out _ BB
                                        have lb9 := HL9.out _ BB
                                        have c7' := HC7.out _ BB
                                        have lb7 := HL7.out _ BB
                                        have d1 := (HW.out.past BB).wd3.cell (k := 1) rfl
                                        have dl := (HW.out.past BB).wd3.lt
                                        have j0 := HO10.out.cell (k := 0) rfl
                                        have jl := HO10.out.lt
                                        have w0' := HP10.out.cell (k := 0) rfl
                                        have w1' := HP10.out.cell (k := 1) rfl
                                        have w2' := HP10.out.cell (k := 2) rfl
                                        have w3' := HP10.out.cell (k := 3) rfl
                                        have w4' := HP10.out.cell (k := 4) rfl
                                        have wl' := HP10.out.lt
                                        have k0 := HK10.out.cell (k := 0) rfl
                                        have k1 := HK10.out.cell (k := 1) rfl
                                        have k2 := HK10.out.cell (k := 2) rfl
                                        have k3 := HK10.out.cell (k := 3) rfl
                                        have k4 := HK10.out.cell (k := 4) rfl
                                        have kl := HK10.out.lt
                                        clear BB
                                        go_wp2_with (go_at_call 28; (with_reducible refine (HGet.out _ HQ10.out).mono ?_); rintro e WG ⟨rfl, rfl⟩)
                                        go_region_held3 (fun w' => w'.cell? ⟨b9, m, none⟩ = some (.int .i64 pf) ∧ w'.cell? ⟨b7, 0, none⟩ = some (.int .i64 qf) ∧ w'.cell? ⟨ob, 0, none⟩ = some (.int .i64 2) ∧ w'.cell? ⟨cb, 0, none⟩ = some (.int .i64 2) ∧ w'.cell? ⟨cb, 1, none⟩ = some (.int .i64 xd) ∧ w'.cell? ⟨cb, 2, none⟩ = some (.bool false) ∧ w'.cell? ⟨cb, 3, none⟩ = some (.bool xu) ∧ w'.cell? ⟨cb, 4, none⟩ = some (.bool xx)) (go_keep) (first
                                          | (go_at_call 30; (with_reducible refine (HPt.out _).mono ?_); rintro e X1 ⟨rfl, p1⟩; have z1 := (Below.refl W10.heap.size W10).drew.trans p1; have BBa := HBB.out.trans (z1.mono HBB.out.size); have c9a := HC9.out _ BBa; have lb9a := HL9.out _ BBa; have c7a := HC7.out _ BBa; have lb7a := HL7.out _ BBa; have j0a := (HO10.out.past z1).cell (k := 0) rfl; have jla := (HO10.out.past z1).lt; have w0a := (HP10.out.past z1).cell (k := 0) rfl; have w1a := (HP10.out.past z1).cell (k := 1) rfl; have w2a := (HP10.out.past z1).cell (k := 2) rfl; have w3a := (HP10.out.past z1).cell (k := 3) rfl; have w4a := (HP10.out.past z1).cell (k := 4) rfl; have wla := (HP10.out.past z1).lt)
                                          | (go_at_call 29; (with_reducible refine (HAg.out _ _).mono ?_); rintro e X2 ⟨rfl, p2⟩; rw [hag2]; have z2 := z1.trans (p2.mono z1.size); have BBb := HBB.out.trans (z2.mono HBB.out.size); have c9b := HC9.out _ BBb; have lb9b := HL9.out _ BBb; have c7b := HC7.out _ BBb; have lb7b := HL7.out _ BBb; have j0b := (HO10.out.past z2).cell (k := 0) rfl; have jlb := (HO10.out.past z2).lt; have w0b := (HP10.out.past z2).cell (k := 0) rfl; have w1b := (HP10.out.past z2).cell (k := 1) rfl; have w2b := (HP10.out.past z2).cell (k := 2) rfl; have w3b := (HP10.out.past z2).cell (k := 3) rfl; have w4b := (HP10.out.past z2).cell (k := 4) rfl; have wlb := (HP10.out.past z2).lt; clear BBa c9a lb9a c7a lb7a j0a jla w0a w1a w2a w3a w4a wla))
                                        all_goals
                                          have k0 := (HK10.out.past z2).cell (k := 0) rfl
                                          have k1 := (HK10.out.past z2).cell (k := 1) rfl
                                          have k2 := (HK10.out.past z2).cell (k := 2) rfl
                                          have k3 := (HK10.out.past z2).cell (k := 3) rfl
                                          have k4 := (HK10.out.past z2).cell (k := 4) rfl
                                          have kl := (HK10.out.past z2).lt
                                          have wfb := fun j => (HP10.out.past z2).free j
                                          go_wp2_with fail
                                          go_roundw
                                          case rel => exact ⟨q + 1, by omega, by simp, BBb⟩
                                          case measure => simp [intOf]; omega
                                  | false =>
                                    rw [if_pos hpq, if_pos (show (2 : Int) = 2 ∧ agrees _ _ = false from ⟨rfl, hag2⟩)] at hnew
                                    clear hpq
                                    as_aux_lemma =>
                                      have hst : ∀ W, Below wr.heap.size wr W → Calls Try.prog 27 #[.pointer (some ⟨A.sp, 0, none⟩), .int .i64 pf, .int .i64 (q : Int)] W fun e w' => e = .returned (.tuple #[.agg #[.int .i64 0, .int .i64 0, .bool false, .bool false, .bool false], .bool true]) ∧ Below W.heap.size W w' := fun W hW => sslot_any (HH3.out.past hW).sx pf (q : Int) _ hnew
                                      have HSt := Lib.hid hst
                                      clear hst hnew
                                      go_wp2_with fail
                                      go_region_held3 (fun w' => w'.cell? ⟨wb, 2, none⟩ = some (.pointer (some ⟨A.sp, 0, none⟩)) ∧ w'.cell? ⟨b9, m, none⟩ = some (.int .i64 pf)) (go_keep) (first
                                        | (go_at_call 27; (with_reducible refine (HSt.out wr.drew ((Below.refl _ wr).drew)).mono ?_); rintro e W2 ⟨rfl, b2⟩; have q2 := (Below.refl wr.heap.size wr).drew.trans b2; have y2 := (HH3.out.past q2).wd3.cell (k := 2) rfl; have yl := (HH3.out.past q2).wd3.lt; have z0 := (q2.cell (p := ⟨b9, m, none⟩) lb9).trans LR.out; have zl := Nat.lt_of_lt_of_le lb9 q2.size)
                                        | (go_at_call 27; (with_reducible refine (HSt.out (wr.alloc (.cells #[.int .i64 0, .int .i64 0, .bool false, .bool false, .bool false] 62)).drew ((bal wr (.cells #[.int .i64 0, .int .i64 0, .bool false, .bool false, .bool false] 62)).drew)).mono ?_); rintro e W2 ⟨rfl, b2⟩; have q2 := (bal wr (.cells #[.int .i64 0, .int .i64 0, .bool false, .bool false, .bool false] 62)).drew.trans (b2.mono (by simp)); have y2 := (HH3.out.past q2).wd3.cell (k := 2) rfl; have yl := (HH3.out.past q2).wd3.lt; have z0 := (q2.cell (p := ⟨b9, m, none⟩) lb9).trans LR.out; have zl := Nat.lt_of_lt_of_le lb9 q2.size; have ZP := (Blk.new wr 62 [.int .i64 0, .int .i64 0, .bool false, .bool false, .bool false]).drew.past b2; have zc0 := ZP.cell (k := 0) rfl; have zc1 := ZP.cell (k := 1) rfl; have zc2 := ZP.cell (k := 2) rfl; have zc3 := ZP.cell (k := 3) rfl; have zc4 := ZP.cell (k := 4) rfl; have zcf := fun j => ZP.free j; have zcl := ZP.lt))
                                      all_goals (first
                                        | (obtain ⟨P5, q5⟩ := set5 (.int .i64 0) (.int .i64 0) (.bool false) (.bool false) (.bool false) ZP q2 (Nat.le_refl _)
                                           obtain ⟨pb, hpb⟩ : ∃ t, wr.heap.size = t := ⟨_, rfl⟩
                                           obtain ⟨W5, hW5⟩ : ∃ W', ((((W2.setCell ⟨wr.heap.size, 0, none⟩ (.int .i64 0)).setCell ⟨wr.heap.size, 1, none⟩ (.int .i64 0)).setCell ⟨wr.heap.size, 2, none⟩ (.bool false)).setCell ⟨wr.heap.size, 3, none⟩ (.bool false)).setCell ⟨wr.heap.size, 4, none⟩ (.bool false) = W' := ⟨_, rfl⟩
                                           have lpb : wr.heap.size ≤ pb := Nat.le_of_eq hpb
                                           rw [hW5] at P5 q5
                                           rw [hpb] at P5
                                           rw [hW5, hpb]
                                           clear hW5 hpb q2 b2 ZP zc0 zc1 zc2 zc3 zc4 zcf zcl y2 yl z0 zl)
                                        | (have bn := bal W2 (.cells #[.int .i64 0, .int .i64 0, .bool false, .bool false, .bool false] 62)
                                           have P5 := Blk.new W2 62 [.int .i64 0, .int .i64 0, .bool false, .bool false, .bool false]
                                           have q5 := q2.trans (bn.mono q2.size)
                                           obtain ⟨pb, hpb⟩ : ∃ t, W2.heap.size = t := ⟨_, rfl⟩
                                           obtain ⟨W5, hW5⟩ : ∃ W', W2.alloc (.cells #[.int .i64 0, .int .i64 0, .bool false, .bool false, .bool false] 62) = W' := ⟨_, rfl⟩
                                           have lpb : wr.heap.size ≤ pb := by rw [← hpb]; exact q2.size
                                           rw [show (W2.alloc (.cells ([.int .i64 0, .int .i64 0, .bool false, .bool false, .bool false] : List Value).toArray 62)) = W5 from hW5, hpb] at P5
                                           rw [hW5] at q5
                                           rw [hW5, hpb]
                                           clear hW5 hpb bn q2 b2 y2 yl z0 zl))
                                      all_goals
                                        have k0 := P5.cell (k := 0) rfl
                                        have k1 := P5.cell (k := 1) rfl
                                        have k2 := P5.cell (k := 2) rfl
                                        have k3 := P5.cell (k := 3) rfl
                                        have k4 := P5.cell (k := 4) rfl
                                        have kl := P5.lt
                                        have v0 := (q5.cell (p := ⟨d0, _, none⟩) lb0).trans O0.out
                                        have v1 := (q5.cell (p := ⟨d0, _, none⟩) lb0).trans O1.out
                                        have v2 := (q5.cell (p := ⟨d0, _, none⟩) lb0).trans O2.out
                                        have v3 := (q5.cell (p := ⟨d0, _, none⟩) lb0).trans O3.out
                                        have v4 := (q5.cell (p := ⟨d0, _, none⟩) lb0).trans O4.out
                                        have vl := Nat.lt_of_lt_of_le lb0 q5.size
                                        have hne := slot_neq
                                        have HQ5 := Lib.hid q5
                                        have HP5 := Lib.hid P5
                                        clear q5 P5 n1 n1' n2 n2' d2 dl c9 lb9
                                        go_upto_region 38 with (fail)
                                        have b8 := bal W5 (.cells #[.int .i64 2, .int .i64 xd, .bool xw, .bool xu, .bool xx] 62)
                                        have P8 := Blk.new W5 62 [.int .i64 2, .int .i64 xd, .bool xw, .bool xu, .bool xx]
                                        obtain ⟨ob, hob⟩ : ∃ t, W5.heap.size = t := ⟨_, rfl⟩
                                        obtain ⟨W8, hW8⟩ : ∃ W', W5.alloc (.cells #[.int .i64 2, .int .i64 xd, .bool xw, .bool xu, .bool xx] 62) = W' := ⟨_, rfl⟩
                                        rw [show (W5.alloc (.cells ([.int .i64 2, .int .i64 xd, .bool xw, .bool xu, .bool xx] : List Value).toArray 62)) = W8 from hW8, hob] at P8
                                        rw [hW8] at b8
                                        rw [hW8, hob]
                                        have lob : W5.heap.size ≤ ob := Nat.le_of_eq hob
                                        clear hW8 hob v0 v1 v2 v3 v4 vl k0 k1 k2 k3 k4
                                        have j0 := P8.cell (k := 0) rfl
                                        have j1 := P8.cell (k := 1) rfl
                                        have j2 := P8.cell (k := 2) rfl
                                        have j3 := P8.cell (k := 3) rfl
                                        have j4 := P8.cell (k := 4) rfl
                                        have jl := P8.lt
                                        have HP8 := Lib.hid P8
                                        clear P8
                                        go_upto_region 39 with (fail)
                                        have b9' := bal W8 (.cells #[.int .i64 2, .int .i64 xd, .bool xw, .bool xu, .bool xx] 62)
                                        have P9 := Blk.new W8 62 [.int .i64 2, .int .i64 xd, .bool xw, .bool xu, .bool xx]
                                        obtain ⟨cb, hcb⟩ : ∃ t, W8.heap.size = t := ⟨_, rfl⟩
                                        obtain ⟨W9, hW9⟩ : ∃ W', W8.alloc (.cells #[.int .i64 2, .int .i64 xd, .bool xw, .bool xu, .bool xx] 62) = W' := ⟨_, rfl⟩
                                        rw [show (W8.alloc (.cells ([.int .i64 2, .int .i64 xd, .bool xw, .bool xu, .bool xx] : List Value).toArray 62)) = W9 from hW9, hcb] at P9
                                        rw [hW9] at b9'
                                        rw [hW9, hcb]
                                        have lcb : W8.heap.size ≤ cb := Nat.le_of_eq hcb
                                        have Q9 := b8.trans (b9'.mono b8.size)
                                        have HO9 := Lib.hid (HP8.out.past b9')
                                        have HK9 := Lib.hid (HP5.out.past Q9)
                                        have npc : pb ≠ cb := by have := b8.size; omega
                                        have npc' : cb ≠ pb := fun e => npc e.symm
                                        have noc : ob ≠ cb := by omega
                                        have noc' : cb ≠ ob := fun e => noc e.symm
                                        have HQ9 := Lib.hid (HQ5.out.trans (Q9.mono HQ5.out.size))
                                        have lwc : wr.heap.size ≤ cb := by have := b8.size; have := HQ5.out.size; omega
                                        clear hW9 hcb j0 j1 j2 j3 j4 jl b8 b9' Q9 kl lob lcb
                                        have j0 := HO9.out.cell (k := 0) rfl
                                        have j1 := HO9.out.cell (k := 1) rfl
                                        have jl := HO9.out.lt
                                        have w0' := P9.cell (k := 0) rfl
                                        have w1' := P9.cell (k := 1) rfl
                                        have w2' := P9.cell (k := 2) rfl
                                        have w3' := P9.cell (k := 3) rfl
                                        have w4' := P9.cell (k := 4) rfl
                                        have wf' := fun j => P9.free j
                                        have wl' := P9.lt
                                        go_upto_region 41 with (fail)
                                        have P10 := P9.set 2 (.bool false)
                                        have HO10 := Lib.hid (HO9.out.other (a := ⟨cb, 2, none⟩) noc (.bool false))
                                        have HK10 := Lib.hid (HK9.out.other (a := ⟨cb, 2, none⟩) npc (.bool false))
                                        have Q10 := HQ9.out.setCell (p := ⟨cb, 2, none⟩) lwc (.bool false)
                                        obtain ⟨W10, hW10⟩ : ∃ W', W9.setCell ⟨cb, 2, none⟩ (.bool false) = W' := ⟨_, rfl⟩
                                        rw [hW10] at P10 Q10 HO10 HK10
                                        rw [hW10]
                                        clear hW10 j0 j1 jl w0' w1' w2' w3' w4' wf' wl'
                                        have HP10 := Lib.hid (show Blk W10 cb 62 [.int .i64 2, .int .i64 xd, .bool false, .bool xu, .bool xx] from P10)
                                        have HQ10 := Lib.hid Q10
                                        clear P10 Q10 P9
                                        have BB := HB'.out.trans (HQ10.out.mono HB'.out.size)
                                        have HBB := Lib.hid BB
                                        have c9 := HC9.out _ BB
                                        have lb9 := HL9.out _ BB
                                        have c7' := HC7.out _ BB
                                        have lb7 := HL7.out _ BB
                                        have d1 := (HW.out.past BB).wd3.cell (k := 1) rfl
                                        have dl := (HW.out.past BB).wd3.lt
                                        have j0 := HO10.out.cell (k := 0) rfl
                                        have jl := HO10.out.lt
                                        have w0' := HP10.out.cell (k := 0) rfl
                                        have w1' := HP10.out.cell (k := 1) rfl
                                        have w2' := HP10.out.cell (k := 2) rfl
                                        have w3' := HP10.out.cell (k := 3) rfl
                                        have w4' := HP10.out.cell (k := 4) rfl
                                        have wl' := HP10.out.lt
                                        have k0 := HK10.out.cell (k := 0) rfl
                                        have k1 := HK10.out.cell (k := 1) rfl
                                        have k2 := HK10.out.cell (k := 2) rfl
                                        have k3 := HK10.out.cell (k := 3) rfl
                                        have k4 := HK10.out.cell (k := 4) rfl
                                        have kl := HK10.out.lt
                                        clear BB
                                        go_wp2_with (go_at_call 28; (with_reducible refine (HGet.out _ HQ10.out).mono ?_); rintro e WG ⟨rfl, rfl⟩)
                                        go_region_held3 (fun w' => w'.cell? ⟨b9, m, none⟩ = some (.int .i64 pf) ∧ w'.cell? ⟨b7, 0, none⟩ = some (.int .i64 qf) ∧ w'.cell? ⟨ob, 0, none⟩ = some (.int .i64 2) ∧ w'.cell? ⟨cb, 0, none⟩ = some (.int .i64 2) ∧ w'.cell? ⟨cb, 1, none⟩ = some (.int .i64 xd) ∧ w'.cell? ⟨cb, 2, none⟩ = some (.bool false) ∧ w'.cell? ⟨cb, 3, none⟩ = some (.bool xu) ∧ w'.cell? ⟨cb, 4, none⟩ = some (.bool xx)) (go_keep) (first
                                          | (go_at_call 30; (with_reducible refine (HPt.out _).mono ?_); rintro e X1 ⟨rfl, p1⟩; have z1 := (Below.refl W10.heap.size W10).drew.trans p1; have BBa := HBB.out.trans (z1.mono HBB.out.size); have c9a := HC9.out _ BBa; have lb9a := HL9.out _ BBa; have c7a := HC7.out _ BBa; have lb7a := HL7.out _ BBa; have j0a := (HO10.out.past z1).cell (k := 0) rfl; have jla := (HO10.out.past z1).lt; have w0a := (HP10.out.past z1).cell (k := 0) rfl; have w1a := (HP10.out.past z1).cell (k := 1) rfl; have w2a := (HP10.out.past z1).cell (k := 2) rfl; have w3a := (HP10.out.past z1).cell (k := 3) rfl; have w4a := (HP10.out.past z1).cell (k := 4) rfl; have wla := (HP10.out.past z1).lt)
                                          | (go_at_call 29; (with_reducible refine (HAg.out _ _).mono ?_); rintro e X2 ⟨rfl, p2⟩; rw [hag2]; have z2 := z1.trans (p2.mono z1.size); have BBb := HBB.out.trans (z2.mono HBB.out.size); have c9b := HC9.out _ BBb; have lb9b := HL9.out _ BBb; have c7b := HC7.out _ BBb; have lb7b := HL7.out _ BBb; have j0b := (HO10.out.past z2).cell (k := 0) rfl; have jlb := (HO10.out.past z2).lt; have w0b := (HP10.out.past z2).cell (k := 0) rfl; have w1b := (HP10.out.past z2).cell (k := 1) rfl; have w2b := (HP10.out.past z2).cell (k := 2) rfl; have w3b := (HP10.out.past z2).cell (k := 3) rfl; have w4b := (HP10.out.past z2).cell (k := 4) rfl; have wlb := (HP10.out.past z2).lt; clear BBa c9a lb9a c7a lb7a j0a jla w0a w1a w2a w3a w4a wla))
                                        all_goals
                                          have hW6c : W6.heap.size ≤ cb := by have := HB'.out.size; omega
                                          have k0 := (HK10.out.past z2).cell (k := 0) rfl
                                          have k1 := (HK10.out.past z2).cell (k := 1) rfl
                                          have k2 := (HK10.out.past z2).cell (k := 2) rfl
                                          have k3 := (HK10.out.past z2).cell (k := 3) rfl
                                          have k4 := (HK10.out.past z2).cell (k := 4) rfl
                                          have kl := (HK10.out.past z2).lt
                                          have wfb := fun j => (HP10.out.past z2).free j
                                          go_wp2_with fail
                                          go_roundw
                                          case rel => exact ⟨q + 1, by omega, by simp, (((((BBb.setCell (p := ⟨cb, 0, none⟩) hW6c _).setCell (p := ⟨cb, 1, none⟩) hW6c _).setCell (p := ⟨cb, 2, none⟩) hW6c _).setCell (p := ⟨cb, 3, none⟩) hW6c _).setCell (p := ⟨cb, 4, none⟩) hW6c _)⟩
                                          case measure => simp [intOf]; omega
                                · have fpq : (pf == qf) = false := beq_eq_false_iff_ne.2 hpq
                                  rw [if_neg hpq] at hnew
                                  clear hpq
                                  as_aux_lemma =>
                                    have hst : ∀ W, Below wr.heap.size wr W → Calls Try.prog 27 #[.pointer (some ⟨A.sp, 0, none⟩), .int .i64 pf, .int .i64 (q : Int)] W fun e w' => e = .returned (.tuple #[.agg #[.int .i64 2, .int .i64 xd, .bool false, .bool xu, .bool xx], .bool true]) ∧ Below W.heap.size W w' := fun W hW => sslot_any (HH3.out.past hW).sx pf (q : Int) _ hnew
                                    have HSt := Lib.hid hst
                                    clear hst hnew
                                    go_wp2_with fail
                                    go_region_held3 (fun w' => w'.cell? ⟨wb, 2, none⟩ = some (.pointer (some ⟨A.sp, 0, none⟩)) ∧ w'.cell? ⟨b9, m, none⟩ = some (.int .i64 pf)) (go_keep) (first
                                      | (go_at_call 27; (with_reducible refine (HSt.out wr.drew ((Below.refl _ wr).drew)).mono ?_); rintro e W2 ⟨rfl, b2⟩; have q2 := (Below.refl wr.heap.size wr).drew.trans b2; have y2 := (HH3.out.past q2).wd3.cell (k := 2) rfl; have yl := (HH3.out.past q2).wd3.lt; have z0 := (q2.cell (p := ⟨b9, m, none⟩) lb9).trans LR.out; have zl := Nat.lt_of_lt_of_le lb9 q2.size)
                                      | (go_at_call 27; (with_reducible refine (HSt.out (wr.alloc (.cells #[.int .i64 0, .int .i64 0, .bool false, .bool false, .bool false] 62)).drew ((bal wr (.cells #[.int .i64 0, .int .i64 0, .bool false, .bool false, .bool false] 62)).drew)).mono ?_); rintro e W2 ⟨rfl, b2⟩; have q2 := (bal wr (.cells #[.int .i64 0, .int .i64 0, .bool false, .bool false, .bool false] 62)).drew.trans (b2.mono (by simp)); have y2 := (HH3.out.past q2).wd3.cell (k := 2) rfl; have yl := (HH3.out.past q2).wd3.lt; have z0 := (q2.cell (p := ⟨b9, m, none⟩) lb9).trans LR.out; have zl := Nat.lt_of_lt_of_le lb9 q2.size; have ZP := (Blk.new wr 62 [.int .i64 0, .int .i64 0, .bool false, .bool false, .bool false]).drew.past b2; have zc0 := ZP.cell (k := 0) rfl; have zc1 := ZP.cell (k := 1) rfl; have zc2 := ZP.cell (k := 2) rfl; have zc3 := ZP.cell (k := 3) rfl; have zc4 := ZP.cell (k := 4) rfl; have zcf := fun j => ZP.free j; have zcl := ZP.lt))
                                    all_goals (first
                                      | (obtain ⟨P5, q5⟩ := set5 (.int .i64 2) (.int .i64 xd) (.bool false) (.bool xu) (.bool xx) ZP q2 (Nat.le_refl _)
                                         obtain ⟨pb, hpb⟩ : ∃ t, wr.heap.size = t := ⟨_, rfl⟩
                                         obtain ⟨W5, hW5⟩ : ∃ W', ((((W2.setCell ⟨wr.heap.size, 0, none⟩ (.int .i64 2)).setCell ⟨wr.heap.size, 1, none⟩ (.int .i64 xd)).setCell ⟨wr.heap.size, 2, none⟩ (.bool false)).setCell ⟨wr.heap.size, 3, none⟩ (.bool xu)).setCell ⟨wr.heap.size, 4, none⟩ (.bool xx) = W' := ⟨_, rfl⟩
                                         have lpb : wr.heap.size ≤ pb := Nat.le_of_eq hpb
                                         rw [hW5] at P5 q5
                                         rw [hpb] at P5
                                         rw [hW5, hpb]
                                         clear hW5 hpb q2 b2 ZP zc0 zc1 zc2 zc3 zc4 zcf zcl y2 yl z0 zl)
                                      | (have bn := bal W2 (.cells #[.int .i64 2, .int .i64 xd, .bool false, .bool xu, .bool xx] 62)
                                         have P5 := Blk.new W2 62 [.int .i64 2, .int .i64 xd, .bool false, .bool xu, .bool xx]
                                         have q5 := q2.trans (bn.mono q2.size)
                                         obtain ⟨pb, hpb⟩ : ∃ t, W2.heap.size = t := ⟨_, rfl⟩
                                         obtain ⟨W5, hW5⟩ : ∃ W', W2.alloc (.cells #[.int .i64 2, .int .i64 xd, .bool false, .bool xu, .bool xx] 62) = W' := ⟨_, rfl⟩
                                         have lpb : wr.heap.size ≤ pb := by rw [← hpb]; exact q2.size
                                         rw [show (W2.alloc (.cells ([.int .i64 2, .int .i64 xd, .bool false, .bool xu, .bool xx] : List Value).toArray 62)) = W5 from hW5, hpb] at P5
                                         rw [hW5] at q5
                                         rw [hW5, hpb]
                                         clear hW5 hpb bn q2 b2 y2 yl z0 zl))
                                    all_goals
                                      have k0 := P5.cell (k := 0) rfl
                                      have k1 := P5.cell (k := 1) rfl
                                      have k2 := P5.cell (k := 2) rfl
                                      have k3 := P5.cell (k := 3) rfl
                                      have k4 := P5.cell (k := 4) rfl
                                      have kl := P5.lt
                                      have v0 := (q5.cell (p := ⟨d0, _, none⟩) lb0).trans O0.out
                                      have v1 := (q5.cell (p := ⟨d0, _, none⟩) lb0).trans O1.out
                                      have v2 := (q5.cell (p := ⟨d0, _, none⟩) lb0).trans O2.out
                                      have v3 := (q5.cell (p := ⟨d0, _, none⟩) lb0).trans O3.out
                                      have v4 := (q5.cell (p := ⟨d0, _, none⟩) lb0).trans O4.out
                                      have vl := Nat.lt_of_lt_of_le lb0 q5.size
                                      have hne := slot_neq
                                      have HQ5 := Lib.hid q5
                                      have HP5 := Lib.hid P5
                                      clear q5 P5 n1 n1' n2 n2' d2 dl c9 lb9
                                      go_upto_region 38 with (fail)
                                      have b8 := bal W5 (.cells #[.int .i64 2, .int .i64 xd, .bool xw, .bool xu, .bool xx] 62)
                                      have P8 := Blk.new W5 62 [.int .i64 2, .int .i64 xd, .bool xw, .bool xu, .bool xx]
                                      obtain ⟨ob, hob⟩ : ∃ t, W5.heap.size = t := ⟨_, rfl⟩
                                      obtain ⟨W8, hW8⟩ : ∃ W', W5.alloc (.cells #[.int .i64 2, .int .i64 xd, .bool xw, .bool xu, .bool xx] 62) = W' := ⟨_, rfl⟩
                                      rw [show (W5.alloc (.cells ([.int .i64 2, .int .i64 xd, .bool xw, .bool xu, .bool xx] : List Value).toArray 62)) = W8 from hW8, hob] at P8
                                      rw [hW8] at b8
                                      rw [hW8, hob]
                                      have lob : W5.heap.size ≤ ob := Nat.le_of_eq hob
                                      clear hW8 hob v0 v1 v2 v3 v4 vl k0 k1 k2 k3 k4
                                      have j0 := P8.cell (k := 0) rfl
                                      have j1 := P8.cell (k := 1) rfl
                                      have j2 := P8.cell (k := 2) rfl
                                      have j3 := P8.cell (k := 3) rfl
                                      have j4 := P8.cell (k := 4) rfl
                                      have jl := P8.lt
                                      have HP8 := Lib.hid P8
                                      clear P8
                                      go_upto_region 39 with (fail)
                                      have b9' := bal W8 (.cells #[.int .i64 2, .int .i64 xd, .bool xw, .bool xu, .bool xx] 62)
                                      have P9 := Blk.new W8 62 [.int .i64 2, .int .i64 xd, .bool xw, .bool xu, .bool xx]
                                      obtain ⟨cb, hcb⟩ : ∃ t, W8.heap.size = t := ⟨_, rfl⟩
                                      obtain ⟨W9, hW9⟩ : ∃ W', W8.alloc (.cells #[.int .i64 2, .int .i64 xd, .bool xw, .bool xu, .bool xx] 62) = W' := ⟨_, rfl⟩
                                      rw [show (W8.alloc (.cells ([.int .i64 2, .int .i64 xd, .bool xw, .bool xu, .bool xx] : List Value).toArray 62)) = W9 from hW9, hcb] at P9
                                      rw [hW9] at b9'
                                      rw [hW9, hcb]
                                      have lcb : W8.heap.size ≤ cb := Nat.le_of_eq hcb
                                      have Q9 := b8.trans (b9'.mono b8.size)
                                      have HO9 := Lib.hid (HP8.out.past b9')
                                      have HK9 := Lib.hid (HP5.out.past Q9)
                                      have npc : pb ≠ cb := by have := b8.size; omega
                                      have npc' : cb ≠ pb := fun e => npc e.symm
                                      have noc : ob ≠ cb := by omega
                                      have noc' : cb ≠ ob := fun e => noc e.symm
                                      have HQ9 := Lib.hid (HQ5.out.trans (Q9.mono HQ5.out.size))
                                      have lwc : wr.heap.size ≤ cb := by have := b8.size; have := HQ5.out.size; omega
                                      clear hW9 hcb j0 j1 j2 j3 j4 jl b8 b9' Q9 kl lob lcb
                                      have j0 := HO9.out.cell (k := 0) rfl
                                      have j1 := HO9.out.cell (k := 1) rfl
                                      have jl := HO9.out.lt
                                      have w0' := P9.cell (k := 0) rfl
                                      have w1' := P9.cell (k := 1) rfl
                                      have w2' := P9.cell (k := 2) rfl
                                      have w3' := P9.cell (k := 3) rfl
                                      have w4' := P9.cell (k := 4) rfl
                                      have wf' := fun j => P9.free j
                                      have wl' := P9.lt
                                      go_upto_region 41 with (fail)
                                      have P10 := P9.set 2 (.bool false)
                                      have HO10 := Lib.hid (HO9.out.other (a := ⟨cb, 2, none⟩) noc (.bool false))
                                      have HK10 := Lib.hid (HK9.out.other (a := ⟨cb, 2, none⟩) npc (.bool false))
                                      have Q10 := HQ9.out.setCell (p := ⟨cb, 2, none⟩) lwc (.bool false)
                                      obtain ⟨W10, hW10⟩ : ∃ W', W9.setCell ⟨cb, 2, none⟩ (.bool false) = W' := ⟨_, rfl⟩
                                      rw [hW10] at P10 Q10 HO10 HK10
                                      rw [hW10]
                                      clear hW10 j0 j1 jl w0' w1' w2' w3' w4' wf' wl'
                                      have HP10 := Lib.hid (show Blk W10 cb 62 [.int .i64 2, .int .i64 xd, .bool false, .bool xu, .bool xx] from P10)
                                      have HQ10 := Lib.hid Q10
                                      clear P10 Q10 P9
                                      have BB := HB'.out.trans (HQ10.out.mono HB'.out.size)
                                      have HBB := Lib.hid BB
                                      have c9 := HC9.out _ BB
                                      have lb9 := HL9.out _ BB
                                      have c7' := HC7.out _ BB
                                      have lb7 := HL7.out _ BB
                                      have d1 := (HW.out.past BB).wd3.cell (k := 1) rfl
                                      have dl := (HW.out.past BB).wd3.lt
                                      have j0 := HO10.out.cell (k := 0) rfl
                                      have jl := HO10.out.lt
                                      have w0' := HP10.out.cell (k := 0) rfl
                                      have w1' := HP10.out.cell (k := 1) rfl
                                      have w2' := HP10.out.cell (k := 2) rfl
                                      have w3' := HP10.out.cell (k := 3) rfl
                                      have w4' := HP10.out.cell (k := 4) rfl
                                      have wl' := HP10.out.lt
                                      have k0 := HK10.out.cell (k := 0) rfl
                                      have k1 := HK10.out.cell (k := 1) rfl
                                      have k2 := HK10.out.cell (k := 2) rfl
                                      have k3 := HK10.out.cell (k := 3) rfl
                                      have k4 := HK10.out.cell (k := 4) rfl
                                      have kl := HK10.out.lt
                                      clear BB
                                      go_wp2_with (go_at_call 28; (with_reducible refine (HGet.out _ HQ10.out).mono ?_); rintro e WG ⟨rfl, rfl⟩)
                                      go_quiet (fail)
                                      go_wp2_with fail
                                      go_roundw
                                      case rel => exact ⟨q + 1, by omega, by simp, below_drewN HBB.out _⟩
                                      case measure => simp [intOf]; omega
                              · have fg : (xd == g) = false := beq_eq_false_iff_ne.2 hg2
                                rw [if_neg (show ¬ ((2 : Int) = 2 ∧ xd = g) from fun h => hg2 h.2)] at hnew
                                clear hg2
                                dsimp only at hnew
                                by_cases hpq : pf = qf
                                · have fpq : (pf == qf) = true := beq_iff_eq.2 hpq
                                  cases ag1 with
                                  | true =>
                                    rw [if_pos hpq, if_neg (show ¬ ((2 : Int) = 2 ∧ agrees _ _ = false) from fun h => by rw [hag1] at h; exact Bool.noConfusion h.2)] at hnew
                                    clear hpq
                                    as_aux_lemma =>
                                      have hst : ∀ W, Below wr.heap.size wr W → Calls Try.prog 27 #[.pointer (some ⟨A.sp, 0, none⟩), .int .i64 pf, .int .i64 (q : Int)] W fun e w' => e = .returned (.tuple #[.agg #[.int .i64 2, .int .i64 xd, .bool xw, .bool xu, .bool xx], .bool true]) ∧ Below W.heap.size W w' := fun W hW => sslot_any (HH3.out.past hW).sx pf (q : Int) _ hnew
                                      have HSt := Lib.hid hst
                                      clear hst hnew
                                      go_wp2_with fail
                                      go_region_held3 (fun w' => w'.cell? ⟨wb, 2, none⟩ = some (.pointer (some ⟨A.sp, 0, none⟩)) ∧ w'.cell? ⟨b9, m, none⟩ = some (.int .i64 pf)) (go_keep) (first
                                        | (go_at_call 27; (with_reducible refine (HSt.out wr.drew ((Below.refl _ wr).drew)).mono ?_); rintro e W2 ⟨rfl, b2⟩; have q2 := (Below.refl wr.heap.size wr).drew.trans b2; have y2 := (HH3.out.past q2).wd3.cell (k := 2) rfl; have yl := (HH3.out.past q2).wd3.lt; have z0 := (q2.cell (p := ⟨b9, m, none⟩) lb9).trans LR.out; have zl := Nat.lt_of_lt_of_le lb9 q2.size)
                                        | (go_at_call 27; (with_reducible refine (HSt.out (wr.alloc (.cells #[.int .i64 0, .int .i64 0, .bool false, .bool false, .bool false] 62)).drew ((bal wr (.cells #[.int .i64 0, .int .i64 0, .bool false, .bool false, .bool false] 62)).drew)).mono ?_); rintro e W2 ⟨rfl, b2⟩; have q2 := (bal wr (.cells #[.int .i64 0, .int .i64 0, .bool false, .bool false, .bool false] 62)).drew.trans (b2.mono (by simp)); have y2 := (HH3.out.past q2).wd3.cell (k := 2) rfl; have yl := (HH3.out.past q2).wd3.lt; have z0 := (q2.cell (p := ⟨b9, m, none⟩) lb9).trans LR.out; have zl := Nat.lt_of_lt_of_le lb9 q2.size; have ZP := (Blk.new wr 62 [.int .i64 0, .int .i64 0, .bool false, .bool false, .bool false]).drew.past b2; have zc0 := ZP.cell (k := 0) rfl; have zc1 := ZP.cell (k := 1) rfl; have zc2 := ZP.cell (k := 2) rfl; have zc3 := ZP.cell (k := 3) rfl; have zc4 := ZP.cell (k := 4) rfl; have zcf := fun j => ZP.free j; have zcl := ZP.lt))
                                      all_goals (first
                                        | (obtain ⟨P5, q5⟩ := set5 (.int .i64 2) (.int .i64 xd) (.bool xw) (.bool xu) (.bool xx) ZP q2 (Nat.le_refl _)
                                           obtain ⟨pb, hpb⟩ : ∃ t, wr.heap.size = t := ⟨_, rfl⟩
                                           obtain ⟨W5, hW5⟩ : ∃ W', ((((W2.setCell ⟨wr.heap.size, 0, none⟩ (.int .i64 2)).setCell ⟨wr.heap.size, 1, none⟩ (.int .i64 xd)).setCell ⟨wr.heap.size, 2, none⟩ (.bool xw)).setCell ⟨wr.heap.size, 3, none⟩ (.bool xu)).setCell ⟨wr.heap.size, 4, none⟩ (.bool xx) = W' := ⟨_, rfl⟩
                                           have lpb : wr.heap.size ≤ pb := Nat.le_of_eq hpb
                                           rw [hW5] at P5 q5
                                           rw [hpb] at P5
                                           rw [hW5, hpb]
                                           clear hW5 hpb q2 b2 ZP zc0 zc1 zc2 zc3 zc4 zcf zcl y2 yl z0 zl)
                                        | (have bn := bal W2 (.cells #[.int .i64 2, .int .i64 xd, .bool xw, .bool xu, .bool xx] 62)
                                           have P5 := Blk.new W2 62 [.int .i64 2, .int .i64 xd, .bool xw, .bool xu, .bool xx]
                                           have q5 := q2.trans (bn.mono q2.size)
                                           obtain ⟨pb, hpb⟩ : ∃ t, W2.heap.size = t := ⟨_, rfl⟩
                                           obtain ⟨W5, hW5⟩ : ∃ W', W2.alloc (.cells #[.int .i64 2, .int .i64 xd, .bool xw, .bool xu, .bool xx] 62) = W' := ⟨_, rfl⟩
                                           have lpb : wr.heap.size ≤ pb := by rw [← hpb]; exact q2.size
                                           rw [show (W2.alloc (.cells ([.int .i64 2, .int .i64 xd, .bool xw, .bool xu, .bool xx] : List Value).toArray 62)) = W5 from hW5, hpb] at P5
                                           rw [hW5] at q5
                                           rw [hW5, hpb]
                                           clear hW5 hpb bn q2 b2 y2 yl z0 zl))
                                      all_goals
                                        have k0 := P5.cell (k := 0) rfl
                                        have k1 := P5.cell (k := 1) rfl
                                        have k2 := P5.cell (k := 2) rfl
                                        have k3 := P5.cell (k := 3) rfl
                                        have k4 := P5.cell (k := 4) rfl
                                        have kl := P5.lt
                                        have v0 := (q5.cell (p := ⟨d0, _, none⟩) lb0).trans O0.out
                                        have v1 := (q5.cell (p := ⟨d0, _, none⟩) lb0).trans O1.out
                                        have v2 := (q5.cell (p := ⟨d0, _, none⟩) lb0).trans O2.out
                                        have v3 := (q5.cell (p := ⟨d0, _, none⟩) lb0).trans O3.out
                                        have v4 := (q5.cell (p := ⟨d0, _, none⟩) lb0).trans O4.out
                                        have vl := Nat.lt_of_lt_of_le lb0 q5.size
                                        have hne := slot_neq
                                        have HQ5 := Lib.hid q5
                                        have HP5 := Lib.hid P5
                                        clear q5 P5 n1 n1' n2 n2' d2 dl c9 lb9
                                        go_upto_region 38 with (fail)
                                        have b8 := bal W5 (.cells #[.int .i64 2, .int .i64 xd, .bool xw, .bool xu, .bool xx] 62)
                                        have P8 := Blk.new W5 62 [.int .i64 2, .int .i64 xd, .bool xw, .bool xu, .bool xx]
                                        obtain ⟨ob, hob⟩ : ∃ t, W5.heap.size = t := ⟨_, rfl⟩
                                        obtain ⟨W8, hW8⟩ : ∃ W', W5.alloc (.cells #[.int .i64 2, .int .i64 xd, .bool xw, .bool xu, .bool xx] 62) = W' := ⟨_, rfl⟩
                                        rw [show (W5.alloc (.cells ([.int .i64 2, .int .i64 xd, .bool xw, .bool xu, .bool xx] : List Value).toArray 62)) = W8 from hW8, hob] at P8
                                        rw [hW8] at b8
                                        rw [hW8, hob]
                                        have lob : W5.heap.size ≤ ob := Nat.le_of_eq hob
                                        clear hW8 hob v0 v1 v2 v3 v4 vl k0 k1 k2 k3 k4
                                        have j0 := P8.cell (k := 0) rfl
                                        have j1 := P8.cell (k := 1) rfl
                                        have j2 := P8.cell (k := 2) rfl
                                        have j3 := P8.cell (k := 3) rfl
                                        have j4 := P8.cell (k := 4) rfl
                                        have jl := P8.lt
                                        have HP8 := Lib.hid P8
                                        clear P8
                                        go_upto_region 39 with (fail)
                                        have b9' := bal W8 (.cells #[.int .i64 2, .int .i64 xd, .bool xw, .bool xu, .bool xx] 62)
                                        have P9 := Blk.new W8 62 [.int .i64 2, .int .i64 xd, .bool xw, .bool xu, .bool xx]
                                        obtain ⟨cb, hcb⟩ : ∃ t, W8.heap.size = t := ⟨_, rfl⟩
                                        obtain ⟨W9, hW9⟩ : ∃ W', W8.alloc (.cells #[.int .i64 2, .int .i64 xd, .bool xw, .bool xu, .bool xx] 62) = W' := ⟨_, rfl⟩
                                        rw [show (W8.alloc (.cells ([.int .i64 2, .int .i64 xd, .bool xw, .bool xu, .bool xx] : List Value).toArray 62)) = W9 from hW9, hcb] at P9
                                        rw [hW9] at b9'
                                        rw [hW9, hcb]
                                        have lcb : W8.heap.size ≤ cb := Nat.le_of_eq hcb
                                        have Q9 := b8.trans (b9'.mono b8.size)
                                        have HO9 := Lib.hid (HP8.out.past b9')
                                        have HK9 := Lib.hid (HP5.out.past Q9)
                                        have npc : pb ≠ cb := by have := b8.size; omega
                                        have npc' : cb ≠ pb := fun e => npc e.symm
                                        have noc : ob ≠ cb := by omega
                                        have noc' : cb ≠ ob := fun e => noc e.symm
                                        have HQ9 := Lib.hid (HQ5.out.trans (Q9.mono HQ5.out.size))
                                        have lwc : wr.heap.size ≤ cb := by have := b8.size; have := HQ5.out.size; omega
                                        clear hW9 hcb j0 j1 j2 j3 j4 jl b8 b9' Q9 kl lob lcb
                                        have j0 := HO9.out.cell (k := 0) rfl
                                        have j1 := HO9.out.cell (k := 1) rfl
                                        have jl := HO9.out.lt
                                        have w0' := P9.cell (k := 0) rfl
                                        have w1' := P9.cell (k := 1) rfl
                                        have w2' := P9.cell (k := 2) rfl
                                        have w3' := P9.cell (k := 3) rfl
                                        have w4' := P9.cell (k := 4) rfl
                                        have wf' := fun j => P9.free j
                                        have wl' := P9.lt
                                        go_upto_region 41 with (fail)
                                        obtain ⟨W10, hW10⟩ : ∃ W', W9 = W' := ⟨_, rfl⟩
                                        subst hW10
                                        have HP10 := Lib.hid (show Blk W9 cb 62 [.int .i64 2, .int .i64 xd, .bool xw, .bool xu, .bool xx] from P9)
                                        have HO10 := Lib.hid HO9.out
                                        have HK10 := Lib.hid HK9.out
                                        have HQ10 := Lib.hid HQ9.out
                                        clear j0 j1 jl w0' w1' w2' w3' w4' wf' wl' P9
                                        have BB := HB'.out.trans (HQ10.out.mono HB'.out.size)
                                        have HBB := Lib.hid BB
                                        have c9 := HC9.out _ BB
                                        have lb9 := HL9.out _ BB
                                        have c7' := HC7.out _ BB
                                        have lb7 := HL7.out _ BB
                                        have d1 := (HW.out.past BB).wd3.cell (k := 1) rfl
                                        have dl := (HW.out.past BB).wd3.lt
                                        have j0 := HO10.out.cell (k := 0) rfl
                                        have jl := HO10.out.lt
                                        have w0' := HP10.out.cell (k := 0) rfl
                                        have w1' := HP10.out.cell (k := 1) rfl
                                        have w2' := HP10.out.cell (k := 2) rfl
                                        have w3' := HP10.out.cell (k := 3) rfl
                                        have w4' := HP10.out.cell (k := 4) rfl
                                        have wl' := HP10.out.lt
                                        have k0 := HK10.out.cell (k := 0) rfl
                                        have k1 := HK10.out.cell (k := 1) rfl
                                        have k2 := HK10.out.cell (k := 2) rfl
                                        have k3 := HK10.out.cell (k := 3) rfl
                                        have k4 := HK10.out.cell (k := 4) rfl
                                        have kl := HK10.out.lt
                                        clear BB
                                        go_wp2_with (go_at_call 28; (with_reducible refine (HGet.out _ HQ10.out).mono ?_); rintro e WG ⟨rfl, rfl⟩)
                                        go_region_held3 (fun w' => w'.cell? ⟨b9, m, none⟩ = some (.int .i64 pf) ∧ w'.cell? ⟨b7, 0, none⟩ = some (.int .i64 qf) ∧ w'.cell? ⟨ob, 0, none⟩ = some (.int .i64 2) ∧ w'.cell? ⟨cb, 0, none⟩ = some (.int .i64 2) ∧ w'.cell? ⟨cb, 1, none⟩ = some (.int .i64 xd) ∧ w'.cell? ⟨cb, 2, none⟩ = some (.bool xw) ∧ w'.cell? ⟨cb, 3, none⟩ = some (.bool xu) ∧ w'.cell? ⟨cb, 4, none⟩ = some (.bool xx)) (go_keep) (first
                                          | (go_at_call 30; (with_reducible refine (HPt.out _).mono ?_); rintro e X1 ⟨rfl, p1⟩; have z1 := (Below.refl W9.heap.size W9).drew.trans p1; have BBa := HBB.out.trans (z1.mono HBB.out.size); have c9a := HC9.out _ BBa; have lb9a := HL9.out _ BBa; have c7a := HC7.out _ BBa; have lb7a := HL7.out _ BBa; have j0a := (HO10.out.past z1).cell (k := 0) rfl; have jla := (HO10.out.past z1).lt; have w0a := (HP10.out.past z1).cell (k := 0) rfl; have w1a := (HP10.out.past z1).cell (k := 1) rfl; have w2a := (HP10.out.past z1).cell (k := 2) rfl; have w3a := (HP10.out.past z1).cell (k := 3) rfl; have w4a := (HP10.out.past z1).cell (k := 4) rfl; have wla := (HP10.out.past z1).lt)
                                          | (go_at_call 29; (with_reducible refine (HAg.out _ _).mono ?_); rintro e X2 ⟨rfl, p2⟩; rw [hag1]; have z2 := z1.trans (p2.mono z1.size); have BBb := HBB.out.trans (z2.mono HBB.out.size); have c9b := HC9.out _ BBb; have lb9b := HL9.out _ BBb; have c7b := HC7.out _ BBb; have lb7b := HL7.out _ BBb; have j0b := (HO10.out.past z2).cell (k := 0) rfl; have jlb := (HO10.out.past z2).lt; have w0b := (HP10.out.past z2).cell (k := 0) rfl; have w1b := (HP10.out.past z2).cell (k := 1) rfl; have w2b := (HP10.out.past z2).cell (k := 2) rfl; have w3b := (HP10.out.past z2).cell (k := 3) rfl; have w4b := (HP10.out.past z2).cell (k := 4) rfl; have wlb := (HP10.out.past z2).lt; clear BBa c9a lb9a c7a lb7a j0a jla w0a w1a w2a w3a w4a wla))
                                        all_goals
                                          have k0 := (HK10.out.past z2).cell (k := 0) rfl
                                          have k1 := (HK10.out.past z2).cell (k := 1) rfl
                                          have k2 := (HK10.out.past z2).cell (k := 2) rfl
                                          have k3 := (HK10.out.past z2).cell (k := 3) rfl
                                          have k4 := (HK10.out.past z2).cell (k := 4) rfl
                                          have kl := (HK10.out.past z2).lt
                                          have wfb := fun j => (HP10.out.past z2).free j
                                          go_wp2_with fail
                                          go_roundw
                                          case rel => exact ⟨q + 1, by omega, by simp, BBb⟩
                                          case measure => simp [intOf]; omega
                                  | false =>
                                    rw [if_pos hpq, if_pos (show (2 : Int) = 2 ∧ agrees _ _ = false from ⟨rfl, hag1⟩)] at hnew
                                    clear hpq
                                    as_aux_lemma =>
                                      have hst : ∀ W, Below wr.heap.size wr W → Calls Try.prog 27 #[.pointer (some ⟨A.sp, 0, none⟩), .int .i64 pf, .int .i64 (q : Int)] W fun e w' => e = .returned (.tuple #[.agg #[.int .i64 0, .int .i64 0, .bool false, .bool false, .bool false], .bool true]) ∧ Below W.heap.size W w' := fun W hW => sslot_any (HH3.out.past hW).sx pf (q : Int) _ hnew
                                      have HSt := Lib.hid hst
                                      clear hst hnew
                                      go_wp2_with fail
                                      go_region_held3 (fun w' => w'.cell? ⟨wb, 2, none⟩ = some (.pointer (some ⟨A.sp, 0, none⟩)) ∧ w'.cell? ⟨b9, m, none⟩ = some (.int .i64 pf)) (go_keep) (first
                                        | (go_at_call 27; (with_reducible refine (HSt.out wr.drew ((Below.refl _ wr).drew)).mono ?_); rintro e W2 ⟨rfl, b2⟩; have q2 := (Below.refl wr.heap.size wr).drew.trans b2; have y2 := (HH3.out.past q2).wd3.cell (k := 2) rfl; have yl := (HH3.out.past q2).wd3.lt; have z0 := (q2.cell (p := ⟨b9, m, none⟩) lb9).trans LR.out; have zl := Nat.lt_of_lt_of_le lb9 q2.size)
                                        | (go_at_call 27; (with_reducible refine (HSt.out (wr.alloc (.cells #[.int .i64 0, .int .i64 0, .bool false, .bool false, .bool false] 62)).drew ((bal wr (.cells #[.int .i64 0, .int .i64 0, .bool false, .bool false, .bool false] 62)).drew)).mono ?_); rintro e W2 ⟨rfl, b2⟩; have q2 := (bal wr (.cells #[.int .i64 0, .int .i64 0, .bool false, .bool false, .bool false] 62)).drew.trans (b2.mono (by simp)); have y2 := (HH3.out.past q2).wd3.cell (k := 2) rfl; have yl := (HH3.out.past q2).wd3.lt; have z0 := (q2.cell (p := ⟨b9, m, none⟩) lb9).trans LR.out; have zl := Nat.lt_of_lt_of_le lb9 q2.size; have ZP := (Blk.new wr 62 [.int .i64 0, .int .i64 0, .bool false, .bool false, .bool false]).drew.past b2; have zc0 := ZP.cell (k := 0) rfl; have zc1 := ZP.cell (k := 1) rfl; have zc2 := ZP.cell (k := 2) rfl; have zc3 := ZP.cell (k := 3) rfl; have zc4 := ZP.cell (k := 4) rfl; have zcf := fun j => ZP.free j; have zcl := ZP.lt))
                                      all_goals (first
                                        | (obtain ⟨P5, q5⟩ := set5 (.int .i64 0) (.int .i64 0) (.bool false) (.bool false) (.bool false) ZP q2 (Nat.le_refl _)
                                           obtain ⟨pb, hpb⟩ : ∃ t, wr.heap.size = t := ⟨_, rfl⟩
                                           obtain ⟨W5, hW5⟩ : ∃ W', ((((W2.setCell ⟨wr.heap.size, 0, none⟩ (.int .i64 0)).setCell ⟨wr.heap.size, 1, none⟩ (.int .i64 0)).setCell ⟨wr.heap.size, 2, none⟩ (.bool false)).setCell ⟨wr.heap.size, 3, none⟩ (.bool false)).setCell ⟨wr.heap.size, 4, none⟩ (.bool false) = W' := ⟨_, rfl⟩
                                           have lpb : wr.heap.size ≤ pb := Nat.le_of_eq hpb
                                           rw [hW5] at P5 q5
                                           rw [hpb] at P5
                                           rw [hW5, hpb]
                                           clear hW5 hpb q2 b2 ZP zc0 zc1 zc2 zc3 zc4 zcf zcl y2 yl z0 zl)
                                        | (have bn := bal W2 (.cells #[.int .i64 0, .int .i64 0, .bool false, .bool false, .bool false] 62)
                                           have P5 := Blk.new W2 62 [.int .i64 0, .int .i64 0, .bool false, .bool false, .bool false]
                                           have q5 := q2.trans (bn.mono q2.size)
                                           obtain ⟨pb, hpb⟩ : ∃ t, W2.heap.size = t := ⟨_, rfl⟩
                                           obtain ⟨W5, hW5⟩ : ∃ W', W2.alloc (.cells #[.int .i64 0, .int .i64 0, .bool false, .bool false, .bool false] 62) = W' := ⟨_, rfl⟩
                                           have lpb : wr.heap.size ≤ pb := by rw [← hpb]; exact q2.size
                                           rw [show (W2.alloc (.cells ([.int .i64 0, .int .i64 0, .bool false, .bool false, .bool false] : List Value).toArray 62)) = W5 from hW5, hpb] at P5
                                           rw [hW5] at q5
                                           rw [hW5, hpb]
                                           clear hW5 hpb bn q2 b2 y2 yl z0 zl))
                                      all_goals
                                        have k0 := P5.cell (k := 0) rfl
                                        have k1 := P5.cell (k := 1) rfl
                                        have k2 := P5.cell (k := 2) rfl
                                        have k3 := P5.cell (k := 3) rfl
                                        have k4 := P5.cell (k := 4) rfl
                                        have kl := P5.lt
                                        have v0 := (q5.cell (p := ⟨d0, _, none⟩) lb0).trans O0.out
                                        have v1 := (q5.cell (p := ⟨d0, _, none⟩) lb0).trans O1.out
                                        have v2 := (q5.cell (p := ⟨d0, _, none⟩) lb0).trans O2.out
                                        have v3 := (q5.cell (p := ⟨d0, _, none⟩) lb0).trans O3.out
                                        have v4 := (q5.cell (p := ⟨d0, _, none⟩) lb0).trans O4.out
                                        have vl := Nat.lt_of_lt_of_le lb0 q5.size
                                        have hne := slot_neq
                                        have HQ5 := Lib.hid q5
                                        have HP5 := Lib.hid P5
                                        clear q5 P5 n1 n1' n2 n2' d2 dl c9 lb9
                                        go_upto_region 38 with (fail)
                                        have b8 := bal W5 (.cells #[.int .i64 2, .int .i64 xd, .bool xw, .bool xu, .bool xx] 62)
                                        have P8 := Blk.new W5 62 [.int .i64 2, .int .i64 xd, .bool xw, .bool xu, .bool xx]
                                        obtain ⟨ob, hob⟩ : ∃ t, W5.heap.size = t := ⟨_, rfl⟩
                                        obtain ⟨W8, hW8⟩ : ∃ W', W5.alloc (.cells #[.int .i64 2, .int .i64 xd, .bool xw, .bool xu, .bool xx] 62) = W' := ⟨_, rfl⟩
                                        rw [show (W5.alloc (.cells ([.int .i64 2, .int .i64 xd, .bool xw, .bool xu, .bool xx] : List Value).toArray 62)) = W8 from hW8, hob] at P8
                                        rw [hW8] at b8
                                        rw [hW8, hob]
                                        have lob : W5.heap.size ≤ ob := Nat.le_of_eq hob
                                        clear hW8 hob v0 v1 v2 v3 v4 vl k0 k1 k2 k3 k4
                                        have j0 := P8.cell (k := 0) rfl
                                        have j1 := P8.cell (k := 1) rfl
                                        have j2 := P8.cell (k := 2) rfl
                                        have j3 := P8.cell (k := 3) rfl
                                        have j4 := P8.cell (k := 4) rfl
                                        have jl := P8.lt
                                        have HP8 := Lib.hid P8
                                        clear P8
                                        go_upto_region 39 with (fail)
                                        have b9' := bal W8 (.cells #[.int .i64 2, .int .i64 xd, .bool xw, .bool xu, .bool xx] 62)
                                        have P9 := Blk.new W8 62 [.int .i64 2, .int .i64 xd, .bool xw, .bool xu, .bool xx]
                                        obtain ⟨cb, hcb⟩ : ∃ t, W8.heap.size = t := ⟨_, rfl⟩
                                        obtain ⟨W9, hW9⟩ : ∃ W', W8.alloc (.cells #[.int .i64 2, .int .i64 xd, .bool xw, .bool xu, .bool xx] 62) = W' := ⟨_, rfl⟩
                                        rw [show (W8.alloc (.cells ([.int .i64 2, .int .i64 xd, .bool xw, .bool xu, .bool xx] : List Value).toArray 62)) = W9 from hW9, hcb] at P9
                                        rw [hW9] at b9'
                                        rw [hW9, hcb]
                                        have lcb : W8.heap.size ≤ cb := Nat.le_of_eq hcb
                                        have Q9 := b8.trans (b9'.mono b8.size)
                                        have HO9 := Lib.hid (HP8.out.past b9')
                                        have HK9 := Lib.hid (HP5.out.past Q9)
                                        have npc : pb ≠ cb := by have := b8.size; omega
                                        have npc' : cb ≠ pb := fun e => npc e.symm
                                        have noc : ob ≠ cb := by omega
                                        have noc' : cb ≠ ob := fun e => noc e.symm
                                        have HQ9 := Lib.hid (HQ5.out.trans (Q9.mono HQ5.out.size))
                                        have lwc : wr.heap.size ≤ cb := by have := b8.size; have := HQ5.out.size; omega
                                        clear hW9 hcb j0 j1 j2 j3 j4 jl b8 b9' Q9 kl lob lcb
                                        have j0 := HO9.out.cell (k := 0) rfl
                                        have j1 := HO9.out.cell (k := 1) rfl
                                        have jl := HO9.out.lt
                                        have w0' := P9.cell (k := 0) rfl
                                        have w1' := P9.cell (k := 1) rfl
                                        have w2' := P9.cell (k := 2) rfl
                                        have w3' := P9.cell (k := 3) rfl
                                        have w4' := P9.cell (k := 4) rfl
                                        have wf' := fun j => P9.free j
                                        have wl' := P9.lt
                                        go_upto_region 41 with (fail)
                                        obtain ⟨W10, hW10⟩ : ∃ W', W9 = W' := ⟨_, rfl⟩
                                        subst hW10
                                        have HP10 := Lib.hid (show Blk W9 cb 62 [.int .i64 2, .int .i64 xd, .bool xw, .bool xu, .bool xx] from P9)
                                        have HO10 := Lib.hid HO9.out
                                        have HK10 := Lib.hid HK9.out
                                        have HQ10 := Lib.hid HQ9.out
                                        clear j0 j1 jl w0' w1' w2' w3' w4' wf' wl' P9
                                        have BB := HB'.out.trans (HQ10.out.mono HB'.out.size)
                                        have HBB := Lib.hid BB
                                        have c9 := HC9.out _ BB
                                        have lb9 := HL9.out _ BB
                                        have c7' := HC7.out _ BB
                                        have lb7 := HL7.out _ BB
                                        have d1 := (HW.out.past BB).wd3.cell (k := 1) rfl
                                        have dl := (HW.out.past BB).wd3.lt
                                        have j0 := HO10.out.cell (k := 0) rfl
                                        have jl := HO10.out.lt
                                        have w0' := HP10.out.cell (k := 0) rfl
                                        have w1' := HP10.out.cell (k := 1) rfl
                                        have w2' := HP10.out.cell (k := 2) rfl
                                        have w3' := HP10.out.cell (k := 3) rfl
                                        have w4' := HP10.out.cell (k := 4) rfl
                                        have wl' := HP10.out.lt
                                        have k0 := HK10.out.cell (k := 0) rfl
                                        have k1 := HK10.out.cell (k := 1) rfl
                                        have k2 := HK10.out.cell (k := 2) rfl
                                        have k3 := HK10.out.cell (k := 3) rfl
                                        have k4 := HK10.out.cell (k := 4) rfl
                                        have kl := HK10.out.lt
                                        clear BB
                                        go_wp2_with (go_at_call 28; (with_reducible refine (HGet.out _ HQ10.out).mono ?_); rintro e WG ⟨rfl, rfl⟩)
                                        go_region_held3 (fun w' => w'.cell? ⟨b9, m, none⟩ = some (.int .i64 pf) ∧ w'.cell? ⟨b7, 0, none⟩ = some (.int .i64 qf) ∧ w'.cell? ⟨ob, 0, none⟩ = some (.int .i64 2) ∧ w'.cell? ⟨cb, 0, none⟩ = some (.int .i64 2) ∧ w'.cell? ⟨cb, 1, none⟩ = some (.int .i64 xd) ∧ w'.cell? ⟨cb, 2, none⟩ = some (.bool xw) ∧ w'.cell? ⟨cb, 3, none⟩ = some (.bool xu) ∧ w'.cell? ⟨cb, 4, none⟩ = some (.bool xx)) (go_keep) (first
                                          | (go_at_call 30; (with_reducible refine (HPt.out _).mono ?_); rintro e X1 ⟨rfl, p1⟩; have z1 := (Below.refl W9.heap.size W9).drew.trans p1; have BBa := HBB.out.trans (z1.mono HBB.out.size); have c9a := HC9.out _ BBa; have lb9a := HL9.out _ BBa; have c7a := HC7.out _ BBa; have lb7a := HL7.out _ BBa; have j0a := (HO10.out.past z1).cell (k := 0) rfl; have jla := (HO10.out.past z1).lt; have w0a := (HP10.out.past z1).cell (k := 0) rfl; have w1a := (HP10.out.past z1).cell (k := 1) rfl; have w2a := (HP10.out.past z1).cell (k := 2) rfl; have w3a := (HP10.out.past z1).cell (k := 3) rfl; have w4a := (HP10.out.past z1).cell (k := 4) rfl; have wla := (HP10.out.past z1).lt)
                                          | (go_at_call 29; (with_reducible refine (HAg.out _ _).mono ?_); rintro e X2 ⟨rfl, p2⟩; rw [hag1]; have z2 := z1.trans (p2.mono z1.size); have BBb := HBB.out.trans (z2.mono HBB.out.size); have c9b := HC9.out _ BBb; have lb9b := HL9.out _ BBb; have c7b := HC7.out _ BBb; have lb7b := HL7.out _ BBb; have j0b := (HO10.out.past z2).cell (k := 0) rfl; have jlb := (HO10.out.past z2).lt; have w0b := (HP10.out.past z2).cell (k := 0) rfl; have w1b := (HP10.out.past z2).cell (k := 1) rfl; have w2b := (HP10.out.past z2).cell (k := 2) rfl; have w3b := (HP10.out.past z2).cell (k := 3) rfl; have w4b := (HP10.out.past z2).cell (k := 4) rfl; have wlb := (HP10.out.past z2).lt; clear BBa c9a lb9a c7a lb7a j0a jla w0a w1a w2a w3a w4a wla))
                                        all_goals
                                          have hW6c : W6.heap.size ≤ cb := by have := HB'.out.size; omega
                                          have k0 := (HK10.out.past z2).cell (k := 0) rfl
                                          have k1 := (HK10.out.past z2).cell (k := 1) rfl
                                          have k2 := (HK10.out.past z2).cell (k := 2) rfl
                                          have k3 := (HK10.out.past z2).cell (k := 3) rfl
                                          have k4 := (HK10.out.past z2).cell (k := 4) rfl
                                          have kl := (HK10.out.past z2).lt
                                          have wfb := fun j => (HP10.out.past z2).free j
                                          go_wp2_with fail
                                          go_roundw
                                          case rel => exact ⟨q + 1, by omega, by simp, (((((BBb.setCell (p := ⟨cb, 0, none⟩) hW6c _).setCell (p := ⟨cb, 1, none⟩) hW6c _).setCell (p := ⟨cb, 2, none⟩) hW6c _).setCell (p := ⟨cb, 3, none⟩) hW6c _).setCell (p := ⟨cb, 4, none⟩) hW6c _)⟩
                                          case measure => simp [intOf]; omega
                                · have fpq : (pf == qf) = false := beq_eq_false_iff_ne.2 hpq
                                  rw [if_neg hpq] at hnew
                                  clear hpq
                                  as_aux_lemma =>
                                    have hst : ∀ W, Below wr.heap.size wr W → Calls Try.prog 27 #[.pointer (some ⟨A.sp, 0, none⟩), .int .i64 pf, .int .i64 (q : Int)] W fun e w' => e = .returned (.tuple #[.agg #[.int .i64 2, .int .i64 xd, .bool xw, .bool xu, .bool xx], .bool true]) ∧ Below W.heap.size W w' := fun W hW => sslot_any (HH3.out.past hW).sx pf (q : Int) _ hnew
                                    have HSt := Lib.hid hst
                                    clear hst hnew
                                    go_wp2_with fail
                                    go_region_held3 (fun w' => w'.cell? ⟨wb, 2, none⟩ = some (.pointer (some ⟨A.sp, 0, none⟩)) ∧ w'.cell? ⟨b9, m, none⟩ = some (.int .i64 pf)) (go_keep) (first
                                      | (go_at_call 27; (with_reducible refine (HSt.out wr.drew ((Below.refl _ wr).drew)).mono ?_); rintro e W2 ⟨rfl, b2⟩; have q2 := (Below.refl wr.heap.size wr).drew.trans b2; have y2 := (HH3.out.past q2).wd3.cell (k := 2) rfl; have yl := (HH3.out.past q2).wd3.lt; have z0 := (q2.cell (p := ⟨b9, m, none⟩) lb9).trans LR.out; have zl := Nat.lt_of_lt_of_le lb9 q2.size)
                                      | (go_at_call 27; (with_reducible refine (HSt.out (wr.alloc (.cells #[.int .i64 0, .int .i64 0, .bool false, .bool false, .bool false] 62)).drew ((bal wr (.cells #[.int .i64 0, .int .i64 0, .bool false, .bool false, .bool false] 62)).drew)).mono ?_); rintro e W2 ⟨rfl, b2⟩; have q2 := (bal wr (.cells #[.int .i64 0, .int .i64 0, .bool false, .bool false, .bool false] 62)).drew.trans (b2.mono (by simp)); have y2 := (HH3.out.past q2).wd3.cell (k := 2) rfl; have yl := (HH3.out.past q2).wd3.lt; have z0 := (q2.cell (p := ⟨b9, m, none⟩) lb9).trans LR.out; have zl := Nat.lt_of_lt_of_le lb9 q2.size; have ZP := (Blk.new wr 62 [.int .i64 0, .int .i64 0, .bool false, .bool false, .bool false]).drew.past b2; have zc0 := ZP.cell (k := 0) rfl; have zc1 := ZP.cell (k := 1) rfl; have zc2 := ZP.cell (k := 2) rfl; have zc3 := ZP.cell (k := 3) rfl; have zc4 := ZP.cell (k := 4) rfl; have zcf := fun j => ZP.free j; have zcl := ZP.lt))
                                    all_goals (first
                                      | (obtain ⟨P5, q5⟩ := set5 (.int .i64 2) (.int .i64 xd) (.bool xw) (.bool xu) (.bool xx) ZP q2 (Nat.le_refl _)
                                         obtain ⟨pb, hpb⟩ : ∃ t, wr.heap.size = t := ⟨_, rfl⟩
                                         obtain ⟨W5, hW5⟩ : ∃ W', ((((W2.setCell ⟨wr.heap.size, 0, none⟩ (.int .i64 2)).setCell ⟨wr.heap.size, 1, none⟩ (.int .i64 xd)).setCell ⟨wr.heap.size, 2, none⟩ (.bool xw)).setCell ⟨wr.heap.size, 3, none⟩ (.bool xu)).setCell ⟨wr.heap.size, 4, none⟩ (.bool xx) = W' := ⟨_, rfl⟩
                                         have lpb : wr.heap.size ≤ pb := Nat.le_of_eq hpb
                                         rw [hW5] at P5 q5
                                         rw [hpb] at P5
                                         rw [hW5, hpb]
                                         clear hW5 hpb q2 b2 ZP zc0 zc1 zc2 zc3 zc4 zcf zcl y2 yl z0 zl)
                                      | (have bn := bal W2 (.cells #[.int .i64 2, .int .i64 xd, .bool xw, .bool xu, .bool xx] 62)
                                         have P5 := Blk.new W2 62 [.int .i64 2, .int .i64 xd, .bool xw, .bool xu, .bool xx]
                                         have q5 := q2.trans (bn.mono q2.size)
                                         obtain ⟨pb, hpb⟩ : ∃ t, W2.heap.size = t := ⟨_, rfl⟩
                                         obtain ⟨W5, hW5⟩ : ∃ W', W2.alloc (.cells #[.int .i64 2, .int .i64 xd, .bool xw, .bool xu, .bool xx] 62) = W' := ⟨_, rfl⟩
                                         have lpb : wr.heap.size ≤ pb := by rw [← hpb]; exact q2.size
                                         rw [show (W2.alloc (.cells ([.int .i64 2, .int .i64 xd, .bool xw, .bool xu, .bool xx] : List Value).toArray 62)) = W5 from hW5, hpb] at P5
                                         rw [hW5] at q5
                                         rw [hW5, hpb]
                                         clear hW5 hpb bn q2 b2 y2 yl z0 zl))
                                    all_goals
                                      have k0 := P5.cell (k := 0) rfl
                                      have k1 := P5.cell (k := 1) rfl
                                      have k2 := P5.cell (k := 2) rfl
                                      have k3 := P5.cell (k := 3) rfl
                                      have k4 := P5.cell (k := 4) rfl
                                      have kl := P5.lt
                                      have v0 := (q5.cell (p := ⟨d0, _, none⟩) lb0).trans O0.out
                                      have v1 := (q5.cell (p := ⟨d0, _, none⟩) lb0).trans O1.out
                                      have v2 := (q5.cell (p := ⟨d0, _, none⟩) lb0).trans O2.out
                                      have v3 := (q5.cell (p := ⟨d0, _, none⟩) lb0).trans O3.out
                                      have v4 := (q5.cell (p := ⟨d0, _, none⟩) lb0).trans O4.out
                                      have vl := Nat.lt_of_lt_of_le lb0 q5.size
                                      have hne := slot_neq
                                      have HQ5 := Lib.hid q5
                                      have HP5 := Lib.hid P5
                                      clear q5 P5 n1 n1' n2 n2' d2 dl c9 lb9
                                      go_upto_region 38 with (fail)
                                      have b8 := bal W5 (.cells #[.int .i64 2, .int .i64 xd, .bool xw, .bool xu, .bool xx] 62)
                                      have P8 := Blk.new W5 62 [.int .i64 2, .int .i64 xd, .bool xw, .bool xu, .bool xx]
                                      obtain ⟨ob, hob⟩ : ∃ t, W5.heap.size = t := ⟨_, rfl⟩
                                      obtain ⟨W8, hW8⟩ : ∃ W', W5.alloc (.cells #[.int .i64 2, .int .i64 xd, .bool xw, .bool xu, .bool xx] 62) = W' := ⟨_, rfl⟩
                                      rw [show (W5.alloc (.cells ([.int .i64 2, .int .i64 xd, .bool xw, .bool xu, .bool xx] : List Value).toArray 62)) = W8 from hW8, hob] at P8
                                      rw [hW8] at b8
                                      rw [hW8, hob]
                                      have lob : W5.heap.size ≤ ob := Nat.le_of_eq hob
                                      clear hW8 hob v0 v1 v2 v3 v4 vl k0 k1 k2 k3 k4
                                      have j0 := P8.cell (k := 0) rfl
                                      have j1 := P8.cell (k := 1) rfl
                                      have j2 := P8.cell (k := 2) rfl
                                      have j3 := P8.cell (k := 3) rfl
                                      have j4 := P8.cell (k := 4) rfl
                                      have jl := P8.lt
                                      have HP8 := Lib.hid P8
                                      clear P8
                                      go_upto_region 39 with (fail)
                                      have b9' := bal W8 (.cells #[.int .i64 2, .int .i64 xd, .bool xw, .bool xu, .bool xx] 62)
                                      have P9 := Blk.new W8 62 [.int .i64 2, .int .i64 xd, .bool xw, .bool xu, .bool xx]
                                      obtain ⟨cb, hcb⟩ : ∃ t, W8.heap.size = t := ⟨_, rfl⟩
                                      obtain ⟨W9, hW9⟩ : ∃ W', W8.alloc (.cells #[.int .i64 2, .int .i64 xd, .bool xw, .bool xu, .bool xx] 62) = W' := ⟨_, rfl⟩
                                      rw [show (W8.alloc (.cells ([.int .i64 2, .int .i64 xd, .bool xw, .bool xu, .bool xx] : List Value).toArray 62)) = W9 from hW9, hcb] at P9
                                      rw [hW9] at b9'
                                      rw [hW9, hcb]
                                      have lcb : W8.heap.size ≤ cb := Nat.le_of_eq hcb
                                      have Q9 := b8.trans (b9'.mono b8.size)
                                      have HO9 := Lib.hid (HP8.out.past b9')
                                      have HK9 := Lib.hid (HP5.out.past Q9)
                                      have npc : pb ≠ cb := by have := b8.size; omega
                                      have npc' : cb ≠ pb := fun e => npc e.symm
                                      have noc : ob ≠ cb := by omega
                                      have noc' : cb ≠ ob := fun e => noc e.symm
                                      have HQ9 := Lib.hid (HQ5.out.trans (Q9.mono HQ5.out.size))
                                      have lwc : wr.heap.size ≤ cb := by have := b8.size; have := HQ5.out.size; omega
                                      clear hW9 hcb j0 j1 j2 j3 j4 jl b8 b9' Q9 kl lob lcb
                                      have j0 := HO9.out.cell (k := 0) rfl
                                      have j1 := HO9.out.cell (k := 1) rfl
                                      have jl := HO9.out.lt
                                      have w0' := P9.cell (k := 0) rfl
                                      have w1' := P9.cell (k := 1) rfl
                                      have w2' := P9.cell (k := 2) rfl
                                      have w3' := P9.cell (k := 3) rfl
                                      have w4' := P9.cell (k := 4) rfl
                                      have wf' := fun j => P9.free j
                                      have wl' := P9.lt
                                      go_upto_region 41 with (fail)
                                      obtain ⟨W10, hW10⟩ : ∃ W', W9 = W' := ⟨_, rfl⟩
                                      subst hW10
                                      have HP10 := Lib.hid (show Blk W9 cb 62 [.int .i64 2, .int .i64 xd, .bool xw, .bool xu, .bool xx] from P9)
                                      have HO10 := Lib.hid HO9.out
                                      have HK10 := Lib.hid HK9.out
                                      have HQ10 := Lib.hid HQ9.out
                                      clear j0 j1 jl w0' w1' w2' w3' w4' wf' wl' P9
                                      have BB := HB'.out.trans (HQ10.out.mono HB'.out.size)
                                      have HBB := Lib.hid BB
                                      have c9 := HC9.out _ BB
                                      have lb9 := HL9.out _ BB
                                      have c7' := HC7.out _ BB
                                      have lb7 := HL7.out _ BB
                                      have d1 := (HW.out.past BB).wd3.cell (k := 1) rfl
                                      have dl := (HW.out.past BB).wd3.lt
                                      have j0 := HO10.out.cell (k := 0) rfl
                                      have jl := HO10.out.lt
                                      have w0' := HP10.out.cell (k := 0) rfl
                                      have w1' := HP10.out.cell (k := 1) rfl
                                      have w2' := HP10.out.cell (k := 2) rfl
                                      have w3' := HP10.out.cell (k := 3) rfl
                                      have w4' := HP10.out.cell (k := 4) rfl
                                      have wl' := HP10.out.lt
                                      have k0 := HK10.out.cell (k := 0) rfl
                                      have k1 := HK10.out.cell (k := 1) rfl
                                      have k2 := HK10.out.cell (k := 2) rfl
                                      have k3 := HK10.out.cell (k := 3) rfl
                                      have k4 := HK10.out.cell (k := 4) rfl
                                      have kl := HK10.out.lt
                                      clear BB
                                      go_wp2_with (go_at_call 28; (with_reducible refine (HGet.out _ HQ10.out).mono ?_); rintro e WG ⟨rfl, rfl⟩)
                                      go_quiet (fail)
                                      go_wp2_with fail
                                      go_roundw
                                      case rel => exact ⟨q + 1, by omega, by simp, below_drewN HBB.out _⟩
                                      case measure => simp [intOf]; omega
                            · have f2 : (xk == 2) = false := beq_eq_false_iff_ne.2 hk2
                              rw [if_neg (show ¬ (xk = 2 ∧ xd = g) from fun h => hk2 h.1), if_neg (show ¬ (xk = 2 ∧ agrees _ _ = false) from fun h => hk2 h.1), ite_self] at hnew
                              clear hk2
                              by_cases hpq : pf = qf
                              · have fpq : (pf == qf) = true := beq_iff_eq.2 hpq
                                clear hpq
                                as_aux_lemma =>
                                  have hst : ∀ W, Below wr.heap.size wr W → Calls Try.prog 27 #[.pointer (some ⟨A.sp, 0, none⟩), .int .i64 pf, .int .i64 (q : Int)] W fun e w' => e = .returned (.tuple #[.agg #[.int .i64 xk, .int .i64 xd, .bool xw, .bool xu, .bool xx], .bool true]) ∧ Below W.heap.size W w' := fun W hW => sslot_any (HH3.out.past hW).sx pf (q : Int) _ hnew
                                  have HSt := Lib.hid hst
                                  clear hst hnew
                                  go_wp2_with fail
                                  go_region_held3 (fun w' => w'.cell? ⟨wb, 2, none⟩ = some (.pointer (some ⟨A.sp, 0, none⟩)) ∧ w'.cell? ⟨b9, m, none⟩ = some (.int .i64 pf)) (go_keep) (first
                                    | (go_at_call 27; (with_reducible refine (HSt.out wr.drew ((Below.refl _ wr).drew)).mono ?_); rintro e W2 ⟨rfl, b2⟩; have q2 := (Below.refl wr.heap.size wr).drew.trans b2; have y2 := (HH3.out.past q2).wd3.cell (k := 2) rfl; have yl := (HH3.out.past q2).wd3.lt; have z0 := (q2.cell (p := ⟨b9, m, none⟩) lb9).trans LR.out; have zl := Nat.lt_of_lt_of_le lb9 q2.size)
                                    | (go_at_call 27; (with_reducible refine (HSt.out (wr.alloc (.cells #[.int .i64 0, .int .i64 0, .bool false, .bool false, .bool false] 62)).drew ((bal wr (.cells #[.int .i64 0, .int .i64 0, .bool false, .bool false, .bool false] 62)).drew)).mono ?_); rintro e W2 ⟨rfl, b2⟩; have q2 := (bal wr (.cells #[.int .i64 0, .int .i64 0, .bool false, .bool false, .bool false] 62)).drew.trans (b2.mono (by simp)); have y2 := (HH3.out.past q2).wd3.cell (k := 2) rfl; have yl := (HH3.out.past q2).wd3.lt; have z0 := (q2.cell (p := ⟨b9, m, none⟩) lb9).trans LR.out; have zl := Nat.lt_of_lt_of_le lb9 q2.size; have ZP := (Blk.new wr 62 [.int .i64 0, .int .i64 0, .bool false, .bool false, .bool false]).drew.past b2; have zc0 := ZP.cell (k := 0) rfl; have zc1 := ZP.cell (k := 1) rfl; have zc2 := ZP.cell (k := 2) rfl; have zc3 := ZP.cell (k := 3) rfl; have zc4 := ZP.cell (k := 4) rfl; have zcf := fun j => ZP.free j; have zcl := ZP.lt))
                                  all_goals (first
                                    | (obtain ⟨P5, q5⟩ := set5 (.int .i64 xk) (.int .i64 xd) (.bool xw) (.bool xu) (.bool xx) ZP q2 (Nat.le_refl _)
                                       obtain ⟨pb, hpb⟩ : ∃ t, wr.heap.size = t := ⟨_, rfl⟩
                                       obtain ⟨W5, hW5⟩ : ∃ W', ((((W2.setCell ⟨wr.heap.size, 0, none⟩ (.int .i64 xk)).setCell ⟨wr.heap.size, 1, none⟩ (.int .i64 xd)).setCell ⟨wr.heap.size, 2, none⟩ (.bool xw)).setCell ⟨wr.heap.size, 3, none⟩ (.bool xu)).setCell ⟨wr.heap.size, 4, none⟩ (.bool xx) = W' := ⟨_, rfl⟩
                                       have lpb : wr.heap.size ≤ pb := Nat.le_of_eq hpb
                                       rw [hW5] at P5 q5
                                       rw [hpb] at P5
                                       rw [hW5, hpb]
                                       clear hW5 hpb q2 b2 ZP zc0 zc1 zc2 zc3 zc4 zcf zcl y2 yl z0 zl)
                                    | (have bn := bal W2 (.cells #[.int .i64 xk, .int .i64 xd, .bool xw, .bool xu, .bool xx] 62)
                                       have P5 := Blk.new W2 62 [.int .i64 xk, .int .i64 xd, .bool xw, .bool xu, .bool xx]
                                       have q5 := q2.trans (bn.mono q2.size)
                                       obtain ⟨pb, hpb⟩ : ∃ t, W2.heap.size = t := ⟨_, rfl⟩
                                       obtain ⟨W5, hW5⟩ : ∃ W', W2.alloc (.cells #[.int .i64 xk, .int .i64 xd, .bool xw, .bool xu, .bool xx] 62) = W' := ⟨_, rfl⟩
                                       have lpb : wr.heap.size ≤ pb := by rw [← hpb]; exact q2.size
                                       rw [show (W2.alloc (.cells ([.int .i64 xk, .int .i64 xd, .bool xw, .bool xu, .bool xx] : List Value).toArray 62)) = W5 from hW5, hpb] at P5
                                       rw [hW5] at q5
                                       rw [hW5, hpb]
                                       clear hW5 hpb bn q2 b2 y2 yl z0 zl))
                                  all_goals
                                    have k0 := P5.cell (k := 0) rfl
                                    have k1 := P5.cell (k := 1) rfl
                                    have k2 := P5.cell (k := 2) rfl
                                    have k3 := P5.cell (k := 3) rfl
                                    have k4 := P5.cell (k := 4) rfl
                                    have kl := P5.lt
                                    have v0 := (q5.cell (p := ⟨d0, _, none⟩) lb0).trans O0.out
                                    have v1 := (q5.cell (p := ⟨d0, _, none⟩) lb0).trans O1.out
                                    have v2 := (q5.cell (p := ⟨d0, _, none⟩) lb0).trans O2.out
                                    have v3 := (q5.cell (p := ⟨d0, _, none⟩) lb0).trans O3.out
                                    have v4 := (q5.cell (p := ⟨d0, _, none⟩) lb0).trans O4.out
                                    have vl := Nat.lt_of_lt_of_le lb0 q5.size
                                    have hne := slot_neq
                                    have HQ5 := Lib.hid q5
                                    have HP5 := Lib.hid P5
                                    clear q5 P5 n1 n1' n2 n2' d2 dl c9 lb9
                                    go_upto_region 38 with (fail)
                                    have b8 := bal W5 (.cells #[.int .i64 xk, .int .i64 xd, .bool xw, .bool xu, .bool xx] 62)
                                    have P8 := Blk.new W5 62 [.int .i64 xk, .int .i64 xd, .bool xw, .bool xu, .bool xx]
                                    obtain ⟨ob, hob⟩ : ∃ t, W5.heap.size = t := ⟨_, rfl⟩
                                    obtain ⟨W8, hW8⟩ : ∃ W', W5.alloc (.cells #[.int .i64 xk, .int .i64 xd, .bool xw, .bool xu, .bool xx] 62) = W' := ⟨_, rfl⟩
                                    rw [show (W5.alloc (.cells ([.int .i64 xk, .int .i64 xd, .bool xw, .bool xu, .bool xx] : List Value).toArray 62)) = W8 from hW8, hob] at P8
                                    rw [hW8] at b8
                                    rw [hW8, hob]
                                    have lob : W5.heap.size ≤ ob := Nat.le_of_eq hob
                                    clear hW8 hob v0 v1 v2 v3 v4 vl k0 k1 k2 k3 k4
                                    have j0 := P8.cell (k := 0) rfl
                                    have j1 := P8.cell (k := 1) rfl
                                    have j2 := P8.cell (k := 2) rfl
                                    have j3 := P8.cell (k := 3) rfl
                                    have j4 := P8.cell (k := 4) rfl
                                    have jl := P8.lt
                                    have HP8 := Lib.hid P8
                                    clear P8
                                    go_upto_region 39 with (fail)
                                    have b9' := bal W8 (.cells #[.int .i64 xk, .int .i64 xd, .bool xw, .bool xu, .bool xx] 62)
                                    have P9 := Blk.new W8 62 [.int .i64 xk, .int .i64 xd, .bool xw, .bool xu, .bool xx]
                                    obtain ⟨cb, hcb⟩ : ∃ t, W8.heap.size = t := ⟨_, rfl⟩
                                    obtain ⟨W9, hW9⟩ : ∃ W', W8.alloc (.cells #[.int .i64 xk, .int .i64 xd, .bool xw, .bool xu, .bool xx] 62) = W' := ⟨_, rfl⟩
                                    rw [show (W8.alloc (.cells ([.int .i64 xk, .int .i64 xd, .bool xw, .bool xu, .bool xx] : List Value).toArray 62)) = W9 from hW9, hcb] at P9
                                    rw [hW9] at b9'
                                    rw [hW9, hcb]
                                    have lcb : W8.heap.size ≤ cb := Nat.le_of_eq hcb
                                    have Q9 := b8.trans (b9'.mono b8.size)
                                    have HO9 := Lib.hid (HP8.out.past b9')
                                    have HK9 := Lib.hid (HP5.out.past Q9)
                                    have npc : pb ≠ cb := by have := b8.size; omega
                                    have npc' : cb ≠ pb := fun e => npc e.symm
                                    have noc : ob ≠ cb := by omega
                                    have noc' : cb ≠ ob := fun e => noc e.symm
                                    have HQ9 := Lib.hid (HQ5.out.trans (Q9.mono HQ5.out.size))
                                    have lwc : wr.heap.size ≤ cb := by have := b8.size; have := HQ5.out.size; omega
                                    clear hW9 hcb j0 j1 j2 j3 j4 jl b8 b9' Q9 kl lob lcb
                                    have j0 := HO9.out.cell (k := 0) rfl
                                    have j1 := HO9.out.cell (k := 1) rfl
                                    have jl := HO9.out.lt
                                    have w0' := P9.cell (k := 0) rfl
                                    have w1' := P9.cell (k := 1) rfl
                                    have w2' := P9.cell (k := 2) rfl
                                    have w3' := P9.cell (k := 3) rfl
                                    have w4' := P9.cell (k := 4) rfl
                                    have wf' := fun j => P9.free j
                                    have wl' := P9.lt
                                    go_upto_region 41 with (fail)
                                    obtain ⟨W10, hW10⟩ : ∃ W', W9 = W' := ⟨_, rfl⟩
                                    subst hW10
                                    have HP10 := Lib.hid (show Blk W9 cb 62 [.int .i64 xk, .int .i64 xd, .bool xw, .bool xu, .bool xx] from P9)
                                    have HO10 := Lib.hid HO9.out
                                    have HK10 := Lib.hid HK9.out
                                    have HQ10 := Lib.hid HQ9.out
                                    clear j0 j1 jl w0' w1' w2' w3' w4' wf' wl' P9
                                    have BB := HB'.out.trans (HQ10.out.mono HB'.out.size)
                                    have HBB := Lib.hid BB
                                    have c9 := HC9.out _ BB
                                    have lb9 := HL9.out _ BB
                                    have c7' := HC7.out _ BB
                                    have lb7 := HL7.out _ BB
                                    have d1 := (HW.out.past BB).wd3.cell (k := 1) rfl
                                    have dl := (HW.out.past BB).wd3.lt
                                    have j0 := HO10.out.cell (k := 0) rfl
                                    have jl := HO10.out.lt
                                    have w0' := HP10.out.cell (k := 0) rfl
                                    have w1' := HP10.out.cell (k := 1) rfl
                                    have w2' := HP10.out.cell (k := 2) rfl
                                    have w3' := HP10.out.cell (k := 3) rfl
                                    have w4' := HP10.out.cell (k := 4) rfl
                                    have wl' := HP10.out.lt
                                    have k0 := HK10.out.cell (k := 0) rfl
                                    have k1 := HK10.out.cell (k := 1) rfl
                                    have k2 := HK10.out.cell (k := 2) rfl
                                    have k3 := HK10.out.cell (k := 3) rfl
                                    have k4 := HK10.out.cell (k := 4) rfl
                                    have kl := HK10.out.lt
                                    clear BB
                                    go_wp2_with (go_at_call 28; (with_reducible refine (HGet.out _ HQ10.out).mono ?_); rintro e WG ⟨rfl, rfl⟩)
                                    go_quiet (fail)
                                    go_wp2_with fail
                                    go_roundw
                                    case rel => exact ⟨q + 1, by omega, by simp, below_drewN HBB.out _⟩
                                    case measure => simp [intOf]; omega
                              · have fpq : (pf == qf) = false := beq_eq_false_iff_ne.2 hpq
                                clear hpq
                                as_aux_lemma =>
                                  have hst : ∀ W, Below wr.heap.size wr W → Calls Try.prog 27 #[.pointer (some ⟨A.sp, 0, none⟩), .int .i64 pf, .int .i64 (q : Int)] W fun e w' => e = .returned (.tuple #[.agg #[.int .i64 xk, .int .i64 xd, .bool xw, .bool xu, .bool xx], .bool true]) ∧ Below W.heap.size W w' := fun W hW => sslot_any (HH3.out.past hW).sx pf (q : Int) _ hnew
                                  have HSt := Lib.hid hst
                                  clear hst hnew
                                  go_wp2_with fail
                                  go_region_held3 (fun w' => w'.cell? ⟨wb, 2, none⟩ = some (.pointer (some ⟨A.sp, 0, none⟩)) ∧ w'.cell? ⟨b9, m, none⟩ = some (.int .i64 pf)) (go_keep) (first
                                    | (go_at_call 27; (with_reducible refine (HSt.out wr.drew ((Below.refl _ wr).drew)).mono ?_); rintro e W2 ⟨rfl, b2⟩; have q2 := (Below.refl wr.heap.size wr).drew.trans b2; have y2 := (HH3.out.past q2).wd3.cell (k := 2) rfl; have yl := (HH3.out.past q2).wd3.lt; have z0 := (q2.cell (p := ⟨b9, m, none⟩) lb9).trans LR.out; have zl := Nat.lt_of_lt_of_le lb9 q2.size)
                                    | (go_at_call 27; (with_reducible refine (HSt.out (wr.alloc (.cells #[.int .i64 0, .int .i64 0, .bool false, .bool false, .bool false] 62)).drew ((bal wr (.cells #[.int .i64 0, .int .i64 0, .bool false, .bool false, .bool false] 62)).drew)).mono ?_); rintro e W2 ⟨rfl, b2⟩; have q2 := (bal wr (.cells #[.int .i64 0, .int .i64 0, .bool false, .bool false, .bool false] 62)).drew.trans (b2.mono (by simp)); have y2 := (HH3.out.past q2).wd3.cell (k := 2) rfl; have yl := (HH3.out.past q2).wd3.lt; have z0 := (q2.cell (p := ⟨b9, m, none⟩) lb9).trans LR.out; have zl := Nat.lt_of_lt_of_le lb9 q2.size; have ZP := (Blk.new wr 62 [.int .i64 0, .int .i64 0, .bool false, .bool false, .bool false]).drew.past b2; have zc0 := ZP.cell (k := 0) rfl; have zc1 := ZP.cell (k := 1) rfl; have zc2 := ZP.cell (k := 2) rfl; have zc3 := ZP.cell (k := 3) rfl; have zc4 := ZP.cell (k := 4) rfl; have zcf := fun j => ZP.free j; have zcl := ZP.lt))
                                  all_goals (first
                                    | (obtain ⟨P5, q5⟩ := set5 (.int .i64 xk) (.int .i64 xd) (.bool xw) (.bool xu) (.bool xx) ZP q2 (Nat.le_refl _)
                                       obtain ⟨pb, hpb⟩ : ∃ t, wr.heap.size = t := ⟨_, rfl⟩
                                       obtain ⟨W5, hW5⟩ : ∃ W', ((((W2.setCell ⟨wr.heap.size, 0, none⟩ (.int .i64 xk)).setCell ⟨wr.heap.size, 1, none⟩ (.int .i64 xd)).setCell ⟨wr.heap.size, 2, none⟩ (.bool xw)).setCell ⟨wr.heap.size, 3, none⟩ (.bool xu)).setCell ⟨wr.heap.size, 4, none⟩ (.bool xx) = W' := ⟨_, rfl⟩
                                       have lpb : wr.heap.size ≤ pb := Nat.le_of_eq hpb
                                       rw [hW5] at P5 q5
                                       rw [hpb] at P5
                                       rw [hW5, hpb]
                                       clear hW5 hpb q2 b2 ZP zc0 zc1 zc2 zc3 zc4 zcf zcl y2 yl z0 zl)
                                    | (have bn := bal W2 (.cells #[.int .i64 xk, .int .i64 xd, .bool xw, .bool xu, .bool xx] 62)
                                       have P5 := Blk.new W2 62 [.int .i64 xk, .int .i64 xd, .bool xw, .bool xu, .bool xx]
                                       have q5 := q2.trans (bn.mono q2.size)
                                       obtain ⟨pb, hpb⟩ : ∃ t, W2.heap.size = t := ⟨_, rfl⟩
                                       obtain ⟨W5, hW5⟩ : ∃ W', W2.alloc (.cells #[.int .i64 xk, .int .i64 xd, .bool xw, .bool xu, .bool xx] 62) = W' := ⟨_, rfl⟩
                                       have lpb : wr.heap.size ≤ pb := by rw [← hpb]; exact q2.size
                                       rw [show (W2.alloc (.cells ([.int .i64 xk, .int .i64 xd, .bool xw, .bool xu, .bool xx] : List Value).toArray 62)) = W5 from hW5, hpb] at P5
                                       rw [hW5] at q5
                                       rw [hW5, hpb]
                                       clear hW5 hpb bn q2 b2 y2 yl z0 zl))
                                  all_goals
                                    have k0 := P5.cell (k := 0) rfl
                                    have k1 := P5.cell (k := 1) rfl
                                    have k2 := P5.cell (k := 2) rfl
                                    have k3 := P5.cell (k := 3) rfl
                                    have k4 := P5.cell (k := 4) rfl
                                    have kl := P5.lt
                                    have v0 := (q5.cell (p := ⟨d0, _, none⟩) lb0).trans O0.out
                                    have v1 := (q5.cell (p := ⟨d0, _, none⟩) lb0).trans O1.out
                                    have v2 := (q5.cell (p := ⟨d0, _, none⟩) lb0).trans O2.out
                                    have v3 := (q5.cell (p := ⟨d0, _, none⟩) lb0).trans O3.out
                                    have v4 := (q5.cell (p := ⟨d0, _, none⟩) lb0).trans O4.out
                                    have vl := Nat.lt_of_lt_of_le lb0 q5.size
                                    have hne := slot_neq
                                    have HQ5 := Lib.hid q5
                                    have HP5 := Lib.hid P5
                                    clear q5 P5 n1 n1' n2 n2' d2 dl c9 lb9
                                    go_upto_region 38 with (fail)
                                    have b8 := bal W5 (.cells #[.int .i64 xk, .int .i64 xd, .bool xw, .bool xu, .bool xx] 62)
                                    have P8 := Blk.new W5 62 [.int .i64 xk, .int .i64 xd, .bool xw, .bool xu, .bool xx]
                                    obtain ⟨ob, hob⟩ : ∃ t, W5.heap.size = t := ⟨_, rfl⟩
                                    obtain ⟨W8, hW8⟩ : ∃ W', W5.alloc (.cells #[.int .i64 xk, .int .i64 xd, .bool xw, .bool xu, .bool xx] 62) = W' := ⟨_, rfl⟩
                                    rw [show (W5.alloc (.cells ([.int .i64 xk, .int .i64 xd, .bool xw, .bool xu, .bool xx] : List Value).toArray 62)) = W8 from hW8, hob] at P8
                                    rw [hW8] at b8
                                    rw [hW8, hob]
                                    have lob : W5.heap.size ≤ ob := Nat.le_of_eq hob
                                    clear hW8 hob v0 v1 v2 v3 v4 vl k0 k1 k2 k3 k4
                                    have j0 := P8.cell (k := 0) rfl
                                    have j1 := P8.cell (k := 1) rfl
                                    have j2 := P8.cell (k := 2) rfl
                                    have j3 := P8.cell (k := 3) rfl
                                    have j4 := P8.cell (k := 4) rfl
                                    have jl := P8.lt
                                    have HP8 := Lib.hid P8
                                    clear P8
                                    go_upto_region 39 with (fail)
                                    have b9' := bal W8 (.cells #[.int .i64 xk, .int .i64 xd, .bool xw, .bool xu, .bool xx] 62)
                                    have P9 := Blk.new W8 62 [.int .i64 xk, .int .i64 xd, .bool xw, .bool xu, .bool xx]
                                    obtain ⟨cb, hcb⟩ : ∃ t, W8.heap.size = t := ⟨_, rfl⟩
                                    obtain ⟨W9, hW9⟩ : ∃ W', W8.alloc (.cells #[.int .i64 xk, .int .i64 xd, .bool xw, .bool xu, .bool xx] 62) = W' := ⟨_, rfl⟩
                                    rw [show (W8.alloc (.cells ([.int .i64 xk, .int .i64 xd, .bool xw, .bool xu, .bool xx] : List Value).toArray 62)) = W9 from hW9, hcb] at P9
                                    rw [hW9] at b9'
                                    rw [hW9, hcb]
                                    have lcb : W8.heap.size ≤ cb := Nat.le_of_eq hcb
                                    have Q9 := b8.trans (b9'.mono b8.size)
                                    have HO9 := Lib.hid (HP8.out.past b9')
                                    have HK9 := Lib.hid (HP5.out.past Q9)
                                    have npc : pb ≠ cb := by have := b8.size; omega
                                    have npc' : cb ≠ pb := fun e => npc e.symm
                                    have noc : ob ≠ cb := by omega
                                    have noc' : cb ≠ ob := fun e => noc e.symm
                                    have HQ9 := Lib.hid (HQ5.out.trans (Q9.mono HQ5.out.size))
                                    have lwc : wr.heap.size ≤ cb := by have := b8.size; have := HQ5.out.size; omega
                                    clear hW9 hcb j0 j1 j2 j3 j4 jl b8 b9' Q9 kl lob lcb
                                    have j0 := HO9.out.cell (k := 0) rfl
                                    have j1 := HO9.out.cell (k := 1) rfl
                                    have jl := HO9.out.lt
                                    have w0' := P9.cell (k := 0) rfl
                                    have w1' := P9.cell (k := 1) rfl
                                    have w2' := P9.cell (k := 2) rfl
                                    have w3' := P9.cell (k := 3) rfl
                                    have w4' := P9.cell (k := 4) rfl
                                    have wf' := fun j => P9.free j
                                    have wl' := P9.lt
                                    go_upto_region 41 with (fail)
                                    obtain ⟨W10, hW10⟩ : ∃ W', W9 = W' := ⟨_, rfl⟩
                                    subst hW10
                                    have HP10 := Lib.hid (show Blk W9 cb 62 [.int .i64 xk, .int .i64 xd, .bool xw, .bool xu, .bool xx] from P9)
                                    have HO10 := Lib.hid HO9.out
                                    have HK10 := Lib.hid HK9.out
                                    have HQ10 := Lib.hid HQ9.out
                                    clear j0 j1 jl w0' w1' w2' w3' w4' wf' wl' P9
                                    have BB := HB'.out.trans (HQ10.out.mono HB'.out.size)
                                    have HBB := Lib.hid BB
                                    have c9 := HC9.out _ BB
                                    have lb9 := HL9.out _ BB
                                    have c7' := HC7.out _ BB
                                    have lb7 := HL7.out _ BB
                                    have d1 := (HW.out.past BB).wd3.cell (k := 1) rfl
                                    have dl := (HW.out.past BB).wd3.lt
                                    have j0 := HO10.out.cell (k := 0) rfl
                                    have jl := HO10.out.lt
                                    have w0' := HP10.out.cell (k := 0) rfl
                                    have w1' := HP10.out.cell (k := 1) rfl
                                    have w2' := HP10.out.cell (k := 2) rfl
                                    have w3' := HP10.out.cell (k := 3) rfl
                                    have w4' := HP10.out.cell (k := 4) rfl
                                    have wl' := HP10.out.lt
                                    have k0 := HK10.out.cell (k := 0) rfl
                                    have k1 := HK10.out.cell (k := 1) rfl
                                    have k2 := HK10.out.cell (k := 2) rfl
                                    have k3 := HK10.out.cell (k := 3) rfl
                                    have k4 := HK10.out.cell (k := 4) rfl
                                    have kl := HK10.out.lt
                                    clear BB
                                    go_wp2_with (go_at_call 28; (with_reducible refine (HGet.out _ HQ10.out).mono ?_); rintro e WG ⟨rfl, rfl⟩)
                                    go_quiet (fail)
                                    go_wp2_with fail
                                    go_roundw
                                    case rel => exact ⟨q + 1, by omega, by simp, below_drewN HBB.out _⟩
                                    case measure => simp [intOf]; omega
                          · have fq : decide ((q : Int) < 8) = false := decide_eq_false (by omega)
                            have HB' := Lib.hid hB
                            clear hB
                            go_wp2_with fail
                            go_roundw
                            case rel => exact ⟨m + 1, by omega, by simp, HB'.out⟩
                            case measure => simp [intOf]; omega
                      · obtain rfl : n = m := by omega
                        have HB0 := Lib.hid (HW.out.past hB)
                        clear hB
                        go_wp2_with fail
                        go_ret
                        exact ⟨rfl, HB0.out.below⟩
end Go.Proofs.Ytldmlmojokicaaa
