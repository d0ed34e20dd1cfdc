/- ModelTwo's walk. -/
import Derived.Test.YtgaififhhffpfaaDoorOps
import Derived.Test.YtgaififhhffpfaaDoorTwoP
import Derived.Test.YtgaififhhffpfaaDoorMRoots
import Derived.Laws.StructEq
namespace Go.Proofs.YtgaififhhffpfaaDoor
open Go.RowKit Go.Shelf

set_option maxRecDepth 100000 in
set_option maxHeartbeats 8000000 in
theorem ModelTwo_nat (w : World) (hg : EC w) (a : Option Addr) (c : Nat) (l : List (Int × Int × Nat)) (hp : Ps w a l) (hlen : l.length ≤ 9223372036854775807) (oa : Option Addr) (oc : Nat) (ops : List Op10) (hop : Ops w oa ops) (holen : ops.length ≤ 9223372036854775807) (ma : Option Addr) (mc : Nat) (ms : List Op10) (hms : Ops w ma ms) (hmlen : ms.length ≤ 9223372036854775807) (page : Nat) (hpg : page < 65536) :
    Calls Tryd.prog 4 #[.slice a l.length c, .slice oa ops.length oc, .slice ma ms.length mc, .int .u16 (page : Int)] w fun e w' => e = .returned (.bool true) ∧ Below w.heap.size w w' := by
  have hh := head10_any w hg
  have hm := fun W (hb : Below w.heap.size w W) => made_any W a c l (hp.below hb) hlen
  have hB1 : 1 ≤ w.heap.size := lt_of_cell hg
  obtain ⟨len, hl⟩ : ∃ len, l.length = len := ⟨_, rfl⟩
  obtain ⟨on, hol⟩ : ∃ n, ops.length = n := ⟨_, rfl⟩
  obtain ⟨mem, hmem⟩ : ∃ mem, puts l = mem := ⟨_, rfl⟩
  have hpl := puts_len' l
  rw [hmem] at hpl
  rw [hl] at hm hlen ⊢
  rw [hol] at holen ⊢
  rw [hmem] at hm
  have HH := Lib.hid hh
  have HM := Lib.hid hm
  have HE := Lib.hid hg
  have HB1 := Lib.hid hB1
  have HOp := Lib.hid hop
  have HOl := Lib.hid hol
  have HPl := Lib.hid hpl
  obtain ⟨mn, hml⟩ : ∃ n, ms.length = n := ⟨_, rfl⟩
  rw [hml] at hmlen ⊢
  have HMs := Lib.hid hms
  have HMl := Lib.hid hml
  obtain ⟨n, hn⟩ : ∃ n : Nat, page % 512 = n := ⟨_, rfl⟩
  have hn1 : (page : Int) % 512 = (n : Int) := by omega
  have n0 : (0 : Int) ≤ (n : Int) := by omega
  have n9 : (n : Int) ≤ 9223372036854775807 := by omega
  have p0 : (0 : Int) ≤ (page : Int) := by omega
  have p1 : (page : Int) < 65536 := by omega
  clear hh hm hg hB1 hop hol hpl hl hmem hp hlen hpg hn hms hml
  by_cases h600 : (600 : Int) < (len : Int)
  · go_enter Tryd.func4, Tryd.ntmps4
    go_wp2_with (first
      | (go_at_call 12; (with_reducible refine HH.out.mono ?_); rintro e W0 ⟨rfl, b0⟩)
      | (go_at_call 13; (with_reducible refine (HM.out _ b0).mono ?_); rintro e W1 ⟨⟨gp, fb, rfl, G1, q1, q2⟩, b1⟩; have A1 := b0.trans (b1.mono b0.size); have q2' := Nat.le_trans b0.size q2; clear q1 q2))
    go_ret
    exact ⟨rfl, A1⟩
  · by_cases h200 : (200 : Int) < (on : Int)
    · go_enter Tryd.func4, Tryd.ntmps4
      go_wp2_with (first
        | (go_at_call 12; (with_reducible refine HH.out.mono ?_); rintro e W0 ⟨rfl, b0⟩)
        | (go_at_call 13; (with_reducible refine (HM.out _ b0).mono ?_); rintro e W1 ⟨⟨gp, fb, rfl, G1, q1, q2⟩, b1⟩; have A1 := b0.trans (b1.mono b0.size); have q2' := Nat.le_trans b0.size q2; clear q1 q2))
      go_ret
      exact ⟨rfl, A1⟩
    · by_cases h201 : (200 : Int) < (mn : Int)
      · go_enter Tryd.func4, Tryd.ntmps4
        go_wp2_with (first
          | (go_at_call 12; (with_reducible refine HH.out.mono ?_); rintro e W0 ⟨rfl, b0⟩)
          | (go_at_call 13; (with_reducible refine (HM.out _ b0).mono ?_); rintro e W1 ⟨⟨gp, fb, rfl, G1, q1, q2⟩, b1⟩; have A1 := b0.trans (b1.mono b0.size); have q2' := Nat.le_trans b0.size q2; clear q1 q2))
        go_ret
        exact ⟨rfl, A1⟩
      · have h6' : decide ((600 : Int) < (len : Int)) = false := decide_eq_false_iff_not.2 h600
        have h2' : decide ((200 : Int) < (on : Int)) = false := decide_eq_false_iff_not.2 h200
        have h3' : decide ((200 : Int) < (mn : Int)) = false := decide_eq_false_iff_not.2 h201
        have ho2 : on ≤ 200 := by omega
        have hm2 : mn ≤ 200 := by omega
        have HO2 := Lib.hid ho2
        have HM2 := Lib.hid hm2
        clear h600 h200 h201 ho2 hm2
        go_enter Tryd.func4, Tryd.ntmps4
        go_wp2_with (first
          | (go_at_call 12; (with_reducible refine HH.out.mono ?_); rintro e W0 ⟨rfl, b0⟩)
          | (go_at_call 13; (with_reducible refine (HM.out _ b0).mono ?_); rintro e W1 ⟨⟨gp, fb, rfl, G1, q1, q2⟩, b1⟩; have A1 := b0.trans (b1.mono b0.size); have q2' := Nat.le_trans b0.size q2; clear q1 q2)
          | (go_at_call 14; (with_reducible refine (new_mm _ gp fb _ 1 G1 HPl.out w.heap.size A1.size q2').mono ?_); rintro e W2 ⟨⟨p, tp, rfl, M2⟩, b2⟩; have L2 : Lw w [] W2 p tp gp fb ⟨mem, 1, []⟩ := ⟨M2, A1.trans (b2.mono A1.size)⟩; clear M2 b2 A1 q2' b0 b1 G1))
        go_loopw [12] (fun i wr => ∃ k : Nat, k ≤ on ∧ i = .int .i64 k ∧ ∃ S, Lw w [] wr p tp gp fb S ∧ S.l.length ≤ k) (fun i _ => on - (intOf i).toNat)
        case atStart => exact ⟨0, by omega, rfl, _, L2, Nat.le_refl 0⟩
        case round =>
          obtain ⟨k, hk, rfl, S, L, hS⟩ := hrel
          clear L2
          by_cases hkl : k < on
          · obtain ⟨b, off, what, okind, ouser, ox, ov, og, oi, opage, rfl, hb1, _, ook, C0, C1, C2, C3, C4, C5, C6, C7⟩ := HOp.out.at k (by rw [HOl.out]; exact hkl)
            have c0 := (L.b.cell (p := ⟨b, _, none⟩) hb1).trans C0
            have c1 := (L.b.cell (p := ⟨b, _, none⟩) hb1).trans C1
            have c2 := (L.b.cell (p := ⟨b, _, none⟩) hb1).trans C2
            have c3 := (L.b.cell (p := ⟨b, _, none⟩) hb1).trans C3
            have c4 := (L.b.cell (p := ⟨b, _, none⟩) hb1).trans C4
            have c5 := (L.b.cell (p := ⟨b, _, none⟩) hb1).trans C5
            have c6 := (L.b.cell (p := ⟨b, _, none⟩) hb1).trans C6
            have c7 := (L.b.cell (p := ⟨b, _, none⟩) hb1).trans C7
            clear C0 C1 C2 C3 C4 C5 C6 C7
            have hdo := do_open L.m (L.ec HE.out) HB1.out L.b.size what okind ouser ox ov og oi opage ook
            have HDo := Lib.hid hdo
            have HLw := Lib.hid L
            clear hdo L ook hk
            have HS := Lib.hid hS
            clear hS
            go_wp2_with (first
              | (go_at_call 15; (with_reducible refine HDo.out.mono ?_); rintro e W3 ⟨rfl, D⟩; have L3 := HLw.out.did D))
            go_roundw
            case rel => exact ⟨k + 1, by omega, by simp, _, L3, Nat.le_trans (do_len1 _ _) (by have := HS.out; omega)⟩
            case measure => simp [intOf]; omega
          · obtain rfl : k = on := by omega
            clear hkl hk
            obtain ⟨o, ho⟩ : ∃ o, tget S.l 0 (n : Int) = o := ⟨_, rfl⟩
            obtain ⟨is, his⟩ : ∃ b, o.isSome = b := ⟨_, rfl⟩
            obtain ⟨⟨xa, xp, xf, ⟨xw, xu, xx⟩, xd⟩, hx⟩ : ∃ h, o.getD hit0 = h := ⟨_, rfl⟩
            have hkn : ∀ W p tp gp fb F S, Lw w F W p tp gp fb S → tget S.l 0 (n : Int) = o → Calls Tryd.prog 16 #[.pointer (some ⟨p, 0, none⟩), .int .i64 (n : Int)] W fun e w' => e = .returned (.tuple #[.agg #[.int .i64 xa, .int .i64 xp, .int .i64 xf, .bool xw, .bool xu, .bool xx, .bool xd], .bool is]) ∧ Below W.heap.size W w' := fun W p tp gp fb F S L ho => by
              have := known_mm L.m (n : Int) o ho
              rw [hx, his] at this; exact this
            have HKn := Lib.hid hkn
            have HLw := Lib.hid L
            have HO := Lib.hid ho
            have HS := Lib.hid hS
            clear hkn L ho hS hx his
            go_wp2_with (first
              | (go_at_call 16; (with_reducible refine (HKn.out _ _ _ _ _ _ _ HLw.out HO.out).mono ?_); rintro e W5 ⟨rfl, b5⟩; have L5 := HLw.out.past b5; have L5a : Lw w [W5.heap.size] (W5.alloc (.cells #[.int .i64 xa, .int .i64 xp, .int .i64 xf, .bool xw, .bool xu, .bool xx, .bool xd] 50)) p tp gp fb S := ⟨L5.m.add (bal W5 _) (Nat.le_refl _) (by simp), (L5.past (bal W5 _)).b⟩; have X5 := Blk.new W5 50 [.int .i64 xa, .int .i64 xp, .int .i64 xf, .bool xw, .bool xu, .bool xx, .bool xd]))
            obtain ⟨W5a, hW5⟩ : ∃ W, W5.alloc (.cells #[.int .i64 xa, .int .i64 xp, .int .i64 xf, .bool xw, .bool xu, .bool xx, .bool xd] 50) = W := ⟨_, rfl⟩
            rw [show (W5.alloc (.cells ([.int .i64 xa, .int .i64 xp, .int .i64 xf, .bool xw, .bool xu, .bool xx, .bool xd] : List Value).toArray 50)) = W5a from hW5] at X5
            rw [hW5] at L5a ⊢
            obtain ⟨hb, hhb⟩ : ∃ b, W5.heap.size = b := ⟨_, rfl⟩
            rw [hhb] at L5a X5 ⊢
            clear hW5 hhb L5 b5
            go_loopw [16] (fun i wr => ∃ k : Nat, k ≤ mn ∧ i = .int .i64 k ∧ ∃ S', Lw w [hb] wr p tp gp fb S' ∧ tget S'.l 0 (n : Int) = o ∧ S'.l.length ≤ 200 + k ∧ Blk wr hb 50 [.int .i64 xa, .int .i64 xp, .int .i64 xf, .bool xw, .bool xu, .bool xx, .bool xd]) (fun i _ => mn - (intOf i).toNat)
            case atStart => exact ⟨0, by omega, rfl, _, L5a, HO.out, by have := HS.out; have := HO2.out; omega, X5⟩
            case round =>
              obtain ⟨k, hk, rfl, S', L, htg, hsl, X⟩ := hrel
              clear L5a X5
              by_cases hkl : k < mn
              · obtain ⟨b, off, what, okind, ouser, ox, ov, og, oi, opage, rfl, hb1, _, ook, C0, C1, C2, C3, C4, C5, C6, C7⟩ := HMs.out.at k (by rw [HMl.out]; exact hkl)
                have c0 := (L.b.cell (p := ⟨b, _, none⟩) hb1).trans C0
                have c1 := (L.b.cell (p := ⟨b, _, none⟩) hb1).trans C1
                have c2 := (L.b.cell (p := ⟨b, _, none⟩) hb1).trans C2
                have c3 := (L.b.cell (p := ⟨b, _, none⟩) hb1).trans C3
                have c4 := (L.b.cell (p := ⟨b, _, none⟩) hb1).trans C4
                have c5 := (L.b.cell (p := ⟨b, _, none⟩) hb1).trans C5
                have c6 := (L.b.cell (p := ⟨b, _, none⟩) hb1).trans C6
                have c7 := (L.b.cell (p := ⟨b, _, none⟩) hb1).trans C7
                clear C0 C1 C2 C3 C4 C5 C6 C7
                have hk : k < 200 := by have : mn ≤ 200 := HM2.out; omega
                have hpgc := fun W => rpage_any W ox ook.1
                have hdo := do_open (L.past (bal wr (.cells #[.int .i64 what, .int .i64 okind, .bool ouser, .int .u64 (ox : Int), .int .u64 (ov : Int), .int .i64 og, .int .i64 oi, .int .i64 opage] 46))).m ((L.past (bal wr (.cells #[.int .i64 what, .int .i64 okind, .bool ouser, .int .u64 (ox : Int), .int .u64 (ov : Int), .int .i64 og, .int .i64 oi, .int .i64 opage] 46))).ec HE.out) HB1.out (L.past (bal wr (.cells #[.int .i64 what, .int .i64 okind, .bool ouser, .int .u64 (ox : Int), .int .u64 (ov : Int), .int .i64 og, .int .i64 oi, .int .i64 opage] 46))).b.size what okind ouser ox ov og oi opage ook
                have HPg := Lib.hid hpgc
                have HDo := Lib.hid hdo
                have HLr := Lib.hid L
                have HX := Lib.hid X
                have HTg := Lib.hid htg
                have HSl := Lib.hid hsl
                have HK := Lib.hid hk
                have xl := X.lt
                clear hpgc hdo L X htg hsl ook hk
                rcases (show what < 4 ∨ 7 < what ∨ what = 4 ∨ what = 5 ∨ what = 6 ∨ what = 7 by omega) with hwh | hwh | h4 | h5 | h6 | h7
                · have HWh := Lib.hid hwh
                  have q1 : decide (what < 4) = true := by first | exact decide_eq_true (by omega) | exact decide_eq_false (by omega) | exact beq_iff_eq.2 (by omega) | exact beq_eq_false_iff_ne.2 (by omega)
                  have q2 : (what == 5) = false := by first | exact decide_eq_true (by omega) | exact decide_eq_false (by omega) | exact beq_iff_eq.2 (by omega) | exact beq_eq_false_iff_ne.2 (by omega)
                  have q3 : (what == 6) = false := by first | exact decide_eq_true (by omega) | exact decide_eq_false (by omega) | exact beq_iff_eq.2 (by omega) | exact beq_eq_false_iff_ne.2 (by omega)
                  have q4 : (what == 7) = false := by first | exact decide_eq_true (by omega) | exact decide_eq_false (by omega) | exact beq_iff_eq.2 (by omega) | exact beq_eq_false_iff_ne.2 (by omega)
                  clear hwh
                  have ne4 := HWh.out
                  by_cases hpg : (pageOf ox : Int) = (n : Int)
                  · have e : ((pageOf ox : Int) == (n : Int)) = true := beq_iff_eq.2 hpg
                    clear hpg ne4
                    go_wp2_with (go_at_call 17; (with_reducible refine (HPg.out _).mono ?_); rintro e W6 ⟨rfl, rfl⟩)
                    go_roundw
                    case rel => exact ⟨k + 1, by omega, by simp, _, HLr.out.past (bal wr (.cells #[.int .i64 what, .int .i64 okind, .bool ouser, .int .u64 (ox : Int), .int .u64 (ov : Int), .int .i64 og, .int .i64 oi, .int .i64 opage] 46)), HTg.out, Nat.le_succ_of_le HSl.out, HX.out.past (bal wr (.cells #[.int .i64 what, .int .i64 okind, .bool ouser, .int .u64 (ox : Int), .int .u64 (ov : Int), .int .i64 og, .int .i64 oi, .int .i64 opage] 46))⟩
                    case measure => simp [intOf]; omega
                  · have e : ((pageOf ox : Int) == (n : Int)) = false := beq_eq_false_iff_ne.2 hpg
                    have HNe := Lib.hid hpg
                    clear hpg ne4
                    go_wp2_with (first
                      | (go_at_call 17; (with_reducible refine (HPg.out _).mono ?_); rintro e W6 ⟨rfl, rfl⟩)
                      | (go_at_call 15; (with_reducible refine HDo.out.mono ?_); rintro e W7 ⟨rfl, D⟩; have L7 := (HLr.out.past (bal wr (.cells #[.int .i64 what, .int .i64 okind, .bool ouser, .int .u64 (ox : Int), .int .u64 (ov : Int), .int .i64 og, .int .i64 oi, .int .i64 opage] 46))).did D; have X7 := D.2.2.hit (HX.out.past (bal wr (.cells #[.int .i64 what, .int .i64 okind, .bool ouser, .int .u64 (ox : Int), .int .u64 (ov : Int), .int .i64 og, .int .i64 oi, .int .i64 opage] 46))) List.mem_cons_self))
                    go_roundw
                    case rel => exact ⟨k + 1, by omega, by simp, _, L7, (do_alone (by have := HK.out; have := HSl.out; omega) ⟨fun _ => HNe.out, fun h => by have := HWh.out; dsimp only at h; omega, fun h => by have := HWh.out; dsimp only at h; omega⟩).trans HTg.out, Nat.le_trans (do_len1 _ _) (by have := HSl.out; omega), X7⟩
                    case measure => simp [intOf]; omega
                · have HWh := Lib.hid hwh
                  have q5 : decide (what < 4) = false := by first | exact decide_eq_true (by omega) | exact decide_eq_false (by omega) | exact beq_iff_eq.2 (by omega) | exact beq_eq_false_iff_ne.2 (by omega)
                  have q6 : decide ((7 : Int) < what) = true := by first | exact decide_eq_true (by omega) | exact decide_eq_false (by omega) | exact beq_iff_eq.2 (by omega) | exact beq_eq_false_iff_ne.2 (by omega)
                  have q7 : (what == 5) = false := by first | exact decide_eq_true (by omega) | exact decide_eq_false (by omega) | exact beq_iff_eq.2 (by omega) | exact beq_eq_false_iff_ne.2 (by omega)
                  have q8 : (what == 6) = false := by first | exact decide_eq_true (by omega) | exact decide_eq_false (by omega) | exact beq_iff_eq.2 (by omega) | exact beq_eq_false_iff_ne.2 (by omega)
                  have q9 : (what == 7) = false := by first | exact decide_eq_true (by omega) | exact decide_eq_false (by omega) | exact beq_iff_eq.2 (by omega) | exact beq_eq_false_iff_ne.2 (by omega)
                  clear hwh
                  have ne4 := HWh.out
                  by_cases hpg : (pageOf ox : Int) = (n : Int)
                  · have e : ((pageOf ox : Int) == (n : Int)) = true := beq_iff_eq.2 hpg
                    clear hpg ne4
                    go_wp2_with (go_at_call 17; (with_reducible refine (HPg.out _).mono ?_); rintro e W6 ⟨rfl, rfl⟩)
                    go_roundw
                    case rel => exact ⟨k + 1, by omega, by simp, _, HLr.out.past (bal wr (.cells #[.int .i64 what, .int .i64 okind, .bool ouser, .int .u64 (ox : Int), .int .u64 (ov : Int), .int .i64 og, .int .i64 oi, .int .i64 opage] 46)), HTg.out, Nat.le_succ_of_le HSl.out, HX.out.past (bal wr (.cells #[.int .i64 what, .int .i64 okind, .bool ouser, .int .u64 (ox : Int), .int .u64 (ov : Int), .int .i64 og, .int .i64 oi, .int .i64 opage] 46))⟩
                    case measure => simp [intOf]; omega
                  · have e : ((pageOf ox : Int) == (n : Int)) = false := beq_eq_false_iff_ne.2 hpg
                    have HNe := Lib.hid hpg
                    clear hpg ne4
                    go_wp2_with (first
                      | (go_at_call 17; (with_reducible refine (HPg.out _).mono ?_); rintro e W6 ⟨rfl, rfl⟩)
                      | (go_at_call 15; (with_reducible refine HDo.out.mono ?_); rintro e W7 ⟨rfl, D⟩; have L7 := (HLr.out.past (bal wr (.cells #[.int .i64 what, .int .i64 okind, .bool ouser, .int .u64 (ox : Int), .int .u64 (ov : Int), .int .i64 og, .int .i64 oi, .int .i64 opage] 46))).did D; have X7 := D.2.2.hit (HX.out.past (bal wr (.cells #[.int .i64 what, .int .i64 okind, .bool ouser, .int .u64 (ox : Int), .int .u64 (ov : Int), .int .i64 og, .int .i64 oi, .int .i64 opage] 46))) List.mem_cons_self))
                    go_roundw
                    case rel => exact ⟨k + 1, by omega, by simp, _, L7, (do_alone (by have := HK.out; have := HSl.out; omega) ⟨fun _ => HNe.out, fun h => by have := HWh.out; dsimp only at h; omega, fun h => by have := HWh.out; dsimp only at h; omega⟩).trans HTg.out, Nat.le_trans (do_len1 _ _) (by have := HSl.out; omega), X7⟩
                    case measure => simp [intOf]; omega
                · subst h4
                  go_wp2_with (first
                    | (go_at_call 15; (with_reducible refine HDo.out.mono ?_); rintro e W7 ⟨rfl, D⟩; have L7 := (HLr.out.past (bal wr (.cells #[.int .i64 4, .int .i64 okind, .bool ouser, .int .u64 (ox : Int), .int .u64 (ov : Int), .int .i64 og, .int .i64 oi, .int .i64 opage] 46))).did D; have X7 := D.2.2.hit (HX.out.past (bal wr (.cells #[.int .i64 4, .int .i64 okind, .bool ouser, .int .u64 (ox : Int), .int .u64 (ov : Int), .int .i64 og, .int .i64 oi, .int .i64 opage] 46))) List.mem_cons_self))
                  go_roundw
                  case rel => exact ⟨k + 1, by omega, by simp, _, L7, (do_alone (by have := HK.out; have := HSl.out; omega) ⟨fun h => by dsimp only at h; omega, fun h => by dsimp only at h; omega, fun h => by dsimp only at h; omega⟩).trans HTg.out, Nat.le_trans (do_len1 _ _) (by have := HSl.out; omega), X7⟩
                  case measure => simp [intOf]; omega
                · subst h5
                  by_cases hpg : opage = (n : Int)
                  · have e : (opage == (n : Int)) = true := beq_iff_eq.2 hpg
                    clear hpg
                    go_wp2
                    go_roundw
                    case rel => exact ⟨k + 1, by omega, by simp, _, HLr.out.past (bal wr (.cells #[.int .i64 5, .int .i64 okind, .bool ouser, .int .u64 (ox : Int), .int .u64 (ov : Int), .int .i64 og, .int .i64 oi, .int .i64 opage] 46)), HTg.out, Nat.le_succ_of_le HSl.out, HX.out.past (bal wr (.cells #[.int .i64 5, .int .i64 okind, .bool ouser, .int .u64 (ox : Int), .int .u64 (ov : Int), .int .i64 og, .int .i64 oi, .int .i64 opage] 46))⟩
                    case measure => simp [intOf]; omega
                  · have e : (opage == (n : Int)) = false := beq_eq_false_iff_ne.2 hpg
                    have HNe := Lib.hid hpg
                    clear hpg
                    go_wp2_with (first
                      | (go_at_call 15; (with_reducible refine HDo.out.mono ?_); rintro e W7 ⟨rfl, D⟩; have L7 := (HLr.out.past (bal wr (.cells #[.int .i64 5, .int .i64 okind, .bool ouser, .int .u64 (ox : Int), .int .u64 (ov : Int), .int .i64 og, .int .i64 oi, .int .i64 opage] 46))).did D; have X7 := D.2.2.hit (HX.out.past (bal wr (.cells #[.int .i64 5, .int .i64 okind, .bool ouser, .int .u64 (ox : Int), .int .u64 (ov : Int), .int .i64 og, .int .i64 oi, .int .i64 opage] 46))) List.mem_cons_self))
                    go_roundw
                    case rel => exact ⟨k + 1, by omega, by simp, _, L7, (do_alone (by have := HK.out; have := HSl.out; omega) ⟨fun h => by dsimp only at h; omega, fun _ => HNe.out, fun h => by dsimp only at h; omega⟩).trans HTg.out, Nat.le_trans (do_len1 _ _) (by have := HSl.out; omega), X7⟩
                    case measure => simp [intOf]; omega
                · subst h6
                  go_wp2
                  go_roundw
                  case rel => exact ⟨k + 1, by omega, by simp, _, HLr.out.past (bal wr (.cells #[.int .i64 6, .int .i64 okind, .bool ouser, .int .u64 (ox : Int), .int .u64 (ov : Int), .int .i64 og, .int .i64 oi, .int .i64 opage] 46)), HTg.out, Nat.le_succ_of_le HSl.out, HX.out.past (bal wr (.cells #[.int .i64 6, .int .i64 okind, .bool ouser, .int .u64 (ox : Int), .int .u64 (ov : Int), .int .i64 og, .int .i64 oi, .int .i64 opage] 46))⟩
                  case measure => simp [intOf]; omega
                · subst h7
                  by_cases hpg : opage = (n : Int)
                  · have e : (opage == (n : Int)) = true := beq_iff_eq.2 hpg
                    clear hpg
                    go_wp2
                    go_roundw
                    case rel => exact ⟨k + 1, by omega, by simp, _, HLr.out.past (bal wr (.cells #[.int .i64 7, .int .i64 okind, .bool ouser, .int .u64 (ox : Int), .int .u64 (ov : Int), .int .i64 og, .int .i64 oi, .int .i64 opage] 46)), HTg.out, Nat.le_succ_of_le HSl.out, HX.out.past (bal wr (.cells #[.int .i64 7, .int .i64 okind, .bool ouser, .int .u64 (ox : Int), .int .u64 (ov : Int), .int .i64 og, .int .i64 oi, .int .i64 opage] 46))⟩
                    case measure => simp [intOf]; omega
                  · have e : (opage == (n : Int)) = false := beq_eq_false_iff_ne.2 hpg
                    have HNe := Lib.hid hpg
                    clear hpg
                    go_wp2_with (first
                      | (go_at_call 15; (with_reducible refine HDo.out.mono ?_); rintro e W7 ⟨rfl, D⟩; have L7 := (HLr.out.past (bal wr (.cells #[.int .i64 7, .int .i64 okind, .bool ouser, .int .u64 (ox : Int), .int .u64 (ov : Int), .int .i64 og, .int .i64 oi, .int .i64 opage] 46))).did D; have X7 := D.2.2.hit (HX.out.past (bal wr (.cells #[.int .i64 7, .int .i64 okind, .bool ouser, .int .u64 (ox : Int), .int .u64 (ov : Int), .int .i64 og, .int .i64 oi, .int .i64 opage] 46))) List.mem_cons_self))
                    go_roundw
                    case rel => exact ⟨k + 1, by omega, by simp, _, L7, (do_alone (by have := HK.out; have := HSl.out; omega) ⟨fun h => by dsimp only at h; omega, fun _ => HNe.out, fun h => by dsimp only at h; omega⟩).trans HTg.out, Nat.le_trans (do_len1 _ _) (by have := HSl.out; omega), X7⟩
                    case measure => simp [intOf]; omega
              · obtain rfl : k = mn := by omega
                clear hkl hk
                have hkn2 := fun W L => HKn.out W p tp gp fb [hb] S' L htg
                have HK2 := Lib.hid hkn2
                have HLr := Lib.hid L
                have HX := Lib.hid X
                have xl := X.lt
                clear hkn2 L X htg hsl
                go_wp2_with (first
                  | (go_at_call 16; (with_reducible refine (HK2.out _ HLr.out).mono ?_); rintro e W8 ⟨rfl, b8⟩; have L8 := HLr.out.past b8; have X8 := HX.out.past b8; have x80 := X8.cell (k := 0) rfl; have x81 := X8.cell (k := 1) rfl; have x82 := X8.cell (k := 2) rfl; have x83 := X8.cell (k := 3) rfl; have x84 := X8.cell (k := 4) rfl; have x85 := X8.cell (k := 5) rfl; have x86 := X8.cell (k := 6) rfl; have x8l := X8.lt; clear n0 n9 hn1 p0 p1 holen hmlen h6' h2' h3')
                  | (go_at_call 18; (with_reducible refine (root_mm (L8.past (bal W8 (.cells #[.int .i64 xa, .int .i64 xp, .int .i64 xf, .bool xw, .bool xu, .bool xx, .bool xd] 50))).m (L8.past (bal W8 (.cells #[.int .i64 xa, .int .i64 xp, .int .i64 xf, .bool xw, .bool xu, .bool xx, .bool xd] 50))).b.size 1).mono ?_); rintro e W9 ⟨⟨r9, rfl⟩, D⟩; have L9 := (L8.past (bal W8 (.cells #[.int .i64 xa, .int .i64 xp, .int .i64 xf, .bool xw, .bool xu, .bool xx, .bool xd] 50))).did D; clear D)
                  | (go_at_call 16; (with_reducible refine (known_mm L9.m (n : Int) none rfl).mono ?_); rintro e W10 ⟨rfl, b10⟩; simp only [Option.getD_none, Option.isSome_none, hit0]; have L10 := L9.past b10))
                go_ret
                exact ⟨rfl, L10.b.alloc L10.b.size _⟩
theorem mtwo_walk (w : World) (hg : EC w) (a : Option Addr) (c : Nat) (l : List (Int × Int × Nat)) (hp : Ps w a l) (hlen : l.length ≤ 9223372036854775807) (oa : Option Addr) (oc : Nat) (ops : List Op10) (hop : Ops w oa ops) (holen : ops.length ≤ 9223372036854775807)
    (ma : Option Addr) (mc : Nat) (ms : List Op10) (hms : Ops w ma ms) (hmlen : ms.length ≤ 9223372036854775807) (page : Int) (hpage : (Lit.int .u16 page).wf = true) :
    Calls Tryd.prog 4 #[.slice a l.length c, .slice oa ops.length oc, .slice ma ms.length mc, .int .u16 page] w fun e w' => e = .returned (.bool true) ∧ Below w.heap.size w w' := by
  obtain ⟨page, rfl, hpg⟩ := nat_u16 hpage
  exact ModelTwo_nat w hg a c l hp hlen oa oc ops hop holen ma mc ms hms hmlen page hpg
end Go.Proofs.YtgaififhhffpfaaDoor
