/- ModelKnown's walk. -/
import Derived.Test.YtgaififhhffpfaaGreatDoorOps
import Derived.Test.YtgaififhhffpfaaGreatDoorAgain
import Derived.Test.YtgaififhhffpfaaGreatDoorMRoots
namespace Go.Proofs.YtgaififhhffpfaaGreatDoor
open Go.RowKit Go.Shelf

set_option maxRecDepth 100000 in
set_option maxHeartbeats 8000000 in
theorem ModelKnown_nat (w : World) (hg : EC w) (a : Option Addr) (c : Nat) (l : List (Int × Int × Nat)) (hp : Ps w a l) (hlen : l.length ≤ 9223372036854775807) (oa : Option Addr) (oc : Nat) (ops : List Op10) (hop : Ops w oa ops) (holen : ops.length ≤ 9223372036854775807) (ea : Option Addr) (ec : Nat) (es : List (Int × Int × Nat)) (hes : Ps w ea es) (helen : es.length ≤ 9223372036854775807) (page word v : Nat) (hpg : page < 65536) (hwd : word < 256) (hv : v < 2 ^ 64) :
    Calls Tryz.prog 5 #[.slice a l.length c, .slice oa ops.length oc, .slice ea es.length ec, .int .u16 (page : Int), .int .u8 (word : Int), .int .u64 (v : Int)] w fun e w' => e = .returned (.bool true) ∧ Below w.heap.size w w' := by
  have hh := head10_any w hg
  have hm := fun W (hb : Below w.heap.size w W) => made_any W a c l (hp.below hb) hlen
  have hB1 : 1 ≤ w.heap.size := lt_of_cell hg
  obtain ⟨len, hl⟩ : ∃ len, l.length = len := ⟨_, rfl⟩
  obtain ⟨on, hol⟩ : ∃ n, ops.length = n := ⟨_, rfl⟩
  obtain ⟨mem, hmem⟩ : ∃ mem, puts l = mem := ⟨_, rfl⟩
  have hpl := puts_len' l
  rw [hmem] at hpl
  rw [hl] at hm hlen ⊢
  rw [hol] at holen ⊢
  rw [hmem] at hm
  have HH := Lib.hid hh
  have HM := Lib.hid hm
  have HE := Lib.hid hg
  have HB1 := Lib.hid hB1
  have HOp := Lib.hid hop
  have HOl := Lib.hid hol
  have HPl := Lib.hid hpl
  obtain ⟨en, hel⟩ : ∃ n, es.length = n := ⟨_, rfl⟩
  rw [hel] at helen ⊢
  have HEs := Lib.hid hes
  have HEl := Lib.hid hel
  obtain ⟨n, hn⟩ : ∃ n : Nat, page % 512 = n := ⟨_, rfl⟩
  obtain ⟨wo, hwo⟩ : ∃ n : Nat, word % 8 = n := ⟨_, rfl⟩
  have hn1 : (page : Int) % 512 = (n : Int) := by omega
  have hw1 : (word : Int) % 8 = (wo : Int) := by omega
  have hn2 : n < 512 := by omega
  have hw2 : wo < 8 := by omega
  have HN2 := Lib.hid hn2
  have HW2 := Lib.hid hw2
  have n0 : (0 : Int) ≤ (n : Int) := by omega
  have n9 : (n : Int) ≤ 9223372036854775807 := by omega
  have wo0 : (0 : Int) ≤ (wo : Int) := by omega
  have wo9 : (wo : Int) ≤ 9223372036854775807 := by omega
  have p0 : (0 : Int) ≤ (page : Int) := by omega
  have p1 : (page : Int) < 65536 := by omega
  have kq0 : (0 : Int) ≤ (word : Int) := by omega
  have kq1 : (word : Int) < 256 := by omega
  obtain ⟨ad, had⟩ : ∃ r, joinOf n wo = r := ⟨_, rfl⟩
  have hjf := join_facts n wo hn2 hw2
  rw [had] at hjf
  have HJf := Lib.hid hjf
  obtain ⟨az, haz⟩ : ∃ z : Int, (ad : Int) = z := ⟨_, rfl⟩
  obtain ⟨vz, hvz⟩ : ∃ z : Int, (v : Int) = z := ⟨_, rfl⟩
  have hj : ∀ W, Calls Tryz.prog 18 #[.int .i64 (n : Int), .int .i64 (wo : Int)] W fun e w' => e = .returned (.int .u64 az) ∧ Below W.heap.size W w' := fun W => haz ▸ join_bel W n wo ad had hn2 hw2
  have HJ := Lib.hid hj
  have HAz := Lib.hid haz
  have HVz := Lib.hid hvz
  have HV := Lib.hid hv
  rw [hvz]
  -- an access that is served
  have hld : ∀ W p tp gp fb F S h, Lw w F W p tp gp fb S → tget S.l 0 (n : Int) = some h → ∀ y : Nat, (rd h16 S.mem h.frame (wo : Int)).getD 0 = y → Calls Tryz.prog 22 #[.pointer (some ⟨p, 0, none⟩), .int .i64 0, .bool h.r.u, .int .u64 az, .int .u64 0] W fun e w' => e = .returned (.agg #[.int .i64 0, .int .u64 (y : Int), .int .i64 0, .int .u64 0]) ∧ Did w.heap.size F W p tp gp fb S w' :=
    fun W p tp gp fb F S h L htg y hy => by
      have hc := access_mm L.m (L.ec hg) hB1 L.b.size 0 h.r.u ad 0 hjf.1 (by decide)
      have e := acc_hit (S := S) (a := ad) (h := h) (kind := 0) (user := h.r.u) 0 hjf.2.2.2.1 hjf.2.2.2.2 (by rw [hjf.2.1]; exact htg) (serves_load h)
      rw [if_neg (by decide), hjf.2.2.1, hy] at e
      rw [e, haz] at hc
      exact hc
  have hst : ∀ W p tp gp fb F S h, Lw w F W p tp gp fb S → tget S.l 0 (n : Int) = some h → h.dirty = true → h.r.w = true → Calls Tryz.prog 22 #[.pointer (some ⟨p, 0, none⟩), .int .i64 1, .bool false, .int .u64 az, .int .u64 vz] W fun e w' => e = .returned (.agg #[.int .i64 0, .int .u64 0, .int .i64 0, .int .u64 0]) ∧ Did w.heap.size F W p tp gp fb ⟨wr h16 S.mem h.frame (wo : Int) v, S.root, S.l⟩ w' :=
    fun W p tp gp fb F S h L htg hd hw => by
      have hc := access_mm L.m (L.ec hg) hB1 L.b.size 1 false ad v hjf.1 hv
      have e := acc_hit (S := S) (a := ad) (h := h) (kind := 1) (user := false) v hjf.2.2.2.1 hjf.2.2.2.2 (by rw [hjf.2.1]; exact htg) (serves_store hd hw)
      rw [if_pos rfl, hjf.2.2.1] at e
      rw [e, haz, hvz] at hc
      exact hc
  have HLd := Lib.hid hld
  have HSt := Lib.hid hst
  clear hh hm hg hB1 hop hol hpl hl hmem hp hlen hpg hwd hj hld hst haz had hvz hv hjf hn hwo hn2 hw2 hes hel
  by_cases h600 : (600 : Int) < (len : Int)
  · go_enter Tryz.func5, Tryz.ntmps5
    go_wp2_with (first
      | (go_at_call 14; (with_reducible refine HH.out.mono ?_); rintro e W0 ⟨rfl, b0⟩)
      | (go_at_call 15; (with_reducible refine (HM.out _ b0).mono ?_); rintro e W1 ⟨⟨gp, fb, rfl, G1, q1, q2⟩, b1⟩; have A1 := b0.trans (b1.mono b0.size); have q2' := Nat.le_trans b0.size q2; clear q1 q2))
    go_ret
    exact ⟨rfl, A1⟩
  · by_cases h200 : (200 : Int) < (on : Int)
    · go_enter Tryz.func5, Tryz.ntmps5
      go_wp2_with (first
        | (go_at_call 14; (with_reducible refine HH.out.mono ?_); rintro e W0 ⟨rfl, b0⟩)
        | (go_at_call 15; (with_reducible refine (HM.out _ b0).mono ?_); rintro e W1 ⟨⟨gp, fb, rfl, G1, q1, q2⟩, b1⟩; have A1 := b0.trans (b1.mono b0.size); have q2' := Nat.le_trans b0.size q2; clear q1 q2))
      go_ret
      exact ⟨rfl, A1⟩
    · by_cases h201 : (200 : Int) < (en : Int)
      · go_enter Tryz.func5, Tryz.ntmps5
        go_wp2_with (first
          | (go_at_call 14; (with_reducible refine HH.out.mono ?_); rintro e W0 ⟨rfl, b0⟩)
          | (go_at_call 15; (with_reducible refine (HM.out _ b0).mono ?_); rintro e W1 ⟨⟨gp, fb, rfl, G1, q1, q2⟩, b1⟩; have A1 := b0.trans (b1.mono b0.size); have q2' := Nat.le_trans b0.size q2; clear q1 q2))
        go_ret
        exact ⟨rfl, A1⟩
      · have h6' : decide ((600 : Int) < (len : Int)) = false := decide_eq_false_iff_not.2 h600
        have h2' : decide ((200 : Int) < (on : Int)) = false := decide_eq_false_iff_not.2 h200
        have h3' : decide ((200 : Int) < (en : Int)) = false := decide_eq_false_iff_not.2 h201
        clear h600 h200 h201
        go_enter Tryz.func5, Tryz.ntmps5
        go_wp2_with (first
          | (go_at_call 14; (with_reducible refine HH.out.mono ?_); rintro e W0 ⟨rfl, b0⟩)
          | (go_at_call 15; (with_reducible refine (HM.out _ b0).mono ?_); rintro e W1 ⟨⟨gp, fb, rfl, G1, q1, q2⟩, b1⟩; have A1 := b0.trans (b1.mono b0.size); have q2' := Nat.le_trans b0.size q2; clear q1 q2)
          | (go_at_call 16; (with_reducible refine (new_mm _ gp fb _ 1 G1 HPl.out w.heap.size A1.size q2').mono ?_); rintro e W2 ⟨⟨p, tp, rfl, M2⟩, b2⟩; have L2 : Lw w [] W2 p tp gp fb ⟨mem, 1, []⟩ := ⟨M2, A1.trans (b2.mono A1.size)⟩; clear M2 b2 A1 q2' b0 b1 G1))
        go_loopw [16] (fun i wr => ∃ k : Nat, k ≤ on ∧ i = .int .i64 k ∧ ∃ S, Lw w [] wr p tp gp fb S ∧ Good S) (fun i _ => on - (intOf i).toNat)
        case atStart => exact ⟨0, by omega, rfl, _, L2, good_nil _ _⟩
        case round =>
          obtain ⟨k, hk, rfl, S, L, hG⟩ := hrel
          clear L2
          by_cases hkl : k < on
          · obtain ⟨b, off, what, okind, ouser, ox, ov, og, oi, opage, rfl, hb1, _, ook, C0, C1, C2, C3, C4, C5, C6, C7⟩ := HOp.out.at k (by rw [HOl.out]; exact hkl)
            have c0 := (L.b.cell (p := ⟨b, _, none⟩) hb1).trans C0
            have c1 := (L.b.cell (p := ⟨b, _, none⟩) hb1).trans C1
            have c2 := (L.b.cell (p := ⟨b, _, none⟩) hb1).trans C2
            have c3 := (L.b.cell (p := ⟨b, _, none⟩) hb1).trans C3
            have c4 := (L.b.cell (p := ⟨b, _, none⟩) hb1).trans C4
            have c5 := (L.b.cell (p := ⟨b, _, none⟩) hb1).trans C5
            have c6 := (L.b.cell (p := ⟨b, _, none⟩) hb1).trans C6
            have c7 := (L.b.cell (p := ⟨b, _, none⟩) hb1).trans C7
            clear C0 C1 C2 C3 C4 C5 C6 C7
            have hdo := do_open L.m (L.ec HE.out) HB1.out L.b.size what okind ouser ox ov og oi opage ook
            have HDo := Lib.hid hdo
            have HLw := Lib.hid L
            clear hdo L ook hk
            go_wp2_with (first
              | (go_at_call 17; (with_reducible refine HDo.out.mono ?_); rintro e W3 ⟨rfl, D⟩; have L3 := HLw.out.did D))
            go_roundw
            case rel => exact ⟨k + 1, by omega, by simp, _, L3, do_good hG _⟩
            case measure => simp [intOf]; omega
          · obtain rfl : k = on := by omega
            clear hkl hk
            obtain ⟨o, ho⟩ : ∃ o, tget S.l 0 (n : Int) = o := ⟨_, rfl⟩
            obtain ⟨is, his⟩ : ∃ b, o.isSome = b := ⟨_, rfl⟩
            have hkn := known_mm L.m (n : Int) o ho
            obtain ⟨⟨xa, xp, xf, ⟨xw, xu, xx⟩, xd⟩, hx⟩ : ∃ h, o.getD hit0 = h := ⟨_, rfl⟩
            rw [hx, his] at hkn
            dsimp only at hkn
            have hsome : is = true → tget S.l 0 (n : Int) = some ⟨xa, xp, xf, ⟨xw, xu, xx⟩, xd⟩ := fun h => by
              rw [ho]; cases o with
              | none => rw [← his] at h; cases h
              | some h' => rw [← hx]; rfl
            have HKn := Lib.hid hkn
            have HLw := Lib.hid L
            have HSome := Lib.hid hsome
            have HGd := Lib.hid hG
            obtain ⟨l0, hl0⟩ : ∃ l, S.l = l := ⟨_, rfl⟩
            have HL0 := Lib.hid hl0
            clear hkn L hsome hG ho his hx hl0
            go_wp2_with (first
              | (go_at_call 23; (with_reducible refine HKn.out.mono ?_); rintro e W4 ⟨rfl, b4⟩))
            have L5 : Lw w [W4.heap.size] (W4.alloc (.cells #[.int .i64 xa, .int .i64 xp, .int .i64 xf, .bool xw, .bool xu, .bool xx, .bool xd] 49)) p tp gp fb S := ⟨(HLw.out.past b4).m.add (bal W4 _) (Nat.le_refl _) (by simp), ((HLw.out.past b4).past (bal W4 _)).b⟩
            have X5 := Blk.new W4 49 [.int .i64 xa, .int .i64 xp, .int .i64 xf, .bool xw, .bool xu, .bool xx, .bool xd]
            obtain ⟨W5, hW5⟩ : ∃ W, W4.alloc (.cells #[.int .i64 xa, .int .i64 xp, .int .i64 xf, .bool xw, .bool xu, .bool xx, .bool xd] 49) = W := ⟨_, rfl⟩
            rw [show (W4.alloc (.cells ([.int .i64 xa, .int .i64 xp, .int .i64 xf, .bool xw, .bool xu, .bool xx, .bool xd] : List Value).toArray 49)) = W5 from hW5] at X5
            rw [hW5] at L5 ⊢
            obtain ⟨hb, hhb⟩ : ∃ b, W4.heap.size = b := ⟨_, rfl⟩
            rw [hhb] at L5 X5 ⊢
            clear hW5 hhb b4 HLw HKn
            go_loopw [21] (fun i wr => ∃ k : Nat, k ≤ en ∧ i = .int .i64 k ∧ ∃ S', S'.l = l0 ∧ Lw w [hb] wr p tp gp fb S' ∧ Blk wr hb 49 [.int .i64 xa, .int .i64 xp, .int .i64 xf, .bool xw, .bool xu, .bool xx, .bool xd]) (fun i _ => en - (intOf i).toNat)
            case atStart => exact ⟨0, by omega, rfl, _, HL0.out, L5, X5⟩
            case round =>
              obtain ⟨k, hk, rfl, S', hl', L, X⟩ := hrel
              clear L5 X5
              by_cases hkl : k < en
              · obtain ⟨b, off, rfl, hb1, hcs⟩ : ∃ b off, ea = some ⟨b, off, none⟩ ∧ b < w.heap.size ∧ ∀ j, j < es.length → (es.getD j (0, 0, 0)).2.2 < 2 ^ 64 ∧
                    w.cell? ⟨b, off + j * 3, none⟩ = some (.int .i64 (es.getD j (0, 0, 0)).1) ∧ w.cell? ⟨b, off + j * 3 + 1, none⟩ = some (.int .i64 (es.getD j (0, 0, 0)).2.1) ∧ w.cell? ⟨b, off + j * 3 + 2, none⟩ = some (.int .u64 ((es.getD j (0, 0, 0)).2.2 : Int)) := by
                  rcases HEs.out with h | h
                  · rw [h] at HEl; have := HEl.out; simp at this; omega
                  · exact h
                obtain ⟨hxv, C0, C1, C2⟩ := hcs k (by rw [HEl.out]; exact hkl)
                obtain ⟨⟨x1, x2, x3⟩, hx⟩ : ∃ x, es.getD k (0, 0, 0) = x := ⟨_, rfl⟩
                rw [hx] at hxv C0 C1 C2
                dsimp only at hxv C0 C1 C2
                have HC0 := Lib.hid C0
                have HC1 := Lib.hid C1
                have HC2 := Lib.hid C2
                have c0 := (L.b.cell (p := ⟨b, _, none⟩) hb1).trans C0
                have c1 := (L.b.cell (p := ⟨b, _, none⟩) hb1).trans C1
                have c2 := (L.b.cell (p := ⟨b, _, none⟩) hb1).trans C2
                have HLr := Lib.hid L
                have HX := Lib.hid X
                have HXv := Lib.hid hxv
                have HLl := Lib.hid hl'
                clear C0 C1 C2 hcs hx hk L X hxv hl'
                go_wp2_with fail
                go_region_held3 (fun w' => w'.cell? ⟨b, off + k * 3, none⟩ = some (.int .i64 x1) ∧ w'.cell? ⟨b, off + k * 3 + 1, none⟩ = some (.int .i64 x2) ∧ w'.cell? ⟨b, off + k * 3 + 2, none⟩ = some (.int .u64 (x3 : Int))) (go_keep) (first
                  | (go_at_call 27; (with_reducible refine (edit_mm (HLr.out.past (Below.refl _ wr).drew).m (HLr.out.past (Below.refl _ wr).drew).b.size x1 x2 x3 HXv.out).mono ?_); rintro e W6 ⟨rfl, D⟩; have L6 := (HLr.out.past (Below.refl _ wr).drew).did D; have X6 := D.2.2.hit (HX.out.past (Below.refl _ wr).drew) List.mem_cons_self; have f0 := (L6.b.cell (p := ⟨b, off + k * 3, none⟩) hb1).trans HC0.out; have f1 := (L6.b.cell (p := ⟨b, off + k * 3 + 1, none⟩) hb1).trans HC1.out; have f2 := (L6.b.cell (p := ⟨b, off + k * 3 + 2, none⟩) hb1).trans HC2.out))
                all_goals go_wp2
                all_goals go_roundw
                case rel => exact ⟨k + 1, by omega, by simp, (editS S' x1 x2 x3).2, HLl.out, L6, X6⟩
                case measure => simp [intOf]; omega
              · obtain rfl : k = en := by omega
                clear hkl hk
                cases is with
                | false =>
                  go_wp2
                  go_ret
                  exact ⟨rfl, L.b⟩
                | true =>
                  have hg := HSome.out rfl
                  rw [HL0.out] at hg
                  have hfr := HGd.out.fr _ (by rw [HL0.out]; exact (tget_some hg).1)
                  dsimp only at hfr
                  rw [← hl'] at hg
                  obtain ⟨y, hy⟩ : ∃ y, (rd h16 S'.mem xf (wo : Int)).getD 0 = y := ⟨_, rfl⟩
                  have hrd : rd h16 S'.mem xf (wo : Int) = some y := by
                    have := rd_some (g := xf) (i := (wo : Int)) L.m.len hfr.2 ⟨by omega, by have := HW2.out; omega⟩
                    cases hr : rd h16 S'.mem xf (wo : Int) with
                    | none => rw [hr] at this; cases this
                    | some y' => rw [hr] at hy; rw [← hy]; rfl
                  obtain ⟨yz, hyz⟩ : ∃ z : Int, (y : Int) = z := ⟨_, rfl⟩
                  have hgt : ∀ W, Lw w [hb] W p tp gp fb S' → Calls Tryz.prog 21 #[.pointer (some ⟨gp, 0, none⟩), .int .i64 xf, .int .i64 (wo : Int)] W fun e w' => e = .returned (.tuple #[.int .u64 yz, .bool true]) ∧ Below W.heap.size W w' := fun W L => hyz ▸ gm_get_bel L.m.gm xf wo _ hrd
                  have hl0 := fun W L => HLd.out W p tp gp fb [hb] S' ⟨xa, xp, xf, ⟨xw, xu, xx⟩, xd⟩ L hg y hy
                  rw [hyz] at hl0
                  dsimp only at hl0
                  have HGt := Lib.hid hgt
                  have HLo := Lib.hid hl0
                  have HLr := Lib.hid L
                  have HX := Lib.hid X
                  have HHg := Lib.hid hg
                  have HFr := Lib.hid hfr
                  have HYz := Lib.hid hyz
                  have HRd := Lib.hid hrd
                  have x5 := X.cell (k := 2) rfl
                  have x5l := X.lt
                  clear hgt hl0 L X hg hfr hyz hy hrd hl' HEs HEl
                  go_wp2_with (first
                    | (go_at_call 40; (with_reducible refine HLr.out.all.mono ?_); rintro e W6 ⟨⟨v6, rfl, d6⟩, b6⟩; have L6 := HLr.out.past b6; have X6 := HX.out.past b6; have x60 := X6.cell (k := 0) rfl; have x61 := X6.cell (k := 1) rfl; have x62 := X6.cell (k := 2) rfl; have x63 := X6.cell (k := 3) rfl; have x64 := X6.cell (k := 4) rfl; have x65 := X6.cell (k := 5) rfl; have x66 := X6.cell (k := 6) rfl; have x6l := X6.lt)
                    | (go_at_call 21; (with_reducible refine (HGt.out _ L6).mono ?_); rintro e W7 ⟨rfl, b7⟩; have L7 := L6.past b7; have X7 := X6.past b7; have d7 := d6.past b7; have x70 := X7.cell (k := 0) rfl; have x71 := X7.cell (k := 1) rfl; have x72 := X7.cell (k := 2) rfl; have x73 := X7.cell (k := 3) rfl; have x74 := X7.cell (k := 4) rfl; have x75 := X7.cell (k := 5) rfl; have x76 := X7.cell (k := 6) rfl; have x7l := X7.lt))
                  have HL7 := Lib.hid L7
                  have HX7 := Lib.hid X7
                  have HD7 := Lib.hid d7
                  clear L6 X6 b6 L7 X7 b7 d6 d7 HLr HX
                  go_region_held3 (fun w' => w'.cell? ⟨hb, 4, none⟩ = some (.bool xu)) (go_keep) (first
                    | (go_at_call 18; (with_reducible refine (HJ.out _).mono ?_); rintro e W8 ⟨rfl, b8⟩; have q8 := (Below.refl W7.heap.size W7).drew.trans b8; have L8 := HL7.out.past q8; have X8 := HX7.out.past q8; have d8 := HD7.out.past q8; have ne8 : W8.heap.size ≠ hb := Ne.symm (Nat.ne_of_lt X8.lt); have x80 := X8.cell (k := 0) rfl; have x81 := X8.cell (k := 1) rfl; have x82 := X8.cell (k := 2) rfl; have x83 := X8.cell (k := 3) rfl; have x84 := X8.cell (k := 4) rfl; have x85 := X8.cell (k := 5) rfl; have x86 := X8.cell (k := 6) rfl; have x8l := X8.lt)
                    | (go_at_call 18; (with_reducible refine (HJ.out _).mono ?_); rintro e W8 ⟨rfl, b8⟩; have q8 := (bal W7 (.cells #[.int .i64 0, .int .u64 0, .int .i64 0, .int .u64 0] 34)).drew.trans (b8.mono (by simp)); have Z8 := (Blk.new W7 34 [.int .i64 0, .int .u64 0, .int .i64 0, .int .u64 0]).drew.past b8; have L8c := HL7.out.past q8; have X8 := HX7.out.past q8; have ne7 : W7.heap.size ≠ hb := Ne.symm (Nat.ne_of_lt HX7.out.lt); have x80 := X8.cell (k := 0) rfl; have x81 := X8.cell (k := 1) rfl; have x82 := X8.cell (k := 2) rfl; have x83 := X8.cell (k := 3) rfl; have x84 := X8.cell (k := 4) rfl; have x85 := X8.cell (k := 5) rfl; have x86 := X8.cell (k := 6) rfl; have x8l := X8.lt; have z80 := Z8.cell (k := 0) rfl; have z81 := Z8.cell (k := 1) rfl; have z82 := Z8.cell (k := 2) rfl; have z83 := Z8.cell (k := 3) rfl; have z8f := fun j => Z8.free j; have z8l := Z8.lt)
                    | (go_at_call 22; (with_reducible refine (HLo.out _ L8).mono ?_); rintro e W9 ⟨rfl, D⟩; have X9 := D.2.2.hit X8 List.mem_cons_self; have x90 := X9.cell (k := 0) rfl; have x91 := X9.cell (k := 1) rfl; have x92 := X9.cell (k := 2) rfl; have x93 := X9.cell (k := 3) rfl; have x94 := X9.cell (k := 4) rfl; have x95 := X9.cell (k := 5) rfl; have x96 := X9.cell (k := 6) rfl; have x9l := X9.lt)
                    | (go_at_call 22; (with_reducible refine (HLo.out _ (L8.past (bal W8 (.cells #[.int .i64 0, .int .u64 0, .int .i64 0, .int .u64 0] 34)))).mono ?_); rintro e W9 ⟨rfl, D⟩; have X9 := D.2.2.hit (X8.past (bal W8 _)) List.mem_cons_self; have Z9 := D.2.2.blk (Blk.new W8 34 [.int .i64 0, .int .u64 0, .int .i64 0, .int .u64 0]) ⟨by decide, by decide, by decide, by decide⟩; have x90 := X9.cell (k := 0) rfl; have x91 := X9.cell (k := 1) rfl; have x92 := X9.cell (k := 2) rfl; have x93 := X9.cell (k := 3) rfl; have x94 := X9.cell (k := 4) rfl; have x95 := X9.cell (k := 5) rfl; have x96 := X9.cell (k := 6) rfl; have x9l := X9.lt; have z90 := Z9.cell (k := 0) rfl; have z91 := Z9.cell (k := 1) rfl; have z92 := Z9.cell (k := 2) rfl; have z93 := Z9.cell (k := 3) rfl; have z9f := fun j => Z9.free j; have z9l := Z9.lt)
                    | (go_at_call 22; (with_reducible refine (HLo.out _ L8c).mono ?_); rintro e W9 ⟨rfl, D⟩; have X9 := D.2.2.hit X8 List.mem_cons_self; have Z9 := D.2.2.blk Z8 ⟨by decide, by decide, by decide, by decide⟩; have x90 := X9.cell (k := 0) rfl; have x91 := X9.cell (k := 1) rfl; have x92 := X9.cell (k := 2) rfl; have x93 := X9.cell (k := 3) rfl; have x94 := X9.cell (k := 4) rfl; have x95 := X9.cell (k := 5) rfl; have x96 := X9.cell (k := 6) rfl; have x9l := X9.lt; have z90 := Z9.cell (k := 0) rfl; have z91 := Z9.cell (k := 1) rfl; have z92 := Z9.cell (k := 2) rfl; have z93 := Z9.cell (k := 3) rfl; have z9f := fun j => Z9.free j; have z9l := Z9.lt))
                  all_goals (first
                    | (have L10 := (L8.did D).past (bal W9 (.cells #[.int .i64 0, .int .u64 yz, .int .i64 0, .int .u64 0] 34))
                       have X10 := X9.past (bal W9 (.cells #[.int .i64 0, .int .u64 yz, .int .i64 0, .int .u64 0] 34))
                       have d10 := (D.2.2.wd d8).past (bal W9 (.cells #[.int .i64 0, .int .u64 yz, .int .i64 0, .int .u64 0] 34))
                       have Y10 := Blk.new W9 34 [.int .i64 0, .int .u64 yz, .int .i64 0, .int .u64 0]
                       obtain ⟨W10, hW⟩ : ∃ W, W9.alloc (.cells #[.int .i64 0, .int .u64 yz, .int .i64 0, .int .u64 0] 34) = W := ⟨_, rfl⟩
                       rw [show (W9.alloc (.cells ([.int .i64 0, .int .u64 yz, .int .i64 0, .int .u64 0] : List Value).toArray 34)) = W10 from hW] at Y10
                       rw [hW] at L10 X10 d10 ⊢
                       obtain ⟨yb, hyb⟩ : ∃ b, W9.heap.size = b := ⟨_, rfl⟩
                       rw [hyb] at Y10 ⊢
                       clear hW hyb)
                    | (obtain ⟨D', Y10⟩ := Did.set4 D (bal W8 (.cells #[.int .i64 0, .int .u64 0, .int .i64 0, .int .u64 0] 34)) L8.b.size Z9 (Nat.le_refl _) (.int .i64 0) (.int .u64 yz) (.int .i64 0) (.int .u64 0)
                       have L10 := L8.did D'
                       have X10 := D'.2.2.hit X8 List.mem_cons_self
                       have d10 := D'.2.2.wd d8
                       obtain ⟨W10, hW⟩ : ∃ W, (((W9.setCell ⟨W8.heap.size, 0, none⟩ (.int .i64 0)).setCell ⟨W8.heap.size, 1, none⟩ (.int .u64 yz)).setCell ⟨W8.heap.size, 2, none⟩ (.int .i64 0)).setCell ⟨W8.heap.size, 3, none⟩ (.int .u64 0) = W := ⟨_, rfl⟩
                       rw [hW] at L10 X10 d10 Y10 ⊢
                       obtain ⟨yb, hyb⟩ : ∃ b, W8.heap.size = b := ⟨_, rfl⟩
                       rw [hyb] at Y10 ⊢
                       clear hW hyb D' Z9)
                    | (obtain ⟨D', Y10⟩ := Did.set4 D q8 HL7.out.b.size Z9 (Nat.le_refl _) (.int .i64 0) (.int .u64 yz) (.int .i64 0) (.int .u64 0)
                       have L10 := HL7.out.did D'
                       have X10 := D'.2.2.hit HX7.out List.mem_cons_self
                       have d10 := D'.2.2.wd HD7.out
                       obtain ⟨W10, hW⟩ : ∃ W, (((W9.setCell ⟨W7.heap.size, 0, none⟩ (.int .i64 0)).setCell ⟨W7.heap.size, 1, none⟩ (.int .u64 yz)).setCell ⟨W7.heap.size, 2, none⟩ (.int .i64 0)).setCell ⟨W7.heap.size, 3, none⟩ (.int .u64 0) = W := ⟨_, rfl⟩
                       rw [hW] at L10 X10 d10 Y10 ⊢
                       obtain ⟨yb, hyb⟩ : ∃ b, W7.heap.size = b := ⟨_, rfl⟩
                       rw [hyb] at Y10 ⊢
                       clear hW hyb D' Z9 Z8))
                  all_goals
                    clear D
                    have hxc := X10.cell (k := 2) rfl
                    have hxd := X10.cell (k := 3) rfl
                    have hxe := X10.cell (k := 6) rfl
                    have hxl := X10.lt
                    have y0 := Y10.cell (k := 0) rfl
                    have y1 := Y10.cell (k := 1) rfl
                    have y2 := Y10.cell (k := 2) rfl
                    have y3 := Y10.cell (k := 3) rfl
                    have yf := fun j => Y10.free j
                    have yl := Y10.lt
                    have HL10 := Lib.hid L10
                    have HX10 := Lib.hid X10
                    have Hd10 := Lib.hid d10
                    clear X10 L10 d10 Y10 holen helen hn1 hw1 n0 n9 wo0 wo9 p0 p1 kq0 kq1 h6' h2' h3'
                    cases xd with
                    | false =>
                      go_wp2_with (first
                        | (go_at_call 40; (with_reducible refine HL10.out.all.mono ?_); rintro e W11 ⟨⟨v11, rfl, d11⟩, b11⟩; have L11 := HL10.out.past b11; have X11 := HX10.out.past b11; have D11 := Hd10.out.past b11; have xk0 := X11.cell (k := 0) rfl; have xk1 := X11.cell (k := 1) rfl; have xk2 := X11.cell (k := 2) rfl; have xk3 := X11.cell (k := 3) rfl; have xk4 := X11.cell (k := 4) rfl; have xk5 := X11.cell (k := 5) rfl; have xk6 := X11.cell (k := 6) rfl; have xkl := X11.lt)
                        | (go_at_call 39; (with_reducible refine (same_wd d11 D11 L11.m.len).mono ?_); rintro e W12 ⟨rfl, b12⟩; have L12 := L11.past b12; have X12 := X11.past b12; have xm0 := X12.cell (k := 0) rfl; have xm1 := X12.cell (k := 1) rfl; have xm2 := X12.cell (k := 2) rfl; have xm3 := X12.cell (k := 3) rfl; have xm4 := X12.cell (k := 4) rfl; have xm5 := X12.cell (k := 5) rfl; have xm6 := X12.cell (k := 6) rfl; have xml := X12.lt))
                      go_ret
                      exact ⟨rfl, L12.b⟩
                    | true =>
                      cases xw with
                      | false =>
                        go_wp2_with (first
                          | (go_at_call 40; (with_reducible refine HL10.out.all.mono ?_); rintro e W11 ⟨⟨v11, rfl, d11⟩, b11⟩; have L11 := HL10.out.past b11; have X11 := HX10.out.past b11; have D11 := Hd10.out.past b11; have xk0 := X11.cell (k := 0) rfl; have xk1 := X11.cell (k := 1) rfl; have xk2 := X11.cell (k := 2) rfl; have xk3 := X11.cell (k := 3) rfl; have xk4 := X11.cell (k := 4) rfl; have xk5 := X11.cell (k := 5) rfl; have xk6 := X11.cell (k := 6) rfl; have xkl := X11.lt)
                          | (go_at_call 39; (with_reducible refine (same_wd d11 D11 L11.m.len).mono ?_); rintro e W12 ⟨rfl, b12⟩; have L12 := L11.past b12; have X12 := X11.past b12; have xm0 := X12.cell (k := 0) rfl; have xm1 := X12.cell (k := 1) rfl; have xm2 := X12.cell (k := 2) rfl; have xm3 := X12.cell (k := 3) rfl; have xm4 := X12.cell (k := 4) rfl; have xm5 := X12.cell (k := 5) rfl; have xm6 := X12.cell (k := 6) rfl; have xml := X12.lt))
                        go_ret
                        exact ⟨rfl, L12.b⟩
                      | true =>
                        have hst0 := fun W L => HSt.out W p tp gp fb [hb] S' ⟨xa, xp, xf, ⟨true, xu, xx⟩, true⟩ L HHg.out rfl rfl
                        dsimp only at hst0
                        obtain ⟨S2, hS2⟩ : ∃ s, (⟨Go.Proofs.YtgaififhhffpfaaGreatDoor.wr h16 S'.mem xf (wo : Int) v, S'.root, S'.l⟩ : S10) = s := ⟨_, rfl⟩
                        rw [hS2] at hst0
                        have h128 := HL10.out.m.len
                        have hwi : (0 : Int) ≤ (wo : Int) ∧ (wo : Int) < 8 := ⟨by omega, by have := HW2.out; omega⟩
                        have hr2 : rd h16 S2.mem xf (wo : Int) = some v := by rw [← hS2]; exact rd_put h128 HFr.out.2 hwi v
                        have hy2 : y < 2 ^ 64 := by
                          obtain ⟨_, _, _, _, _, H, _⟩ := HL10.out.m.gm
                          have := rd_lt (hosts := h16) H.bd xf (wo : Int)
                          rw [HRd.out] at this; exact this
                        have hb2 : Go.Proofs.YtgaififhhffpfaaGreatDoor.wr h16 S2.mem xf (wo : Int) y = S'.mem := by
                          have := wr_back h128 HFr.out.2 hwi v
                          rw [HRd.out] at this
                          rw [← hS2]; exact this
                        have hg2 : ∀ W, Lw w [hb] W p tp gp fb S2 → Calls Tryz.prog 21 #[.pointer (some ⟨gp, 0, none⟩), .int .i64 xf, .int .i64 (wo : Int)] W fun e w' => e = .returned (.tuple #[.int .u64 vz, .bool true]) ∧ Below W.heap.size W w' := fun W L => HVz.out ▸ gm_get_bel L.m.gm xf wo _ hr2
                        have hs2 : ∀ W, Lw w [hb] W p tp gp fb S2 → Calls Tryz.prog 42 #[.pointer (some ⟨gp, 0, none⟩), .int .i64 xf, .int .i64 (wo : Int), .int .u64 yz] W fun e w' => (∃ b, e = .returned (.bool b)) ∧ Did w.heap.size [hb] W p tp gp fb ⟨S'.mem, S2.root, S2.l⟩ w' := fun W L => by
                          have := gset_mm L.m L.b.size xf (wo : Int) y hy2
                          rw [hb2, HYz.out] at this
                          exact this
                        have HA2 := Lib.hid hst0
                        have HG2 := Lib.hid hg2
                        have HS2 := Lib.hid hs2
                        clear hst0 hg2 hs2 hr2 hy2 hb2 hwi h128 hS2
                        go_wp2_with (first
                          | (go_at_call 40; (with_reducible refine HL10.out.all.mono ?_); rintro e W11 ⟨⟨v11, rfl, d11⟩, b11⟩; have L11 := HL10.out.past b11; have X11 := HX10.out.past b11; have D11 := Hd10.out.past b11; have xk0 := X11.cell (k := 0) rfl; have xk1 := X11.cell (k := 1) rfl; have xk2 := X11.cell (k := 2) rfl; have xk3 := X11.cell (k := 3) rfl; have xk4 := X11.cell (k := 4) rfl; have xk5 := X11.cell (k := 5) rfl; have xk6 := X11.cell (k := 6) rfl; have xkl := X11.lt)
                          | (go_at_call 39; (with_reducible refine (same_wd d11 D11 L11.m.len).mono ?_); rintro e W12 ⟨rfl, b12⟩; have L12 := L11.past b12; have X12 := X11.past b12; have D12 := D11.past b12; have xm0 := X12.cell (k := 0) rfl; have xm1 := X12.cell (k := 1) rfl; have xm2 := X12.cell (k := 2) rfl; have xm3 := X12.cell (k := 3) rfl; have xm4 := X12.cell (k := 4) rfl; have xm5 := X12.cell (k := 5) rfl; have xm6 := X12.cell (k := 6) rfl; have xml := X12.lt)
                          | (go_at_call 18; (with_reducible refine (HJ.out _).mono ?_); rintro e W13 ⟨rfl, b13⟩; have L13 := L12.past b13; have X13 := X12.past b13; have D13 := D12.past b13)
                          | (go_at_call 22; (with_reducible refine (HA2.out _ L13).mono ?_); rintro e W14 ⟨rfl, D⟩; have L14 := L13.did D; have X14 := D.2.2.hit X13 List.mem_cons_self; have D14 := D.2.2.wd D13; clear D; have xn0 := X14.cell (k := 0) rfl; have xn1 := X14.cell (k := 1) rfl; have xn2 := X14.cell (k := 2) rfl; have xn3 := X14.cell (k := 3) rfl; have xn4 := X14.cell (k := 4) rfl; have xn5 := X14.cell (k := 5) rfl; have xn6 := X14.cell (k := 6) rfl; have xnl := X14.lt)
                          | (go_at_call 21; (with_reducible refine (HG2.out _ L14).mono ?_); rintro e W15 ⟨rfl, b15⟩; have L15 := L14.past b15; have X15 := X14.past b15; have D15 := D14.past b15; have xq0 := X15.cell (k := 0) rfl; have xq1 := X15.cell (k := 1) rfl; have xq2 := X15.cell (k := 2) rfl; have xq3 := X15.cell (k := 3) rfl; have xq4 := X15.cell (k := 4) rfl; have xq5 := X15.cell (k := 5) rfl; have xq6 := X15.cell (k := 6) rfl; have xql := X15.lt)
                          | (go_at_call 42; (with_reducible refine (HS2.out _ L15).mono ?_); rintro e W16 ⟨⟨sb, rfl⟩, D⟩; have L16 := L15.did D; have D16 := D.2.2.wd D15; clear D)
                          | (go_at_call 40; (with_reducible refine L16.all.mono ?_); rintro e W17 ⟨⟨v17, rfl, d17⟩, b17⟩; have L17 := L16.past b17; have D17 := D16.past b17)
                          | (go_at_call 39; (with_reducible refine (same_wd d17 D17 L17.m.len).mono ?_); rintro e W18 ⟨rfl, b18⟩; have L18 := L17.past b18))
                        go_ret
                        exact ⟨rfl, L18.b⟩
theorem mknown_walk (w : World) (hg : EC w) (a : Option Addr) (c : Nat) (l : List (Int × Int × Nat)) (hp : Ps w a l) (hlen : l.length ≤ 9223372036854775807) (oa : Option Addr) (oc : Nat) (ops : List Op10) (hop : Ops w oa ops) (holen : ops.length ≤ 9223372036854775807)
    (ea : Option Addr) (ec : Nat) (es : List (Int × Int × Nat)) (hes : Ps w ea es) (helen : es.length ≤ 9223372036854775807) (page : Int) (hpage : (Lit.int .u16 page).wf = true) (word : Int) (hword : (Lit.int .u8 word).wf = true) (v : Int) (hv : (Lit.int .u64 v).wf = true) :
    Calls Tryz.prog 5 #[.slice a l.length c, .slice oa ops.length oc, .slice ea es.length ec, .int .u16 page, .int .u8 word, .int .u64 v] w fun e w' => e = .returned (.bool true) ∧ Below w.heap.size w w' := by
  obtain ⟨page, rfl, hpg⟩ := nat_u16 hpage
  obtain ⟨word, rfl, hwd⟩ := nat_u8 hword
  obtain ⟨v, rfl, hv2⟩ := nat_u64 hv
  exact ModelKnown_nat w hg a c l hp hlen oa oc ops hop holen ea ec es hes helen page word v hpg hwd hv2
end Go.Proofs.YtgaififhhffpfaaGreatDoor
