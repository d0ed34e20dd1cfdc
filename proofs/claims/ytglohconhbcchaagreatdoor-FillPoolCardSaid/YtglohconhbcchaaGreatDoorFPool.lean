/- FillPool's walk. -/
import Derived.Test.YtglohconhbcchaaGreatDoorRowF
import Derived.Test.YtglohconhbcchaaGreatDoorWalkN
import Derived.Laws.StructEq
namespace Go.Proofs.YtglohconhbcchaaGreatDoor
open Go.RowKit Go.Shelf Go.Maps
set_option linter.unusedSimpArgs false
set_option linter.unusedVariables false
/-- how many pages may be made yet, read in the world -/
def lefts (A : GAd) (w : World) : Nat := match w.cell? ⟨A.sp, 2, none⟩ with
  | some (.slice _ n _) => 8 - n
  | _ => 8
theorem lefts_of {w0 w : World} {A : GAd} {V : GVl} {G : GS} {ts : List Thing} (H : HG w0 w A P24 V G ts) : lefts A w = sleft P24 G.s := by
  have h := H.sx.hdr.cell (k := 2) rfl
  have hp := H.sx.plen
  unfold lefts sleft
  rw [h]
  rcases H.sx.row.view with ⟨e1, e2⟩ | ⟨g, cap, rest, e1, _⟩
  · rw [e1]; rw [e2] at hp; show 8 - 0 = 8 - _; rw [← hp]; rfl
  · rw [e1, hp]; rfl
def apth (pats : List (Int × Int)) (rest0 : List Value) : List Value := atCells pats ++ rest0
set_option maxRecDepth 100000 in
set_option maxHeartbeats 16000000 in
theorem FillPool_nat (w : World) (hE : EC w) (a : Option Addr) (c : Nat) (l : List (Int × Int × Nat)) (hp : Ps w a l) (hlen : l.length ≤ 9223372036854775807) (many : Nat) (_hmany : many < 256) (page : Nat) (_hpage : page < 65536) :
    Calls Tryz.prog 7 #[.slice a l.length c, .int .u8 (many : Int), .int .u16 (page : Int)] w fun e w' => e = .returned (.bool true) ∧ Below w.heap.size w w' := by
  have h0 : 1 ≤ w.heap.size := lt_of_cell hE
  have hh := head17 w hE
  obtain ⟨len, hl⟩ : ∃ len, l.length = len := ⟨_, rfl⟩
  obtain ⟨G0, hG0⟩ : ∃ G, G24 (gputs l) = G := ⟨_, rfl⟩
  have hI0 : FM P24 G0 := hG0 ▸ FM24 _ (gputs_len l)
  have hm : ∀ W, Below w.heap.size w W → Calls Tryz.prog 11 #[.slice a len c] W fun e w' => ∃ wb A, e = .returned (.pointer (some ⟨wb, 0, none⟩)) ∧ HG w w' A P24 V24 G0 [wld wb A] := fun W b => by
    have h := gmade_any W a c l (hp.below b) hlen
    rw [hl, hG0] at h
    exact h.mono fun e w' ⟨wb, A, he, H⟩ => ⟨wb, A, he, ⟨b.trans (H.b.mono b.size), H.so, fun t ht b' hb => Nat.le_trans b.size (H.up t ht b' hb), H.apart⟩⟩
  rw [hl] at hlen ⊢
  have hps0 : G0.s.ps = [] := by rw [← hG0]; rfl
  have hlo0 : G0.loose = [] := by rw [← hG0]; rfl
  have HPs0 := Lib.hid hps0
  have HLo0 := Lib.hid hlo0
  clear hps0 hlo0
  have HH := Lib.hid hh
  have HM := Lib.hid hm
  have HI0 := Lib.hid hI0
  have HE := Lib.hid hE
  have H0 := Lib.hid h0
  clear hh hm hI0 hp hl hG0 hlen hE h0
  obtain ⟨kk, hkk⟩ : ∃ x, many % 6 = x := ⟨_, rfl⟩
  have hk6 : kk < 6 := by rw [← hkk]; exact Nat.mod_lt _ (by omega)
  have hmk : (many : Int).tmod 6 = (kk : Int) := by rw [← hkk]; rfl
  have hmw : IntKind.u8.wrap (kk : Int) = (kk : Int) := by have := IntKind.wrap_u8 (kk : Int); omega
  have hmi : IntKind.i64.wrap (kk : Int) = (kk : Int) := by rw [IntKind.wrap_i64]; omega
  obtain ⟨n9, hn9⟩ : ∃ x, page % 512 = x := ⟨_, rfl⟩
  have hn5 : n9 < 512 := by rw [← hn9]; exact Nat.mod_lt _ (by omega)
  have hpk : (page : Int).tmod 512 = (n9 : Int) := by rw [← hn9]; rfl
  have hpw : IntKind.u16.wrap (n9 : Int) = (n9 : Int) := by have := IntKind.wrap_u16 (n9 : Int); omega
  have hpi : IntKind.i64.wrap (n9 : Int) = (n9 : Int) := by rw [IntKind.wrap_i64]; omega
  clear hkk hn9 _hmany _hpage
  by_cases h6 : 600 < len
  · have f1 : decide ((len : Int) > 600) = true := decide_eq_true (by omega)
    have f2 : decide (600 < len) = true := decide_eq_true h6
    clear h6
    go_enter Tryz.func7, Tryz.ntmps7
    go_wp2_with (first
      | (go_at_call 10; (with_reducible refine HH.out.mono ?_); rintro e W0 ⟨rfl, b0⟩)
      | (go_at_call 11; (with_reducible refine (HM.out _ b0).mono ?_); rintro e W1 ⟨wb, A, rfl, H1⟩; clear b0))
    go_ret
    exact ⟨rfl, H1.below⟩
  · have f1 : decide ((len : Int) > 600) = false := decide_eq_false (by omega)
    have f2 : decide (600 < len) = false := decide_eq_false h6
    clear h6
    go_enter Tryz.func7, Tryz.ntmps7
    go_wp2_with (first
      | (go_at_call 10; (with_reducible refine HH.out.mono ?_); rintro e W0 ⟨rfl, b0⟩)
      | (go_at_call 11; (with_reducible refine (HM.out _ b0).mono ?_); rintro e W1 ⟨wb, A, rfl, H1⟩; clear b0))
    clear HM HH
    go_loopw [10, 11] (fun _ _ wr => ∃ V Gc, HG w wr A P24 V Gc [wld wb A] ∧ FM P24 Gc ∧ Gc.loose = [] ∧ AllK (fun k => k.lv = 3 ∧ (100 : Int) + sleft P24 Gc.s < k.g) Gc.s ∧ kk ≤ sleft P24 Gc.s) (fun _ _ wr => lefts A wr)
    case atStart => exact ⟨_, _, H1, HI0.out, HLo0.out, (fun p hp => by rw [HPs0.out] at hp; cases hp), by show kk ≤ 8 - G0.s.ps.length; rw [HPs0.out]; show kk ≤ 8; omega⟩
    case round =>
      clear H1
      obtain ⟨V, Gc, H, hf, hlo, hQ, hk⟩ := hrel
      have hle := lefts_of H
      have hl8 : sleft P24 Gc.s ≤ 8 := Nat.sub_le _ _
      have hlf := left_any H
      obtain ⟨n, hn⟩ : ∃ n, sleft P24 Gc.s = n := ⟨_, rfl⟩
      rw [hn] at hlf hle hk hl8
      have d2 := H.wd.cell (k := 2) rfl
      have dl := H.wd.lt
      by_cases hkn : kk < n
      · obtain ⟨f, S, hmk, hfm, hQS, hls⟩ := pool_make hf hlo hQ (by omega)
        rw [hn] at hmk hls
        have fg : decide ((n : Int) > (kk : Int)) = true := decide_eq_true (by omega)
        have fg2 : decide (kk < n) = true := decide_eq_true hkn
        have hwn : IntKind.i64.wrap (100 + (n : Int)) = 100 + (n : Int) := by rw [IntKind.wrap_i64]; omega
        have hmc := fun W (hW : Below wr.heap.size wr W) => make_yes (H.past hW) (100 + (n : Int)) 3 0 f S hmk
        have HLf := Lib.hid hlf
        have hlf2 := fun W (hW : Below wr.heap.size wr W) => left_any (H.past hW)
        rw [hn] at hlf2
        have HLf2 := Lib.hid hlf2
        have HMc := Lib.hid hmc
        have HH := Lib.hid H
        have HF := Lib.hid hfm
        have HQ := Lib.hid hQS
        have HLs := Lib.hid hls
        have HLo := Lib.hid hlo
        have HLe := Lib.hid hle
        have HK := Lib.hid hk
        have HKn := Lib.hid hkn
        clear hlf hlf2 hmc H hfm hQS hls hlo hle hn hmk hf hQ hk hl8 hkn
        go_upto_region 7 with (go_at_call 21; (with_reducible refine HLf.out.mono ?_); rintro e W2 ⟨rfl, b2⟩)
        have h2 := HH.out.past b2
        have e2 := h2.wd.cell (k := 2) rfl
        have el := h2.wd.lt
        have B2 := Lib.hid b2
        clear h2 b2 d2 dl
        go_region_held3 (fun w' => w'.cell? ⟨wb, 2, none⟩ = some (.pointer (some ⟨A.sp, 0, none⟩))) (go_keep) (first
          | (go_at_call 21; (with_reducible refine (HLf2.out _ (B2.out.trans (Below.refl _ _).drew)).mono ?_); rintro e W3 ⟨rfl, b3⟩; have q3 := (B2.out.trans (Below.refl _ _).drew).trans (b3.mono (B2.out.trans (Below.refl _ _).drew).size); have h3 := HH.out.past q3; have x2 := h3.wd.cell (k := 2) rfl; have xl := h3.wd.lt; clear h3 b3)
          | (go_at_call 27; (with_reducible refine (HMc.out _ q3).mono ?_); rintro e W4 ⟨rfl, V4, h4⟩; have y2 := h4.wd.cell (k := 2) rfl; have yl := h4.wd.lt; have HH4 := Lib.hid h4; clear h4))
        all_goals
          go_wp2_with fail
          go_roundw
          case rel => exact ⟨V4, _, HH4.out, HF.out, HLo.out, HQ.out, by have h1 := HLs.out; have h2 := HKn.out; show kk ≤ sleft P24 S; omega⟩
          case measure =>
            have h1 := HLs.out
            have h2 := lefts_of HH4.out
            have h3 := HLe.out
            simp only [h2, h3]
            show sleft P24 S < n
            omega
      · have hkn' : n = kk := by omega
        subst hkn'
        have hps : Gc.s.ps.length = 8 - n := by
          have h2 := hf.1.1.s.fr
          have h3 := hf.1.1.s.cnt
          have h4 : P24.many = 8 := rfl
          unfold sleft at hn
          omega
        have fg : decide ((n : Int) > (n : Int)) = false := decide_eq_false (by omega)
        have fg2 : decide (n < n) = false := decide_eq_false (by omega)
        have hQ' : AllK (fun k => k.lv = 3 ∧ 100 < k.g) Gc.s := fun p hp => ⟨(hQ p hp).1, by have := (hQ p hp).2; omega⟩
        have HF := Lib.hid hf
        have HQ := Lib.hid hQ'
        have HPs := Lib.hid hps
        have HLf := Lib.hid hlf
        have HH := Lib.hid H
        clear hlf H hf hQ hQ' hlo hle hk hps hl8 hkn
        go_upto_region 13 with (first
          | (go_at_call 21; (with_reducible refine HLf.out.mono ?_); rintro e W2 ⟨rfl, b2⟩; have h2 := HH.out.past b2; have HH2 := Lib.hid h2; clear h2 b2)
          | (go_at_call 13; (with_reducible refine (made17 HH2.out).mono ?_); rintro e W3 ⟨F, rfl, h3⟩; have HH3 := Lib.hid h3; clear h3))
        have H3 := HH3.out
        have hec := HG.ec H3 HE.out H0.out
        have hgm : GM W3 A.p A.fb P24.hosts P24.n Gc.s.mem := ⟨_, _, _, _, _, H3.host, H3.guest⟩
        obtain ⟨⟨pth, h, cd⟩, ho⟩ : ∃ x, out (wk (rd P24.hosts Gc.s.mem) P24.hosts.length 1 (n9 : Int) 0 false) = x := ⟨_, rfl⟩
        have hwk := gm_walk_new hgm hec 1 (n9 : Int) 0 false pth h cd ho
        have hcase : (h ≠ 0) ∨ (h = 0 ∧ wk (rd P24.hosts Gc.s.mem) P24.hosts.length 1 (n9 : Int) 0 false = .ok pth) := by
          cases hw : wk (rd P24.hosts Gc.s.mem) P24.hosts.length 1 (n9 : Int) 0 false with
          | error e =>
            rw [hw] at ho
            have e1 : e.1 = h := (Prod.mk.inj (Prod.mk.inj ho).2).1
            exact .inl (e1 ▸ wk_err hw)
          | ok p =>
            rw [hw] at ho
            have e1 : p = pth := (Prod.mk.inj ho).1
            have e2 : 0 = h := (Prod.mk.inj (Prod.mk.inj ho).2).1
            exact .inr ⟨e2.symm, by rw [e1]⟩
        obtain ⟨d1, dl⟩ : W3.cell? ⟨wb, 1, none⟩ = some (.pointer (some ⟨A.p, 0, none⟩)) ∧ wb < W3.heap.size := ⟨(show Blk W3 wb 42 (wldC A) from Hold.at H3 7 rfl).cell (k := 1) rfl, (show Blk W3 wb 42 (wldC A) from Hold.at H3 7 rfl).lt⟩
        obtain ⟨pats, pg, ⟨pw, pu, px⟩, pl, pd⟩ := pth
        dsimp only at hwk
        obtain ⟨pn, hpn⟩ : ∃ x, pats.length = x := ⟨_, rfl⟩
        rw [hpn] at hwk
        have HWk := Lib.hid hwk
        have HPn := Lib.hid hpn
        clear hwk hec hgm ho hpn H3
        rcases hcase with hne | ⟨rfl, hok⟩
        · have f0 : (h != 0) = true := bne_iff_ne.2 hne
          have f0' : ¬ h = 0 := hne
          clear hne
          go_wp2_with (go_at_call 25; (with_reducible refine HWk.out.mono ?_); rintro e W4 ⟨b4, a4, c4, rfl, hs4, _⟩; have h4 := HH3.out.past b4; have HH4 := Lib.hid h4; have hlt4 := b4.size; clear hs4 h4)
          go_ret
          exact ⟨rfl, (HH4.out.below).trans ((bal _ _).mono HH4.out.size)⟩
        · have hats := wk_ats hok
          obtain ⟨hp1, ⟨top, hp2, hp3⟩, hp4, hp5⟩ := pool_fill HF.out HQ.out hok
          obtain ⟨Gn, hGn⟩ : ∃ G, (jfill P24 Gc 1 (n9 : Int) ⟨pats, pg, ⟨pw, pu, px⟩, pl, pd⟩ false) = G := ⟨_, rfl⟩
          rw [hGn] at hp1 hp2 hp4 hp5
          dsimp only at hp4 hats
          obtain ⟨⟨anew, is⟩, Gn⟩ := Gn
          dsimp only at hp1 hp2 hp4 hp5
          subst hp1
          obtain ⟨g1, hg1⟩ : ∃ x, (pats.getD 1 (0, 0)).1 = x := ⟨_, rfl⟩
          rw [hg1] at hp4
          obtain ⟨lf, hlf⟩ := Option.isSome_iff_exists.1 hp4
          obtain ⟨m, hm⟩ : ∃ x, (sall Gn.s.ps).length = x := ⟨_, rfl⟩
          have hmv : (m : Int) = 8 - max 0 ((n : Int) - 3) := by
            have h1 := HPs.out
            have h2 : (sall Gn.s.ps).length = Gn.s.ps.length := by unfold sall; rw [List.length_map]
            omega
          have hat2 : 2 ≤ pats.length := by omega
          have HHats := Lib.hid hats
          have HHp2 := Lib.hid hp2
          have HHp3 := Lib.hid hp3
          have HHlf := Lib.hid hlf
          have HHm := Lib.hid hm
          have HHmv := Lib.hid hmv
          have HHg1 := Lib.hid hg1
          have HHa2 := Lib.hid hat2
          have HHGn := Lib.hid hGn
          clear hok hats hp2 hp3 hp4 hp5 hlf hm hmv hg1 hat2 hGn
          go_upto_region 15 with (go_at_call 25; (with_reducible refine HWk.out.mono ?_); rintro e W4 ⟨b4, a4, c4, rfl, hs4, hlo4⟩)
          have P5 := Blk.new W4 71 [.slice a4 pn c4, .int .i64 pg, .bool pw, .bool pu, .bool px, .bool pl, .bool pd]
          have bn := bal W4 (.cells #[.slice a4 pn c4, .int .i64 pg, .bool pw, .bool pu, .bool px, .bool pl, .bool pd] 71)
          have h4 := HH3.out.past b4
          have hs := b4.size
          obtain ⟨ab, rest0, rfl, hab⟩ : ∃ ab rest0, a4 = some ⟨ab, 0, none⟩ ∧ Blk W4 ab 78 (atCells pats ++ rest0) := by
            rcases hs4 with ⟨_, x⟩ | ⟨b, rest, x1, x2⟩
            · have := HHa2.out; rw [x] at this; simp at this
            · exact ⟨b, rest, x1, x2⟩
          have hal := hlo4 _ rfl
          have h41 := HH3.out.add b4 (box ab 78 (apth pats rest0)) hab (fun b e => e ▸ hal)
          have h42 := h41.add bn (box W4.heap.size 71 [.slice (some ⟨ab, 0, none⟩) pn c4, .int .i64 pg, .bool pw, .bool pu, .bool px, .bool pl, .bool pd]) P5 (fun b e => Nat.le_of_eq e.symm)
          obtain ⟨pb, hpb⟩ : ∃ x, W4.heap.size = x := ⟨_, rfl⟩
          obtain ⟨W5, hW5⟩ : ∃ W', W4.alloc (.cells #[.slice (some ⟨ab, 0, none⟩) pn c4, .int .i64 pg, .bool pw, .bool pu, .bool px, .bool pl, .bool pd] 71) = W' := ⟨_, rfl⟩
          rw [hW5, hpb] at h42
          rw [hW5, hpb]
          have h5 : HG w W5 A P24 V Gc (fths F A P24 [box pb 71 [.slice (some ⟨ab, 0, none⟩) pn c4, .int .i64 pg, .bool pw, .bool pu, .bool px, .bool pl, .bool pd], box ab 78 (apth pats rest0), wld wb A]) := HG.fbox (bs := [box pb 71 [.slice (some ⟨ab, 0, none⟩) pn c4, .int .i64 pg, .bool pw, .bool pu, .bool px, .bool pl, .bool pd], box ab 78 (apth pats rest0)]) h42
          have HH5 := Lib.hid h5
          have pp0 := (show Blk W5 pb 71 [.slice (some ⟨ab, 0, none⟩) pn c4, .int .i64 pg, .bool pw, .bool pu, .bool px, .bool pl, .bool pd] from Hold.at h5 7 rfl).cell (k := 0) rfl
          have pp1 := (show Blk W5 pb 71 [.slice (some ⟨ab, 0, none⟩) pn c4, .int .i64 pg, .bool pw, .bool pu, .bool px, .bool pl, .bool pd] from Hold.at h5 7 rfl).cell (k := 1) rfl
          have pp2 := (show Blk W5 pb 71 [.slice (some ⟨ab, 0, none⟩) pn c4, .int .i64 pg, .bool pw, .bool pu, .bool px, .bool pl, .bool pd] from Hold.at h5 7 rfl).cell (k := 2) rfl
          have pp3 := (show Blk W5 pb 71 [.slice (some ⟨ab, 0, none⟩) pn c4, .int .i64 pg, .bool pw, .bool pu, .bool px, .bool pl, .bool pd] from Hold.at h5 7 rfl).cell (k := 3) rfl
          have pp4 := (show Blk W5 pb 71 [.slice (some ⟨ab, 0, none⟩) pn c4, .int .i64 pg, .bool pw, .bool pu, .bool px, .bool pl, .bool pd] from Hold.at h5 7 rfl).cell (k := 4) rfl
          have pp5 := (show Blk W5 pb 71 [.slice (some ⟨ab, 0, none⟩) pn c4, .int .i64 pg, .bool pw, .bool pu, .bool px, .bool pl, .bool pd] from Hold.at h5 7 rfl).cell (k := 5) rfl
          have pp6 := (show Blk W5 pb 71 [.slice (some ⟨ab, 0, none⟩) pn c4, .int .i64 pg, .bool pw, .bool pu, .bool px, .bool pl, .bool pd] from Hold.at h5 7 rfl).cell (k := 6) rfl
          have ppl := (show Blk W5 pb 71 [.slice (some ⟨ab, 0, none⟩) pn c4, .int .i64 pg, .bool pw, .bool pu, .bool px, .bool pl, .bool pd] from Hold.at h5 7 rfl).lt
          clear h5 h42 h41 hW5 hpb hab hs4 hlo4 hal b4 bn h4 P5 hs HWk
          go_upto_region 17 with fail
          have hfi := fill_j HH5.out 1 (n9 : Int) ab c4 rest0 ⟨pats, pg, ⟨pw, pu, px⟩, pl, pd⟩ (show Blk W5 ab 78 (atCells pats ++ rest0) from Hold.at HH5.out 8 rfl) HHats.out false
          dsimp only at hfi
          rw [HPn.out, HHGn.out] at hfi
          dsimp only at hfi
          have HFi := Lib.hid hfi
          clear hfi
          go_upto_region 18 with (go_at_call 26; (with_reducible refine HFi.out.mono ?_); rintro e W6 ⟨v6, rfl, V6, h6⟩)
          have h6' : HG w W6 A P24 V6 Gn (fths F A P24 [box pb 71 [.slice (some ⟨ab, 0, none⟩) pn c4, .int .i64 pg, .bool pw, .bool pu, .bool px, .bool pl, .bool pd], box ab 78 (apth pats rest0), wld wb A]) := h6.tail
          have hsf := sfind_any (HG.sx h6') 1 3 0 (some top) HHp2.out
          have x2 := (show Blk W6 wb 42 (wldC A) from Hold.at h6' 9 rfl).cell (k := 2) rfl
          have xl := (show Blk W6 wb 42 (wldC A) from Hold.at h6' 9 rfl).lt
          have HH6 := Lib.hid h6'
          have HSf := Lib.hid hsf
          clear h6 h6' hsf HFi HH5 pp0 pp1 pp2 pp3 pp4 pp5 pp6 ppl
          go_upto_region 19 with (go_at_call 17; (with_reducible refine HSf.out.mono ?_); rintro e W7 ⟨rfl, b7⟩)
          try dsimp only [Option.getD_some, Option.isSome_some]
          have h7 := HH6.out.past b7
          have HH7 := Lib.hid h7
          have w2 := (show Blk W7 wb 42 (wldC A) from Hold.at h7 9 rfl).cell (k := 2) rfl
          have wl := (show Blk W7 wb 42 (wldC A) from Hold.at h7 9 rfl).lt
          have q0 := (show Blk W7 pb 71 [.slice (some ⟨ab, 0, none⟩) pn c4, .int .i64 pg, .bool pw, .bool pu, .bool px, .bool pl, .bool pd] from Hold.at h7 7 rfl).cell (k := 0) rfl
          have ql := (show Blk W7 pb 71 [.slice (some ⟨ab, 0, none⟩) pn c4, .int .i64 pg, .bool pw, .bool pu, .bool px, .bool pl, .bool pd] from Hold.at h7 7 rfl).lt
          have qa := (show W7.cell? ⟨ab, 1 * 2, none⟩ = some (.int .i64 g1) from by rw [← HHg1.out]; exact (Sl.at (show Blk W7 ab 78 (atCells pats ++ rest0) from Hold.at h7 8 rfl) 1 HHa2.out).1)
          have qal := (show Blk W7 ab 78 (atCells pats ++ rest0) from Hold.at h7 8 rfl).lt
          have hp1 : (1 : Int) < (pn : Int) := by have := HHa2.out; have := HPn.out; omega
          have hp1' : 1 < pn := by omega
          have hsf := fun W (hW : Below W7.heap.size W7 W) => sfind_any (HG.sx (HH7.out.past hW)) g1 2 0 (some lf) HHlf.out
          have HSf2 := Lib.hid hsf
          clear hsf h7 b7 HSf x2 xl
          go_region_held3 (fun w' => w'.cell? ⟨wb, 2, none⟩ = some (.pointer (some ⟨A.sp, 0, none⟩)) ∧ w'.cell? ⟨pb, 0, none⟩ = some (.slice (some ⟨ab, 0, none⟩) pn c4) ∧ w'.cell? ⟨ab, 1 * 2, none⟩ = some (.int .i64 g1)) (go_keep) (first
            | (go_at_call 17; (with_reducible refine (HSf2.out _ (Below.refl _ _).drew).mono ?_); rintro e W8 ⟨rfl, b8⟩; have q8 := (Below.refl W7.heap.size W7).drew.trans b8; have h8 := HH7.out.past q8; have z2 := (show Blk W8 wb 42 (wldC A) from Hold.at h8 9 rfl).cell (k := 2) rfl; have zl := (show Blk W8 wb 42 (wldC A) from Hold.at h8 9 rfl).lt; have r0 := (show Blk W8 pb 71 [.slice (some ⟨ab, 0, none⟩) pn c4, .int .i64 pg, .bool pw, .bool pu, .bool px, .bool pl, .bool pd] from Hold.at h8 7 rfl).cell (k := 0) rfl; have rl := (show Blk W8 pb 71 [.slice (some ⟨ab, 0, none⟩) pn c4, .int .i64 pg, .bool pw, .bool pu, .bool px, .bool pl, .bool pd] from Hold.at h8 7 rfl).lt; have HH8 := Lib.hid h8; have rl8 := Nat.lt_of_lt_of_le qal q8.size; have ra := (q8.cell (p := ⟨ab, 1 * 2, none⟩) qal).trans qa; clear h8 b8))
          all_goals
            have ha := sall_any (HG.sx HH8.out)
            have fw3 : IntKind.i64.wrap ((n : Int) - 3) = (n : Int) - 3 := by rw [IntKind.wrap_i64]; omega
            have fw8 : IntKind.i64.wrap (8 - max 0 ((n : Int) - 3)) = (m : Int) := by rw [IntKind.wrap_i64, HHmv.out]; omega
            have ft : decide (top ≥ 4) = true := decide_eq_true HHp3.out
            have HA := Lib.hid ha
            clear ha r0 rl q0 ql w2 wl qa qal
            go_wp2_with (go_at_call 20; (with_reducible refine HA.out.mono ?_); rintro e W9 ⟨⟨v9, rfl, hv9⟩, b9⟩; obtain ⟨a9, c9, rfl⟩ := hv9.form; rw [HHm.out]; have HH9 := Lib.hid (HH8.out.past b9); clear hv9 b9)
            all_goals first
              | (go_ret; exact ⟨rfl, HH9.out.below⟩)
              | (have hx := HHmv.out; exfalso; omega)
theorem u16_bd {v : Int} (h : (Lit.int .u16 v).wf = true) : ∃ n : Nat, v = (n : Int) ∧ n < 65536 := by
  simp [Lit.wf, IntKind.min, IntKind.max, IntKind.signed, IntKind.bits] at h
  exact ⟨v.toNat, by omega, by omega⟩
theorem u8_bd {v : Int} (h : (Lit.int .u8 v).wf = true) : ∃ n : Nat, v = (n : Int) ∧ n < 256 := by
  simp [Lit.wf, IntKind.min, IntKind.max, IntKind.signed, IntKind.bits] at h
  exact ⟨v.toNat, by omega, by omega⟩
theorem FillPool_walk (w : World) (hE : EC w) (a : Option Addr) (c : Nat) (l : List (Int × Int × Nat)) (hp : Ps w a l) (hlen : l.length ≤ 9223372036854775807) (many : Int) (hmany : (Lit.int .u8 many).wf = true) (page : Int) (hpage : (Lit.int .u16 page).wf = true) :
    Calls Tryz.prog 7 #[.slice a l.length c, .int .u8 many, .int .u16 page] w fun e w' => e = .returned (.bool true) ∧ Below w.heap.size w w' := by
  obtain ⟨many, rfl, hmany'⟩ := u8_bd hmany
  obtain ⟨page, rfl, hpage'⟩ := u16_bd hpage
  exact FillPool_nat w hE a c l hp hlen many hmany' page hpage'
end Go.Proofs.YtglohconhbcchaaGreatDoor
