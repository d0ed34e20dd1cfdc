/- The law WalkWithin: the walk. -/
import Derived.Test.YtlldbfpccdmclaaDoorWithinP
import Derived.Test.YtlldbfpccdmclaaDoorMeetR
import Derived.Test.YtlldbfpccdmclaaDoorKindsW
import Derived.Deep.RegionHeld3
namespace Go.Proofs.YtlldbfpccdmclaaDoor
open Go.RowKit

theorem fcode_bd (k : Int) (u t b : Bool) : 0 ≤ fcode k u t b ∧ fcode k u t b < 32 := by
  unfold fcode
  by_cases h1 : k = 1 <;> by_cases h2 : k = 2 <;> cases u <;> cases t <;> cases b <;> simp [h1, h2] <;> omega

set_option maxRecDepth 100000 in
set_option maxHeartbeats 4000000 in
theorem within_no (w : World) (hg : EC w) (a : Option Addr) (c : Nat) (l : List (Int × Int × Nat)) (hp : Ps w a l) (hlen : l.length ≤ 9223372036854775807) (root : Int) (page kind : Nat) (user : Bool) (hpg : page < 65536) (hkd : kind < 256) (h k : Int)
    (ho : out (wk (rd h16 (puts l)) h16.length root ((page % 512 : Nat) : Int) ((kind % 3 : Nat) : Int) user) = (Path.none, h, k)) (hh : (h = 3 ∧ k = 0) ∨ (h = 1 ∧ 0 ≤ k ∧ k < 32)) :
    Calls Tryd.prog 3 #[.slice a l.length c, .int .i64 root, .int .u16 (page : Int), .int .u8 (kind : Int), .bool user] w fun e w' => e = .returned (.bool true) ∧ Below w.heap.size w w' := by
  have hd := head_any w hg
  have hm := fun W (hb : Below w.heap.size w W) => made_any W a c l (hp.below hb) hlen
  obtain ⟨len, hl⟩ : ∃ len, l.length = len := ⟨_, rfl⟩
  obtain ⟨mem, hmem⟩ : ∃ mem, puts l = mem := ⟨_, rfl⟩
  rw [hmem] at ho
  obtain ⟨n, hn⟩ : ∃ n : Int, ((page % 512 : Nat) : Int) = n := ⟨_, rfl⟩
  obtain ⟨kd, hk⟩ : ∃ k : Int, ((kind % 3 : Nat) : Int) = k := ⟨_, rfl⟩
  rw [hn, hk] at ho
  have hw : ∀ W p fb, GM W p fb h16 16 mem → EC W → Calls Tryd.prog 13 #[.pointer (some ⟨p, 0, none⟩), .int .i64 root, .int .i64 n, .int .i64 kd, .bool user] W
      fun e w' => Below W.heap.size W w' ∧ ∃ a c, e = .returned (.tuple #[.agg #[.slice a 0 c, .int .i64 0, .bool false, .bool false, .bool false, .bool false, .bool false], .int .i64 h, .int .i64 k]) ∧ Sl w' a [] := fun W p fb M E => gm_walk M E root n kd user _ h k ho
  have hs : ∀ W a c, Sl W a [] → Calls Tryd.prog 14 #[.agg #[.slice a 0 c, .int .i64 0, .bool false, .bool false, .bool false, .bool false, .bool false], .agg #[.slice none 0 0, .int .i64 0, .bool false, .bool false, .bool false, .bool false, .bool false]] W
      fun e w' => e = .returned (.bool true) ∧ Below W.heap.size W w' := fun W a c h1 => by
    have := same_any W a none c 0 Path.none Path.none h1 (Sl.nil W) (by decide) (by decide)
    simpa [Path.none] using this
  have hn1 : (page : Int) % 512 = n := by rw [← hn]; rfl
  have hk1 : (kind : Int) % 3 = kd := by rw [← hk]; rfl
  have hn2 : 0 ≤ n ∧ n < 512 := by omega
  have hk2 : 0 ≤ kd ∧ kd < 3 := by omega
  obtain ⟨hn3, hn4⟩ := hn2
  obtain ⟨hk3, hk4⟩ := hk2
  rw [hl] at hm ⊢
  rw [hmem] at hm
  have HW := Lib.hid hw
  have HS := Lib.hid hs
  have HH := Lib.hid hd
  have HM := Lib.hid hm
  have HG := Lib.hid hg
  clear hd hm hg hw hs ho hl hmem hlen hp hn hk
  by_cases h600 : (600 : Int) < (len : Int)
  · clear hh
    go_enter Tryd.func3, Tryd.ntmps3
    go_wp2_with (first
      | (go_at_call 11; (with_reducible refine HH.out.mono ?_); rintro e W0 ⟨rfl, b0⟩)
      | (go_at_call 12; (with_reducible refine (HM.out _ b0).mono ?_); rintro e W1 ⟨⟨p, fb, rfl, M1, q1, q2⟩, b1⟩))
    go_ret
    exact ⟨rfl, b0.trans (b1.mono b0.size)⟩
  · have h600' : decide ((600 : Int) < (len : Int)) = false := by rw [decide_eq_false_iff_not]; exact h600
    clear h600
    rcases hh with ⟨rfl, rfl⟩ | ⟨rfl, hk5, hk6⟩
    all_goals
      go_enter Tryd.func3, Tryd.ntmps3
      go_wp2_with (first
        | (go_at_call 11; (with_reducible refine HH.out.mono ?_); rintro e W0 ⟨rfl, b0⟩)
        | (go_at_call 12; (with_reducible refine (HM.out _ b0).mono ?_); rintro e W1 ⟨⟨p, fb, rfl, M1, q1, q2⟩, b1⟩; have A1 := b0.trans (b1.mono b0.size); have E1 := HG.out.past A1; clear q1 q2 b0 b1)
        | (go_at_call 13; (with_reducible refine (HW.out W1 _ _ M1 E1).mono ?_); rintro e W2 ⟨b2, a2, c2', rfl, s2⟩; have A2 := A1.trans (b2.mono A1.size))
        | (go_at_call 14; (with_reducible refine (HS.out _ _ _ (s2.past (bal _ _))).mono ?_); rintro e W3 ⟨rfl, b3⟩; have A3 := A2.trans ((step b3).mono A2.size)))
      go_ret
      exact ⟨rfl, A3⟩

theorem GM.setOther {w : World} {p fb n : Nat} {hosts mem : List Nat} (h : GM w p fb hosts n mem) {b : Nat} {T : TypeId} {xs : List Value} (hb : Blk w b T xs) (h1 : 105 ≠ T) (h2 : 162 ≠ T) (h3 : 91 ≠ T) (h4 : 109 ≠ T) (h5 : 3 ≠ T) (k : Nat) (v : Value) :
    GM (w.setCell ⟨b, k, none⟩ v) p fb hosts n mem := by
  obtain ⟨gp, hb', mb, fp, cap, H, G⟩ := h
  obtain ⟨sp, hsp⟩ := G.row
  exact ⟨gp, hb', mb, fp, cap, ⟨H.hdr.other (H.hdr.ne hb h1) v, H.row.other (H.row.ne hb h2) v, H.len, H.small, H.bd⟩, ⟨G.hdr.other (G.hdr.ne hb h3) v, G.gm.other (G.gm.ne hb h4) v, ⟨sp, hsp.other (hsp.ne hb h5) v⟩, G.len, G.bd⟩⟩
set_option maxRecDepth 100000 in
set_option maxHeartbeats 8000000 in
theorem within_yes (w : World) (hg : EC w) (a : Option Addr) (c : Nat) (l : List (Int × Int × Nat)) (hp : Ps w a l) (hlen : l.length ≤ 9223372036854775807) (root : Int) (page kind : Nat) (user : Bool) (hpg : page < 65536) (hkd : kind < 256) (ats : List (Int × Int)) (g0 : Int) (rt : Rt) (lg d : Bool) (k : Int)
    (ho : out (wk (rd h16 (puts l)) h16.length root ((page % 512 : Nat) : Int) ((kind % 3 : Nat) : Int) user) = (⟨ats, g0, rt, lg, d⟩, 0, k)) (hbd : ∀ v, v ∈ puts l → v < 2 ^ 64) :
    Calls Tryd.prog 3 #[.slice a l.length c, .int .i64 root, .int .u16 (page : Int), .int .u8 (kind : Int), .bool user] w fun e w' => e = .returned (.bool true) ∧ Below w.heap.size w w' := by
  have hd := head_any w hg
  have hm := fun W (hb : Below w.heap.size w W) => made_any W a c l (hp.below hb) hlen
  obtain ⟨rfl, es, hform, hent, hal, hgf, hg00, hg16, hmay⟩ := within_pure hbd ho
  dsimp only at hform hent hal hgf hg00 hg16 hmay
  obtain ⟨len, hl⟩ : ∃ len, l.length = len := ⟨_, rfl⟩
  obtain ⟨mem, hmem⟩ : ∃ mem, puts l = mem := ⟨_, rfl⟩
  rw [hmem] at ho hent
  obtain ⟨n, hn⟩ : ∃ n : Int, ((page % 512 : Nat) : Int) = n := ⟨_, rfl⟩
  obtain ⟨kd, hk⟩ : ∃ k : Int, ((kind % 3 : Nat) : Int) = k := ⟨_, rfl⟩
  rw [hn, hk] at ho
  rw [hn] at hent hgf
  rw [hk] at hmay
  obtain ⟨pn, hpn⟩ : ∃ n, ats.length = n := ⟨_, rfl⟩
  have hw : ∀ W p fb, GM W p fb h16 16 mem → EC W → Calls Tryd.prog 13 #[.pointer (some ⟨p, 0, none⟩), .int .i64 root, .int .i64 n, .int .i64 kd, .bool user] W
      fun e w' => Below W.heap.size W w' ∧ ∃ a c, e = .returned (.tuple #[.agg #[.slice a pn c, .int .i64 g0, .bool rt.w, .bool rt.u, .bool rt.x, .bool lg, .bool d], .int .i64 0, .int .i64 0]) ∧ Sl w' a ats := fun W p fb M E => by
    have := gm_walk M E root n kd user _ 0 0 ho
    dsimp only at this
    rw [hpn] at this; exact this
  have hmy : ∀ W, Calls Tryd.prog 22 #[.agg #[.bool rt.w, .bool rt.u, .bool rt.x], .int .i64 kd, .bool user] W fun e w' => e = .returned (.bool true) ∧ Below W.heap.size W w' := fun W => by
    have := rmay_any W rt kd user
    rw [hmay] at this; exact this
  have hn1 : (page : Int) % 512 = n := by rw [← hn]; rfl
  have hk1 : (kind : Int) % 3 = kd := by rw [← hk]; rfl
  have hn2 : 0 ≤ n ∧ n < 512 := by omega
  have hk2 : 0 ≤ kd ∧ kd < 3 := by omega
  have hpn3 : pn = 2 ∨ pn = 3 := by omega
  obtain ⟨hn3, hn4⟩ := hn2
  obtain ⟨hk3, hk4⟩ := hk2
  rw [hl] at hm ⊢
  rw [hmem] at hm
  rw [hpn] at hent hal hgf hform
  have HW := Lib.hid hw
  have HMy := Lib.hid hmy
  have HH := Lib.hid hd
  have HM := Lib.hid hm
  have HG := Lib.hid hg
  have HE := Lib.hid hent
  have HA := Lib.hid hal
  have HGF := Lib.hid hgf
  have HF := Lib.hid hform
  have HPN := Lib.hid hpn
  clear hd hm hg hw hmy ho hl hmem hlen hp hn hk hent hal hgf hform hpn hmay hbd
  by_cases h600 : (600 : Int) < (len : Int)
  · go_enter Tryd.func3, Tryd.ntmps3
    go_wp2_with (first
      | (go_at_call 11; (with_reducible refine HH.out.mono ?_); rintro e W0 ⟨rfl, b0⟩)
      | (go_at_call 12; (with_reducible refine (HM.out _ b0).mono ?_); rintro e W1 ⟨⟨p, fb, rfl, M1, q1, q2⟩, b1⟩))
    go_ret
    exact ⟨rfl, b0.trans (b1.mono b0.size)⟩
  · have h600' : decide ((600 : Int) < (len : Int)) = false := by rw [decide_eq_false_iff_not]; exact h600
    clear h600
    go_enter Tryd.func3, Tryd.ntmps3
    go_wp2_with (first
      | (go_at_call 11; (with_reducible refine HH.out.mono ?_); rintro e W0 ⟨rfl, b0⟩)
      | (go_at_call 12; (with_reducible refine (HM.out _ b0).mono ?_); rintro e W1 ⟨⟨p, fb, rfl, M1, q1, q2⟩, b1⟩; have A1 := b0.trans (b1.mono b0.size); have E1 := HG.out.past A1; clear q1 q2 b0 b1)
      | (go_at_call 13; (with_reducible refine (HW.out W1 _ _ M1 E1).mono ?_); rintro e W2 ⟨b2, a2, c2', rfl, s2⟩; have A2 := A1.trans (b2.mono A1.size); have M2 := M1.past b2)
      | (go_at_call 15; (with_reducible refine (rall_any _).mono ?_); rintro e W3 ⟨rfl, b3⟩))
    have d3 := step b3
    have P3 := (Blk.new W2 31 [.slice a2 pn c2', .int .i64 g0, .bool rt.w, .bool rt.u, .bool rt.x, .bool lg, .bool d]).past b3
    have bn := bal W3 (.cells #[.bool true, .bool true, .bool true] 29)
    have M4 := (M2.past d3).past bn
    have S4 := (s2.past d3).past bn
    have P4 := P3.past bn
    have A4 := (A2.trans (d3.mono A2.size)).trans (bn.mono (A2.trans (d3.mono A2.size)).size)
    have R4 := Blk.new W3 29 [.bool true, .bool true, .bool true]
    obtain ⟨tp, htp⟩ : ∃ t, W2.heap.size = t := ⟨_, rfl⟩
    have hwa0 := Nat.le_trans A2.size d3.size
    obtain ⟨ta, hta⟩ : ∃ t, W3.heap.size = t := ⟨_, rfl⟩
    have hwa : w.heap.size ≤ ta := by rw [← hta]; exact hwa0
    rw [htp] at P4 ⊢
    rw [hta] at R4 ⊢
    obtain ⟨WN, hWN⟩ : ∃ W, W3.alloc (.cells #[.bool true, .bool true, .bool true] 29) = W := ⟨_, rfl⟩
    rw [hWN] at M4 S4 P4 A4 R4 ⊢
    clear hWN htp hta bn P3 d3 b3 s2 M2 A2 b2 M1 E1 A1 HW HH HM HG
    go_loopw [18, 20] (fun f i wr => ∃ j : Nat, j ≤ pn ∧ i = .int .i64 j ∧ f = .int .i64 (frm root es j) ∧ GM wr p fb h16 16 mem ∧ Sl wr a2 ats ∧ Blk wr tp 31 [.slice a2 pn c2', .int .i64 g0, .bool rt.w, .bool rt.u, .bool rt.x, .bool lg, .bool d] ∧
      Blk wr ta 29 [.bool (alm es j).w, .bool (alm es j).u, .bool (alm es j).x] ∧ Below w.heap.size w wr) (fun _ i _ => pn - (intOf i).toNat)
    case atStart => exact ⟨0, by omega, rfl, rfl, M4, S4, P4, R4, A4⟩
    case round =>
      obtain ⟨j, hj, rfl, rfl, M, S, P, R, A⟩ := hrel
      clear M4 S4 P4 R4 A4
      have hta : ta ≠ tp := by intro e; subst e; exact absurd (R.inj P).2 (by decide)
      by_cases hjp : j < pn
      · obtain ⟨hx, ⟨v, hrd, hv, hpte⟩, ep, ebad, eund⟩ := HE.out j hjp
        have hfn : frm root es (j + 1) = ((es.getD j pte0).f : Int) := rfl
        have haln : alm es (j + 1) = (alm es j).meet (rtOf (es.getD j pte0)) := rfl
        obtain ⟨F, hF⟩ : ∃ F, frm root es j = F := ⟨_, rfl⟩
        obtain ⟨I, hI⟩ : ∃ I, ix n (3 - (j : Int)) = I := ⟨_, rfl⟩
        obtain ⟨al, hal⟩ : ∃ x, alm es j = x := ⟨_, rfl⟩
        obtain ⟨e, he⟩ : ∃ e, es.getD j pte0 = e := ⟨_, rfl⟩
        rw [he] at hpte ep ebad eund hfn haln
        rw [hal] at haln R
        rw [hF, hI] at hx hrd
        rw [hF]
        have hidx := fun W => ridx_any W n (3 - (j : Int))
        rw [hI] at hidx
        obtain ⟨e1, ew, eu, ea, ed, eps, enx, e8, ef⟩ := e
        dsimp only at ep ebad hfn
        subst ep ebad
        have hget : ∀ W, GM W p fb h16 16 mem → Calls Tryd.prog 16 #[.pointer (some ⟨p, 0, none⟩), .int .i64 F, .int .i64 I] W fun e w' => e = .returned (.tuple #[.int .u64 (v : Int), .bool true]) ∧ W = w' := fun W M => gm_get M F I (some v) hrd
        have href := fun W => refget_any W v _ hpte hv
        have hof := fun W => rof_any W ⟨true, ew, eu, ea, ed, eps, enx, false, ef⟩
        have hund := fun W => runder_any W rt (rtOf ⟨true, ew, eu, ea, ed, eps, enx, false, ef⟩)
        rw [eund] at hund
        have hmeet := fun W b cap hb => rmeet_any W b cap al (rtOf ⟨true, ew, eu, ea, ed, eps, enx, false, ef⟩) hb
        rw [← haln] at hmeet
        dsimp only [rtOf] at hund hmeet hof href
        obtain ⟨B, rest, rfl, hb⟩ : ∃ b rest, a2 = some ⟨b, 0, none⟩ ∧ Blk wr b 40 (atCells ats ++ rest) := by
          rcases S with ⟨_, h⟩ | h
          · rw [h] at HPN; have := HPN.out; simp at this; omega
          · exact h
        obtain ⟨c0, c1⟩ := Sl.at hb j (by rw [HPN.out]; exact hjp)
        rw [hx] at c0 c1
        dsimp only at c0 c1
        have p0 := P.cell (k := 0) rfl
        have lb := hb.lt
        have lp := P.lt
        have lr := R.lt
        have hj0 : (0 : Int) ≤ j := by omega
        have hj3 : (j : Int) < 3 := by omega
        have hwr : IntKind.i64.wrap (3 - (j : Int)) = 3 - (j : Int) := by rw [IntKind.wrap_i64]; omega
        have HGet := Lib.hid hget
        have HRef := Lib.hid href
        have HIdx := Lib.hid hidx
        have HOf := Lib.hid hof
        have HUn := Lib.hid hund
        have HMe := Lib.hid hmeet
        have HFN := Lib.hid hfn
        have HX := Lib.hid hx
        have HBb := Lib.hid hb
        have PP := Lib.hid P
        have RR := Lib.hid R
        have MM := Lib.hid M
        have SS := Lib.hid S
        clear hget href hidx hof hund hmeet hfn haln hb P R M S hx hrd hpte eund he hal hF hI hv
        have u40 := Tryd.underlying40
        have hp40 : Tryd.prog.stoodInHeld 40 = false := by kernel_rfl
        have hg40 : Tryd.prog.eqGuardType Tryd.prog.depth 40 = false := by kernel_rfl
        go_wp2_with fail
        go_region_held3 (fun w' => w'.cell? ⟨tp, 0, none⟩ = some (.slice (some ⟨B, 0, none⟩) pn c2') ∧ w'.cell? ⟨B, j * 2, none⟩ = some (.int .i64 F) ∧ w'.cell? ⟨B, j * 2 + 1, none⟩ = some (.int .i64 I)) (go_keep) (first
          | (go_at_call 16; refine (HGet.out _ (MM.out.past (below_of_drewN _ 1))).mono ?_; rintro e w' ⟨rfl, rfl⟩))
        all_goals go_wp2_with (first
          | (go_at_call 17; (with_reducible refine (HRef.out _).mono ?_); rintro e W5 ⟨rfl, b5⟩))
        have q5 := (below_of_drewN wr 1).trans b5
        have bz := bal W5 (.cells #[.bool true, .bool ew, .bool eu, .bool ea, .bool ed, .bool eps, .bool enx, .bool false, .int .i64 (ef : Int)] 42)
        have P6 := (PP.out.past q5).past bz
        have B6 := (HBb.out.past q5).past bz
        have R6 := (RR.out.past q5).past bz
        have M6 := (MM.out.past q5).past bz
        have S6 := (SS.out.past q5).past bz
        have A6 := A.trans ((q5.trans (bz.mono q5.size)).mono A.size)
        have T6 := Blk.new W5 42 [.bool true, .bool ew, .bool eu, .bool ea, .bool ed, .bool eps, .bool enx, .bool false, .int .i64 (ef : Int)]
        obtain ⟨te, hte⟩ : ∃ t, W5.heap.size = t := ⟨_, rfl⟩
        rw [hte] at T6 ⊢
        obtain ⟨W6, hW6⟩ : ∃ W, W5.alloc (.cells #[.bool true, .bool ew, .bool eu, .bool ea, .bool ed, .bool eps, .bool enx, .bool false, .int .i64 (ef : Int)] 42) = W := ⟨_, rfl⟩
        rw [hW6] at P6 B6 R6 M6 S6 A6 T6 ⊢
        have hpe : tp ≠ te := by intro e; subst e; exact absurd (P6.inj T6).2 (by decide)
        have hae : ta ≠ te := by intro e; subst e; exact absurd (R6.inj T6).2 (by decide)
        clear hW6 hte bz q5 b5 c0 c1 p0 lb lp lr
        have p0 := P6.cell (k := 0) rfl
        have p2 := P6.cell (k := 2) rfl
        have p3 := P6.cell (k := 3) rfl
        have p4 := P6.cell (k := 4) rfl
        obtain ⟨c0, c1⟩ := Sl.at B6 j (by rw [HPN.out]; exact hjp)
        rw [HX.out] at c0 c1
        have t0 := T6.cell (k := 0) rfl
        have t1 := T6.cell (k := 1) rfl
        have t2 := T6.cell (k := 2) rfl
        have t3 := T6.cell (k := 3) rfl
        have t4 := T6.cell (k := 4) rfl
        have t5 := T6.cell (k := 5) rfl
        have t6 := T6.cell (k := 6) rfl
        have t7 := T6.cell (k := 7) rfl
        have t8 := T6.cell (k := 8) rfl
        have lb := B6.lt
        have lp := P6.lt
        have lt := T6.lt
        have HP6 := Lib.hid P6
        have HB6 := Lib.hid B6
        have HR6 := Lib.hid R6
        have HM6 := Lib.hid M6
        have HS6 := Lib.hid S6
        have HT6 := Lib.hid T6
        clear P6 B6 R6 M6 S6 T6
        go_region_held3 (fun w' => w'.cell? ⟨tp, 0, none⟩ = some (.slice (some ⟨B, 0, none⟩) pn c2') ∧ w'.cell? ⟨tp, 2, none⟩ = some (.bool rt.w) ∧ w'.cell? ⟨tp, 3, none⟩ = some (.bool rt.u) ∧ w'.cell? ⟨tp, 4, none⟩ = some (.bool rt.x) ∧ w'.cell? ⟨B, j * 2, none⟩ = some (.int .i64 F) ∧ w'.cell? ⟨B, j * 2 + 1, none⟩ = some (.int .i64 I) ∧ w'.cell? ⟨te, 0, none⟩ = some (.bool true) ∧ w'.cell? ⟨te, 1, none⟩ = some (.bool ew) ∧ w'.cell? ⟨te, 2, none⟩ = some (.bool eu) ∧ w'.cell? ⟨te, 3, none⟩ = some (.bool ea) ∧ w'.cell? ⟨te, 4, none⟩ = some (.bool ed) ∧ w'.cell? ⟨te, 5, none⟩ = some (.bool eps) ∧ w'.cell? ⟨te, 6, none⟩ = some (.bool enx) ∧ w'.cell? ⟨te, 7, none⟩ = some (.bool false) ∧ w'.cell? ⟨te, 8, none⟩ = some (.int .i64 (ef : Int))) (go_keep) (first
          | (go_at_call 18; (with_reducible refine (HIdx.out _).mono ?_); rintro e w' ⟨rfl, rfl⟩)
          | (go_at_call 20; (with_reducible refine (HOf.out _).mono ?_); rintro r W7 ⟨rfl, b7⟩; have q7 := (below_of_drewN W6 1).trans b7; have Py := HP6.out.past q7; have Ty := HT6.out.past q7; have By := HB6.out.past q7; have yp0 := Py.cell (k := 0) rfl; have yp2 := Py.cell (k := 2) rfl; have yp3 := Py.cell (k := 3) rfl; have yp4 := Py.cell (k := 4) rfl; obtain ⟨yc0, yc1⟩ := Sl.at By j (by rw [HPN.out]; exact hjp); rw [HX.out] at yc0 yc1; have yt0 := Ty.cell (k := 0) rfl; have yt1 := Ty.cell (k := 1) rfl; have yt2 := Ty.cell (k := 2) rfl; have yt3 := Ty.cell (k := 3) rfl; have yt4 := Ty.cell (k := 4) rfl; have yt5 := Ty.cell (k := 5) rfl; have yt6 := Ty.cell (k := 6) rfl; have yt7 := Ty.cell (k := 7) rfl; have yt8 := Ty.cell (k := 8) rfl)
          | (go_at_call 19; (with_reducible refine (HUn.out _).mono ?_); rintro r W8 ⟨rfl, b8⟩; have q8 := q7.trans (b8.mono q7.size); have Pz := HP6.out.past q8; have Tz := HT6.out.past q8; have Bz := HB6.out.past q8; have zp0 := Pz.cell (k := 0) rfl; have zp2 := Pz.cell (k := 2) rfl; have zp3 := Pz.cell (k := 3) rfl; have zp4 := Pz.cell (k := 4) rfl; obtain ⟨zc0, zc1⟩ := Sl.at Bz j (by rw [HPN.out]; exact hjp); rw [HX.out] at zc0 zc1; have zt0 := Tz.cell (k := 0) rfl; have zt1 := Tz.cell (k := 1) rfl; have zt2 := Tz.cell (k := 2) rfl; have zt3 := Tz.cell (k := 3) rfl; have zt4 := Tz.cell (k := 4) rfl; have zt5 := Tz.cell (k := 5) rfl; have zt6 := Tz.cell (k := 6) rfl; have zt7 := Tz.cell (k := 7) rfl; have zt8 := Tz.cell (k := 8) rfl))
        go_wp2_with fail
        have R8 := HR6.out.past q8
        have T8 := HT6.out.past q8
        have vr0 := R8.cell (k := 0) rfl
        have vr1 := R8.cell (k := 1) rfl
        have vr2 := R8.cell (k := 2) rfl
        have vs0 := T8.cell (k := 0) rfl
        have vs1 := T8.cell (k := 1) rfl
        have vs2 := T8.cell (k := 2) rfl
        have vs3 := T8.cell (k := 3) rfl
        have vs4 := T8.cell (k := 4) rfl
        have vs5 := T8.cell (k := 5) rfl
        have vs6 := T8.cell (k := 6) rfl
        have vs7 := T8.cell (k := 7) rfl
        have vs8 := T8.cell (k := 8) rfl
        have lr8 := R8.lt
        have lt8 := T8.lt
        clear zp0 zp2 zp3 zp4 zc0 zc1 zt0 zt1 zt2 zt3 zt4 zt5 zt6 zt7 zt8 yp0 yp2 yp3 yp4 yc0 yc1 yt0 yt1 yt2 yt3 yt4 yt5 yt6 yt7 yt8 p0 p2 p3 p4 c0 c1 t0 t1 t2 t3 t4 t5 t6 t7 t8
        have HR8 := Lib.hid R8
        have HT8 := Lib.hid T8
        clear R8 T8
        refine wp_region_last (fun w' => w'.cell? ⟨ta, 0, none⟩ = some (.bool al.w) ∧ w'.cell? ⟨ta, 1, none⟩ = some (.bool al.u) ∧ w'.cell? ⟨ta, 2, none⟩ = some (.bool al.x) ∧ w'.cell? ⟨te, 0, none⟩ = some (.bool true) ∧ w'.cell? ⟨te, 1, none⟩ = some (.bool ew) ∧ w'.cell? ⟨te, 2, none⟩ = some (.bool eu) ∧ w'.cell? ⟨te, 3, none⟩ = some (.bool ea) ∧ w'.cell? ⟨te, 4, none⟩ = some (.bool ed) ∧ w'.cell? ⟨te, 5, none⟩ = some (.bool eps) ∧ w'.cell? ⟨te, 6, none⟩ = some (.bool enx) ∧ w'.cell? ⟨te, 7, none⟩ = some (.bool false) ∧ w'.cell? ⟨te, 8, none⟩ = some (.int .i64 (ef : Int))) 5 (by kernel_rfl) (by go_keep) (fun hHeld => ?_)
        refine' wpAnyL_take (i := 0) (v := _) rfl (by kernel_rfl) (by kernel_rfl) (by kernel_rfl) (by kernel_rfl) (fun _ _ _ h => h) (Or.inl ⟨by with_unfolding_all rfl, ?_⟩) (by assumption) ?_
        rotate_left
        focus (intro w hSw; (try dsimp only at hSw); go_simp; try (with_reducible rfl))
        try simp only [List.getElem_toArray, List.getElem_cons_zero, Act.put, List.setIfInBounds_toArray, List.set_cons_zero, List.set_cons_succ]
        refine' wpAnyL_take (i := 1) (v := _) rfl (by kernel_rfl) (by kernel_rfl) (by kernel_rfl) (by kernel_rfl) (fun _ _ _ h => h) (Or.inl ⟨by with_unfolding_all rfl, ?_⟩) (by assumption) ?_
        rotate_left
        focus (intro w hSw; (try dsimp only at hSw); go_simp; try (with_reducible rfl))
        try simp only [List.getElem_toArray, List.getElem_cons_zero, List.getElem_cons_succ, Act.put, List.setIfInBounds_toArray, List.set_cons_zero, List.set_cons_succ]
        refine wpAnyL_one (i := 2) (by kernel_rfl) rfl (fun K hK => ?_)
        rw [if_pos (by with_unfolding_all rfl)]
        go_simp
        go_at_call 20
        (with_reducible refine (HOf.out _).mono ?_)
        rintro r W9 ⟨rfl, b9⟩
        have q9 := (below_of_drewN W8 1).trans b9
        have R9 := HR8.out.past q9
        have T9 := HT8.out.past q9
        have xr0 := R9.cell (k := 0) rfl
        have xr1 := R9.cell (k := 1) rfl
        have xr2 := R9.cell (k := 2) rfl
        have xs0 := T9.cell (k := 0) rfl
        have xs1 := T9.cell (k := 1) rfl
        have xs2 := T9.cell (k := 2) rfl
        have xs3 := T9.cell (k := 3) rfl
        have xs4 := T9.cell (k := 4) rfl
        have xs5 := T9.cell (k := 5) rfl
        have xs6 := T9.cell (k := 6) rfl
        have xs7 := T9.cell (k := 7) rfl
        have xs8 := T9.cell (k := 8) rfl
        have lr9 := R9.lt
        have lt9 := T9.lt
        refine hK.out _ _ (fun _ => by (try dsimp only); go_keep) (fun _ => ?_)
        clear hK K
        try simp only [List.getElem_toArray, List.getElem_cons_zero, List.getElem_cons_succ, Act.put, List.setIfInBounds_toArray, List.set_cons_zero, List.set_cons_succ]
        refine wpAnyL_one (i := 3) (by kernel_rfl) rfl (fun K hK => ?_)
        rw [if_pos (by with_unfolding_all rfl)]
        go_simp
        refine hK.out _ _ (fun _ => by (try dsimp only); go_keep) (fun _ => ?_)
        clear hK K
        try simp only [List.getElem_toArray, List.getElem_cons_zero, List.getElem_cons_succ, Act.put, List.setIfInBounds_toArray, List.set_cons_zero, List.set_cons_succ]
        refine wpAnyL_one (i := 4) (by kernel_rfl) rfl (fun K hK => ?_)
        rw [if_pos (by with_unfolding_all rfl)]
        go_simp
        go_at_call 21
        refine (HMe.out _ W9.heap.size 2 (Blk.new W9 29 [.bool al.w, .bool al.u, .bool al.x, .bool ew, .bool eu, .bool (!enx)])).mono ?_
        rintro r W10 ⟨rfl, b10⟩
        have q10 := q9.trans ((step b10).mono q9.size)
        have R10 := HR8.out.past q10
        have T10 := HT8.out.past q10
        clear xr0 xr1 xr2 xs0 xs1 xs2 xs3 xs4 xs5 xs6 xs7 xs8
        have ur0 := R10.cell (k := 0) rfl
        have ur1 := R10.cell (k := 1) rfl
        have ur2 := R10.cell (k := 2) rfl
        have us0 := T10.cell (k := 0) rfl
        have us1 := T10.cell (k := 1) rfl
        have us2 := T10.cell (k := 2) rfl
        have us3 := T10.cell (k := 3) rfl
        have us4 := T10.cell (k := 4) rfl
        have us5 := T10.cell (k := 5) rfl
        have us6 := T10.cell (k := 6) rfl
        have us7 := T10.cell (k := 7) rfl
        have us8 := T10.cell (k := 8) rfl
        have rf10 := fun k => R10.free k
        have lr10 := R10.lt
        have lt10 := T10.lt
        refine hK.out _ _ (fun _ => by (try dsimp only); go_keep) (fun _ => ?_)
        clear hK K
        try simp only [List.getElem_toArray, List.getElem_cons_zero, List.getElem_cons_succ, Act.put, List.setIfInBounds_toArray, List.set_cons_zero, List.set_cons_succ]
        refine wpAnyL_one (i := 5) (by kernel_rfl) rfl (fun K hK => ?_)
        rw [if_pos (by with_unfolding_all rfl)]
        go_simp
        refine hK.out _ _ (fun h => absurd rfl h) (fun _ => ?_)
        clear hK K
        refine wpAnyL_done (by kernel_rfl) ?_
        have q := q8.trans (q10.mono q8.size)
        have M10 := HM6.out.past q
        have S10 := HS6.out.past q
        have P10 := HP6.out.past q
        have A10 := A6.trans (q.mono A6.size)
        have T0 := R10.set 0 (.bool (alm es (j + 1)).w)
        have T1 := T0.set 1 (.bool (alm es (j + 1)).u)
        have T2 := T1.set 2 (.bool (alm es (j + 1)).x)
        have M11 := ((M10.setOther R10 (by decide) (by decide) (by decide) (by decide) (by decide) 0 (.bool (alm es (j + 1)).w)).setOther T0 (by decide) (by decide) (by decide) (by decide) (by decide) 1 (.bool (alm es (j + 1)).u)).setOther T1 (by decide) (by decide) (by decide) (by decide) (by decide) 2 (.bool (alm es (j + 1)).x)
        have S11 := ((S10.set R10 (by decide) 0 (.bool (alm es (j + 1)).w)).set T0 (by decide) 1 (.bool (alm es (j + 1)).u)).set T1 (by decide) 2 (.bool (alm es (j + 1)).x)
        have P11 := ((P10.other (a := ⟨ta, 0, none⟩) (Ne.symm hta) (.bool (alm es (j + 1)).w)).other (a := ⟨ta, 1, none⟩) (Ne.symm hta) (.bool (alm es (j + 1)).u)).other (a := ⟨ta, 2, none⟩) (Ne.symm hta) (.bool (alm es (j + 1)).x)
        have A11 := ((A10.setCell (p := ⟨ta, 0, none⟩) hwa (.bool (alm es (j + 1)).w)).setCell (p := ⟨ta, 1, none⟩) hwa (.bool (alm es (j + 1)).u)).setCell (p := ⟨ta, 2, none⟩) hwa (.bool (alm es (j + 1)).x)
        have X1 := Lib.hid T2
        have X2 := Lib.hid M11
        have X3 := Lib.hid S11
        have X4 := Lib.hid P11
        have X5 := Lib.hid A11
        clear M10 S10 P10 A10 T0 T1 T2 M11 S11 P11 A11
        go_wp2
        go_roundw
        case rel => exact ⟨j + 1, by omega, by simp, by rw [HFN.out], X2.out, X3.out, X4.out, X1.out, X5.out⟩
        case measure => simp [intOf]; omega
      · obtain rfl : j = pn := by omega
        rw [HA.out] at R
        have hgf := HGF.out
        obtain ⟨F, hF⟩ : ∃ F, frm root es j = F := ⟨_, rfl⟩
        rw [hF] at hgf ⊢
        have p0 := P.cell (k := 0) rfl
        have p1 := P.cell (k := 1) rfl
        have p2 := P.cell (k := 2) rfl
        have p3 := P.cell (k := 3) rfl
        have p4 := P.cell (k := 4) rfl
        have p5 := P.cell (k := 5) rfl
        have r0 := R.cell (k := 0) rfl
        have r1 := R.cell (k := 1) rfl
        have r2 := R.cell (k := 2) rfl
        have lp := P.lt
        have lr := R.lt
        have hmd : n.tmod 8 = n % 8 := Int.tmod_eq_emod_of_nonneg hn3
        have u29 := Tryd.underlying29
        have hp29 : Tryd.prog.stoodInHeld 29 = false := by kernel_rfl
        have hg29 : Tryd.prog.eqGuardType Tryd.prog.depth 29 = false := by kernel_rfl
        have HP := Lib.hid P
        have hform := HF.out
        clear P R S M hF hj hpn3
        rcases hform with ⟨rfl, rfl⟩ | ⟨rfl, rfl⟩
        · rw [if_pos rfl] at hgf
          subst hgf
          go_wp2_with (first
            | (go_at_call 22; (with_reducible refine (HMy.out _).mono ?_); rintro r W5 ⟨rfl, b5⟩; have A5 := A.trans (b5.mono A.size); have P5 := HP.out.past b5; have y0 := P5.cell (k := 0) rfl; have y1 := P5.cell (k := 1) rfl; have y5 := P5.cell (k := 5) rfl))
          go_ret
          exact ⟨rfl, A5⟩
        · rw [if_neg (by decide), Int.add_zero] at hgf
          subst hgf
          go_wp2_with (first
            | (go_at_call 22; (with_reducible refine (HMy.out _).mono ?_); rintro r W5 ⟨rfl, b5⟩; have A5 := A.trans (b5.mono A.size); have P5 := HP.out.past b5; have y0 := P5.cell (k := 0) rfl; have y1 := P5.cell (k := 1) rfl; have y5 := P5.cell (k := 5) rfl))
          go_ret
          exact ⟨rfl, A5⟩

theorem within_walk (w : World) (hg : EC w) (a : Option Addr) (c : Nat) (l : List (Int × Int × Nat)) (hp : Ps w a l) (hlen : l.length ≤ 9223372036854775807) (root : Int) (page : Int) (hpage : (Lit.int .u16 page).wf = true) (kind : Int) (hkind : (Lit.int .u8 kind).wf = true) (user : Bool) :
    Calls Tryd.prog 3 #[.slice a l.length c, .int .i64 root, .int .u16 page, .int .u8 kind, .bool user] w fun e w' => e = .returned (.bool true) ∧ Below w.heap.size w w' := by
  obtain ⟨page, rfl, hpg⟩ := u16_bd hpage
  obtain ⟨kind, rfl, hkd⟩ := u8_bd hkind
  have hbd : ∀ v, v ∈ puts l → v < 2 ^ 64 := by
    have hps : ∀ x, x ∈ l → x.2.2 < 2 ^ 64 := by
      intro x hx
      rcases hp with rfl | ⟨b, off, _, _, h⟩
      · simp at hx
      · obtain ⟨j, hj, rfl⟩ := List.getElem_of_mem hx
        have := (h j hj).1
        rw [getD_at _ hj] at this
        exact this
    unfold puts
    have : ∀ (l : List (Int × Int × Nat)) (m : List Nat), (∀ x, x ∈ l → x.2.2 < 2 ^ 64) → (∀ v, v ∈ m → v < 2 ^ 64) → ∀ v, v ∈ l.foldl put1 m → v < 2 ^ 64 := by
      intro l
      induction l with
      | nil => intro m _ hm v hv; exact hm v hv
      | cons x l ih =>
        intro m hx hm
        rw [List.foldl_cons]
        refine ih _ (fun y hy => hx y (List.mem_cons_of_mem _ hy)) (fun v hv => ?_)
        unfold put1 wr at hv
        split at hv
        · rcases List.mem_or_eq_of_mem_set hv with h | h
          · exact hm v h
          · rw [h]; exact hx x (List.mem_cons_self ..)
        · exact hm v hv
    exact this l _ hps (by intro v hv; rw [List.mem_replicate] at hv; omega)
  rcases wk_forms (rd h16 (puts l)) h16.length root ((page % 512 : Nat) : Int) with f | f | f | ⟨_, f⟩
  · exact within_no w hg a c l hp hlen root page kind user hpg hkd _ _ (f _ _) (.inl ⟨rfl, rfl⟩)
  · exact within_no w hg a c l hp hlen root page kind user hpg hkd _ _ (f _ _) (.inr ⟨rfl, fcode_bd _ _ _ _⟩)
  · exact within_no w hg a c l hp hlen root page kind user hpg hkd _ _ (f _ _) (.inr ⟨rfl, fcode_bd _ _ _ _⟩)
  · have h := f ((kind % 3 : Nat) : Int) user
    split at h
    · exact within_no w hg a c l hp hlen root page kind user hpg hkd _ _ h (.inr ⟨rfl, fcode_bd _ _ _ _⟩)
    · split at h
      · exact within_no w hg a c l hp hlen root page kind user hpg hkd _ _ h (.inl ⟨rfl, rfl⟩)
      · obtain ⟨⟨ats, g0, rt, lg, d⟩, hP⟩ : ∃ P, endP ((page % 512 : Nat) : Int) (foldP (stepsFrom (rd h16 (puts l)) ((page % 512 : Nat) : Int) cd0 3 root)) = P := ⟨_, rfl⟩
        rw [hP] at h
        exact within_yes w hg a c l hp hlen root page kind user hpg hkd ats g0 rt lg d 0 h hbd
end Go.Proofs.YtlldbfpccdmclaaDoor
