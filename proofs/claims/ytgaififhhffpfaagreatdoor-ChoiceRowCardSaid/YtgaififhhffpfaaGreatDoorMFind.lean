/- model.Model's Find. -/
import Derived.Test.YtgaififhhffpfaaGreatDoorAccess
import Derived.Deep.QuietTactic
import Derived.BigQuiet
namespace Go.Proofs.YtgaififhhffpfaaGreatDoor
open Go.RowKit Go.Shelf

def ErOk (o : Option (Int × Int)) : Prop := ∀ h c, o = some (h, c) → h = 1 ∨ h = 3
theorem stepAt_er (get : Int → Int → Option Nat) (page : Int) (cd : Bool → Bool → Int) (lv : Nat) (g : Int) : ErOk (stepAt get page cd lv g).er := by
  intro h c he
  unfold stepAt at he
  dsimp only at he
  split at he
  · simp only [Option.some.injEq, Prod.mk.injEq] at he; omega
  · split at he
    · simp only [Option.some.injEq, Prod.mk.injEq] at he; omega
    · split at he
      · simp only [Option.some.injEq, Prod.mk.injEq] at he; omega
      · cases he
theorem stepsFrom_er (get : Int → Int → Option Nat) (page : Int) (cd : Bool → Bool → Int) : ∀ (n : Nat) (g : Int) (s : St), s ∈ stepsFrom get page cd n g → ErOk s.er
  | 0, _, s, h => by simp [stepsFrom] at h
  | n + 1, g, s, h => by
    simp only [stepsFrom] at h
    split at h
    · rw [List.mem_singleton.1 h]; exact stepAt_er _ _ _ _ _
    · rcases List.mem_cons.1 h with h | h
      · rw [h]; exact stepAt_er _ _ _ _ _
      · exact stepsFrom_er get page cd n _ s h
theorem wk_how (get : Int → Int → Option Nat) (frames : Nat) (root page kind : Int) (user : Bool) (P : Path) (h c : Int) (hw : out (wk get frames root page kind user) = (P, h, c)) : h = 0 ∨ h = 1 ∨ h = 3 := by
  unfold wk wkEnd at hw
  cases hl : (stepsFrom get page (fcode kind user) 3 root).getLast? with
  | none => rw [hl] at hw; simp only [out, Prod.mk.injEq] at hw; omega
  | some s =>
    have he := stepsFrom_er get page (fcode kind user) 3 root s (List.mem_of_getLast? hl)
    rw [hl] at hw
    cases hs : s.er with
    | some e =>
      obtain ⟨a, b⟩ := e
      have := he a b hs
      simp only [hs, out, Prod.mk.injEq] at hw; omega
    | none =>
      simp only [hs] at hw
      repeat' split at hw
      all_goals (first | (simp only [out, Prod.mk.injEq] at hw; omega) | (simp [out] at hw; omega))
/-- what Find comes to -/
def findR (mem : List Nat) (root : Int) (l : List Hit) (page : Int) : Bool × List Hit :=
  if (tget l 0 page).isSome = true then (false, l)
  else
    if (out (wk (rd h16 mem) h16.length root page 0 false)).2.1 = 0 then
      if (out (wk (rd h16 mem) h16.length root page 0 false)).1.ats.any (unused h16 mem) = true then (false, l)
      else (true, tput 512 l (foundH page (out (wk (rd h16 mem) h16.length root page 0 false)).1 false))
    else (false, l)
/-- what Find leaves -/
def FPost (w : World) (p tp gp fb : Nat) (v : Value) (mem : List Nat) (root : Int) (X : Bool × List Hit) (e : Ending) (w' : World) : Prop :=
  e = .returned (.bool X.1) ∧ ∃ v', MS w' p tp gp fb v' mem root X.2 ∧ OwnN w v v' ∧ Kept w.heap.size (MSet p tp fb v) w w'
set_option maxRecDepth 100000 in
set_option maxHeartbeats 8000000 in
theorem mfind_any (w : World) (p tp gp fb : Nat) (v : Value) (mem : List Nat) (root : Int) (l : List Hit) (M : MS w p tp gp fb v mem root l) (hsm : l.length ≤ 100000) (hE : EC w) (page : Int) :
    Calls Tryz.prog 32 #[.pointer (some ⟨p, 0, none⟩), .int .i64 page] w (FPost w p tp gp fb v mem root (findR mem root l page)) := by
  obtain ⟨res, hres⟩ : ∃ r, findR mem root l page = r := ⟨_, rfl⟩
  rw [hres]
  obtain ⟨o, ho⟩ : ∃ o, tget l 0 page = o := ⟨_, rfl⟩
  obtain ⟨⟨⟨ats, g0, ⟨rw0, ru0, rx0⟩, lg, pd⟩, hw, cd⟩, hwk⟩ : ∃ X, out (wk (rd h16 mem) h16.length root page 0 false) = X := ⟨_, rfl⟩
  obtain ⟨pn, hpn⟩ : ∃ n, ats.length = n := ⟨_, rfl⟩
  have hpl : ats.length ≤ 3 := wk_len hwk
  have hho := wk_how _ _ _ _ _ _ _ _ _ hwk
  have hkn := known_any w p tp gp fb v mem root l M (by omega) page o ho
  have hwalk : ∀ W, GM W gp fb h16 16 mem → EC W → Calls Tryz.prog 20 #[.pointer (some ⟨gp, 0, none⟩), .int .i64 root, .int .i64 page, .int .i64 0, .bool false] W
      fun e w' => Below W.heap.size W w' ∧ ∃ a c, e = .returned (.tuple #[.agg #[.slice a pn c, .int .i64 g0, .bool rw0, .bool ru0, .bool rx0, .bool lg, .bool pd], .int .i64 hw, .int .i64 cd]) ∧ Sl w' a ats := fun W M E => by
    have := gm_walk M E root page 0 false _ hw cd hwk
    dsimp only at this
    rw [hpn] at this; exact this
  obtain ⟨un, hun⟩ : ∃ b, ats.any (unused h16 mem) = b := ⟨_, rfl⟩
  have hmd : ∀ W a c, GM W gp fb h16 16 mem → Sl W a ats → Calls Tryz.prog 43 #[.pointer (some ⟨gp, 0, none⟩), .agg #[.slice a pn c, .int .i64 g0, .bool rw0, .bool ru0, .bool rx0, .bool lg, .bool pd]] W
      fun e w' => e = .returned (.bool (!un)) ∧ Below W.heap.size W w' := fun W a c M hs => by
    have := marked_any W gp fb 16 h16 mem a ⟨ats, g0, ⟨rw0, ru0, rx0⟩, lg, pd⟩ c M hs (by dsimp only; omega)
    dsimp only at this
    rw [hun, hpn] at this; exact this
  have hfnd := fun W a c => found_open W page a pn c g0 rw0 ru0 rx0 lg pd false pd (by simp)
  obtain ⟨l2, hl2⟩ : ∃ l2, tput 512 l ⟨0, page, g0, ⟨rw0, ru0, rx0⟩, pd⟩ = l2 := ⟨_, rfl⟩
  have hput := fun W (T : TS W tp 512 v l) => tlbPut_any W tp 512 v l ⟨0, page, g0, ⟨rw0, ru0, rx0⟩, pd⟩ T (by omega) (by decide) (by decide)
  rw [hl2] at hput
  dsimp only at hput
  have hmiss : res = (if o.isSome = true then (false, l) else if hw = 0 then (if un = true then (false, l) else (true, l2)) else (false, l)) := by
    rw [← hres]; unfold findR; rw [hwk, ho]; dsimp only; rw [hun]; unfold foundH; dsimp only; rw [Bool.or_false, hl2]
  have lp := M.hdr.lt
  have HKn := Lib.hid hkn
  have HWk := Lib.hid hwalk
  have HMd := Lib.hid hmd
  have HFd := Lib.hid hfnd
  have HPt := Lib.hid hput
  have HMi := Lib.hid hmiss
  have HM := Lib.hid M
  have HE := Lib.hid hE
  have HHo := Lib.hid hho
  clear hho hkn hwalk hmd hfnd hput hmiss M hres ho hwk hE hl2 hpn hpl lp hun hsm
  cases o with
  | some h =>
    obtain ⟨xa, xp, xf, ⟨xw, xu, xx⟩, xd⟩ := h
    dsimp only [Option.getD_some, Option.isSome_some] at HKn
    have Hres : Hid (res = (false, l)) := Lib.hid (by rw [HMi.out]; simp)
    go_enter Tryz.func32, Tryz.ntmps32
    go_wp2_with (first
      | (go_at_call 23; (with_reducible refine HKn.out.mono ?_); rintro e W1 ⟨rfl, b1⟩))
    have hq := b1.trans ((bal W1 (.cells #[.int .i64 xa, .int .i64 xp, .int .i64 xf, .bool xw, .bool xu, .bool xx, .bool xd] 49)).mono b1.size)
    refine bodyPost_ret (v := .bool false) (by simp [results, Tryz.results32, go_sem]) rfl ?_
    rw [Hres.out]
    exact ⟨rfl, _, HM.out.past hq, OwnN.refl w v, Kept.of_below hq⟩
  | none =>
    dsimp only [Option.getD_none, Option.isSome_none, hit0] at HKn
    have HMr : Hid (res = (if hw = 0 then (if un = true then (false, l) else (true, l2)) else (false, l))) := Lib.hid (by rw [HMi.out]; simp)
    go_enter Tryz.func32, Tryz.ntmps32
    go_wp2_with (first
      | (go_at_call 23; (with_reducible refine HKn.out.mono ?_); rintro e W1 ⟨rfl, b1⟩))
    have BB := b1.trans ((bal W1 (.cells #[.int .i64 0, .int .i64 0, .int .i64 0, .bool false, .bool false, .bool false, .bool false] 49)).mono b1.size)
    obtain ⟨W, hW⟩ : ∃ W, W1.alloc (.cells #[.int .i64 0, .int .i64 0, .int .i64 0, .bool false, .bool false, .bool false, .bool false] 49) = W := ⟨_, rfl⟩
    rw [hW] at BB
    rw [hW]
    have M1 := HM.out.past BB
    have EW := HE.out.past BB
    have KW : Kept w.heap.size (MSet p tp fb v) w W := Kept.of_below BB
    clear hW b1
    have g1 := M1.hdr.cell (k := 1) rfl
    have g2 := M1.hdr.cell (k := 2) rfl
    have gl := M1.hdr.lt
    have gne : p ≠ W.heap.size := Nat.ne_of_lt gl
    have gne' : W.heap.size ≠ p := Ne.symm gne
    have HM1 := Lib.hid M1
    have HEW := Lib.hid EW
    have HKW := Lib.hid KW
    clear M1 EW KW
    go_region_held3 (fun w' => w'.cell? ⟨p, 1, none⟩ = some (.pointer (some ⟨gp, 0, none⟩)) ∧ w'.cell? ⟨p, 2, none⟩ = some (.int .i64 root)) (go_keep) (first
      | (go_at_call 20; (with_reducible refine (HWk.out _ (HM1.out.g.past (Below.refl _ W).drew) (HEW.out.past (Below.refl _ W).drew)).mono ?_); rintro e W4 ⟨b4, a4, c4, rfl, s4⟩; have q4 := (Below.refl W.heap.size W).drew.trans b4; have M4 := HM1.out.past q4; have y1 := M4.hdr.cell (k := 1) rfl; have y2 := M4.hdr.cell (k := 2) rfl; have yl := M4.hdr.lt)
      | (go_at_call 20; (with_reducible refine (HWk.out _ (HM1.out.g.past (bal W (.cells #[.slice none 0 0, .int .i64 0, .bool false, .bool false, .bool false, .bool false, .bool false] 42)).drew) (HEW.out.past (bal W (.cells #[.slice none 0 0, .int .i64 0, .bool false, .bool false, .bool false, .bool false, .bool false] 42)).drew)).mono ?_); rintro e W4 ⟨b4, a4, c4, rfl, s4⟩; have q4 := (bal W (.cells #[.slice none 0 0, .int .i64 0, .bool false, .bool false, .bool false, .bool false, .bool false] 42)).drew.trans (b4.mono (by simp)); have M4 := HM1.out.past q4; have ZP4 := (Blk.new W 42 [.slice none 0 0, .int .i64 0, .bool false, .bool false, .bool false, .bool false, .bool false]).drew.past b4; have y1 := M4.hdr.cell (k := 1) rfl; have y2 := M4.hdr.cell (k := 2) rfl; have yl := M4.hdr.lt; have zpc0 := ZP4.cell (k := 0) rfl; have zpc1 := ZP4.cell (k := 1) rfl; have zpc2 := ZP4.cell (k := 2) rfl; have zpc3 := ZP4.cell (k := 3) rfl; have zpc4 := ZP4.cell (k := 4) rfl; have zpc5 := ZP4.cell (k := 5) rfl; have zpc6 := ZP4.cell (k := 6) rfl; have zpcf := fun j => ZP4.free j; have zpcl := ZP4.lt))
    all_goals (first
      | (obtain ⟨P5, q5, s5⟩ := seven (.slice a4 pn c4) (.int .i64 g0) (.bool rw0) (.bool ru0) (.bool rx0) (.bool lg) (.bool pd) ZP4 q4 (Nat.le_refl _) s4
         have M5 := HM1.out.past q5
         have KW5 := HKW.out.trans (Kept.of_below (q5.mono HKW.out.size))
         obtain ⟨pb, hpb⟩ : ∃ t, W.heap.size = t := ⟨_, rfl⟩
         obtain ⟨W5, hW5⟩ : ∃ W', ((((((W4.setCell ⟨W.heap.size, 0, none⟩ (.slice a4 pn c4)).setCell ⟨W.heap.size, 1, none⟩ (.int .i64 g0)).setCell ⟨W.heap.size, 2, none⟩ (.bool rw0)).setCell ⟨W.heap.size, 3, none⟩ (.bool ru0)).setCell ⟨W.heap.size, 4, none⟩ (.bool rx0)).setCell ⟨W.heap.size, 5, none⟩ (.bool lg)).setCell ⟨W.heap.size, 6, none⟩ (.bool pd) = W' := ⟨_, rfl⟩
         rw [hW5] at P5 M5 s5 KW5
         rw [hpb] at P5
         rw [hW5, hpb]
         clear hW5 hpb q5 q4 b4 s4 M4 ZP4 y1 y2 yl zpc0 zpc1 zpc2 zpc3 zpc4 zpc5 zpc6 zpcf zpcl g1 g2 gl gne gne' HM1 HEW HKW)
      | (have bn := bal W4 (.cells #[.slice a4 pn c4, .int .i64 g0, .bool rw0, .bool ru0, .bool rx0, .bool lg, .bool pd] 42)
         have P5 := Blk.new W4 42 [.slice a4 pn c4, .int .i64 g0, .bool rw0, .bool ru0, .bool rx0, .bool lg, .bool pd]
         have q5 := q4.trans (bn.mono q4.size)
         have M5 := HM1.out.past q5
         have s5 := s4.past bn
         have KW5 := HKW.out.trans (Kept.of_below (q5.mono HKW.out.size))
         obtain ⟨pb, hpb⟩ : ∃ t, W4.heap.size = t := ⟨_, rfl⟩
         obtain ⟨W5, hW5⟩ : ∃ W, W4.alloc (.cells #[.slice a4 pn c4, .int .i64 g0, .bool rw0, .bool ru0, .bool rx0, .bool lg, .bool pd] 42) = W := ⟨_, rfl⟩
         rw [show (W4.alloc (.cells ([.slice a4 pn c4, .int .i64 g0, .bool rw0, .bool ru0, .bool rx0, .bool lg, .bool pd] : List Value).toArray 42)) = W5 from hW5, hpb] at P5
         rw [hW5] at M5 s5 KW5
         rw [hW5, hpb]
         clear hW5 hpb bn q5 q4 b4 s4 M4 y1 y2 yl g1 g2 gl gne gne' HM1 HEW HKW))
    all_goals
      have g1 := M5.hdr.cell (k := 1) rfl
      have gl := M5.hdr.lt
      have p5c0 := P5.cell (k := 0) rfl
      have p5c1 := P5.cell (k := 1) rfl
      have p5c2 := P5.cell (k := 2) rfl
      have p5c3 := P5.cell (k := 3) rfl
      have p5c4 := P5.cell (k := 4) rfl
      have p5c5 := P5.cell (k := 5) rfl
      have p5c6 := P5.cell (k := 6) rfl
      have p5cf := fun j => P5.free j
      have p5cl := P5.lt
      have HM5 := Lib.hid M5
      have HP5 := Lib.hid P5
      have Hs5 := Lib.hid s5
      have HK5 := Lib.hid KW5
      clear M5 P5 s5 KW5
      by_cases hhw : hw = 0
      · subst hhw
        have HMs : Hid (res = if un = true then (false, l) else (true, l2)) := Lib.hid (by rw [HMr.out, if_pos rfl])
        go_wp2_with fail
        go_region_held3 (fun w' => w'.cell? ⟨p, 1, none⟩ = some (.pointer (some ⟨gp, 0, none⟩)) ∧ w'.cell? ⟨pb, 0, none⟩ = some (.slice a4 pn c4) ∧ w'.cell? ⟨pb, 1, none⟩ = some (.int .i64 g0) ∧ w'.cell? ⟨pb, 2, none⟩ = some (.bool rw0) ∧ w'.cell? ⟨pb, 3, none⟩ = some (.bool ru0) ∧ w'.cell? ⟨pb, 4, none⟩ = some (.bool rx0) ∧ w'.cell? ⟨pb, 5, none⟩ = some (.bool lg) ∧ w'.cell? ⟨pb, 6, none⟩ = some (.bool pd)) (go_keep) (first
          | (go_at_call 43; (with_reducible refine (HMd.out _ _ _ (HM5.out.g.past (Below.refl _ W5).drew) (Hs5.out.past (Below.refl _ W5).drew)).mono ?_); rintro e W6 ⟨rfl, b6⟩; have q6 := (Below.refl W5.heap.size W5).drew.trans b6; have M6 := HM5.out.past q6; have P6 := HP5.out.past q6; have g6 := M6.hdr.cell (k := 1) rfl; have g6l := M6.hdr.lt; have p6c0 := P6.cell (k := 0) rfl; have p6c1 := P6.cell (k := 1) rfl; have p6c2 := P6.cell (k := 2) rfl; have p6c3 := P6.cell (k := 3) rfl; have p6c4 := P6.cell (k := 4) rfl; have p6c5 := P6.cell (k := 5) rfl; have p6c6 := P6.cell (k := 6) rfl; have p6cf := fun j => P6.free j; have p6cl := P6.lt))
        cases un with
        | true =>
          have Hres : Hid (res = (false, l)) := Lib.hid (by rw [HMs.out, if_pos rfl])
          go_wp2
          refine bodyPost_ret (v := .bool false) (by simp [results, Tryz.results32, go_sem]) rfl ?_
          rw [Hres.out]
          exact ⟨rfl, _, M6, OwnN.refl w v, HK5.out.trans (Kept.of_below (q6.mono HK5.out.size))⟩
        | false =>
          have Hres : Hid (res = (true, l2)) := Lib.hid (by rw [HMs.out, if_neg (by simp)])
          have g0' := M6.hdr.cell (k := 0) rfl
          have K6 := HK5.out.trans (Kept.of_below (q6.mono HK5.out.size))
          have HM6 := Lib.hid M6
          have HP6 := Lib.hid P6
          have HK6 := Lib.hid K6
          clear M6 P6 K6 q6 b6 HM5 HP5 Hs5 HK5 p5c0 p5c1 p5c2 p5c3 p5c4 p5c5 p5c6 p5cf p5cl g1 gl
          go_wp2_with fail
          go_region_held3 (fun w' => w'.cell? ⟨p, 0, none⟩ = some (.pointer (some ⟨tp, 0, none⟩)) ∧ w'.cell? ⟨pb, 0, none⟩ = some (.slice a4 pn c4) ∧ w'.cell? ⟨pb, 1, none⟩ = some (.int .i64 g0) ∧ w'.cell? ⟨pb, 2, none⟩ = some (.bool rw0) ∧ w'.cell? ⟨pb, 3, none⟩ = some (.bool ru0) ∧ w'.cell? ⟨pb, 4, none⟩ = some (.bool rx0) ∧ w'.cell? ⟨pb, 5, none⟩ = some (.bool lg) ∧ w'.cell? ⟨pb, 6, none⟩ = some (.bool pd)) (go_keep) (first
            | (go_at_call 82; (with_reducible refine (HFd.out _ _ _).mono ?_); rintro e W7 ⟨rfl, b7⟩; have q7 := (Below.refl W6.heap.size W6).drew.trans b7; have M7 := HM6.out.past q7; have P7 := HP6.out.past q7; have g7 := M7.hdr.cell (k := 0) rfl; have g7l := M7.hdr.lt; have p7c0 := P7.cell (k := 0) rfl; have p7c1 := P7.cell (k := 1) rfl; have p7c2 := P7.cell (k := 2) rfl; have p7c3 := P7.cell (k := 3) rfl; have p7c4 := P7.cell (k := 4) rfl; have p7c5 := P7.cell (k := 5) rfl; have p7c6 := P7.cell (k := 6) rfl; have p7cf := fun j => P7.free j; have p7cl := P7.lt)
            | (go_at_call 81; (with_reducible refine (HPt.out _ (HM6.out.past q7).t).mono ?_); rintro e W9 ⟨⟨r, rfl⟩, v2, T9, o9, K9⟩; have M9 := (HM6.out.past q7).tlb T9 K9; have P9 := (HM6.out.past q7).keptB (K9.mono (Nat.le_refl _) (fun k _ h => .inr (.inr h))) P7 ⟨by decide, by decide, by decide, by decide⟩; have gz := M9.hdr.cell (k := 0) rfl; have gzl := M9.hdr.lt; have p9c0 := P9.cell (k := 0) rfl; have p9c1 := P9.cell (k := 1) rfl; have p9c2 := P9.cell (k := 2) rfl; have p9c3 := P9.cell (k := 3) rfl; have p9c4 := P9.cell (k := 4) rfl; have p9c5 := P9.cell (k := 5) rfl; have p9c6 := P9.cell (k := 6) rfl; have p9cf := fun j => P9.free j; have p9cl := P9.lt))
          go_wp2
          refine bodyPost_ret (v := .bool true) (by simp [results, Tryz.results32, go_sem]) rfl ?_
          rw [Hres.out]
          exact ⟨rfl, _, M9, o9.from' (Nat.le_trans HK6.out.size q7.size), HK6.out.trans (((Kept.of_below (S := TSet tp v) q7).trans (K9.mono q7.size (fun _ _ h => h))).mono HK6.out.size (fun k _ h => .inr (.inr h)))⟩
      · have Hres : Hid (res = (false, l)) := Lib.hid (by rw [HMr.out, if_neg hhw])
        have hh13 : hw = 1 ∨ hw = 3 := HHo.out.resolve_left hhw
        clear hhw
        rcases hh13 with hh | hh
        all_goals subst hh
        all_goals go_wp2_with fail
        all_goals go_quiet (fail)
        all_goals go_wp2
        all_goals refine bodyPost_ret (v := .bool false) (by simp [results, Tryz.results32, go_sem]) rfl ?_
        all_goals rw [Hres.out]
        all_goals exact ⟨rfl, _, HM5.out.past (below_of_drewN W5 _), OwnN.refl w v, HK5.out.trans (Kept.of_below ((below_of_drewN W5 _).mono HK5.out.size))⟩
end Go.Proofs.YtgaififhhffpfaaGreatDoor
