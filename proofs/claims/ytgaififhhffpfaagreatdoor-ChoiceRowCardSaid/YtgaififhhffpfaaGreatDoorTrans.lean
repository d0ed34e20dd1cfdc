/- model.Model's translate: the hit that an access takes, or how it comes out. -/
import Derived.Test.YtgaififhhffpfaaGreatDoorModel
import Derived.Test.YtgaififhhffpfaaGreatDoorRoots
import Derived.Test.YtgaififhhffpfaaGreatDoorMarksP
import Derived.Deep.DeepCutAuto
import Derived.Outline
namespace Go.Proofs.YtgaififhhffpfaaGreatDoor
open Go.RowKit Go.Shelf

/-- what translate comes to -/
structure TR where
  h : Hit
  how : Int
  code : Int
  mem : List Nat
  l : List Hit
def markM (mem : List Nat) (P : Path) (wt : Bool) : List Nat := if allIn h16 mem P.ats then markMem h16 P.ats wt mem else mem
def missR (mem : List Nat) (_ : Int) (l : List Hit) (kind : Int) (_ : Bool) (page : Int) (o : Path × Int × Int) : TR :=
  if o.2.1 = 0 then ⟨foundH page o.1 (kind == 1), 0, 0, markM mem o.1 (kind == 1), tput 512 (tdrop l 0 page) (foundH page o.1 (kind == 1))⟩ else ⟨hit0, o.2.1, o.2.2, mem, tdrop l 0 page⟩
def transR (mem : List Nat) (root : Int) (l : List Hit) (kind : Int) (user : Bool) (page : Int) : TR :=
  match tget l 0 page with
  | some h => if servesH h kind user then ⟨h, 0, 0, mem, l⟩ else missR mem root l kind user page (out (wk (rd h16 mem) h16.length root page kind user))
  | none => missR mem root l kind user page (out (wk (rd h16 mem) h16.length root page kind user))

theorem set11 {W : World} {b c : Nat} {x0 x1 x2 x3 x4 x5 x6 y0 y1 y2 y3 : Value} (v0 v1 v2 v3 v4 v5 v6 u0 u1 u2 u3 : Value) (h : Blk W b 49 [x0, x1, x2, x3, x4, x5, x6]) (h' : Blk W c 34 [y0, y1, y2, y3]) :
    Blk (((((((((((W.setCell ⟨b, 0, none⟩ v0).setCell ⟨b, 1, none⟩ v1).setCell ⟨b, 2, none⟩ v2).setCell ⟨b, 3, none⟩ v3).setCell ⟨b, 4, none⟩ v4).setCell ⟨b, 5, none⟩ v5).setCell ⟨b, 6, none⟩ v6).setCell ⟨c, 0, none⟩ u0).setCell ⟨c, 1, none⟩ u1).setCell ⟨c, 2, none⟩ u2).setCell ⟨c, 3, none⟩ u3) b 49 [v0, v1, v2, v3, v4, v5, v6] ∧
    Blk (((((((((((W.setCell ⟨b, 0, none⟩ v0).setCell ⟨b, 1, none⟩ v1).setCell ⟨b, 2, none⟩ v2).setCell ⟨b, 3, none⟩ v3).setCell ⟨b, 4, none⟩ v4).setCell ⟨b, 5, none⟩ v5).setCell ⟨b, 6, none⟩ v6).setCell ⟨c, 0, none⟩ u0).setCell ⟨c, 1, none⟩ u1).setCell ⟨c, 2, none⟩ u2).setCell ⟨c, 3, none⟩ u3) c 34 [u0, u1, u2, u3] ∧
    ∀ S : Nat → Prop, S b → S c → Kept W.heap.size S W (((((((((((W.setCell ⟨b, 0, none⟩ v0).setCell ⟨b, 1, none⟩ v1).setCell ⟨b, 2, none⟩ v2).setCell ⟨b, 3, none⟩ v3).setCell ⟨b, 4, none⟩ v4).setCell ⟨b, 5, none⟩ v5).setCell ⟨b, 6, none⟩ v6).setCell ⟨c, 0, none⟩ u0).setCell ⟨c, 1, none⟩ u1).setCell ⟨c, 2, none⟩ u2).setCell ⟨c, 3, none⟩ u3) := by
  have hbc : b ≠ c := h.ne h' (by decide)
  refine ⟨(((((((((((h.set 0 v0).set 1 v1).set 2 v2).set 3 v3).set 4 v4).set 5 v5).set 6 v6).other (a := ⟨c, 0, none⟩) hbc u0).other (a := ⟨c, 1, none⟩) hbc u1).other (a := ⟨c, 2, none⟩) hbc u2).other (a := ⟨c, 3, none⟩) hbc u3), ?_, fun S hb hc => ?_⟩
  · exact ((((((((((h'.other (a := ⟨b, 0, none⟩) (Ne.symm hbc) v0).other (a := ⟨b, 1, none⟩) (Ne.symm hbc) v1).other (a := ⟨b, 2, none⟩) (Ne.symm hbc) v2).other (a := ⟨b, 3, none⟩) (Ne.symm hbc) v3).other (a := ⟨b, 4, none⟩) (Ne.symm hbc) v4).other (a := ⟨b, 5, none⟩) (Ne.symm hbc) v5).other (a := ⟨b, 6, none⟩) (Ne.symm hbc) v6).set 0 u0).set 1 u1).set 2 u2).set 3 u3
  · exact (((((((((((Kept.refl W.heap.size S W).setCell (p := ⟨b, 0, none⟩) (.inl hb) v0).setCell (p := ⟨b, 1, none⟩) (.inl hb) v1).setCell (p := ⟨b, 2, none⟩) (.inl hb) v2).setCell (p := ⟨b, 3, none⟩) (.inl hb) v3).setCell (p := ⟨b, 4, none⟩) (.inl hb) v4).setCell (p := ⟨b, 5, none⟩) (.inl hb) v5).setCell (p := ⟨b, 6, none⟩) (.inl hb) v6).setCell (p := ⟨c, 0, none⟩) (.inl hc) u0).setCell (p := ⟨c, 1, none⟩) (.inl hc) u1).setCell (p := ⟨c, 2, none⟩) (.inl hc) u2).setCell (p := ⟨c, 3, none⟩) (.inl hc) u3
theorem found_open (w : World) (page : Int) (a : Option Addr) (n c : Nat) (g : Int) (rw0 ru0 rx0 lg d wt fd : Bool) (hf : (d || wt) = fd) :
    Calls Tryz.prog 82 #[.int .i64 page, .agg #[.slice a n c, .int .i64 g, .bool rw0, .bool ru0, .bool rx0, .bool lg, .bool d], .bool wt] w
      fun e w' => e = .returned (.agg #[.int .i64 0, .int .i64 page, .int .i64 g, .bool rw0, .bool ru0, .bool rx0, .bool fd]) ∧ Below w.heap.size w w' := hf ▸ found_any w page a n c g ⟨rw0, ru0, rx0⟩ lg d wt

/-- what translate leaves -/
def TPost (w : World) (p tp gp fb : Nat) (v : Value) (root : Int) (T : TR) (e : Ending) (w' : World) : Prop :=
  e = .returned (.tuple #[.agg #[.int .i64 T.h.asid, .int .i64 T.h.page, .int .i64 T.h.frame, .bool T.h.r.w, .bool T.h.r.u, .bool T.h.r.x, .bool T.h.dirty], .agg #[.int .i64 T.how, .int .u64 0, .int .i64 T.code, .int .u64 0]]) ∧
    ∃ v', MS w' p tp gp fb v' T.mem root T.l ∧ OwnN w v v' ∧ Kept w.heap.size (MSet p tp fb v) w w'
set_option maxRecDepth 100000 in
set_option maxHeartbeats 8000000 in
theorem trans_any (w : World) (p tp gp fb : Nat) (v : Value) (mem : List Nat) (root : Int) (l : List Hit) (M : MS w p tp gp fb v mem root l) (hsm : l.length ≤ 100000) (hE : EC w) (hS0 : ∀ k, MSet p tp fb v k → 0 < k) (kind : Int) (user : Bool) (page : Int) :
    Calls Tryz.prog 68 #[.pointer (some ⟨p, 0, none⟩), .int .i64 kind, .bool user, .int .i64 page] w (TPost w p tp gp fb v root (transR mem root l kind user page)) := by
  obtain ⟨res, hres⟩ : ∃ r, transR mem root l kind user page = r := ⟨_, rfl⟩
  rw [hres]
  obtain ⟨o, ho⟩ : ∃ o, tget l 0 page = o := ⟨_, rfl⟩
  obtain ⟨wt, hwt⟩ : ∃ b, (kind == 1) = b := ⟨_, rfl⟩
  obtain ⟨⟨⟨ats, g0, ⟨rw0, ru0, rx0⟩, lg, pd⟩, hw, cd⟩, hwk⟩ : ∃ X, out (wk (rd h16 mem) h16.length root page kind user) = X := ⟨_, rfl⟩
  obtain ⟨pn, hpn⟩ : ∃ n, ats.length = n := ⟨_, rfl⟩
  obtain ⟨fd, hfd⟩ : ∃ b, (pd || wt) = b := ⟨_, rfl⟩
  have hpl : ats.length ≤ 3 := wk_len hwk
  -- the blocks made first
  have b0a := bal w (.cells #[.int .i64 0, .int .i64 0, .int .i64 0, .bool false, .bool false, .bool false, .bool false] 49)
  have b0b := bal (w.alloc (.cells #[.int .i64 0, .int .i64 0, .int .i64 0, .bool false, .bool false, .bool false, .bool false] 49)) (.cells #[.int .i64 0, .int .u64 0, .int .i64 0, .int .u64 0] 34)
  have z8 := (Blk.new w 49 [.int .i64 0, .int .i64 0, .int .i64 0, .bool false, .bool false, .bool false, .bool false]).past b0b
  have z9 := Blk.new (w.alloc (.cells #[.int .i64 0, .int .i64 0, .int .i64 0, .bool false, .bool false, .bool false, .bool false] 49)) 34 [.int .i64 0, .int .u64 0, .int .i64 0, .int .u64 0]
  rw [show (w.alloc (.cells #[.int .i64 0, .int .i64 0, .int .i64 0, .bool false, .bool false, .bool false, .bool false] 49)).heap.size = w.heap.size + 1 by simp] at z9
  have b0 := b0a.trans (b0b.mono b0a.size)
  obtain ⟨w0, hw0⟩ : ∃ w0, (w.alloc (.cells #[.int .i64 0, .int .i64 0, .int .i64 0, .bool false, .bool false, .bool false, .bool false] 49)).alloc (.cells #[.int .i64 0, .int .u64 0, .int .i64 0, .int .u64 0] 34) = w0 := ⟨_, rfl⟩
  rw [show ((w.alloc (.cells #[.int .i64 0, .int .i64 0, .int .i64 0, .bool false, .bool false, .bool false, .bool false] 49)).alloc (.cells ([.int .i64 0, .int .u64 0, .int .i64 0, .int .u64 0] : List Value).toArray 34)) = w0 from hw0] at z9
  rw [hw0] at z8 b0
  have M0 := M.past b0
  have hkn := known_any w0 p tp gp fb v mem root l M0 (by omega) page o ho
  have hown0 : ∀ k, v.ownBlock = some k → k < w.heap.size := fun k h => (M.t.row.lt _ h).2
  have hfg := fun W (hb : Below w.heap.size w W) => forget_any W p tp gp fb v mem root l (M.past hb) (by omega) page
  obtain ⟨l1, hl1⟩ : ∃ l1, tdrop l 0 page = l1 := ⟨_, rfl⟩
  have hdl : l1.length ≤ l.length := by rw [← hl1]; unfold tdrop; exact List.length_eraseP_le
  rw [hl1] at hfg
  obtain ⟨isk, hisk⟩ : ∃ b, (tget l 0 page).isSome = b := ⟨_, rfl⟩
  rw [hisk] at hfg
  have hwalk : ∀ W, GM W gp fb h16 16 mem → EC W → Calls Tryz.prog 20 #[.pointer (some ⟨gp, 0, none⟩), .int .i64 root, .int .i64 page, .int .i64 kind, .bool user] W
      fun e w' => Below W.heap.size W w' ∧ ∃ a c, e = .returned (.tuple #[.agg #[.slice a pn c, .int .i64 g0, .bool rw0, .bool ru0, .bool rx0, .bool lg, .bool pd], .int .i64 hw, .int .i64 cd]) ∧ Sl w' a ats := fun W M E => by
    have := gm_walk M E root page kind user _ hw cd hwk
    dsimp only at this
    rw [hpn] at this; exact this
  obtain ⟨m2, hm2⟩ : ∃ m, markM mem ⟨ats, g0, ⟨rw0, ru0, rx0⟩, lg, pd⟩ wt = m := ⟨_, rfl⟩
  have h128 := M.len
  have h128' : m2.length = 128 := by
    rw [← hm2]; unfold markM; split
    · unfold markMem; rw [markTo_len, h128]
    · exact h128
  have hmk : ∀ W a c, GM W gp fb h16 16 mem → Sl W a ats → Calls Tryz.prog 126 #[.pointer (some ⟨gp, 0, none⟩), .agg #[.slice a pn c, .int .i64 g0, .bool rw0, .bool ru0, .bool rx0, .bool lg, .bool pd], .bool wt] W
      fun e w' => (∃ b, e = .returned (.bool b)) ∧ GM w' gp fb h16 16 m2 ∧ Kept W.heap.size (fun k => k = fb) W w' := fun W a c M hs => by
    have := mark_any W gp fb 16 h16 mem a ⟨ats, g0, ⟨rw0, ru0, rx0⟩, lg, pd⟩ c wt M hs (by dsimp only; omega)
    dsimp only at this
    rw [hpn] at this
    refine this.mono ?_
    rintro e w' ⟨h1, h2, h3⟩
    exact ⟨⟨_, h1⟩, by rw [← hm2]; exact h2, h3⟩
  have hfnd := fun W a c => found_open W page a pn c g0 rw0 ru0 rx0 lg pd wt fd hfd
  obtain ⟨l2, hl2⟩ : ∃ l2, tput 512 l1 ⟨0, page, g0, ⟨rw0, ru0, rx0⟩, fd⟩ = l2 := ⟨_, rfl⟩
  have hput := fun W v1 (T : TS W tp 512 v1 l1) => tlbPut_any W tp 512 v1 l1 ⟨0, page, g0, ⟨rw0, ru0, rx0⟩, fd⟩ T (by omega) (by decide) (by decide)
  rw [hl2] at hput
  dsimp only at hput
  have hmiss : missR mem root l kind user page (⟨ats, g0, ⟨rw0, ru0, rx0⟩, lg, pd⟩, hw, cd) = (if hw = 0 then ⟨⟨0, page, g0, ⟨rw0, ru0, rx0⟩, fd⟩, 0, 0, m2, l2⟩ else ⟨hit0, hw, cd, mem, l1⟩) := by
    unfold missR foundH; dsimp only; rw [hwt, hl1, hfd, hm2, hl2]
  have hEC : ∀ W, Kept w.heap.size (MSet p tp fb v) w W → EC W := fun W hK => by
    have : Below 1 w W := (hK.mono (B' := 1) (S' := MSet p tp fb v) (lt_of_cell hE) (fun _ _ h => h)).below (fun k hk hs => by have := hS0 k hs; omega)
    exact (this.cell (p := ⟨0, 0, none⟩) (by show 0 < 1; omega)).trans hE
  have lp := M.hdr.lt
  have hnt : ∀ v1 : Value, v1.ownBlock = v.ownBlock → ∀ k, w.heap.size ≤ k → ¬ TSet tp v1 k := fun v1 hv k hk => by
    rintro (h | h)
    · have := M.t.hdr.lt; omega
    · have := hown0 k (by rw [← hv]; exact h); omega
  have HNT := Lib.hid hnt
  clear hnt
  have HKn := Lib.hid hkn
  have HFg := Lib.hid hfg
  have HWk := Lib.hid hwalk
  have HMk := Lib.hid hmk
  have HFd := Lib.hid hfnd
  have HPt := Lib.hid hput
  have HMi := Lib.hid hmiss
  have HEC := Lib.hid hEC
  have HW := Lib.hid hw0
  have HM := Lib.hid M
  have HZ8 := Lib.hid z8
  have HZ9 := Lib.hid z9
  have HB0 := Lib.hid b0
  have HOwn := Lib.hid hown0
  have HRes := Lib.hid hres
  have HO := Lib.hid ho
  have H128 := Lib.hid h128'
  have HWkX := Lib.hid hwk
  clear hkn hfg hwalk hmk hfnd hput hmiss hEC hw0 M M0 z8 z9 b0 b0a b0b hown0 hres ho h128 h128' hwk hE hS0 hl1 hl2 hisk hm2 hfd hpn hpl hdl lp
  cases o with
  | some h =>
    obtain ⟨xa, xp, xf, ⟨xw, xu, xx⟩, xd⟩ := h
    obtain ⟨sv, hsv⟩ : ∃ b, servesH ⟨xa, xp, xf, ⟨xw, xu, xx⟩, xd⟩ kind user = b := ⟨_, rfl⟩
    have hser := fun W => serves_any W ⟨xa, xp, xf, ⟨xw, xu, xx⟩, xd⟩ kind user sv hsv
    have HSv := Lib.hid hser
    have HSw := Lib.hid hsv
    dsimp only [Option.getD_some, Option.isSome_some] at HKn
    dsimp only at HSv
    clear hser hsv
    cases sv with
    | true =>
      have Hres : Hid (res = ⟨⟨xa, xp, xf, ⟨xw, xu, xx⟩, xd⟩, 0, 0, mem, l⟩) := Lib.hid (by rw [← HRes.out]; unfold transR; rw [HO.out]; dsimp only; rw [if_pos HSw.out])
      go_enter Tryz.func68, Tryz.ntmps68
      go_wp2_with (first
        | (go_at_call 23; rw [HW.out]; (with_reducible refine HKn.out.mono ?_); rintro e W1 ⟨rfl, b1⟩)
        | (go_at_call 125; (with_reducible refine (HSv.out _).mono ?_); rintro e W3 ⟨rfl, b3⟩; have B3 := b1.trans ((step b3).mono b1.size); have X3 := (Blk.new W1 49 [.int .i64 xa, .int .i64 xp, .int .i64 xf, .bool xw, .bool xu, .bool xx, .bool xd]).past b3; have Z8 := HZ8.out.past B3; have Z9 := HZ9.out.past B3; have x30 := X3.cell (k := 0) rfl; have x31 := X3.cell (k := 1) rfl; have x32 := X3.cell (k := 2) rfl; have x33 := X3.cell (k := 3) rfl; have x34 := X3.cell (k := 4) rfl; have x35 := X3.cell (k := 5) rfl; have x36 := X3.cell (k := 6) rfl; have x3f := fun j => X3.free j; have x3l := X3.lt; have z80 := Z8.cell (k := 0) rfl; have z81 := Z8.cell (k := 1) rfl; have z82 := Z8.cell (k := 2) rfl; have z83 := Z8.cell (k := 3) rfl; have z84 := Z8.cell (k := 4) rfl; have z85 := Z8.cell (k := 5) rfl; have z86 := Z8.cell (k := 6) rfl; have z8f := fun j => Z8.free j; have z8l := Z8.lt; have z90 := Z9.cell (k := 0) rfl; have z91 := Z9.cell (k := 1) rfl; have z92 := Z9.cell (k := 2) rfl; have z93 := Z9.cell (k := 3) rfl; have z9f := fun j => Z9.free j; have z9l := Z9.lt))
      have BB := HB0.out.trans (B3.mono HB0.out.size)
      have MW := HM.out.past BB
      have KW : Kept w.heap.size (MSet p tp fb v) w W3 := Kept.of_below BB
      have hown := OwnN.refl w v
      have hrow : ∀ b, v.ownBlock = some b → ¬ (b = w.heap.size ∨ b = w.heap.size + 1) := fun b hb => by have := HOwn.out b hb; omega
      obtain ⟨R8, R9, RK⟩ := set11 (.int .i64 xa) (.int .i64 xp) (.int .i64 xf) (.bool xw) (.bool xu) (.bool xx) (.bool xd) (.int .i64 0) (.int .u64 0) (.int .i64 0) (.int .u64 0) Z8 Z9
      have r0 := R8.cell (k := 0) rfl
      have r1 := R8.cell (k := 1) rfl
      have r2 := R8.cell (k := 2) rfl
      have r3 := R8.cell (k := 3) rfl
      have r4 := R8.cell (k := 4) rfl
      have r5 := R8.cell (k := 5) rfl
      have r6 := R8.cell (k := 6) rfl
      have s0 := R9.cell (k := 0) rfl
      have s1 := R9.cell (k := 1) rfl
      have s2 := R9.cell (k := 2) rfl
      have s3 := R9.cell (k := 3) rfl
      refine bodyPost_ret (v := .tuple #[.agg #[.int .i64 xa, .int .i64 xp, .int .i64 xf, .bool xw, .bool xu, .bool xx, .bool xd], .agg #[.int .i64 0, .int .u64 0, .int .i64 0, .int .u64 0]]) ?_ rfl ?_
      rotate_left
      · rw [Hres.out]
        refine ⟨rfl, _, MW.keptO (RK (fun k => k = w.heap.size ∨ k = w.heap.size + 1) (.inl rfl) (.inr rfl)) ?_ ?_, hown, KW.trans ((RK (fun k => k = w.heap.size ∨ k = w.heap.size + 1) (.inl rfl) (.inr rfl)).mono KW.size (fun k hk h => by omega))⟩
        · rintro b T xs (rfl | rfl) hb
          · exact .inl (hb.inj Z8).2
          · exact .inr (hb.inj Z9).2
        · exact hrow
      · clear MW KW hown hrow R8 R9 RK Z8 Z9
        simp [results, Tryz.results68, go_sem, r0, r1, r2, r3, r4, r5, r6, s0, s1, s2, s3]
    | false =>
      have hmr : res = missR mem root l kind user page (⟨ats, g0, ⟨rw0, ru0, rx0⟩, lg, pd⟩, hw, cd) := by
        rw [← HRes.out]; unfold transR; rw [HO.out]; dsimp only; rw [if_neg (by rw [HSw.out]; simp), HWkX.out]
      have HMr := Lib.hid (hmr.trans HMi.out)
      clear hmr
      go_enter Tryz.func68, Tryz.ntmps68
      go_wp2_with (first
        | (go_at_call 23; rw [HW.out]; (with_reducible refine HKn.out.mono ?_); rintro e W1 ⟨rfl, b1⟩)
        | (go_at_call 125; (with_reducible refine (HSv.out _).mono ?_); rintro e W3 ⟨rfl, b3⟩; have B3 := b1.trans ((step b3).mono b1.size); have BB := HB0.out.trans (B3.mono HB0.out.size))
        | (go_at_call 19; (with_reducible refine (HFg.out _ BB).mono ?_); rintro e W ⟨rfl, v1, M1, ho1, K1⟩; have KW := (Kept.of_below BB).trans (K1.mono (S' := MSet p tp fb v) BB.size (fun k _ h => .inr (.inr h))); have Z8 := (HZ8.out.past B3).kept K1 (HZ8.out.past B3).lt (fun h => HNT.out v rfl _ (Nat.le_refl _) h); have Z9 := (HZ9.out.past B3).kept K1 (HZ9.out.past B3).lt (fun h => HNT.out v rfl _ (Nat.le_succ _) h); have HO1 := Lib.hid ho1; clear K1 ho1))
      have EW := HEC.out W KW
      have g1 := M1.hdr.cell (k := 1) rfl
      have g2 := M1.hdr.cell (k := 2) rfl
      have gl := M1.hdr.lt
      have gne : p ≠ W.heap.size := Nat.ne_of_lt gl
      have gne' : W.heap.size ≠ p := Ne.symm gne
      have HM1 := Lib.hid M1
      have HEW := Lib.hid EW
      have HZ8 := Lib.hid Z8
      have HZ9 := Lib.hid Z9
      have HKW := Lib.hid KW
      clear M1 EW Z8 Z9 KW
      go_region_held3 (fun w' => w'.cell? ⟨p, 1, none⟩ = some (.pointer (some ⟨gp, 0, none⟩)) ∧ w'.cell? ⟨p, 2, none⟩ = some (.int .i64 root)) (go_keep) (first
        | (go_at_call 20; (with_reducible refine (HWk.out _ (HM1.out.g.past (Below.refl _ W).drew) (HEW.out.past (Below.refl _ W).drew)).mono ?_); rintro e W4 ⟨b4, a4, c4, rfl, s4⟩; have q4 := (Below.refl W.heap.size W).drew.trans b4; have M4 := HM1.out.past q4; have y1 := M4.hdr.cell (k := 1) rfl; have y2 := M4.hdr.cell (k := 2) rfl; have yl := M4.hdr.lt)
        | (go_at_call 20; (with_reducible refine (HWk.out _ (HM1.out.g.past (bal W (.cells #[.slice none 0 0, .int .i64 0, .bool false, .bool false, .bool false, .bool false, .bool false] 42)).drew) (HEW.out.past (bal W (.cells #[.slice none 0 0, .int .i64 0, .bool false, .bool false, .bool false, .bool false, .bool false] 42)).drew)).mono ?_); rintro e W4 ⟨b4, a4, c4, rfl, s4⟩; have q4 := (bal W (.cells #[.slice none 0 0, .int .i64 0, .bool false, .bool false, .bool false, .bool false, .bool false] 42)).drew.trans (b4.mono (by simp)); have M4 := HM1.out.past q4; have ZP4 := (Blk.new W 42 [.slice none 0 0, .int .i64 0, .bool false, .bool false, .bool false, .bool false, .bool false]).drew.past b4; have y1 := M4.hdr.cell (k := 1) rfl; have y2 := M4.hdr.cell (k := 2) rfl; have yl := M4.hdr.lt; have zpc0 := ZP4.cell (k := 0) rfl; have zpc1 := ZP4.cell (k := 1) rfl; have zpc2 := ZP4.cell (k := 2) rfl; have zpc3 := ZP4.cell (k := 3) rfl; have zpc4 := ZP4.cell (k := 4) rfl; have zpc5 := ZP4.cell (k := 5) rfl; have zpc6 := ZP4.cell (k := 6) rfl; have zpcf := fun j => ZP4.free j; have zpcl := ZP4.lt))
      all_goals (first
        | (obtain ⟨P5, q5, s5⟩ := seven (.slice a4 pn c4) (.int .i64 g0) (.bool rw0) (.bool ru0) (.bool rx0) (.bool lg) (.bool pd) ZP4 q4 (Nat.le_refl _) s4
           have M5 := HM1.out.past q5
           have KW5 := HKW.out.trans (Kept.of_below (q5.mono HKW.out.size))
           have Z8 := HZ8.out.past q5
           have Z9 := HZ9.out.past q5
           obtain ⟨pb, hpb⟩ : ∃ t, W.heap.size = t := ⟨_, rfl⟩
           obtain ⟨W5, hW5⟩ : ∃ W', ((((((W4.setCell ⟨W.heap.size, 0, none⟩ (.slice a4 pn c4)).setCell ⟨W.heap.size, 1, none⟩ (.int .i64 g0)).setCell ⟨W.heap.size, 2, none⟩ (.bool rw0)).setCell ⟨W.heap.size, 3, none⟩ (.bool ru0)).setCell ⟨W.heap.size, 4, none⟩ (.bool rx0)).setCell ⟨W.heap.size, 5, none⟩ (.bool lg)).setCell ⟨W.heap.size, 6, none⟩ (.bool pd) = W' := ⟨_, rfl⟩
           rw [hW5] at P5 M5 s5 KW5 Z8 Z9
           rw [hpb] at P5
           rw [hW5, hpb]
           clear hW5 hpb q5 q4 b4 s4 M4 ZP4 y1 y2 yl zpc0 zpc1 zpc2 zpc3 zpc4 zpc5 zpc6 zpcf zpcl g1 g2 gl gne gne' HM1 HEW HZ8 HZ9 HKW)
        | (have bn := bal W4 (.cells #[.slice a4 pn c4, .int .i64 g0, .bool rw0, .bool ru0, .bool rx0, .bool lg, .bool pd] 42)
           have P5 := Blk.new W4 42 [.slice a4 pn c4, .int .i64 g0, .bool rw0, .bool ru0, .bool rx0, .bool lg, .bool pd]
           have q5 := q4.trans (bn.mono q4.size)
           have M5 := HM1.out.past q5
           have s5 := s4.past bn
           have KW5 := HKW.out.trans (Kept.of_below (q5.mono HKW.out.size))
           have Z8 := HZ8.out.past q5
           have Z9 := HZ9.out.past q5
           obtain ⟨pb, hpb⟩ : ∃ t, W4.heap.size = t := ⟨_, rfl⟩
           obtain ⟨W5, hW5⟩ : ∃ W, W4.alloc (.cells #[.slice a4 pn c4, .int .i64 g0, .bool rw0, .bool ru0, .bool rx0, .bool lg, .bool pd] 42) = W := ⟨_, rfl⟩
           rw [show (W4.alloc (.cells ([.slice a4 pn c4, .int .i64 g0, .bool rw0, .bool ru0, .bool rx0, .bool lg, .bool pd] : List Value).toArray 42)) = W5 from hW5, hpb] at P5
           rw [hW5] at M5 s5 KW5 Z8 Z9
           rw [hW5, hpb]
           clear hW5 hpb bn q5 q4 b4 s4 M4 y1 y2 yl g1 g2 gl gne gne' HM1 HEW HZ8 HZ9 HKW))
      all_goals
        by_cases hhw : hw = 0
        · subst hhw
          have Hres : Hid (res = ⟨⟨0, page, g0, ⟨rw0, ru0, rx0⟩, fd⟩, 0, 0, m2, l2⟩) := Lib.hid (by rw [HMr.out, if_pos rfl])
          have g1 := M5.hdr.cell (k := 1) rfl
          have gl := M5.hdr.lt
          have p5c0 := P5.cell (k := 0) rfl
          have p5c1 := P5.cell (k := 1) rfl
          have p5c2 := P5.cell (k := 2) rfl
          have p5c3 := P5.cell (k := 3) rfl
          have p5c4 := P5.cell (k := 4) rfl
          have p5c5 := P5.cell (k := 5) rfl
          have p5c6 := P5.cell (k := 6) rfl
          have p5cf := fun j => P5.free j
          have p5cl := P5.lt
          have HM5 := Lib.hid M5
          have HP5 := Lib.hid P5
          have Hs5 := Lib.hid s5
          have HK5 := Lib.hid KW5
          have HZ8 := Lib.hid Z8
          have HZ9 := Lib.hid Z9
          clear M5 P5 s5 KW5 Z8 Z9
          go_wp2_with fail
          go_region_held3 (fun w' => w'.cell? ⟨p, 1, none⟩ = some (.pointer (some ⟨gp, 0, none⟩)) ∧ w'.cell? ⟨pb, 0, none⟩ = some (.slice a4 pn c4) ∧ w'.cell? ⟨pb, 1, none⟩ = some (.int .i64 g0) ∧ w'.cell? ⟨pb, 2, none⟩ = some (.bool rw0) ∧ w'.cell? ⟨pb, 3, none⟩ = some (.bool ru0) ∧ w'.cell? ⟨pb, 4, none⟩ = some (.bool rx0) ∧ w'.cell? ⟨pb, 5, none⟩ = some (.bool lg) ∧ w'.cell? ⟨pb, 6, none⟩ = some (.bool pd)) (go_keep) (first
            | (go_at_call 126; (with_reducible refine (HMk.out _ _ _ (HM5.out.g.past (Below.refl _ W5).drew) (Hs5.out.past (Below.refl _ W5).drew)).mono ?_); rintro e W6 ⟨⟨mb, rfl⟩, G6, K6⟩; have M6 := (HM5.out.past (Below.refl _ W5).drew).mem G6 H128.out K6; have P6 := (HM5.out.past (Below.refl _ W5).drew).g.keptB (HP5.out.past (Below.refl _ W5).drew) (by decide) K6; have g6 := M6.hdr.cell (k := 1) rfl; have g6l := M6.hdr.lt; have p6c0 := P6.cell (k := 0) rfl; have p6c1 := P6.cell (k := 1) rfl; have p6c2 := P6.cell (k := 2) rfl; have p6c3 := P6.cell (k := 3) rfl; have p6c4 := P6.cell (k := 4) rfl; have p6c5 := P6.cell (k := 5) rfl; have p6c6 := P6.cell (k := 6) rfl; have p6cf := fun j => P6.free j; have p6cl := P6.lt))
          go_wp2_with (go_at_call 82; (with_reducible refine (HFd.out _ _ _).mono ?_); rintro e W7 ⟨rfl, b7⟩)
          have K6' : Kept W5.heap.size (fun k => k = fb) W5 W6 := (Kept.of_below (Below.refl _ W5).drew).trans K6
          have h8 := ((HM5.out.past (Below.refl _ W5).drew).g.keptB (HZ8.out.past (Below.refl _ W5).drew) (by decide) K6).past b7
          have h9 := ((HM5.out.past (Below.refl _ W5).drew).g.keptB (HZ9.out.past (Below.refl _ W5).drew) (by decide) K6).past b7
          have bn := bal W7 (.cells #[.int .i64 0, .int .i64 page, .int .i64 g0, .bool rw0, .bool ru0, .bool rx0, .bool fd] 49)
          have X8 := Blk.new W7 49 [.int .i64 0, .int .i64 page, .int .i64 g0, .bool rw0, .bool ru0, .bool rx0, .bool fd]
          have M7 := M6.past b7
          have hxo : ∀ k, v1.ownBlock = some k → k < W7.heap.size := fun k h => (M7.t.row.lt _ h).2
          have hxt : tp < W7.heap.size := M7.t.hdr.lt
          have M8 := M7.past bn
          have Z8 := h8.past bn
          have Z9 := h9.past bn
          have KW8 := (HK5.out.trans (K6'.mono HK5.out.size (fun k _ h => .inr (.inl h)))).trans (Kept.of_below ((b7.trans (bn.mono b7.size)).mono (Nat.le_trans HK5.out.size K6'.size)))
          obtain ⟨xb, hxb⟩ : ∃ t, W7.heap.size = t := ⟨_, rfl⟩
          obtain ⟨W8, hW8⟩ : ∃ W, W7.alloc (.cells #[.int .i64 0, .int .i64 page, .int .i64 g0, .bool rw0, .bool ru0, .bool rx0, .bool fd] 49) = W := ⟨_, rfl⟩
          rw [show (W7.alloc (.cells ([.int .i64 0, .int .i64 page, .int .i64 g0, .bool rw0, .bool ru0, .bool rx0, .bool fd] : List Value).toArray 49)) = W8 from hW8, hxb] at X8
          rw [hxb] at hxo hxt
          rw [hW8] at M8 Z8 Z9 KW8
          rw [hW8, hxb]
          clear hW8 hxb bn h8 h9 M7 M6 P6 K6 K6' G6 g6 g6l b7 p6c0 p6c1 p6c2 p6c3 p6c4 p6c5 p6c6 p6cf p6cl g1 gl p5c0 p5c1 p5c2 p5c3 p5c4 p5c5 p5c6 p5cf p5cl HM5 HP5 Hs5 HK5 HZ8 HZ9
          have g0' := M8.hdr.cell (k := 0) rfl
          have gl := M8.hdr.lt
          have x8c0 := X8.cell (k := 0) rfl
          have x8c1 := X8.cell (k := 1) rfl
          have x8c2 := X8.cell (k := 2) rfl
          have x8c3 := X8.cell (k := 3) rfl
          have x8c4 := X8.cell (k := 4) rfl
          have x8c5 := X8.cell (k := 5) rfl
          have x8c6 := X8.cell (k := 6) rfl
          have x8cf := fun j => X8.free j
          have x8cl := X8.lt
          have hnx : ¬ TSet tp v1 xb := by
            rintro (h | h)
            · omega
            · have := hxo _ h; omega
          have hz98 : w.heap.size + 1 < W8.heap.size := Z9.lt
          have HM8 := Lib.hid M8
          have HX8 := Lib.hid X8
          have HZ8 := Lib.hid Z8
          have HZ9 := Lib.hid Z9
          have HK8 := Lib.hid KW8
          have HNx := Lib.hid hnx
          have HZ98 := Lib.hid hz98
          clear M8 X8 Z8 Z9 KW8 hnx hxo hxt hz98
          go_region_held3 (fun w' => w'.cell? ⟨p, 0, none⟩ = some (.pointer (some ⟨tp, 0, none⟩)) ∧ w'.cell? ⟨xb, 0, none⟩ = some (.int .i64 0) ∧ w'.cell? ⟨xb, 1, none⟩ = some (.int .i64 page) ∧ w'.cell? ⟨xb, 2, none⟩ = some (.int .i64 g0) ∧ w'.cell? ⟨xb, 3, none⟩ = some (.bool rw0) ∧ w'.cell? ⟨xb, 4, none⟩ = some (.bool ru0) ∧ w'.cell? ⟨xb, 5, none⟩ = some (.bool rx0) ∧ w'.cell? ⟨xb, 6, none⟩ = some (.bool fd)) (go_keep) (first
            | (go_at_call 81; (with_reducible refine (HPt.out _ v1 (HM8.out.t.past (Below.refl _ W8).drew)).mono ?_); rintro e W9 ⟨⟨r, rfl⟩, v2, T9, o9, K9⟩; have M9 := (HM8.out.past (Below.refl _ W8).drew).tlb T9 K9; have X9 := (HX8.out.past (Below.refl _ W8).drew).kept K9 (HX8.out.past (Below.refl _ W8).drew).lt HNx.out; have Z8 := (HZ8.out.past (Below.refl _ W8).drew).kept K9 (HZ8.out.past (Below.refl _ W8).drew).lt (fun h => HNT.out v1 HO1.out _ (Nat.le_refl _) h); have Z9 := (HZ9.out.past (Below.refl _ W8).drew).kept K9 (HZ9.out.past (Below.refl _ W8).drew).lt (fun h => HNT.out v1 HO1.out _ (Nat.le_succ _) h); have gz := M9.hdr.cell (k := 0) rfl; have gzl := M9.hdr.lt; have x9c0 := X9.cell (k := 0) rfl; have x9c1 := X9.cell (k := 1) rfl; have x9c2 := X9.cell (k := 2) rfl; have x9c3 := X9.cell (k := 3) rfl; have x9c4 := X9.cell (k := 4) rfl; have x9c5 := X9.cell (k := 5) rfl; have x9c6 := X9.cell (k := 6) rfl; have x9cf := fun j => X9.free j; have x9cl := X9.lt; have z80 := Z8.cell (k := 0) rfl; have z81 := Z8.cell (k := 1) rfl; have z82 := Z8.cell (k := 2) rfl; have z83 := Z8.cell (k := 3) rfl; have z84 := Z8.cell (k := 4) rfl; have z85 := Z8.cell (k := 5) rfl; have z86 := Z8.cell (k := 6) rfl; have z8f := fun j => Z8.free j; have z8l := Z8.lt; have z90 := Z9.cell (k := 0) rfl; have z91 := Z9.cell (k := 1) rfl; have z92 := Z9.cell (k := 2) rfl; have z93 := Z9.cell (k := 3) rfl; have z9f := fun j => Z9.free j; have z9l := Z9.lt))
          go_wp2
          have MW := M9
          have K9' : Kept W8.heap.size (TSet tp v1) W8 W9 := (Kept.of_below (Below.refl _ W8).drew).trans K9
          have KW : Kept w.heap.size (MSet p tp fb v) w W9 := HK8.out.trans (K9'.mono HK8.out.size (fun k _ h => .inr (.inr (h.elim .inl (fun e => .inr (HO1.out ▸ e))))))
          have hown : OwnN w v v2 := OwnN.trans (.inl HO1.out) o9 (by have := HK8.out.size; simpa using this)
          have hrow : ∀ b, v2.ownBlock = some b → ¬ (b = w.heap.size ∨ b = w.heap.size + 1) := fun b hb => by
            rcases o9 with h | h
            · have := HOwn.out b (by rw [← HO1.out, ← h]; exact hb); omega
            · have h1 := h b hb
              have h2 := HZ98.out
              have h3 : W8.drew.heap.size = W8.heap.size := rfl
              omega
          obtain ⟨R8, R9, RK⟩ := set11 (.int .i64 0) (.int .i64 page) (.int .i64 g0) (.bool rw0) (.bool ru0) (.bool rx0) (.bool fd) (.int .i64 0) (.int .u64 0) (.int .i64 0) (.int .u64 0) Z8 Z9
          have r0 := R8.cell (k := 0) rfl
          have r1 := R8.cell (k := 1) rfl
          have r2 := R8.cell (k := 2) rfl
          have r3 := R8.cell (k := 3) rfl
          have r4 := R8.cell (k := 4) rfl
          have r5 := R8.cell (k := 5) rfl
          have r6 := R8.cell (k := 6) rfl
          have s0 := R9.cell (k := 0) rfl
          have s1 := R9.cell (k := 1) rfl
          have s2 := R9.cell (k := 2) rfl
          have s3 := R9.cell (k := 3) rfl
          refine bodyPost_ret (v := .tuple #[.agg #[.int .i64 0, .int .i64 page, .int .i64 g0, .bool rw0, .bool ru0, .bool rx0, .bool fd], .agg #[.int .i64 0, .int .u64 0, .int .i64 0, .int .u64 0]]) ?_ rfl ?_
          rotate_left
          · rw [Hres.out]
            refine ⟨rfl, _, MW.keptO (RK (fun k => k = w.heap.size ∨ k = w.heap.size + 1) (.inl rfl) (.inr rfl)) ?_ ?_, hown, KW.trans ((RK (fun k => k = w.heap.size ∨ k = w.heap.size + 1) (.inl rfl) (.inr rfl)).mono KW.size (fun k hk h => by omega))⟩
            · rintro b T xs (rfl | rfl) hb
              · exact .inl (hb.inj Z8).2
              · exact .inr (hb.inj Z9).2
            · exact hrow
          · clear MW KW hown hrow R8 R9 RK Z8 Z9
            simp [results, Tryz.results68, go_sem, r0, r1, r2, r3, r4, r5, r6, s0, s1, s2, s3]
        · have Hres : Hid (res = ⟨hit0, hw, cd, mem, l1⟩) := Lib.hid (by rw [HMr.out, if_neg hhw])
          have f1 : (hw != 0) = true := bne_iff_ne.2 hhw
          have f2 : (hw == 0) = false := beq_eq_false_iff_ne.2 hhw
          have z80 := Z8.cell (k := 0) rfl
          have z81 := Z8.cell (k := 1) rfl
          have z82 := Z8.cell (k := 2) rfl
          have z83 := Z8.cell (k := 3) rfl
          have z84 := Z8.cell (k := 4) rfl
          have z85 := Z8.cell (k := 5) rfl
          have z86 := Z8.cell (k := 6) rfl
          have z8f := fun j => Z8.free j
          have z8l := Z8.lt
          have z90 := Z9.cell (k := 0) rfl
          have z91 := Z9.cell (k := 1) rfl
          have z92 := Z9.cell (k := 2) rfl
          have z93 := Z9.cell (k := 3) rfl
          have z9f := fun j => Z9.free j
          have z9l := Z9.lt
          have HM5 := Lib.hid M5
          have HK5 := Lib.hid KW5
          clear M5 KW5 P5 s5 hhw
          go_wp2
          have MW := HM5.out
          have KW := HK5.out
          have hown : OwnN w v v1 := .inl HO1.out
          have hrow : ∀ b, v1.ownBlock = some b → ¬ (b = w.heap.size ∨ b = w.heap.size + 1) := fun b hb => by have := HOwn.out b (by rw [← HO1.out]; exact hb); omega
          obtain ⟨R8, R9, RK⟩ := set11 (.int .i64 0) (.int .i64 0) (.int .i64 0) (.bool false) (.bool false) (.bool false) (.bool false) (.int .i64 hw) (.int .u64 0) (.int .i64 cd) (.int .u64 0) Z8 Z9
          have r0 := R8.cell (k := 0) rfl
          have r1 := R8.cell (k := 1) rfl
          have r2 := R8.cell (k := 2) rfl
          have r3 := R8.cell (k := 3) rfl
          have r4 := R8.cell (k := 4) rfl
          have r5 := R8.cell (k := 5) rfl
          have r6 := R8.cell (k := 6) rfl
          have s0 := R9.cell (k := 0) rfl
          have s1 := R9.cell (k := 1) rfl
          have s2 := R9.cell (k := 2) rfl
          have s3 := R9.cell (k := 3) rfl
          refine bodyPost_ret (v := .tuple #[.agg #[.int .i64 0, .int .i64 0, .int .i64 0, .bool false, .bool false, .bool false, .bool false], .agg #[.int .i64 hw, .int .u64 0, .int .i64 cd, .int .u64 0]]) ?_ rfl ?_
          rotate_left
          · rw [Hres.out]
            refine ⟨rfl, _, MW.keptO (RK (fun k => k = w.heap.size ∨ k = w.heap.size + 1) (.inl rfl) (.inr rfl)) ?_ ?_, hown, KW.trans ((RK (fun k => k = w.heap.size ∨ k = w.heap.size + 1) (.inl rfl) (.inr rfl)).mono KW.size (fun k hk h => by omega))⟩
            · rintro b T xs (rfl | rfl) hb
              · exact .inl (hb.inj Z8).2
              · exact .inr (hb.inj Z9).2
            · exact hrow
          · clear MW KW hown hrow R8 R9 RK Z8 Z9
            simp [results, Tryz.results68, go_sem, r0, r1, r2, r3, r4, r5, r6, s0, s1, s2, s3]
  | none =>
    dsimp only [Option.getD_none, Option.isSome_none, hit0] at HKn
    have hmr : res = missR mem root l kind user page (⟨ats, g0, ⟨rw0, ru0, rx0⟩, lg, pd⟩, hw, cd) := by
      rw [← HRes.out]; unfold transR; rw [HO.out]; dsimp only; rw [HWkX.out]
    have HMr := Lib.hid (hmr.trans HMi.out)
    clear hmr
    go_enter Tryz.func68, Tryz.ntmps68
    go_wp2_with (first
      | (go_at_call 23; rw [HW.out]; (with_reducible refine HKn.out.mono ?_); rintro e W1 ⟨rfl, b1⟩)
      | (go_at_call 19; (with_reducible refine (HFg.out _ (HB0.out.trans ((b1.trans ((bal W1 (.cells #[.int .i64 0, .int .i64 0, .int .i64 0, .bool false, .bool false, .bool false, .bool false] 49)).mono b1.size)).mono HB0.out.size))).mono ?_); rintro e W ⟨rfl, v1, M1, ho1, K1⟩; have B3 := b1.trans ((bal W1 (.cells #[.int .i64 0, .int .i64 0, .int .i64 0, .bool false, .bool false, .bool false, .bool false] 49)).mono b1.size); have BB := HB0.out.trans (B3.mono HB0.out.size); have KW := (Kept.of_below BB).trans (K1.mono (S' := MSet p tp fb v) BB.size (fun k _ h => .inr (.inr h))); have Z8 := (HZ8.out.past B3).kept K1 (HZ8.out.past B3).lt (fun h => HNT.out v rfl _ (Nat.le_refl _) h); have Z9 := (HZ9.out.past B3).kept K1 (HZ9.out.past B3).lt (fun h => HNT.out v rfl _ (Nat.le_succ _) h); have HO1 := Lib.hid ho1; clear K1 ho1))
    have EW := HEC.out W KW
    have g1 := M1.hdr.cell (k := 1) rfl
    have g2 := M1.hdr.cell (k := 2) rfl
    have gl := M1.hdr.lt
    have gne : p ≠ W.heap.size := Nat.ne_of_lt gl
    have gne' : W.heap.size ≠ p := Ne.symm gne
    have HM1 := Lib.hid M1
    have HEW := Lib.hid EW
    have HZ8 := Lib.hid Z8
    have HZ9 := Lib.hid Z9
    have HKW := Lib.hid KW
    clear M1 EW Z8 Z9 KW
    go_region_held3 (fun w' => w'.cell? ⟨p, 1, none⟩ = some (.pointer (some ⟨gp, 0, none⟩)) ∧ w'.cell? ⟨p, 2, none⟩ = some (.int .i64 root)) (go_keep) (first
      | (go_at_call 20; (with_reducible refine (HWk.out _ (HM1.out.g.past (Below.refl _ W).drew) (HEW.out.past (Below.refl _ W).drew)).mono ?_); rintro e W4 ⟨b4, a4, c4, rfl, s4⟩; have q4 := (Below.refl W.heap.size W).drew.trans b4; have M4 := HM1.out.past q4; have y1 := M4.hdr.cell (k := 1) rfl; have y2 := M4.hdr.cell (k := 2) rfl; have yl := M4.hdr.lt)
      | (go_at_call 20; (with_reducible refine (HWk.out _ (HM1.out.g.past (bal W (.cells #[.slice none 0 0, .int .i64 0, .bool false, .bool false, .bool false, .bool false, .bool false] 42)).drew) (HEW.out.past (bal W (.cells #[.slice none 0 0, .int .i64 0, .bool false, .bool false, .bool false, .bool false, .bool false] 42)).drew)).mono ?_); rintro e W4 ⟨b4, a4, c4, rfl, s4⟩; have q4 := (bal W (.cells #[.slice none 0 0, .int .i64 0, .bool false, .bool false, .bool false, .bool false, .bool false] 42)).drew.trans (b4.mono (by simp)); have M4 := HM1.out.past q4; have ZP4 := (Blk.new W 42 [.slice none 0 0, .int .i64 0, .bool false, .bool false, .bool false, .bool false, .bool false]).drew.past b4; have y1 := M4.hdr.cell (k := 1) rfl; have y2 := M4.hdr.cell (k := 2) rfl; have yl := M4.hdr.lt; have zpc0 := ZP4.cell (k := 0) rfl; have zpc1 := ZP4.cell (k := 1) rfl; have zpc2 := ZP4.cell (k := 2) rfl; have zpc3 := ZP4.cell (k := 3) rfl; have zpc4 := ZP4.cell (k := 4) rfl; have zpc5 := ZP4.cell (k := 5) rfl; have zpc6 := ZP4.cell (k := 6) rfl; have zpcf := fun j => ZP4.free j; have zpcl := ZP4.lt))
    all_goals (first
      | (obtain ⟨P5, q5, s5⟩ := seven (.slice a4 pn c4) (.int .i64 g0) (.bool rw0) (.bool ru0) (.bool rx0) (.bool lg) (.bool pd) ZP4 q4 (Nat.le_refl _) s4
         have M5 := HM1.out.past q5
         have KW5 := HKW.out.trans (Kept.of_below (q5.mono HKW.out.size))
         have Z8 := HZ8.out.past q5
         have Z9 := HZ9.out.past q5
         obtain ⟨pb, hpb⟩ : ∃ t, W.heap.size = t := ⟨_, rfl⟩
         obtain ⟨W5, hW5⟩ : ∃ W', ((((((W4.setCell ⟨W.heap.size, 0, none⟩ (.slice a4 pn c4)).setCell ⟨W.heap.size, 1, none⟩ (.int .i64 g0)).setCell ⟨W.heap.size, 2, none⟩ (.bool rw0)).setCell ⟨W.heap.size, 3, none⟩ (.bool ru0)).setCell ⟨W.heap.size, 4, none⟩ (.bool rx0)).setCell ⟨W.heap.size, 5, none⟩ (.bool lg)).setCell ⟨W.heap.size, 6, none⟩ (.bool pd) = W' := ⟨_, rfl⟩
         rw [hW5] at P5 M5 s5 KW5 Z8 Z9
         rw [hpb] at P5
         rw [hW5, hpb]
         clear hW5 hpb q5 q4 b4 s4 M4 ZP4 y1 y2 yl zpc0 zpc1 zpc2 zpc3 zpc4 zpc5 zpc6 zpcf zpcl g1 g2 gl gne gne' HM1 HEW HZ8 HZ9 HKW)
      | (have bn := bal W4 (.cells #[.slice a4 pn c4, .int .i64 g0, .bool rw0, .bool ru0, .bool rx0, .bool lg, .bool pd] 42)
         have P5 := Blk.new W4 42 [.slice a4 pn c4, .int .i64 g0, .bool rw0, .bool ru0, .bool rx0, .bool lg, .bool pd]
         have q5 := q4.trans (bn.mono q4.size)
         have M5 := HM1.out.past q5
         have s5 := s4.past bn
         have KW5 := HKW.out.trans (Kept.of_below (q5.mono HKW.out.size))
         have Z8 := HZ8.out.past q5
         have Z9 := HZ9.out.past q5
         obtain ⟨pb, hpb⟩ : ∃ t, W4.heap.size = t := ⟨_, rfl⟩
         obtain ⟨W5, hW5⟩ : ∃ W, W4.alloc (.cells #[.slice a4 pn c4, .int .i64 g0, .bool rw0, .bool ru0, .bool rx0, .bool lg, .bool pd] 42) = W := ⟨_, rfl⟩
         rw [show (W4.alloc (.cells ([.slice a4 pn c4, .int .i64 g0, .bool rw0, .bool ru0, .bool rx0, .bool lg, .bool pd] : List Value).toArray 42)) = W5 from hW5, hpb] at P5
         rw [hW5] at M5 s5 KW5 Z8 Z9
         rw [hW5, hpb]
         clear hW5 hpb bn q5 q4 b4 s4 M4 y1 y2 yl g1 g2 gl gne gne' HM1 HEW HZ8 HZ9 HKW))
    all_goals
      by_cases hhw : hw = 0
      · subst hhw
        have Hres : Hid (res = ⟨⟨0, page, g0, ⟨rw0, ru0, rx0⟩, fd⟩, 0, 0, m2, l2⟩) := Lib.hid (by rw [HMr.out, if_pos rfl])
        have g1 := M5.hdr.cell (k := 1) rfl
        have gl := M5.hdr.lt
        have p5c0 := P5.cell (k := 0) rfl
        have p5c1 := P5.cell (k := 1) rfl
        have p5c2 := P5.cell (k := 2) rfl
        have p5c3 := P5.cell (k := 3) rfl
        have p5c4 := P5.cell (k := 4) rfl
        have p5c5 := P5.cell (k := 5) rfl
        have p5c6 := P5.cell (k := 6) rfl
        have p5cf := fun j => P5.free j
        have p5cl := P5.lt
        have HM5 := Lib.hid M5
        have HP5 := Lib.hid P5
        have Hs5 := Lib.hid s5
        have HK5 := Lib.hid KW5
        have HZ8 := Lib.hid Z8
        have HZ9 := Lib.hid Z9
        clear M5 P5 s5 KW5 Z8 Z9
        go_wp2_with fail
        go_region_held3 (fun w' => w'.cell? ⟨p, 1, none⟩ = some (.pointer (some ⟨gp, 0, none⟩)) ∧ w'.cell? ⟨pb, 0, none⟩ = some (.slice a4 pn c4) ∧ w'.cell? ⟨pb, 1, none⟩ = some (.int .i64 g0) ∧ w'.cell? ⟨pb, 2, none⟩ = some (.bool rw0) ∧ w'.cell? ⟨pb, 3, none⟩ = some (.bool ru0) ∧ w'.cell? ⟨pb, 4, none⟩ = some (.bool rx0) ∧ w'.cell? ⟨pb, 5, none⟩ = some (.bool lg) ∧ w'.cell? ⟨pb, 6, none⟩ = some (.bool pd)) (go_keep) (first
          | (go_at_call 126; (with_reducible refine (HMk.out _ _ _ (HM5.out.g.past (Below.refl _ W5).drew) (Hs5.out.past (Below.refl _ W5).drew)).mono ?_); rintro e W6 ⟨⟨mb, rfl⟩, G6, K6⟩; have M6 := (HM5.out.past (Below.refl _ W5).drew).mem G6 H128.out K6; have P6 := (HM5.out.past (Below.refl _ W5).drew).g.keptB (HP5.out.past (Below.refl _ W5).drew) (by decide) K6; have g6 := M6.hdr.cell (k := 1) rfl; have g6l := M6.hdr.lt; have p6c0 := P6.cell (k := 0) rfl; have p6c1 := P6.cell (k := 1) rfl; have p6c2 := P6.cell (k := 2) rfl; have p6c3 := P6.cell (k := 3) rfl; have p6c4 := P6.cell (k := 4) rfl; have p6c5 := P6.cell (k := 5) rfl; have p6c6 := P6.cell (k := 6) rfl; have p6cf := fun j => P6.free j; have p6cl := P6.lt))
        go_wp2_with (go_at_call 82; (with_reducible refine (HFd.out _ _ _).mono ?_); rintro e W7 ⟨rfl, b7⟩)
        have K6' : Kept W5.heap.size (fun k => k = fb) W5 W6 := (Kept.of_below (Below.refl _ W5).drew).trans K6
        have h8 := ((HM5.out.past (Below.refl _ W5).drew).g.keptB (HZ8.out.past (Below.refl _ W5).drew) (by decide) K6).past b7
        have h9 := ((HM5.out.past (Below.refl _ W5).drew).g.keptB (HZ9.out.past (Below.refl _ W5).drew) (by decide) K6).past b7
        have bn := bal W7 (.cells #[.int .i64 0, .int .i64 page, .int .i64 g0, .bool rw0, .bool ru0, .bool rx0, .bool fd] 49)
        have X8 := Blk.new W7 49 [.int .i64 0, .int .i64 page, .int .i64 g0, .bool rw0, .bool ru0, .bool rx0, .bool fd]
        have M7 := M6.past b7
        have hxo : ∀ k, v1.ownBlock = some k → k < W7.heap.size := fun k h => (M7.t.row.lt _ h).2
        have hxt : tp < W7.heap.size := M7.t.hdr.lt
        have M8 := M7.past bn
        have Z8 := h8.past bn
        have Z9 := h9.past bn
        have KW8 := (HK5.out.trans (K6'.mono HK5.out.size (fun k _ h => .inr (.inl h)))).trans (Kept.of_below ((b7.trans (bn.mono b7.size)).mono (Nat.le_trans HK5.out.size K6'.size)))
        obtain ⟨xb, hxb⟩ : ∃ t, W7.heap.size = t := ⟨_, rfl⟩
        obtain ⟨W8, hW8⟩ : ∃ W, W7.alloc (.cells #[.int .i64 0, .int .i64 page, .int .i64 g0, .bool rw0, .bool ru0, .bool rx0, .bool fd] 49) = W := ⟨_, rfl⟩
        rw [show (W7.alloc (.cells ([.int .i64 0, .int .i64 page, .int .i64 g0, .bool rw0, .bool ru0, .bool rx0, .bool fd] : List Value).toArray 49)) = W8 from hW8, hxb] at X8
        rw [hxb] at hxo hxt
        rw [hW8] at M8 Z8 Z9 KW8
        rw [hW8, hxb]
        clear hW8 hxb bn h8 h9 M7 M6 P6 K6 K6' G6 g6 g6l b7 p6c0 p6c1 p6c2 p6c3 p6c4 p6c5 p6c6 p6cf p6cl g1 gl p5c0 p5c1 p5c2 p5c3 p5c4 p5c5 p5c6 p5cf p5cl HM5 HP5 Hs5 HK5 HZ8 HZ9
        have g0' := M8.hdr.cell (k := 0) rfl
        have gl := M8.hdr.lt
        have x8c0 := X8.cell (k := 0) rfl
        have x8c1 := X8.cell (k := 1) rfl
        have x8c2 := X8.cell (k := 2) rfl
        have x8c3 := X8.cell (k := 3) rfl
        have x8c4 := X8.cell (k := 4) rfl
        have x8c5 := X8.cell (k := 5) rfl
        have x8c6 := X8.cell (k := 6) rfl
        have x8cf := fun j => X8.free j
        have x8cl := X8.lt
        have hnx : ¬ TSet tp v1 xb := by
          rintro (h | h)
          · omega
          · have := hxo _ h; omega
        have hz98 : w.heap.size + 1 < W8.heap.size := Z9.lt
        have HM8 := Lib.hid M8
        have HX8 := Lib.hid X8
        have HZ8 := Lib.hid Z8
        have HZ9 := Lib.hid Z9
        have HK8 := Lib.hid KW8
        have HNx := Lib.hid hnx
        have HZ98 := Lib.hid hz98
        clear M8 X8 Z8 Z9 KW8 hnx hxo hxt hz98
        go_region_held3 (fun w' => w'.cell? ⟨p, 0, none⟩ = some (.pointer (some ⟨tp, 0, none⟩)) ∧ w'.cell? ⟨xb, 0, none⟩ = some (.int .i64 0) ∧ w'.cell? ⟨xb, 1, none⟩ = some (.int .i64 page) ∧ w'.cell? ⟨xb, 2, none⟩ = some (.int .i64 g0) ∧ w'.cell? ⟨xb, 3, none⟩ = some (.bool rw0) ∧ w'.cell? ⟨xb, 4, none⟩ = some (.bool ru0) ∧ w'.cell? ⟨xb, 5, none⟩ = some (.bool rx0) ∧ w'.cell? ⟨xb, 6, none⟩ = some (.bool fd)) (go_keep) (first
          | (go_at_call 81; (with_reducible refine (HPt.out _ v1 (HM8.out.t.past (Below.refl _ W8).drew)).mono ?_); rintro e W9 ⟨⟨r, rfl⟩, v2, T9, o9, K9⟩; have M9 := (HM8.out.past (Below.refl _ W8).drew).tlb T9 K9; have X9 := (HX8.out.past (Below.refl _ W8).drew).kept K9 (HX8.out.past (Below.refl _ W8).drew).lt HNx.out; have Z8 := (HZ8.out.past (Below.refl _ W8).drew).kept K9 (HZ8.out.past (Below.refl _ W8).drew).lt (fun h => HNT.out v1 HO1.out _ (Nat.le_refl _) h); have Z9 := (HZ9.out.past (Below.refl _ W8).drew).kept K9 (HZ9.out.past (Below.refl _ W8).drew).lt (fun h => HNT.out v1 HO1.out _ (Nat.le_succ _) h); have gz := M9.hdr.cell (k := 0) rfl; have gzl := M9.hdr.lt; have x9c0 := X9.cell (k := 0) rfl; have x9c1 := X9.cell (k := 1) rfl; have x9c2 := X9.cell (k := 2) rfl; have x9c3 := X9.cell (k := 3) rfl; have x9c4 := X9.cell (k := 4) rfl; have x9c5 := X9.cell (k := 5) rfl; have x9c6 := X9.cell (k := 6) rfl; have x9cf := fun j => X9.free j; have x9cl := X9.lt; have z80 := Z8.cell (k := 0) rfl; have z81 := Z8.cell (k := 1) rfl; have z82 := Z8.cell (k := 2) rfl; have z83 := Z8.cell (k := 3) rfl; have z84 := Z8.cell (k := 4) rfl; have z85 := Z8.cell (k := 5) rfl; have z86 := Z8.cell (k := 6) rfl; have z8f := fun j => Z8.free j; have z8l := Z8.lt; have z90 := Z9.cell (k := 0) rfl; have z91 := Z9.cell (k := 1) rfl; have z92 := Z9.cell (k := 2) rfl; have z93 := Z9.cell (k := 3) rfl; have z9f := fun j => Z9.free j; have z9l := Z9.lt))
        go_wp2
        have MW := M9
        have K9' : Kept W8.heap.size (TSet tp v1) W8 W9 := (Kept.of_below (Below.refl _ W8).drew).trans K9
        have KW : Kept w.heap.size (MSet p tp fb v) w W9 := HK8.out.trans (K9'.mono HK8.out.size (fun k _ h => .inr (.inr (h.elim .inl (fun e => .inr (HO1.out ▸ e))))))
        have hown : OwnN w v v2 := OwnN.trans (.inl HO1.out) o9 (by have := HK8.out.size; simpa using this)
        have hrow : ∀ b, v2.ownBlock = some b → ¬ (b = w.heap.size ∨ b = w.heap.size + 1) := fun b hb => by
          rcases o9 with h | h
          · have := HOwn.out b (by rw [← HO1.out, ← h]; exact hb); omega
          · have h1 := h b hb
            have h2 := HZ98.out
            have h3 : W8.drew.heap.size = W8.heap.size := rfl
            omega
        obtain ⟨R8, R9, RK⟩ := set11 (.int .i64 0) (.int .i64 page) (.int .i64 g0) (.bool rw0) (.bool ru0) (.bool rx0) (.bool fd) (.int .i64 0) (.int .u64 0) (.int .i64 0) (.int .u64 0) Z8 Z9
        have r0 := R8.cell (k := 0) rfl
        have r1 := R8.cell (k := 1) rfl
        have r2 := R8.cell (k := 2) rfl
        have r3 := R8.cell (k := 3) rfl
        have r4 := R8.cell (k := 4) rfl
        have r5 := R8.cell (k := 5) rfl
        have r6 := R8.cell (k := 6) rfl
        have s0 := R9.cell (k := 0) rfl
        have s1 := R9.cell (k := 1) rfl
        have s2 := R9.cell (k := 2) rfl
        have s3 := R9.cell (k := 3) rfl
        refine bodyPost_ret (v := .tuple #[.agg #[.int .i64 0, .int .i64 page, .int .i64 g0, .bool rw0, .bool ru0, .bool rx0, .bool fd], .agg #[.int .i64 0, .int .u64 0, .int .i64 0, .int .u64 0]]) ?_ rfl ?_
        rotate_left
        · rw [Hres.out]
          refine ⟨rfl, _, MW.keptO (RK (fun k => k = w.heap.size ∨ k = w.heap.size + 1) (.inl rfl) (.inr rfl)) ?_ ?_, hown, KW.trans ((RK (fun k => k = w.heap.size ∨ k = w.heap.size + 1) (.inl rfl) (.inr rfl)).mono KW.size (fun k hk h => by omega))⟩
          · rintro b T xs (rfl | rfl) hb
            · exact .inl (hb.inj Z8).2
            · exact .inr (hb.inj Z9).2
          · exact hrow
        · clear MW KW hown hrow R8 R9 RK Z8 Z9
          simp [results, Tryz.results68, go_sem, r0, r1, r2, r3, r4, r5, r6, s0, s1, s2, s3]
      · have Hres : Hid (res = ⟨hit0, hw, cd, mem, l1⟩) := Lib.hid (by rw [HMr.out, if_neg hhw])
        have f1 : (hw != 0) = true := bne_iff_ne.2 hhw
        have f2 : (hw == 0) = false := beq_eq_false_iff_ne.2 hhw
        have z80 := Z8.cell (k := 0) rfl
        have z81 := Z8.cell (k := 1) rfl
        have z82 := Z8.cell (k := 2) rfl
        have z83 := Z8.cell (k := 3) rfl
        have z84 := Z8.cell (k := 4) rfl
        have z85 := Z8.cell (k := 5) rfl
        have z86 := Z8.cell (k := 6) rfl
        have z8f := fun j => Z8.free j
        have z8l := Z8.lt
        have z90 := Z9.cell (k := 0) rfl
        have z91 := Z9.cell (k := 1) rfl
        have z92 := Z9.cell (k := 2) rfl
        have z93 := Z9.cell (k := 3) rfl
        have z9f := fun j => Z9.free j
        have z9l := Z9.lt
        have HM5 := Lib.hid M5
        have HK5 := Lib.hid KW5
        clear M5 KW5 P5 s5 hhw
        go_wp2
        have MW := HM5.out
        have KW := HK5.out
        have hown : OwnN w v v1 := .inl HO1.out
        have hrow : ∀ b, v1.ownBlock = some b → ¬ (b = w.heap.size ∨ b = w.heap.size + 1) := fun b hb => by have := HOwn.out b (by rw [← HO1.out]; exact hb); omega
        obtain ⟨R8, R9, RK⟩ := set11 (.int .i64 0) (.int .i64 0) (.int .i64 0) (.bool false) (.bool false) (.bool false) (.bool false) (.int .i64 hw) (.int .u64 0) (.int .i64 cd) (.int .u64 0) Z8 Z9
        have r0 := R8.cell (k := 0) rfl
        have r1 := R8.cell (k := 1) rfl
        have r2 := R8.cell (k := 2) rfl
        have r3 := R8.cell (k := 3) rfl
        have r4 := R8.cell (k := 4) rfl
        have r5 := R8.cell (k := 5) rfl
        have r6 := R8.cell (k := 6) rfl
        have s0 := R9.cell (k := 0) rfl
        have s1 := R9.cell (k := 1) rfl
        have s2 := R9.cell (k := 2) rfl
        have s3 := R9.cell (k := 3) rfl
        refine bodyPost_ret (v := .tuple #[.agg #[.int .i64 0, .int .i64 0, .int .i64 0, .bool false, .bool false, .bool false, .bool false], .agg #[.int .i64 hw, .int .u64 0, .int .i64 cd, .int .u64 0]]) ?_ rfl ?_
        rotate_left
        · rw [Hres.out]
          refine ⟨rfl, _, MW.keptO (RK (fun k => k = w.heap.size ∨ k = w.heap.size + 1) (.inl rfl) (.inr rfl)) ?_ ?_, hown, KW.trans ((RK (fun k => k = w.heap.size ∨ k = w.heap.size + 1) (.inl rfl) (.inr rfl)).mono KW.size (fun k hk h => by omega))⟩
          · rintro b T xs (rfl | rfl) hb
            · exact .inl (hb.inj Z8).2
            · exact .inr (hb.inj Z9).2
          · exact hrow
        · clear MW KW hown hrow R8 R9 RK Z8 Z9
          simp [results, Tryz.results68, go_sem, r0, r1, r2, r3, r4, r5, r6, s0, s1, s2, s3]
end Go.Proofs.YtgaififhhffpfaaGreatDoor
