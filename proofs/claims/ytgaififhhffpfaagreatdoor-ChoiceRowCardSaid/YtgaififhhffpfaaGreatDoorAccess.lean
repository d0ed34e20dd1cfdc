/- model.Model's Access. -/
import Derived.Test.YtgaififhhffpfaaGreatDoorTrans
namespace Go.Proofs.YtgaififhhffpfaaGreatDoor
open Go.RowKit Go.Shelf

theorem page_bel (w : World) (v : Nat) (hv : v < 2 ^ 64) : Calls Tryz.prog 69 #[.int .u64 (v : Int)] w fun e w' => e = .returned (.int .i64 (pageOf v : Int)) ∧ Below w.heap.size w w' :=
  (page_any w v hv).mono fun e w' ⟨h, q, h'⟩ => ⟨h, by subst h'; exact below_of_drewN _ _⟩
theorem word_bel (w : World) (v : Nat) (hv : v < 2 ^ 64) : Calls Tryz.prog 70 #[.int .u64 (v : Int)] w fun e w' => e = .returned (.int .i64 (wordOf v : Int)) ∧ Below w.heap.size w w' :=
  (word_any w v hv).mono fun e w' ⟨h, q, h'⟩ => ⟨h, by subst h'; exact below_of_drewN _ _⟩
theorem aligned_bel (w : World) (v : Nat) (b : Bool) (hb : decide (v % 8 = 0) = b) (hv : v < 2 ^ 64) : Calls Tryz.prog 66 #[.int .u64 (v : Int)] w fun e w' => e = .returned (.bool b) ∧ Below w.heap.size w w' :=
  (aligned_any w v b hb hv).mono fun e w' ⟨h, q, h'⟩ => ⟨h, by subst h'; exact below_of_drewN _ _⟩
theorem abad_any (w : World) (bb : Nat) (h v c ad a : Int) (hb : Blk w bb 25 [.int .u64 a]) :
    Calls Tryz.prog 65 #[.agg #[.int .i64 h, .int .u64 v, .int .i64 c, .int .u64 ad], .pointer (some ⟨bb, 0, none⟩)] w
      fun e w' => e = .returned (.agg #[.int .i64 h, .int .u64 v, .int .i64 c, .int .u64 a]) ∧ Below w.heap.size w w' := by
  have b0 := hb.cell (k := 0) rfl
  have lb := hb.lt
  clear hb
  go_enter Tryz.func65, Tryz.ntmps65
  go_wp2
  refine bodyPost_ret (v := .agg #[.int .i64 h, .int .u64 v, .int .i64 c, .int .u64 a]) (by simp [results, Tryz.results65, go_sem]) rfl ⟨rfl, ?_⟩
  go_grown
theorem set4 {W : World} {c : Nat} {T : TypeId} {y0 y1 y2 y3 : Value} (u0 u1 u2 u3 : Value) (h' : Blk W c T [y0, y1, y2, y3]) :
    Blk ((((W.setCell ⟨c, 0, none⟩ u0).setCell ⟨c, 1, none⟩ u1).setCell ⟨c, 2, none⟩ u2).setCell ⟨c, 3, none⟩ u3) c T [u0, u1, u2, u3] ∧
    ∀ S : Nat → Prop, S c → Kept W.heap.size S W ((((W.setCell ⟨c, 0, none⟩ u0).setCell ⟨c, 1, none⟩ u1).setCell ⟨c, 2, none⟩ u2).setCell ⟨c, 3, none⟩ u3) :=
  ⟨(((h'.set 0 u0).set 1 u1).set 2 u2).set 3 u3, fun S hc => ((((Kept.refl W.heap.size S W).setCell (p := ⟨c, 0, none⟩) (.inl hc) u0).setCell (p := ⟨c, 1, none⟩) (.inl hc) u1).setCell (p := ⟨c, 2, none⟩) (.inl hc) u2).setCell (p := ⟨c, 3, none⟩) (.inl hc) u3⟩

theorem transR_code (mem : List Nat) (root : Int) (l : List Hit) (kind : Int) (user : Bool) (page : Int) : (transR mem root l kind user page).how = 0 → (transR mem root l kind user page).code = 0 := by
  have hm : ∀ o, (missR mem root l kind user page o).how = 0 → (missR mem root l kind user page o).code = 0 := fun o => by
    unfold missR
    by_cases h : o.2.1 = 0
    · rw [if_pos h]; intro _; rfl
    · rw [if_neg h]; exact fun h' => absurd h' h
  unfold transR
  cases tget l 0 page with
  | none => exact hm _
  | some h =>
    by_cases hs : servesH h kind user = true
    · simp only [hs, if_true]; exact fun h' => trivial
    · simp only [hs]; exact hm _
/-- how an operation comes out -/
structure Ot where
  how : Int
  v : Nat
  code : Int
  addr : Nat
  deriving DecidableEq
/-- what an access comes to -/
def accR (mem : List Nat) (root : Int) (l : List Hit) (kind : Int) (user : Bool) (a x : Nat) : Ot × List Nat × List Hit :=
  if a % 8 = 0 then
    if wideOf a = a then
      let T := transR mem root l kind user (pageOf a)
      if T.how = 0 then
        if kind = 1 then (⟨0, 0, 0, 0⟩, wr h16 T.mem T.h.frame (wordOf a) x, T.l) else (⟨0, (rd h16 T.mem T.h.frame (wordOf a)).getD 0, 0, 0⟩, T.mem, T.l)
      else (⟨T.how, 0, T.code, a⟩, T.mem, T.l)
    else (⟨2, 0, 0, a⟩, mem, l)
  else (⟨4, 0, 0, a⟩, mem, l)
/-- what an access leaves -/
def APost (w : World) (p tp gp fb : Nat) (v : Value) (root : Int) (X : Ot × List Nat × List Hit) (e : Ending) (w' : World) : Prop :=
  e = .returned (.agg #[.int .i64 X.1.how, .int .u64 (X.1.v : Int), .int .i64 X.1.code, .int .u64 (X.1.addr : Int)]) ∧
    ∃ v', MS w' p tp gp fb v' X.2.1 root X.2.2 ∧ OwnN w v v' ∧ Kept w.heap.size (MSet p tp fb v) w w'
theorem ownN_row {w W : World} {v v' : Value} (hown : ∀ k, v.ownBlock = some k → k < w.heap.size) (h : OwnN W v v') (hs : w.heap.size + 1 < W.heap.size) : ∀ b, v'.ownBlock = some b → ¬ b = w.heap.size + 1 := fun b hb => by
  rcases h with h | h
  · have := hown b (by rw [← h]; exact hb); omega
  · have := h b hb; omega
theorem OwnN.from' {w W : World} {v v' : Value} (h : OwnN W v v') (hs : w.heap.size ≤ W.heap.size) : OwnN w v v' := by
  rcases h with h | h
  · exact .inl h
  · exact .inr fun k hk => Nat.le_trans hs (h k hk)
set_option maxRecDepth 100000 in
set_option maxHeartbeats 8000000 in
theorem access_any (w : World) (p tp gp fb : Nat) (v : Value) (mem : List Nat) (root : Int) (l : List Hit) (M : MS w p tp gp fb v mem root l) (hsm : l.length ≤ 100000) (hE : EC w) (hS0 : ∀ k, MSet p tp fb v k → 0 < k) (kind : Int) (user : Bool) (a x : Nat) (ha : a < 2 ^ 64) (hx : x < 2 ^ 64) :
    Calls Tryz.prog 22 #[.pointer (some ⟨p, 0, none⟩), .int .i64 kind, .bool user, .int .u64 (a : Int), .int .u64 (x : Int)] w (APost w p tp gp fb v root (accR mem root l kind user a x)) := by
  obtain ⟨res, hres⟩ : ∃ r, accR mem root l kind user a x = r := ⟨_, rfl⟩
  rw [hres]
  have ba := bal w (.cells #[.int .u64 (a : Int)] 25)
  have bz := bal (w.alloc (.cells #[.int .u64 (a : Int)] 25)) (.cells #[.int .i64 0, .int .u64 0, .int .i64 0, .int .u64 0] 34)
  have hbx := (Blk.new w 25 [.int .u64 (a : Int)]).past bz
  have hz := Blk.new (w.alloc (.cells #[.int .u64 (a : Int)] 25)) 34 [.int .i64 0, .int .u64 0, .int .i64 0, .int .u64 0]
  rw [show (w.alloc (.cells #[.int .u64 (a : Int)] 25)).heap.size = w.heap.size + 1 by simp] at hz
  have b0 := ba.trans (bz.mono ba.size)
  obtain ⟨w0, hw0⟩ : ∃ w0, (w.alloc (.cells #[.int .u64 (a : Int)] 25)).alloc (.cells #[.int .i64 0, .int .u64 0, .int .i64 0, .int .u64 0] 34) = w0 := ⟨_, rfl⟩
  rw [show ((w.alloc (.cells #[.int .u64 (a : Int)] 25)).alloc (.cells ([.int .i64 0, .int .u64 0, .int .i64 0, .int .u64 0] : List Value).toArray 34)) = w0 from hw0] at hz
  rw [hw0] at hbx b0
  have hown0 : ∀ k, v.ownBlock = some k → k < w.heap.size := fun k h => (M.t.row.lt _ h).2
  obtain ⟨al, hal⟩ : ∃ b, decide (a % 8 = 0) = b := ⟨_, rfl⟩
  have hAl := aligned_bel w0 a al hal ha
  obtain ⟨cn, hcn⟩ : ∃ b, decide (wideOf a = a) = b := ⟨_, rfl⟩
  have hCn := fun W => canon_any W a cn hcn ha
  have hPg := fun W => page_bel W a ha
  have hWd := fun W => word_bel W a ha
  obtain ⟨pg, hpg⟩ : ∃ n, pageOf a = n := ⟨_, rfl⟩
  obtain ⟨wo, hwo⟩ : ∃ n, wordOf a = n := ⟨_, rfl⟩
  simp only [hpg] at hPg
  simp only [hwo] at hWd
  obtain ⟨⟨⟨xa, xp, xf, ⟨xw, xu, xx⟩, xd⟩, hw, cd, m1, l1⟩, hT⟩ : ∃ T, transR mem root l kind user (pg : Int) = T := ⟨_, rfl⟩
  have hTr : ∀ W, Below w.heap.size w W → Calls Tryz.prog 68 #[.pointer (some ⟨p, 0, none⟩), .int .i64 kind, .bool user, .int .i64 (pg : Int)] W
      fun e w' => e = .returned (.tuple #[.agg #[.int .i64 xa, .int .i64 xp, .int .i64 xf, .bool xw, .bool xu, .bool xx, .bool xd], .agg #[.int .i64 hw, .int .u64 0, .int .i64 cd, .int .u64 0]]) ∧ ∃ v', MS w' p tp gp fb v' m1 root l1 ∧ OwnN W v v' ∧ Kept W.heap.size (MSet p tp fb v) W w' := fun W hb => by
    have := trans_any W p tp gp fb v mem root l (M.past hb) hsm (hE.past hb) hS0 kind user pg
    rw [hT] at this
    exact this
  have hcd : hw = 0 → cd = 0 := fun h => by
    have := transR_code mem root l kind user (pg : Int)
    rw [hT] at this
    exact this h
  have hrs : res = (if al = true then (if cn = true then (if hw = 0 then (if kind = 1 then (⟨0, 0, 0, 0⟩, wr h16 m1 xf wo x, l1) else (⟨0, (rd h16 m1 xf wo).getD 0, 0, 0⟩, m1, l1)) else (⟨hw, 0, cd, a⟩, m1, l1)) else (⟨2, 0, 0, a⟩, mem, l)) else (⟨4, 0, 0, a⟩, mem, l)) := by
    rw [← hres, ← hal, ← hcn]; unfold accR
    simp only [hpg, hwo, hT, decide_eq_true_eq]
  have HAl := Lib.hid hAl
  have HCn := Lib.hid hCn
  have HPg := Lib.hid hPg
  have HWd := Lib.hid hWd
  have HTr := Lib.hid hTr
  have HCd := Lib.hid hcd
  have HRs := Lib.hid hrs
  have HW := Lib.hid hw0
  have HBx := Lib.hid hbx
  have HZ := Lib.hid hz
  have HB0 := Lib.hid b0
  have HM := Lib.hid M
  have HOwn := Lib.hid hown0
  have HXx := Lib.hid hx
  have lp := M.hdr.lt
  clear hAl hCn hPg hWd hTr hcd hrs hw0 hbx hz b0 M hown0 hres hal hcn hpg hwo hT hsm hE hS0 ha hx ba bz lp
  cases al with
  | false =>
    have Hres : Hid (res = (⟨4, 0, 0, a⟩, mem, l)) := Lib.hid (by rw [HRs.out, if_neg (by simp)])
    go_enter Tryz.func22, Tryz.ntmps22
    go_wp2_with (first
      | (go_at_call 66; rw [HW.out]; (with_reducible refine HAl.out.mono ?_); rintro e W1 ⟨rfl, b1⟩; have B1 := HBx.out.past b1; have bx0 := B1.cell (k := 0) rfl; have Z1 := HZ.out.past b1)
      | (go_at_call 65; (with_reducible refine (abad_any _ _ _ _ _ _ _ B1).mono ?_); rintro e W ⟨rfl, bb⟩; have Z := Z1.past bb; have z0 := Z.cell (k := 0) rfl; have z1 := Z.cell (k := 1) rfl; have z2 := Z.cell (k := 2) rfl; have z3 := Z.cell (k := 3) rfl; have zf := fun j => Z.free j; have zl := Z.lt))
    have hq := HB0.out.trans ((b1.trans (bb.mono b1.size)).mono HB0.out.size)
    have MW := HM.out.past hq
    have KW : Kept w.heap.size (MSet p tp fb v) w W := Kept.of_below hq
    have hown := OwnN.refl w v
    have hrow : ∀ b, v.ownBlock = some b → ¬ b = w.heap.size + 1 := fun b hb => by have := HOwn.out b hb; omega
    obtain ⟨R, RK⟩ := set4 (.int .i64 4) (.int .u64 0) (.int .i64 0) (.int .u64 (a : Int)) Z
    have s0 := R.cell (k := 0) rfl
    have s1 := R.cell (k := 1) rfl
    have s2 := R.cell (k := 2) rfl
    have s3 := R.cell (k := 3) rfl
    refine bodyPost_ret (v := .agg #[.int .i64 4, .int .u64 0, .int .i64 0, .int .u64 (a : Int)]) ?_ rfl ?_
    rotate_left
    · rw [Hres.out]
      refine ⟨rfl, _, MW.keptO (RK (fun k => k = w.heap.size + 1) rfl) ?_ ?_, hown, KW.trans ((RK (fun k => k = w.heap.size + 1) rfl).mono KW.size (fun k hk h => by omega))⟩
      · rintro b T xs rfl hb
        exact .inr (hb.inj Z).2
      · exact hrow
    · clear MW KW hown hrow R RK Z
      simp [results, Tryz.results22, go_sem, s0, s1, s2, s3]
  | true =>
    cases cn with
    | false =>
      have Hres : Hid (res = (⟨2, 0, 0, a⟩, mem, l)) := Lib.hid (by rw [HRs.out, if_pos rfl, if_neg (by simp)])
      go_enter Tryz.func22, Tryz.ntmps22
      go_wp2_with (first
        | (go_at_call 66; rw [HW.out]; (with_reducible refine HAl.out.mono ?_); rintro e W1 ⟨rfl, b1⟩; have B1 := HBx.out.past b1; have bx0 := B1.cell (k := 0) rfl; have Z1 := HZ.out.past b1)
        | (go_at_call 67; (with_reducible refine (HCn.out _).mono ?_); rintro e W2 ⟨rfl, rfl⟩)
        | (go_at_call 65; (with_reducible refine (abad_any _ _ _ _ _ _ _ B1).mono ?_); rintro e W ⟨rfl, bb⟩; have Z := Z1.past bb; have z0 := Z.cell (k := 0) rfl; have z1 := Z.cell (k := 1) rfl; have z2 := Z.cell (k := 2) rfl; have z3 := Z.cell (k := 3) rfl; have zf := fun j => Z.free j; have zl := Z.lt))
      have hq := HB0.out.trans ((b1.trans (bb.mono b1.size)).mono HB0.out.size)
      have MW := HM.out.past hq
      have KW : Kept w.heap.size (MSet p tp fb v) w W := Kept.of_below hq
      have hown := OwnN.refl w v
      have hrow : ∀ b, v.ownBlock = some b → ¬ b = w.heap.size + 1 := fun b hb => by have := HOwn.out b hb; omega
      obtain ⟨R, RK⟩ := set4 (.int .i64 2) (.int .u64 0) (.int .i64 0) (.int .u64 (a : Int)) Z
      have s0 := R.cell (k := 0) rfl
      have s1 := R.cell (k := 1) rfl
      have s2 := R.cell (k := 2) rfl
      have s3 := R.cell (k := 3) rfl
      refine bodyPost_ret (v := .agg #[.int .i64 2, .int .u64 0, .int .i64 0, .int .u64 (a : Int)]) ?_ rfl ?_
      rotate_left
      · rw [Hres.out]
        refine ⟨rfl, _, MW.keptO (RK (fun k => k = w.heap.size + 1) rfl) ?_ ?_, hown, KW.trans ((RK (fun k => k = w.heap.size + 1) rfl).mono KW.size (fun k hk h => by omega))⟩
        · rintro b T xs rfl hb
          exact .inr (hb.inj Z).2
        · exact hrow
      · clear MW KW hown hrow R RK Z
        simp [results, Tryz.results22, go_sem, s0, s1, s2, s3]
    | true =>
      by_cases hhw : hw = 0
      · subst hhw
        have hcd0 : cd = 0 := HCd.out rfl
        subst hcd0
        by_cases hk : kind = 1
        · subst hk
          have Hres : Hid (res = (⟨0, 0, 0, 0⟩, wr h16 m1 xf wo x, l1)) := Lib.hid (by rw [HRs.out, if_pos rfl, if_pos rfl, if_pos rfl, if_pos rfl])
          go_enter Tryz.func22, Tryz.ntmps22
          go_wp2_with (first
            | (go_at_call 66; rw [HW.out]; (with_reducible refine HAl.out.mono ?_); rintro e W1 ⟨rfl, b1⟩; have B1 := HBx.out.past b1; have bx0 := B1.cell (k := 0) rfl; have Z1 := HZ.out.past b1)
            | (go_at_call 67; (with_reducible refine (HCn.out _).mono ?_); rintro e W2 ⟨rfl, rfl⟩)
            | (go_at_call 69; (with_reducible refine (HPg.out _).mono ?_); rintro e W3 ⟨rfl, b3⟩; have B3 := b1.trans (b3.mono b1.size))
            | (go_at_call 68; (with_reducible refine (HTr.out _ (HB0.out.trans (B3.mono HB0.out.size))).mono ?_); rintro e W4 ⟨rfl, v4, M4, o4, K4⟩; have X4 := ((HM.out.past (HB0.out.trans (B3.mono HB0.out.size)))).keptB K4 (HBx.out.past B3) ⟨by decide, by decide, by decide, by decide⟩; have Z4 := ((HM.out.past (HB0.out.trans (B3.mono HB0.out.size)))).keptB K4 (HZ.out.past B3) ⟨by decide, by decide, by decide, by decide⟩; have x40 := X4.cell (k := 0) rfl; have x4l := X4.lt))
          have q4 := HB0.out.trans (B3.mono HB0.out.size)
          have ba := bal W4 (.cells #[.int .i64 xa, .int .i64 xp, .int .i64 xf, .bool xw, .bool xu, .bool xx, .bool xd] 49)
          have bo := bal (W4.alloc (.cells #[.int .i64 xa, .int .i64 xp, .int .i64 xf, .bool xw, .bool xu, .bool xx, .bool xd] 49)) (.cells #[.int .i64 0, .int .u64 0, .int .i64 0, .int .u64 0] 34)
          have H5 := (Blk.new W4 49 [.int .i64 xa, .int .i64 xp, .int .i64 xf, .bool xw, .bool xu, .bool xx, .bool xd]).past bo
          have O5 := Blk.new (W4.alloc (.cells #[.int .i64 xa, .int .i64 xp, .int .i64 xf, .bool xw, .bool xu, .bool xx, .bool xd] 49)) 34 [.int .i64 0, .int .u64 0, .int .i64 0, .int .u64 0]
          rw [show (W4.alloc (.cells #[.int .i64 xa, .int .i64 xp, .int .i64 xf, .bool xw, .bool xu, .bool xx, .bool xd] 49)).heap.size = W4.heap.size + 1 by simp] at O5
          have bq := ba.trans (bo.mono ba.size)
          have M5 := M4.past bq
          have X5 := X4.past bq
          have Z5 := Z4.past bq
          have KW5 := ((Kept.of_below q4).trans (K4.mono q4.size (fun _ _ h => h))).trans (Kept.of_below (bq.mono (Nat.le_trans q4.size K4.size)))
          have hown := o4.from' (w := w) q4.size
          have hrow := ownN_row HOwn.out o4 ((HZ.out.past B3).lt)
          have hrowO : ∀ b, v4.ownBlock = some b → ¬ b = W4.heap.size + 1 := fun b hb => by have := (M4.t.row.lt _ hb).2; omega
          have hzo : w.heap.size + 1 ≠ W4.heap.size + 1 := by have := Z4.lt; omega
          have hob : w.heap.size ≤ W4.heap.size + 1 := by have := Z4.lt; omega
          obtain ⟨W5, hW5⟩ : ∃ W, (W4.alloc (.cells #[.int .i64 xa, .int .i64 xp, .int .i64 xf, .bool xw, .bool xu, .bool xx, .bool xd] 49)).alloc (.cells #[.int .i64 0, .int .u64 0, .int .i64 0, .int .u64 0] 34) = W := ⟨_, rfl⟩
          rw [show ((W4.alloc (.cells #[.int .i64 xa, .int .i64 xp, .int .i64 xf, .bool xw, .bool xu, .bool xx, .bool xd] 49)).alloc (.cells ([.int .i64 0, .int .u64 0, .int .i64 0, .int .u64 0] : List Value).toArray 34)) = W5 from hW5] at O5
          rw [hW5] at H5 M5 X5 Z5 KW5
          rw [hW5]
          obtain ⟨xb, hxb⟩ : ∃ t, W4.heap.size = t := ⟨_, rfl⟩
          rw [hxb] at H5 O5 hrowO hzo hob ⊢
          obtain ⟨ob, hobb⟩ : ∃ t, xb + 1 = t := ⟨_, rfl⟩
          rw [hobb] at O5 hrowO hzo hob ⊢
          have pc1 := M5.hdr.cell (k := 1) rfl
          have pcl := M5.hdr.lt
          have hc2 := H5.cell (k := 2) rfl
          have hcl := H5.lt
          have xc0 := X5.cell (k := 0) rfl
          have xcl := X5.lt
          have HM5 := Lib.hid M5
          have HH5 := Lib.hid H5
          have HO5 := Lib.hid O5
          have HX5 := Lib.hid X5
          have HZ5 := Lib.hid Z5
          have HK5 := Lib.hid KW5
          have HOw := Lib.hid hown
          have HRow := Lib.hid hrow
          have HRowO := Lib.hid hrowO
          have HZO := Lib.hid hzo
          have HOb := Lib.hid hob
          clear hW5 hxb hobb M5 H5 O5 X5 Z5 KW5 hown hrow hrowO hzo hob bq ba bo q4 M4 X4 Z4 o4 K4 x40 x4l B3 b3 b1 B1 Z1 bx0
          go_region_held3 (fun w' => w'.cell? ⟨p, 1, none⟩ = some (.pointer (some ⟨gp, 0, none⟩)) ∧ w'.cell? ⟨xb, 2, none⟩ = some (.int .i64 xf) ∧ w'.cell? ⟨w.heap.size, 0, none⟩ = some (.int .u64 (a : Int))) (go_keep) (first
            | (go_at_call 70; (with_reducible refine (HWd.out _).mono ?_); rintro e W6 ⟨rfl, b6⟩; have q6 := (Below.refl W5.heap.size W5).drew.trans b6; have Mk6 := HM5.out.past q6; have Hk6 := HH5.out.past q6; have Xk6 := HX5.out.past q6; have pk6 := Mk6.hdr.cell (k := 1) rfl; have pkl6 := Mk6.hdr.lt; have hk6 := Hk6.cell (k := 2) rfl; have hkl6 := Hk6.lt; have xk6 := Xk6.cell (k := 0) rfl; have xkl6 := Xk6.lt; clear Mk6 Hk6 Xk6)
            | (go_at_call 42; (with_reducible refine (gm_set (HM5.out.past q6).g _ _ _ HXx.out).mono ?_); rintro e W7 ⟨rfl, G7, K7, s7⟩; have M7 := (HM5.out.past q6).mem G7 (by rw [wr_len', HM5.out.len]) K7; have X7 := (HM5.out.past q6).g.keptB (HX5.out.past q6) (by decide) K7; have H7 := (HM5.out.past q6).g.keptB (HH5.out.past q6) (by decide) K7; have O7 := (HM5.out.past q6).g.keptB (HO5.out.past q6) (by decide) K7; have Z := (HM5.out.past q6).g.keptB (HZ5.out.past q6) (by decide) K7; have pk7 := M7.hdr.cell (k := 1) rfl; have pkl7 := M7.hdr.lt; have hk7 := H7.cell (k := 2) rfl; have hkl7 := H7.lt; have xk7 := X7.cell (k := 0) rfl; have xkl7 := X7.lt; have o7c0 := O7.cell (k := 0) rfl; have o7c1 := O7.cell (k := 1) rfl; have o7c2 := O7.cell (k := 2) rfl; have o7c3 := O7.cell (k := 3) rfl; have o7cf := fun j => O7.free j; have o7cl := O7.lt; have zc0 := Z.cell (k := 0) rfl; have zc1 := Z.cell (k := 1) rfl; have zc2 := Z.cell (k := 2) rfl; have zc3 := Z.cell (k := 3) rfl; have zcf := fun j => Z.free j; have zcl := Z.lt))
          go_wp2
          have MW := M7
          have KW := HK5.out.trans (((Kept.of_below (S := fun k => k = fb) q6).trans (K7.mono q6.size (fun _ _ h => h))).mono (B' := w.heap.size) (S' := MSet p tp fb v) HK5.out.size (fun k _ h => .inr (.inl h)))
          have hown := HOw.out
          have hrow := HRow.out
          obtain ⟨R, RK⟩ := set4 (.int .i64 0) (.int .u64 0) (.int .i64 0) (.int .u64 0) Z
          have s0 := R.cell (k := 0) rfl
          have s1 := R.cell (k := 1) rfl
          have s2 := R.cell (k := 2) rfl
          have s3 := R.cell (k := 3) rfl
          refine bodyPost_ret (v := .agg #[.int .i64 0, .int .u64 0, .int .i64 0, .int .u64 0]) ?_ rfl ?_
          rotate_left
          · rw [Hres.out]
            refine ⟨rfl, _, MW.keptO (RK (fun k => k = w.heap.size + 1) rfl) ?_ ?_, hown, KW.trans ((RK (fun k => k = w.heap.size + 1) rfl).mono KW.size (fun k hk h => by omega))⟩
            · rintro b T xs rfl hb
              exact .inr (hb.inj Z).2
            · exact hrow
          · clear MW KW hown hrow R RK Z
            simp [results, Tryz.results22, go_sem, s0, s1, s2, s3]
        · have f1 : (kind == 1) = false := beq_eq_false_iff_ne.2 hk
          obtain ⟨y, hy⟩ : ∃ y, rd h16 m1 xf wo = y := ⟨_, rfl⟩
          have Hres : Hid (res = (⟨0, y.getD 0, 0, 0⟩, m1, l1)) := Lib.hid (by rw [HRs.out, if_pos rfl, if_pos rfl, if_pos rfl, if_neg hk, hy])
          have HY := Lib.hid hy
          clear hk hy
          go_enter Tryz.func22, Tryz.ntmps22
          go_wp2_with (first
            | (go_at_call 66; rw [HW.out]; (with_reducible refine HAl.out.mono ?_); rintro e W1 ⟨rfl, b1⟩; have B1 := HBx.out.past b1; have bx0 := B1.cell (k := 0) rfl; have Z1 := HZ.out.past b1)
            | (go_at_call 67; (with_reducible refine (HCn.out _).mono ?_); rintro e W2 ⟨rfl, rfl⟩)
            | (go_at_call 69; (with_reducible refine (HPg.out _).mono ?_); rintro e W3 ⟨rfl, b3⟩; have B3 := b1.trans (b3.mono b1.size))
            | (go_at_call 68; (with_reducible refine (HTr.out _ (HB0.out.trans (B3.mono HB0.out.size))).mono ?_); rintro e W4 ⟨rfl, v4, M4, o4, K4⟩; have X4 := ((HM.out.past (HB0.out.trans (B3.mono HB0.out.size)))).keptB K4 (HBx.out.past B3) ⟨by decide, by decide, by decide, by decide⟩; have Z4 := ((HM.out.past (HB0.out.trans (B3.mono HB0.out.size)))).keptB K4 (HZ.out.past B3) ⟨by decide, by decide, by decide, by decide⟩; have x40 := X4.cell (k := 0) rfl; have x4l := X4.lt))
          have q4 := HB0.out.trans (B3.mono HB0.out.size)
          have ba := bal W4 (.cells #[.int .i64 xa, .int .i64 xp, .int .i64 xf, .bool xw, .bool xu, .bool xx, .bool xd] 49)
          have bo := bal (W4.alloc (.cells #[.int .i64 xa, .int .i64 xp, .int .i64 xf, .bool xw, .bool xu, .bool xx, .bool xd] 49)) (.cells #[.int .i64 0, .int .u64 0, .int .i64 0, .int .u64 0] 34)
          have H5 := (Blk.new W4 49 [.int .i64 xa, .int .i64 xp, .int .i64 xf, .bool xw, .bool xu, .bool xx, .bool xd]).past bo
          have O5 := Blk.new (W4.alloc (.cells #[.int .i64 xa, .int .i64 xp, .int .i64 xf, .bool xw, .bool xu, .bool xx, .bool xd] 49)) 34 [.int .i64 0, .int .u64 0, .int .i64 0, .int .u64 0]
          rw [show (W4.alloc (.cells #[.int .i64 xa, .int .i64 xp, .int .i64 xf, .bool xw, .bool xu, .bool xx, .bool xd] 49)).heap.size = W4.heap.size + 1 by simp] at O5
          have bq := ba.trans (bo.mono ba.size)
          have M5 := M4.past bq
          have X5 := X4.past bq
          have Z5 := Z4.past bq
          have KW5 := ((Kept.of_below q4).trans (K4.mono q4.size (fun _ _ h => h))).trans (Kept.of_below (bq.mono (Nat.le_trans q4.size K4.size)))
          have hown := o4.from' (w := w) q4.size
          have hrow := ownN_row HOwn.out o4 ((HZ.out.past B3).lt)
          have hrowO : ∀ b, v4.ownBlock = some b → ¬ b = W4.heap.size + 1 := fun b hb => by have := (M4.t.row.lt _ hb).2; omega
          have hzo : w.heap.size + 1 ≠ W4.heap.size + 1 := by have := Z4.lt; omega
          have hob : w.heap.size ≤ W4.heap.size + 1 := by have := Z4.lt; omega
          obtain ⟨W5, hW5⟩ : ∃ W, (W4.alloc (.cells #[.int .i64 xa, .int .i64 xp, .int .i64 xf, .bool xw, .bool xu, .bool xx, .bool xd] 49)).alloc (.cells #[.int .i64 0, .int .u64 0, .int .i64 0, .int .u64 0] 34) = W := ⟨_, rfl⟩
          rw [show ((W4.alloc (.cells #[.int .i64 xa, .int .i64 xp, .int .i64 xf, .bool xw, .bool xu, .bool xx, .bool xd] 49)).alloc (.cells ([.int .i64 0, .int .u64 0, .int .i64 0, .int .u64 0] : List Value).toArray 34)) = W5 from hW5] at O5
          rw [hW5] at H5 M5 X5 Z5 KW5
          rw [hW5]
          obtain ⟨xb, hxb⟩ : ∃ t, W4.heap.size = t := ⟨_, rfl⟩
          rw [hxb] at H5 O5 hrowO hzo hob ⊢
          obtain ⟨ob, hobb⟩ : ∃ t, xb + 1 = t := ⟨_, rfl⟩
          rw [hobb] at O5 hrowO hzo hob ⊢
          have pc1 := M5.hdr.cell (k := 1) rfl
          have pcl := M5.hdr.lt
          have hc2 := H5.cell (k := 2) rfl
          have hcl := H5.lt
          have xc0 := X5.cell (k := 0) rfl
          have xcl := X5.lt
          have HM5 := Lib.hid M5
          have HH5 := Lib.hid H5
          have HO5 := Lib.hid O5
          have HX5 := Lib.hid X5
          have HZ5 := Lib.hid Z5
          have HK5 := Lib.hid KW5
          have HOw := Lib.hid hown
          have HRow := Lib.hid hrow
          have HRowO := Lib.hid hrowO
          have HZO := Lib.hid hzo
          have HOb := Lib.hid hob
          clear hW5 hxb hobb M5 H5 O5 X5 Z5 KW5 hown hrow hrowO hzo hob bq ba bo q4 M4 X4 Z4 o4 K4 x40 x4l B3 b3 b1 B1 Z1 bx0
          have nep : ob ≠ p := Ne.symm (HM5.out.hdr.ne HO5.out (by decide))
          have nex : ob ≠ xb := Ne.symm (HH5.out.ne HO5.out (by decide))
          have nea : ob ≠ w.heap.size := Ne.symm (HX5.out.ne HO5.out (by decide))
          have ob0 := HO5.out.cell (k := 0) rfl
          have ob1 := HO5.out.cell (k := 1) rfl
          have ob2 := HO5.out.cell (k := 2) rfl
          have ob3 := HO5.out.cell (k := 3) rfl
          have obf := fun j => HO5.out.free j
          have obl := HO5.out.lt
          go_region_held3 (fun w' => w'.cell? ⟨p, 1, none⟩ = some (.pointer (some ⟨gp, 0, none⟩)) ∧ w'.cell? ⟨xb, 2, none⟩ = some (.int .i64 xf) ∧ w'.cell? ⟨w.heap.size, 0, none⟩ = some (.int .u64 (a : Int))) (go_keep) (first
            | (go_at_call 70; (with_reducible refine (HWd.out _).mono ?_); rintro e W6 ⟨rfl, b6⟩; have q6 := (Below.refl W5.heap.size W5).drew.trans b6; have Mk6 := HM5.out.past q6; have Hk6 := HH5.out.past q6; have Xk6 := HX5.out.past q6; have pk6 := Mk6.hdr.cell (k := 1) rfl; have pkl6 := Mk6.hdr.lt; have hk6 := Hk6.cell (k := 2) rfl; have hkl6 := Hk6.lt; have xk6 := Xk6.cell (k := 0) rfl; have xkl6 := Xk6.lt; clear Mk6 Hk6 Xk6; have O6 := HO5.out.past q6; have o6c0 := O6.cell (k := 0) rfl; have o6c1 := O6.cell (k := 1) rfl; have o6c2 := O6.cell (k := 2) rfl; have o6c3 := O6.cell (k := 3) rfl; have o6cf := fun j => O6.free j; have o6cl := O6.lt)
            | (go_at_call 21; (with_reducible refine (gm_get (HM5.out.past q6).g _ _ _ HY.out).mono ?_); rintro e w' ⟨rfl, rfl⟩))
          have O6' := O6.set 1 (.int .u64 ((y.getD 0 : Nat) : Int))
          have Z6 := (HZ5.out.past q6).other (a := ⟨ob, 1, none⟩) HZO.out (.int .u64 ((y.getD 0 : Nat) : Int))
          have K6 : Kept W6.heap.size (fun k => k = ob) W6 (W6.setCell ⟨ob, 1, none⟩ (.int .u64 ((y.getD 0 : Nat) : Int))) := (Kept.refl W6.heap.size (fun k => k = ob) W6).setCell (p := ⟨ob, 1, none⟩) (.inl rfl) _
          have M6 := (HM5.out.past q6).keptO K6 (fun b T xs s hb => by subst s; exact .inr (hb.inj O6).2) HRowO.out
          have KW := (HK5.out.trans (Kept.of_below (q6.mono HK5.out.size))).trans (K6.mono (B' := w.heap.size) (S' := MSet p tp fb v) (Nat.le_trans HK5.out.size q6.size) (fun k hk h => by have := HOb.out; omega))
          obtain ⟨W, hW⟩ : ∃ W', W6.setCell ⟨ob, 1, none⟩ (.int .u64 ((y.getD 0 : Nat) : Int)) = W' := ⟨_, rfl⟩
          rw [hW] at O6' Z6 M6 KW
          rw [hW]
          have Z := Z6
          have zc0 := Z.cell (k := 0) rfl
          have zc1 := Z.cell (k := 1) rfl
          have zc2 := Z.cell (k := 2) rfl
          have zc3 := Z.cell (k := 3) rfl
          have zcf := fun j => Z.free j
          have zcl := Z.lt
          have o6d0 := O6'.cell (k := 0) rfl
          have o6d1 := O6'.cell (k := 1) rfl
          have o6d2 := O6'.cell (k := 2) rfl
          have o6d3 := O6'.cell (k := 3) rfl
          have o6df := fun j => O6'.free j
          have o6dl := O6'.lt
          have MW := M6
          have hown := HOw.out
          have hrow := HRow.out
          clear hW K6 Z6 M6 O6 o6c0 o6c1 o6c2 o6c3 o6cf o6cl ob0 ob1 ob2 ob3 obf obl
          go_wp2
          obtain ⟨R, RK⟩ := set4 (.int .i64 0) (.int .u64 ((y.getD 0 : Nat) : Int)) (.int .i64 0) (.int .u64 0) Z
          have s0 := R.cell (k := 0) rfl
          have s1 := R.cell (k := 1) rfl
          have s2 := R.cell (k := 2) rfl
          have s3 := R.cell (k := 3) rfl
          refine bodyPost_ret (v := .agg #[.int .i64 0, .int .u64 ((y.getD 0 : Nat) : Int), .int .i64 0, .int .u64 0]) ?_ rfl ?_
          rotate_left
          · rw [Hres.out]
            refine ⟨rfl, _, MW.keptO (RK (fun k => k = w.heap.size + 1) rfl) ?_ ?_, hown, KW.trans ((RK (fun k => k = w.heap.size + 1) rfl).mono KW.size (fun k hk h => by omega))⟩
            · rintro b T xs rfl hb
              exact .inr (hb.inj Z).2
            · exact hrow
          · clear MW KW hown hrow R RK Z
            simp [results, Tryz.results22, go_sem, s0, s1, s2, s3]
      · have Hres : Hid (res = (⟨hw, 0, cd, a⟩, m1, l1)) := Lib.hid (by rw [HRs.out, if_pos rfl, if_pos rfl, if_neg hhw])
        have f1 : (hw != 0) = true := bne_iff_ne.2 hhw
        have f2 : (hw == 0) = false := beq_eq_false_iff_ne.2 hhw
        clear hhw
        go_enter Tryz.func22, Tryz.ntmps22
        go_wp2_with (first
          | (go_at_call 66; rw [HW.out]; (with_reducible refine HAl.out.mono ?_); rintro e W1 ⟨rfl, b1⟩; have B1 := HBx.out.past b1; have bx0 := B1.cell (k := 0) rfl; have Z1 := HZ.out.past b1)
          | (go_at_call 67; (with_reducible refine (HCn.out _).mono ?_); rintro e W2 ⟨rfl, rfl⟩)
          | (go_at_call 69; (with_reducible refine (HPg.out _).mono ?_); rintro e W3 ⟨rfl, b3⟩; have B3 := b1.trans (b3.mono b1.size))
          | (go_at_call 68; (with_reducible refine (HTr.out _ (HB0.out.trans (B3.mono HB0.out.size))).mono ?_); rintro e W4 ⟨rfl, v4, M4, o4, K4⟩; have X4 := ((HM.out.past (HB0.out.trans (B3.mono HB0.out.size)))).keptB K4 (HBx.out.past B3) ⟨by decide, by decide, by decide, by decide⟩; have Z4 := ((HM.out.past (HB0.out.trans (B3.mono HB0.out.size)))).keptB K4 (HZ.out.past B3) ⟨by decide, by decide, by decide, by decide⟩; have x40 := X4.cell (k := 0) rfl; have x4l := X4.lt)
          | (go_at_call 65; (with_reducible refine (abad_any _ _ _ _ _ _ _ (X4.past ((bal W4 (.cells #[.int .i64 xa, .int .i64 xp, .int .i64 xf, .bool xw, .bool xu, .bool xx, .bool xd] 49)).trans ((bal (W4.alloc (.cells #[.int .i64 xa, .int .i64 xp, .int .i64 xf, .bool xw, .bool xu, .bool xx, .bool xd] 49)) (.cells #[.int .i64 hw, .int .u64 0, .int .i64 cd, .int .u64 0] 34)).mono (by simp))))).mono ?_); rintro e W ⟨rfl, bb⟩; have Z := (Z4.past ((bal W4 (.cells #[.int .i64 xa, .int .i64 xp, .int .i64 xf, .bool xw, .bool xu, .bool xx, .bool xd] 49)).trans ((bal (W4.alloc (.cells #[.int .i64 xa, .int .i64 xp, .int .i64 xf, .bool xw, .bool xu, .bool xx, .bool xd] 49)) (.cells #[.int .i64 hw, .int .u64 0, .int .i64 cd, .int .u64 0] 34)).mono (by simp)))).past bb; have z0 := Z.cell (k := 0) rfl; have z1 := Z.cell (k := 1) rfl; have z2 := Z.cell (k := 2) rfl; have z3 := Z.cell (k := 3) rfl; have zf := fun j => Z.free j; have zl := Z.lt))
        have hq4 := HB0.out.trans (B3.mono HB0.out.size)
        have bq := ((bal W4 (.cells #[.int .i64 xa, .int .i64 xp, .int .i64 xf, .bool xw, .bool xu, .bool xx, .bool xd] 49)).trans ((bal (W4.alloc (.cells #[.int .i64 xa, .int .i64 xp, .int .i64 xf, .bool xw, .bool xu, .bool xx, .bool xd] 49)) (.cells #[.int .i64 hw, .int .u64 0, .int .i64 cd, .int .u64 0] 34)).mono (by simp)))
        have bqq := bq.trans (bb.mono bq.size)
        have MW := M4.past bqq
        have KW := ((Kept.of_below hq4).trans (K4.mono hq4.size (fun _ _ h => h))).trans (Kept.of_below (bqq.mono (Nat.le_trans hq4.size K4.size)))
        have hown := o4.from' hq4.size
        have hrow := ownN_row HOwn.out o4 ((HZ.out.past B3).lt)
        obtain ⟨R, RK⟩ := set4 (.int .i64 hw) (.int .u64 0) (.int .i64 cd) (.int .u64 (a : Int)) Z
        have s0 := R.cell (k := 0) rfl
        have s1 := R.cell (k := 1) rfl
        have s2 := R.cell (k := 2) rfl
        have s3 := R.cell (k := 3) rfl
        refine bodyPost_ret (v := .agg #[.int .i64 hw, .int .u64 0, .int .i64 cd, .int .u64 (a : Int)]) ?_ rfl ?_
        rotate_left
        · rw [Hres.out]
          refine ⟨rfl, _, MW.keptO (RK (fun k => k = w.heap.size + 1) rfl) ?_ ?_, hown, KW.trans ((RK (fun k => k = w.heap.size + 1) rfl).mono KW.size (fun k hk h => by omega))⟩
          · rintro b T xs rfl hb
            exact .inr (hb.inj Z).2
          · exact hrow
        · clear MW KW hown hrow R RK Z
          simp [results, Tryz.results22, go_sem, s0, s1, s2, s3]
end Go.Proofs.YtgaififhhffpfaaGreatDoor
