/- tlb.Tlb's state and the contracts of New, Get, Drop, Put, All, List. -/
import Derived.Test.YtgaififhhffpfaaGreatDoorTlb
namespace Go.Proofs.YtgaififhhffpfaaGreatDoor
open Go.RowKit Go.Shelf

/-- A TLB at tp of so many: its hits l in the slice v. -/
structure TS (w : World) (tp : Nat) (most : Nat) (v : Value) (l : List Hit) : Prop where
  hdr : Blk w tp 164 [.int .i64 (most : Int), v]
  row : HRow w v l
theorem TS.past {w w' : World} {tp most : Nat} {v : Value} {l : List Hit} (h : TS w tp most v l) (hb : Below w.heap.size w w') : TS w' tp most v l := ⟨h.hdr.past hb, h.row.past hb⟩
theorem own_one {w : World} {v : Value} {l : List Hit} (h : HRow w v l) : v.oneCell' = true := by
  rcases h.view with ⟨rfl, _⟩ | ⟨g, cap, rest, rfl, _⟩ <;> rfl
/-- what may have turned: the TLB, its row -/
def TSet (tp : Nat) (v : Value) (k : Nat) : Prop := k = tp ∨ v.ownBlock = some k
/-- the row of a TLB behind a call: the old one, or a new block -/
def OwnN (w : World) (v v' : Value) : Prop := v'.ownBlock = v.ownBlock ∨ ∀ k, v'.ownBlock = some k → w.heap.size ≤ k
theorem OwnN.refl (w : World) (v : Value) : OwnN w v v := .inl rfl
theorem OwnN.trans {w w' : World} {a b c : Value} (h : OwnN w a b) (h' : OwnN w' b c) (hs : w.heap.size ≤ w'.heap.size) : OwnN w a c := by
  rcases h' with h' | h'
  · rcases h with h | h
    · exact .inl (h'.trans h)
    · exact .inr fun k hk => h k (by rw [← h']; exact hk)
  · exact .inr fun k hk => Nat.le_trans hs (h' k hk)

theorem hit_set7 {W w0 : World} {b B0 : Nat} {T : TypeId} {x0 x1 x2 x3 x4 x5 x6 : Value} (v0 v1 v2 v3 v4 v5 v6 : Value) (h : Blk W b T [x0, x1, x2, x3, x4, x5, x6]) (hB : Below B0 w0 W) (hb : B0 ≤ b) :
    Blk (((((((W.setCell ⟨b, 0, none⟩ v0).setCell ⟨b, 1, none⟩ v1).setCell ⟨b, 2, none⟩ v2).setCell ⟨b, 3, none⟩ v3).setCell ⟨b, 4, none⟩ v4).setCell ⟨b, 5, none⟩ v5).setCell ⟨b, 6, none⟩ v6) b T [v0, v1, v2, v3, v4, v5, v6] ∧
    Below B0 w0 (((((((W.setCell ⟨b, 0, none⟩ v0).setCell ⟨b, 1, none⟩ v1).setCell ⟨b, 2, none⟩ v2).setCell ⟨b, 3, none⟩ v3).setCell ⟨b, 4, none⟩ v4).setCell ⟨b, 5, none⟩ v5).setCell ⟨b, 6, none⟩ v6) :=
  ⟨((((((h.set 0 v0).set 1 v1).set 2 v2).set 3 v3).set 4 v4).set 5 v5).set 6 v6,
   ((((((hB.setCell (p := ⟨b, 0, none⟩) hb v0).setCell (p := ⟨b, 1, none⟩) hb v1).setCell (p := ⟨b, 2, none⟩) hb v2).setCell (p := ⟨b, 3, none⟩) hb v3).setCell (p := ⟨b, 4, none⟩) hb v4).setCell (p := ⟨b, 5, none⟩) hb v5).setCell (p := ⟨b, 6, none⟩) hb v6⟩

theorem tlbNew_any (w : World) : Calls Tryz.prog 58 #[.int .i64 512] w
    fun e w' => e = .returned (.pointer (some ⟨w.heap.size, 0, none⟩)) ∧ w' = w.alloc (.cells #[.int .i64 512, .slice none 0 0] 164) := by
  go_enter Tryz.func58, Tryz.ntmps58
  go_wp2
  go_ret
  exact ⟨rfl, rfl⟩

set_option maxRecDepth 100000 in
theorem at_any (w : World) (tp most : Nat) (v : Value) (l : List Hit) (asid page : Int) (T : TS w tp most v l) (hsm : l.length ≤ 1000000) :
    Calls Tryz.prog 108 #[.pointer (some ⟨tp, 0, none⟩), .agg #[.int .i64 asid, .int .i64 page]] w
      fun e w' => e = .returned (.int .i64 (fidx (ofKey asid page) l)) ∧ Below w.heap.size w w' := by
  obtain ⟨w0, hw0⟩ : ∃ w0, w.alloc (.cells #[.int .i64 asid, .int .i64 page] 167) = w0 := ⟨_, rfl⟩
  have b0 : Below w.heap.size w w0 := by rw [← hw0]; exact bal _ _
  have hk : Blk w0 w.heap.size 167 [.int .i64 asid, .int .i64 page] := by rw [← hw0]; exact Blk.new w _ _
  have T0 := T.past b0
  have hcon := hindex_any w0 v l 143 #[.pointer (some ⟨w.heap.size, 0, none⟩)] (ofKey asid page) T0.row hsm (enters_of Tryz.func143 (by kernel_rfl) rfl)
    (fun x _ W hW => atp_any W w.heap.size x asid page (hk.past hW))
  have c1 := T0.hdr.cell (k := 1) rfl
  have lt := T.hdr.lt
  have c1' := T.hdr.cell (k := 1) rfl
  obtain ⟨res, hres⟩ : ∃ res, fidx (ofKey asid page) l = res := ⟨_, rfl⟩
  rw [hres] at hcon ⊢
  have HC := Lib.hid hcon
  have HW := Lib.hid hw0
  clear hcon hw0 hk T0 T hres c1
  go_enter Tryz.func108, Tryz.ntmps108
  go_wp2_with (go_at_call 142; rw [HW.out]; (with_reducible refine HC.out.mono ?_); rintro e w' ⟨rfl, hB⟩)
  go_ret
  exact ⟨rfl, b0.trans (hB.mono b0.size)⟩

/-- what is known of a space and a page -/
def tget (l : List Hit) (asid page : Int) : Option Hit := l.find? (ofKey asid page)
def tdrop (l : List Hit) (asid page : Int) : List Hit := l.eraseP (ofKey asid page)
def tput (most : Nat) (l : List Hit) (h : Hit) : List Hit := (if (tdrop l h.asid h.page).length = most then (tdrop l h.asid h.page).drop 1 else tdrop l h.asid h.page) ++ [h]

set_option maxRecDepth 100000 in
set_option maxHeartbeats 1000000 in
theorem tlbGet_any (w : World) (tp most : Nat) (v : Value) (l : List Hit) (asid page : Int) (T : TS w tp most v l) (hsm : l.length ≤ 1000000) (o : Option Hit) (ho : tget l asid page = o) :
    Calls Tryz.prog 71 #[.pointer (some ⟨tp, 0, none⟩), .int .i64 asid, .int .i64 page] w
      fun e w' => e = .returned (.tuple #[.agg #[.int .i64 (o.getD hit0).asid, .int .i64 (o.getD hit0).page, .int .i64 (o.getD hit0).frame, .bool (o.getD hit0).r.w, .bool (o.getD hit0).r.u, .bool (o.getD hit0).r.x, .bool (o.getD hit0).dirty], .bool o.isSome]) ∧ Below w.heap.size w w' := by
  have b0 := bal w (.cells #[.int .i64 0, .int .i64 0, .int .i64 0, .bool false, .bool false, .bool false, .bool false] 49)
  have hz := Blk.new w 49 [.int .i64 0, .int .i64 0, .int .i64 0, .bool false, .bool false, .bool false, .bool false]
  obtain ⟨w0, hw0⟩ : ∃ w0, w.alloc (.cells #[.int .i64 0, .int .i64 0, .int .i64 0, .bool false, .bool false, .bool false, .bool false] 49) = w0 := ⟨_, rfl⟩
  rw [show (w.alloc (.cells [Value.int .i64 0, .int .i64 0, .int .i64 0, .bool false, .bool false, .bool false, .bool false].toArray 49)) = w0 from hw0] at hz
  rw [hw0] at b0
  have T0 := T.past b0
  have hat := at_any w0 tp most v l asid page T0 hsm
  have HT := Lib.hid T0
  have HZ := Lib.hid hz
  have HW := Lib.hid hw0
  have HB := Lib.hid b0
  rcases fidx_forms (ofKey asid page) l with ⟨_, hi, hf, _⟩ | ⟨k, hk, hi, hf, _, _⟩
  · obtain rfl : o = none := by rw [← ho]; exact hf
    rw [hi] at hat
    have HA := Lib.hid hat
    clear hat hi hf ho T0 hz hw0 b0 T
    dsimp only [Option.getD_none, Option.isSome_none, hit0]
    go_enter Tryz.func71, Tryz.ntmps71
    go_wp2_with (go_at_call 108; rw [HW.out]; (with_reducible refine HA.out.mono ?_); rintro e W1 ⟨rfl, b1⟩; have Z1 := HZ.out.past b1; have z0 := Z1.cell (k := 0) rfl; have z1 := Z1.cell (k := 1) rfl; have z2 := Z1.cell (k := 2) rfl; have z3 := Z1.cell (k := 3) rfl; have z4 := Z1.cell (k := 4) rfl; have z5 := Z1.cell (k := 5) rfl; have z6 := Z1.cell (k := 6) rfl; have zf := fun j => Z1.free j)
    obtain ⟨R, BB⟩ := hit_set7 (.int .i64 0) (.int .i64 0) (.int .i64 0) (.bool false) (.bool false) (.bool false) (.bool false) Z1 (HB.out.trans (b1.mono HB.out.size)) (Nat.le_refl _)
    have r0 := R.cell (k := 0) rfl
    have r1 := R.cell (k := 1) rfl
    have r2 := R.cell (k := 2) rfl
    have r3 := R.cell (k := 3) rfl
    have r4 := R.cell (k := 4) rfl
    have r5 := R.cell (k := 5) rfl
    have r6 := R.cell (k := 6) rfl
    refine bodyPost_ret (v := .tuple #[.agg #[.int .i64 0, .int .i64 0, .int .i64 0, .bool false, .bool false, .bool false, .bool false], .bool false]) ?_ rfl ⟨rfl, BB⟩
    clear Z1 R BB
    simp [results, Tryz.results71, go_sem, r0, r1, r2, r3, r4, r5, r6]
  · obtain rfl : o = some l[k] := by rw [← ho]; exact hf
    rw [hi] at hat
    have HA := Lib.hid hat
    obtain ⟨⟨xa, xp, xf, ⟨xw, xu, xx⟩, xd⟩, hx⟩ : ∃ x, l[k] = x := ⟨_, rfl⟩
    rw [hx]
    have hrow : ∀ W, Below w0.heap.size w0 W → ∃ g cap, v = .slice (some ⟨g, 0, none⟩) l.length cap ∧ W.cell? ⟨g, k * 7, none⟩ = some (.int .i64 xa) ∧ W.cell? ⟨g, k * 7 + 1, none⟩ = some (.int .i64 xp) ∧ W.cell? ⟨g, k * 7 + 2, none⟩ = some (.int .i64 xf) ∧ W.cell? ⟨g, k * 7 + 3, none⟩ = some (.bool xw) ∧
        W.cell? ⟨g, k * 7 + 4, none⟩ = some (.bool xu) ∧ W.cell? ⟨g, k * 7 + 5, none⟩ = some (.bool xx) ∧ W.cell? ⟨g, k * 7 + 6, none⟩ = some (.bool xd) := fun W hW => by
      rcases (T0.row.past hW).view with ⟨_, h⟩ | ⟨g, cap, rest, hv, hb, _⟩
      · rw [h] at hk; simp at hk
      · have hcl : ∀ j u, j < 7 → (Hit.cells ⟨xa, xp, xf, ⟨xw, xu, xx⟩, xd⟩)[j]? = some u → W.cell? ⟨g, k * 7 + j, none⟩ = some u := fun j u hj hu => hb.cell (by
          rw [List.getElem?_append_left (by rw [hitsC_len]; omega), hitsC_get l k j hk hj, getD_at _ hk, hx]; exact hu)
        exact ⟨g, cap, hv, hcl 0 _ (by omega) rfl, hcl 1 _ (by omega) rfl, hcl 2 _ (by omega) rfl, hcl 3 _ (by omega) rfl, hcl 4 _ (by omega) rfl, hcl 5 _ (by omega) rfl, hcl 6 _ (by omega) rfl⟩
    obtain ⟨n, hn⟩ : ∃ n, l.length = n := ⟨_, rfl⟩
    rw [hn] at hrow hk hsm
    have HRow := Lib.hid hrow
    clear hat hi hf ho T0 hz hw0 b0 T hrow hn hx
    dsimp only [Option.getD_some, Option.isSome_some]
    go_enter Tryz.func71, Tryz.ntmps71
    go_wp2_with (go_at_call 108; rw [HW.out]; (with_reducible refine HA.out.mono ?_); rintro e W1 ⟨rfl, b1⟩; obtain ⟨g, cap, rfl, q0, q1, q2, q3, q4, q5, q6⟩ := HRow.out W1 b1; have t1 := (HT.out.past b1).hdr.cell (k := 1) rfl; have Z1 := HZ.out.past b1; have z0 := Z1.cell (k := 0) rfl; have z1 := Z1.cell (k := 1) rfl; have z2 := Z1.cell (k := 2) rfl; have z3 := Z1.cell (k := 3) rfl; have z4 := Z1.cell (k := 4) rfl; have z5 := Z1.cell (k := 5) rfl; have z6 := Z1.cell (k := 6) rfl; have zf := fun j => Z1.free j)
    obtain ⟨R, BB⟩ := hit_set7 (.int .i64 xa) (.int .i64 xp) (.int .i64 xf) (.bool xw) (.bool xu) (.bool xx) (.bool xd) Z1 (HB.out.trans (b1.mono HB.out.size)) (Nat.le_refl _)
    have r0 := R.cell (k := 0) rfl
    have r1 := R.cell (k := 1) rfl
    have r2 := R.cell (k := 2) rfl
    have r3 := R.cell (k := 3) rfl
    have r4 := R.cell (k := 4) rfl
    have r5 := R.cell (k := 5) rfl
    have r6 := R.cell (k := 6) rfl
    refine bodyPost_ret (v := .tuple #[.agg #[.int .i64 xa, .int .i64 xp, .int .i64 xf, .bool xw, .bool xu, .bool xx, .bool xd], .bool true]) ?_ rfl ⟨rfl, BB⟩
    clear Z1 R BB q0 q1 q2 q3 q4 q5 q6 z0 z1 z2 z3 z4 z5 z6 zf t1
    simp [results, Tryz.results71, go_sem, r0, r1, r2, r3, r4, r5, r6]

theorem TS.store {w : World} {tp most : Nat} {v v' : Value} {l : List Hit} (hb : Blk w tp 164 [.int .i64 (most : Int), v]) (hr : HRow w v' l) : TS (w.setCell ⟨tp, 1, none⟩ v') tp most v' l :=
  ⟨hb.set 1 v', hr.other hb (by decide) 1 v'⟩
set_option maxRecDepth 100000 in
set_option maxHeartbeats 1000000 in
theorem tlbDrop_any (w : World) (tp most : Nat) (v : Value) (l : List Hit) (asid page : Int) (T : TS w tp most v l) (hsm : l.length ≤ 1000000) :
    Calls Tryz.prog 60 #[.pointer (some ⟨tp, 0, none⟩), .int .i64 asid, .int .i64 page] w
      fun e w' => e = .returned (.bool (tget l asid page).isSome) ∧ ∃ v', TS w' tp most v' (tdrop l asid page) ∧ v'.ownBlock = v.ownBlock ∧ Kept w.heap.size (TSet tp v) w w' := by
  have hat := at_any w tp most v l asid page T hsm
  rcases fidx_forms (ofKey asid page) l with ⟨_, hi, hf, he⟩ | ⟨k, hk, hi, hf, he, _⟩
  · have ho : (tget l asid page).isSome = false := by unfold tget; rw [hf]; rfl
    have hd : tdrop l asid page = l := he
    rw [ho, hd]
    rw [hi] at hat
    have HA := Lib.hid hat
    have HT := Lib.hid T
    clear hat T hi hf he ho hd
    go_enter Tryz.func60, Tryz.ntmps60
    go_wp2_with (go_at_call 108; (with_reducible refine HA.out.mono ?_); rintro e W1 ⟨rfl, b1⟩)
    go_ret
    exact ⟨rfl, v, HT.out.past b1, rfl, Kept.of_below b1⟩
  · have ho : (tget l asid page).isSome = true := by unfold tget; rw [hf]; rfl
    have hd : tdrop l asid page = l.eraseIdx k := he
    rw [ho, hd]
    rw [hi] at hat
    rcases T.row.view with ⟨_, h⟩ | ⟨g, cap, rest, rfl, hb, hc1, hc2, hc3⟩
    · rw [h] at hk; simp at hk
    have hdel : ∀ W, Below w.heap.size w W → Calls Tryz.prog 109 #[.slice (some ⟨g, 0, none⟩) l.length cap, .int .i64 (k : Int), .int .i64 ((k : Int) + 1)] W
        fun e w' => e = .returned (.slice (some ⟨g, 0, none⟩) (l.eraseIdx k).length cap) ∧ HRow w' (.slice (some ⟨g, 0, none⟩) (l.eraseIdx k).length cap) (l.eraseIdx k) ∧ Kept W.heap.size (fun k => k = g) W w' :=
      fun W hW => hdel_any W g cap k (k + 1) rfl l rest (hb.past hW) hc1 hc2 hc3 hk
    obtain ⟨n, hn⟩ : ∃ n, l.length = n := ⟨_, rfl⟩
    have hgt : g ≠ tp := hb.ne T.hdr (by decide)
    rw [hn] at hdel hk hsm
    have HA := Lib.hid hat
    have HT := Lib.hid T
    have HD := Lib.hid hdel
    rw [hn] at HT
    have hs1 : IntKind.i64.wrap ((k : Int) + 1) = (k : Int) + 1 := by rw [IntKind.wrap_i64]; omega
    clear hat T hi hf he ho hd hb hc1 hc2 hc3 hdel hn
    go_enter Tryz.func60, Tryz.ntmps60
    go_wp2_with (first
      | (go_at_call 108; (with_reducible refine HA.out.mono ?_); rintro e W1 ⟨rfl, b1⟩; have T1 := HT.out.past b1; have t1 := T1.hdr.cell (k := 1) rfl)
      | (go_at_call 109; (with_reducible refine (HD.out _ b1).mono ?_); rintro e W2 ⟨rfl, R2, K2⟩; have H2 := T1.hdr.kept K2 T1.hdr.lt (fun e => hgt e.symm); have t2 := H2.cell (k := 1) rfl; have tf := fun j => H2.free j; have HR2 := Lib.hid R2; have HK2 := Lib.hid K2; clear R2 K2))
    go_ret
    refine ⟨rfl, _, TS.store H2 HR2.out, rfl, ?_⟩
    have hs := b1.size
    exact ((Kept.of_below b1).trans (HK2.out.mono hs (fun q _ e => .inr (by subst e; rfl)))).setCell (p := ⟨tp, 1, none⟩) (.inl (.inl rfl)) _

theorem tlbAll_any (w : World) (tp most : Nat) (v : Value) (l : List Hit) (T : TS w tp most v l) :
    Calls Tryz.prog 79 #[.pointer (some ⟨tp, 0, none⟩)] w
      fun e w' => (∃ r, e = .returned r) ∧ TS w' tp most (.slice none 0 0) [] ∧ Kept w.heap.size (TSet tp v) w w' := by
  have t1 := T.hdr.cell (k := 1) rfl
  have tf := fun j => T.hdr.free j
  have HT := Lib.hid T
  clear T
  go_enter Tryz.func79, Tryz.ntmps79
  go_wp2
  refine bodyPost_end (results_none rfl _ _ _) rfl ⟨⟨_, rfl⟩, TS.store HT.out.hdr (HRow.nil _), (Kept.refl _ _ _).setCell (p := ⟨tp, 1, none⟩) (.inl (.inl rfl)) _⟩
theorem tlbList_any (w : World) (tp most : Nat) (v : Value) (l : List Hit) (T : TS w tp most v l) (hsm : l.length ≤ 1000000) :
    Calls Tryz.prog 94 #[.pointer (some ⟨tp, 0, none⟩)] w fun e w' => (∃ v', e = .returned v' ∧ HRow w' v' l) ∧ Below w.heap.size w w' := by
  have hc := hclone_any w v l T.row hsm
  have t1 := T.hdr.cell (k := 1) rfl
  have HC := Lib.hid hc
  clear T hc
  go_enter Tryz.func94, Tryz.ntmps94
  go_wp2_with (go_at_call 136; (with_reducible refine HC.out.mono ?_); rintro e W1 ⟨⟨v', rfl, h1⟩, b1⟩)
  go_ret
  exact ⟨⟨v', rfl, h1⟩, b1⟩
end Go.Proofs.YtgaififhhffpfaaGreatDoor
