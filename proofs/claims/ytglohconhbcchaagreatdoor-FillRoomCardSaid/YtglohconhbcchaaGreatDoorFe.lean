/- Layer 17: a path's entries as a row in memory; low. -/
import Derived.Test.YtglohconhbcchaaGreatDoorFj
namespace Go.Proofs.YtglohconhbcchaaGreatDoor
open Go.RowKit Go.Shelf Go.Maps

set_option linter.unusedSimpArgs false
set_option linter.unusedVariables false

theorem info_pte : (Tryz.prog.info? 134).map (fun i => (i.zero, i.size, i.bytes)) = some (some (.agg #[.bool false, .bool false, .bool false, .bool false, .bool false, .bool false, .bool false, .bool false, .int .i64 0]), 9, 16) := by kernel_rfl
def peC (e : Pte) : List Value := [.bool e.p, .bool e.w, .bool e.u, .bool e.a, .bool e.d, .bool e.ps, .bool e.nx, .bool e.bad, .int .i64 (e.f : Int)]
theorem peC_len (l : List Pte) : (l.flatMap peC).length = l.length * 9 := by
  induction l with
  | nil => rfl
  | cons a r ih => rw [List.flatMap_cons, List.length_append, ih, List.length_cons, Nat.add_mul]; simp [peC]; omega
theorem peC_get (l : List Pte) (k j : Nat) (hk : k < l.length) (hj : j < 9) : (l.flatMap peC)[k * 9 + j]? = (peC (l.getD k pte0))[j]? := by
  induction l generalizing k with
  | nil => simp at hk
  | cons a r ih =>
    rw [List.flatMap_cons]
    cases k with
    | zero =>
      rw [Nat.zero_mul, Nat.zero_add, List.getElem?_append_left (by simp [peC]; omega)]
      rfl
    | succ k =>
      rw [List.getElem?_append_right (by simp [peC]; omega)]
      have e : (k + 1) * 9 + j - (peC a).length = k * 9 + j := by simp [peC]; omega
      rw [e, ih k (by simpa using hk)]
      simp [List.getD]
theorem pe_cells {w : World} {b : Nat} {l : List Pte} {rest : List Value} (h : Blk w b 134 (l.flatMap peC ++ rest)) (k : Nat) (hk : k < l.length) {e : Pte} (he : l.getD k pte0 = e) :
    w.cell? ⟨b, k * 9, none⟩ = some (.bool e.p) ∧ w.cell? ⟨b, k * 9 + 1, none⟩ = some (.bool e.w) ∧ w.cell? ⟨b, k * 9 + 2, none⟩ = some (.bool e.u) ∧ w.cell? ⟨b, k * 9 + 3, none⟩ = some (.bool e.a) ∧ w.cell? ⟨b, k * 9 + 4, none⟩ = some (.bool e.d) ∧
    w.cell? ⟨b, k * 9 + 5, none⟩ = some (.bool e.ps) ∧ w.cell? ⟨b, k * 9 + 6, none⟩ = some (.bool e.nx) ∧ w.cell? ⟨b, k * 9 + 7, none⟩ = some (.bool e.bad) ∧ w.cell? ⟨b, k * 9 + 8, none⟩ = some (.int .i64 (e.f : Int)) := by
  have key : ∀ j, j < 9 → ∀ v, (peC e)[j]? = some v → w.cell? ⟨b, k * 9 + j, none⟩ = some v := fun j hj v hv => by
    refine h.cell ?_
    have hl := peC_len l
    rw [List.getElem?_append_left (by omega), peC_get l k j hk hj, he]; exact hv
  exact ⟨key 0 (by decide) _ rfl, key 1 (by decide) _ rfl, key 2 (by decide) _ rfl, key 3 (by decide) _ rfl, key 4 (by decide) _ rfl, key 5 (by decide) _ rfl, key 6 (by decide) _ rfl, key 7 (by decide) _ rfl, key 8 (by decide) _ rfl⟩
theorem pe_row {W : World} {base k : Nat} {v : Value} {l : List Pte} (h : W.ownsRow base 134 9 v k (l.flatMap peC)) (hk : l.length = k) (h0 : 0 < k) : ∃ g cp rest, v = .slice (some ⟨g, 0, none⟩) k cp ∧ Blk W g 134 (l.flatMap peC ++ rest) ∧ base ≤ g := by
  rcases h.2 with ⟨_, h⟩ | ⟨g, cap, cur, rfl, h1, h2, h3, h4, h5, h6⟩
  · omega
  · refine ⟨g, cap, cur.toList.drop (k * 9), rfl, ?_, h1⟩
    unfold Blk
    rw [h2, ← h6, List.take_append_drop]
theorem below_set1 {B : Nat} {a w : World} (h : Below B a w) {p : Addr} (hp : B ≤ p.block) (v : Value) : Below B a (w.setCell p v) := ⟨h.os, h.tape, h.output, by simpa [World.setCell] using h.size, fun k hk => (Below.heap_setCell _ _ _ _ (by omega)).trans (h.block k hk)⟩
theorem below_set2 {B : Nat} {a w : World} (h : Below B a w) {p : Addr} (hp : B ≤ p.block) (v u : Value) : Below B a ((w.setCell p v).setCell p u) := below_set1 (below_set1 h hp v) hp u
set_option maxRecDepth 100000 in
set_option maxHeartbeats 2000000 in
theorem low_any (w : World) (b n c : Nat) (es : List Pte) (rest : List Value) (hb : Blk w b 134 (es.flatMap peC ++ rest)) (hn : es.length = n) (h2 : 2 ≤ n) (large dirty : Bool) (h3 : large = false → 3 ≤ n) :
    Calls Tryz.prog 75 #[.slice (some ⟨b, 0, none⟩) n c, .bool large, .bool dirty] w
      fun e w' => e = .returned (.tuple #[.agg #[.int .i64 (jlow es large dirty).1.g, .int .i64 (jlow es large dirty).1.lv, .int .i64 (jlow es large dirty).1.ro], .agg #[.bool (jlow es large dirty).2.w, .bool (jlow es large dirty).2.u, .bool (jlow es large dirty).2.x]]) ∧ Below w.heap.size w w' := by
  have b0 := bal w (.cells #[.int .i64 0, .int .i64 0, .int .i64 0] 54)
  have k0 := Blk.new w 54 [.int .i64 0, .int .i64 0, .int .i64 0]
  obtain ⟨w1, hw1⟩ : ∃ W', w.alloc (.cells #[.int .i64 0, .int .i64 0, .int .i64 0] 54) = W' := ⟨_, rfl⟩
  rw [show (w.alloc (.cells ([.int .i64 0, .int .i64 0, .int .i64 0] : List Value).toArray 54)) = w1 from hw1] at k0
  have s1 : w1.heap.size = w.heap.size + 1 := by rw [← hw1]; simp
  rw [hw1] at b0
  have b1 := bal w1 (.cells #[.bool false, .bool false, .bool false] 48)
  have k1 := Blk.new w1 48 [.bool false, .bool false, .bool false]
  obtain ⟨w2, hw2⟩ : ∃ W', w1.alloc (.cells #[.bool false, .bool false, .bool false] 48) = W' := ⟨_, rfl⟩
  rw [show (w1.alloc (.cells ([.bool false, .bool false, .bool false] : List Value).toArray 48)) = w2 from hw2, s1] at k1
  have s2 : w2.heap.size = w.heap.size + 2 := by rw [← hw2]; simp; omega
  rw [hw2] at b1
  obtain ⟨f1, hf1⟩ : ∃ x, ((es.getD 1 pte0).f : Int) = x := ⟨_, rfl⟩
  have b2 := bal w2 (.cells #[.int .i64 f1, .int .i64 1, .int .i64 0] 54)
  have k2 := Blk.new w2 54 [.int .i64 f1, .int .i64 1, .int .i64 0]
  obtain ⟨w3, hw3⟩ : ∃ W', w2.alloc (.cells #[.int .i64 f1, .int .i64 1, .int .i64 0] 54) = W' := ⟨_, rfl⟩
  rw [show (w2.alloc (.cells ([.int .i64 f1, .int .i64 1, .int .i64 0] : List Value).toArray 54)) = w3 from hw3, s2] at k2
  rw [hw3] at b2
  obtain ⟨zb, hzb⟩ : ∃ x, w.heap.size = x := ⟨_, rfl⟩
  have BB : Below w.heap.size w w3 := (b0.trans (b1.mono b0.size)).trans (b2.mono (b0.trans (b1.mono b0.size)).size)
  have K0 := (k0.past b1).past b2
  have K1 := k1.past b2
  have hE1 := pe_cells (hb.past b0 |>.past b1) 1 (by omega) rfl
  have hE := fun W (hW : Below w3.heap.size w3 W) (e : Pte) (he : es.getD 2 pte0 = e) (h : 2 < es.length) => pe_cells (((hb.past b0 |>.past b1).past b2).past hW) 2 h he
  have lb := hb.lt
  have lb1 : b < w2.heap.size := by omega
  have lb2 : b < w3.heap.size := Nat.lt_of_lt_of_le lb1 b2.size
  obtain ⟨e1, _, _, _, _, _, _, _, e9⟩ := hE1
  rw [hf1] at e9
  have e9 : w2.cell? ⟨b, 17, none⟩ = some (.int .i64 f1) := e9
  rw [hzb] at K0 K1 k2
  have HK0 := Lib.hid K0
  have HK1 := Lib.hid K1
  have HK2 := Lib.hid k2
  have HBB := Lib.hid BB
  have HE := Lib.hid hE
  have HW1 := Lib.hid hw1
  have HW2 := Lib.hid hw2
  have HW3 := Lib.hid hw3
  have nb0 : b ≠ zb := by omega
  have nb1 : b ≠ zb + 1 := by omega
  have nb0' : zb ≠ b := by omega
  have nb1' : zb + 1 ≠ b := by omega
  rw [hzb] at s2
  have HS2 := Lib.hid s2
  have HZB := Lib.hid hzb
  have HN := Lib.hid hn
  have HF1 := Lib.hid hf1
  have hjl : jlow es large dirty = if large then (⟨f1, 1, if dirty then 2 else 1⟩, Rt.all) else (⟨f1, 1, 0⟩, eright (es.getD 2 pte0)) := by unfold jlow; rw [hf1]
  rw [hjl]
  have le0 : w.heap.size ≤ zb := Nat.le_of_eq hzb
  clear K0 K1 k0 k1 k2 BB hE hb b0 b1 b2 hw1 hw2 hw3 hzb hn hf1 s1 s2 e1 lb hjl
  have r0 := HK0.out.cell (k := 0) rfl
  have r1 := HK0.out.cell (k := 1) rfl
  have r2 := HK0.out.cell (k := 2) rfl
  have rf := fun k => HK0.out.free k
  have rl := HK0.out.lt
  have q0 := HK1.out.cell (k := 0) rfl
  have q1 := HK1.out.cell (k := 1) rfl
  have q2 := HK1.out.cell (k := 2) rfl
  have qf := fun k => HK1.out.free k
  have ql := HK1.out.lt
  have z0 := HK2.out.cell (k := 0) rfl
  have z1 := HK2.out.cell (k := 1) rfl
  have z2 := HK2.out.cell (k := 2) rfl
  have zf := fun k => HK2.out.free k
  have zl := HK2.out.lt
  cases large with
  | false =>
    have h3' := h3 rfl
    obtain ⟨⟨ep, ew, eu, ea, ed, es', enx, eb, ef⟩, he⟩ : ∃ e, es.getD 2 pte0 = e := ⟨_, rfl⟩
    have hE9 : ∀ W, Below w3.heap.size w3 W → (W.cell? ⟨b, 18, none⟩ = some (.bool ep) ∧ W.cell? ⟨b, 19, none⟩ = some (.bool ew) ∧ W.cell? ⟨b, 20, none⟩ = some (.bool eu) ∧ W.cell? ⟨b, 21, none⟩ = some (.bool ea) ∧ W.cell? ⟨b, 22, none⟩ = some (.bool ed) ∧ W.cell? ⟨b, 23, none⟩ = some (.bool es') ∧ W.cell? ⟨b, 24, none⟩ = some (.bool enx) ∧ W.cell? ⟨b, 25, none⟩ = some (.bool eb) ∧ W.cell? ⟨b, 26, none⟩ = some (.int .i64 (ef : Int))) := fun W hW => HE.out W hW _ he (by rw [HN.out]; omega)
    obtain ⟨c0, c1, c2, c3, c4, c5, c6, c7, c8⟩ := hE9 w3 (Below.refl _ _)
    have hi2 : (2 : Int) < (n : Int) := by omega
    have HE9 := Lib.hid hE9
    rw [he]
    have hof := fun W => of_any W ⟨ep, ew, eu, ea, ed, es', enx, eb, ef⟩
    dsimp only [Pte.val, rtOf, Rt.val] at hof
    have HOf := Lib.hid hof
    clear hof he hE9
    simp only [Bool.false_eq_true, if_false]
    dsimp only [eright]
    go_enter Tryz.func75, Tryz.ntmps75
    go_upto_region 1 with (fail)
    rw [HW1.out, HW2.out, HZB.out]
    go_upto_region 4 with (fail)
    rw [HW3.out, HS2.out]
    go_region_held3 (fun w' => w'.cell? ⟨zb + 2, 0, none⟩ = some (.int .i64 f1) ∧ w'.cell? ⟨zb + 2, 1, none⟩ = some (.int .i64 1) ∧ w'.cell? ⟨zb + 2, 2, none⟩ = some (.int .i64 0) ∧
      w'.cell? ⟨b, 18, none⟩ = some (.bool ep) ∧ w'.cell? ⟨b, 19, none⟩ = some (.bool ew) ∧ w'.cell? ⟨b, 20, none⟩ = some (.bool eu) ∧ w'.cell? ⟨b, 21, none⟩ = some (.bool ea) ∧ w'.cell? ⟨b, 22, none⟩ = some (.bool ed) ∧ w'.cell? ⟨b, 23, none⟩ = some (.bool es') ∧ w'.cell? ⟨b, 24, none⟩ = some (.bool enx) ∧ w'.cell? ⟨b, 25, none⟩ = some (.bool eb) ∧ w'.cell? ⟨b, 26, none⟩ = some (.int .i64 (ef : Int))) (go_keep) (first
      | (go_at_call 64; (with_reducible refine (HOf.out _).mono ?_); rintro e W4 ⟨rfl, b4⟩; have q4 := (Below.refl w3.heap.size w3).drew.trans b4; obtain ⟨d0, d1, d2, d3, d4, d5, d6, d7, d8⟩ := HE9.out W4 q4; have y := HK2.out.past q4; have y0 := y.cell (k := 0) rfl; have y1 := y.cell (k := 1) rfl; have y2 := y.cell (k := 2) rfl; have yl := y.lt; have x := HK0.out.past q4; have x0 := x.cell (k := 0) rfl; have x1 := x.cell (k := 1) rfl; have x2 := x.cell (k := 2) rfl; have xf := fun k => x.free k; have xl := x.lt; have v := HK1.out.past q4; have v0 := v.cell (k := 0) rfl; have v1 := v.cell (k := 1) rfl; have v2 := v.cell (k := 2) rfl; have vf := fun k => v.free k; have vl := v.lt; have ld := Nat.lt_of_lt_of_le lb2 q4.size))
    all_goals
      go_wp2_with fail
      obtain ⟨A0, B0⟩ := set3 (.int .i64 f1) (.int .i64 1) (.int .i64 0) x (HBB.out.trans (q4.mono HBB.out.size)) le0
      have v' := ((v.other (a := ⟨zb, 0, none⟩) (show zb + 1 ≠ zb by omega) (.int .i64 f1)).other (a := ⟨zb, 1, none⟩) (show zb + 1 ≠ zb by omega) (.int .i64 1)).other (a := ⟨zb, 2, none⟩) (show zb + 1 ≠ zb by omega) (.int .i64 0)
      obtain ⟨A1, B1⟩ := set3 (.bool ew) (.bool eu) (.bool (!enx)) v' B0 (Nat.le_succ_of_le le0)
      have A0' := ((A0.other (a := ⟨zb + 1, 0, none⟩) (show zb ≠ zb + 1 by omega) (.bool ew)).other (a := ⟨zb + 1, 1, none⟩) (show zb ≠ zb + 1 by omega) (.bool eu)).other (a := ⟨zb + 1, 2, none⟩) (show zb ≠ zb + 1 by omega) (.bool (!enx))
      obtain ⟨WF, hWF⟩ : ∃ W', (((((W4.setCell ⟨zb, 0, none⟩ (.int .i64 f1)).setCell ⟨zb, 1, none⟩ (.int .i64 1)).setCell ⟨zb, 2, none⟩ (.int .i64 0)).setCell ⟨zb + 1, 0, none⟩ (.bool ew)).setCell ⟨zb + 1, 1, none⟩ (.bool eu)).setCell ⟨zb + 1, 2, none⟩ (.bool (!enx)) = W' := ⟨_, rfl⟩
      rw [hWF] at A1 B1 A0'
      rw [hWF]
      have g0 := A0'.cell (k := 0) rfl
      have g1 := A0'.cell (k := 1) rfl
      have g2 := A0'.cell (k := 2) rfl
      have g3 := A1.cell (k := 0) rfl
      have g4 := A1.cell (k := 1) rfl
      have g5 := A1.cell (k := 2) rfl
      refine bodyPost_ret (v := .tuple #[.agg #[.int .i64 f1, .int .i64 1, .int .i64 0], .agg #[.bool ew, .bool eu, .bool (!enx)]]) ?_ rfl ⟨rfl, B1⟩
      clear A0 B0 v' A1 B1 A0' hWF
      simp [results, Tryz.results75, go_sem, g0, g1, g2, g3, g4, g5]
  | true =>
    simp only [if_true]
    dsimp only [Rt.all]
    cases dirty with
    | true =>
      simp only [if_true]
      go_enter Tryz.func75, Tryz.ntmps75
      go_upto_region 1 with (fail)
      rw [HW1.out, HW2.out, HZB.out]
      go_upto_region 5 with (fail)
      rw [HW3.out, HS2.out]
      go_upto_region 7 with (fail)
      have y := (HK2.out.set 2 (.int .i64 1)).set 2 (.int .i64 2)
      have x := (((HK0.out.other (a := ⟨zb + 2, 2, none⟩) (show zb ≠ zb + 2 by omega) (.int .i64 1)).other (a := ⟨zb + 2, 2, none⟩) (show zb ≠ zb + 2 by omega) (.int .i64 2)))
      have v := (((HK1.out.other (a := ⟨zb + 2, 2, none⟩) (show zb + 1 ≠ zb + 2 by omega) (.int .i64 1)).other (a := ⟨zb + 2, 2, none⟩) (show zb + 1 ≠ zb + 2 by omega) (.int .i64 2)))
      have q := below_set2 HBB.out (p := ⟨zb + 2, 2, none⟩) (show w.heap.size ≤ zb + 2 by omega) (.int .i64 1) (.int .i64 2)
      obtain ⟨W5, hW5⟩ : ∃ W', (w3.setCell ⟨zb + 2, 2, none⟩ (.int .i64 1)).setCell ⟨zb + 2, 2, none⟩ (.int .i64 2) = W' := ⟨_, rfl⟩
      rw [hW5] at x y v q
      rw [hW5]
      have HY := Lib.hid y
      have HX := Lib.hid x
      have HV := Lib.hid v
      have HQ := Lib.hid q
      clear hW5 x v q r0 r1 r2 rf rl q0 q1 q2 qf ql z0 z1 z2 zf zl y
      have y0 := HY.out.cell (k := 0) rfl
      have y1 := HY.out.cell (k := 1) rfl
      have y2 := HY.out.cell (k := 2) rfl
      have yl := HY.out.lt
      go_region_held3 (fun w' => w'.cell? ⟨zb + 2, 0, none⟩ = some (.int .i64 f1) ∧ w'.cell? ⟨zb + 2, 1, none⟩ = some (.int .i64 1) ∧ w'.cell? ⟨zb + 2, 2, none⟩ = some (.int .i64 2)) (go_keep) (first
        | (go_at_call 59; (with_reducible refine (all_any _).mono ?_); rintro e W6 ⟨rfl, b6⟩; have q6 := (Below.refl W5.heap.size W5).drew.trans b6; have y := HY.out.past q6; have w0 := y.cell (k := 0) rfl; have w1' := y.cell (k := 1) rfl; have w2' := y.cell (k := 2) rfl; have wl := y.lt; have x := HX.out.past q6; have x0 := x.cell (k := 0) rfl; have x1 := x.cell (k := 1) rfl; have x2 := x.cell (k := 2) rfl; have xf := fun k => x.free k; have xl := x.lt; have v := HV.out.past q6; have v0 := v.cell (k := 0) rfl; have v1 := v.cell (k := 1) rfl; have v2 := v.cell (k := 2) rfl; have vf := fun k => v.free k; have vl := v.lt))
      all_goals
        go_wp2_with fail
        obtain ⟨A0, B0⟩ := set3 (.int .i64 f1) (.int .i64 1) (.int .i64 2) x (HQ.out.trans (q6.mono HQ.out.size)) le0
        have v' := ((v.other (a := ⟨zb, 0, none⟩) (show zb + 1 ≠ zb by omega) (.int .i64 f1)).other (a := ⟨zb, 1, none⟩) (show zb + 1 ≠ zb by omega) (.int .i64 1)).other (a := ⟨zb, 2, none⟩) (show zb + 1 ≠ zb by omega) (.int .i64 2)
        obtain ⟨A1, B1⟩ := set3 (.bool true) (.bool true) (.bool true) v' B0 (Nat.le_succ_of_le le0)
        have A0' := ((A0.other (a := ⟨zb + 1, 0, none⟩) (show zb ≠ zb + 1 by omega) (.bool true)).other (a := ⟨zb + 1, 1, none⟩) (show zb ≠ zb + 1 by omega) (.bool true)).other (a := ⟨zb + 1, 2, none⟩) (show zb ≠ zb + 1 by omega) (.bool true)
        obtain ⟨WF, hWF⟩ : ∃ W', (((((W6.setCell ⟨zb, 0, none⟩ (.int .i64 f1)).setCell ⟨zb, 1, none⟩ (.int .i64 1)).setCell ⟨zb, 2, none⟩ (.int .i64 2)).setCell ⟨zb + 1, 0, none⟩ (.bool true)).setCell ⟨zb + 1, 1, none⟩ (.bool true)).setCell ⟨zb + 1, 2, none⟩ (.bool true) = W' := ⟨_, rfl⟩
        rw [hWF] at A1 B1 A0'
        rw [hWF]
        have g0 := A0'.cell (k := 0) rfl
        have g1 := A0'.cell (k := 1) rfl
        have g2 := A0'.cell (k := 2) rfl
        have g3 := A1.cell (k := 0) rfl
        have g4 := A1.cell (k := 1) rfl
        have g5 := A1.cell (k := 2) rfl
        refine bodyPost_ret (v := .tuple #[.agg #[.int .i64 f1, .int .i64 1, .int .i64 2], .agg #[.bool true, .bool true, .bool true]]) ?_ rfl ⟨rfl, B1⟩
        clear A0 B0 v' A1 B1 A0' hWF
        simp [results, Tryz.results75, go_sem, g0, g1, g2, g3, g4, g5]
    | false =>
      simp only [Bool.false_eq_true, if_false]
      go_enter Tryz.func75, Tryz.ntmps75
      go_upto_region 1 with (fail)
      rw [HW1.out, HW2.out, HZB.out]
      go_upto_region 6 with (fail)
      rw [HW3.out, HS2.out]
      go_upto_region 7 with (fail)
      have y := HK2.out.set 2 (.int .i64 1)
      have x := HK0.out.other (a := ⟨zb + 2, 2, none⟩) (show zb ≠ zb + 2 by omega) (.int .i64 1)
      have v := HK1.out.other (a := ⟨zb + 2, 2, none⟩) (show zb + 1 ≠ zb + 2 by omega) (.int .i64 1)
      have q := below_set1 HBB.out (p := ⟨zb + 2, 2, none⟩) (show w.heap.size ≤ zb + 2 by omega) (.int .i64 1)
      obtain ⟨W5, hW5⟩ : ∃ W', w3.setCell ⟨zb + 2, 2, none⟩ (.int .i64 1) = W' := ⟨_, rfl⟩
      rw [hW5] at x y v q
      rw [hW5]
      have HY := Lib.hid y
      have HX := Lib.hid x
      have HV := Lib.hid v
      have HQ := Lib.hid q
      clear hW5 x v q r0 r1 r2 rf rl q0 q1 q2 qf ql z0 z1 z2 zf zl y
      have y0 := HY.out.cell (k := 0) rfl
      have y1 := HY.out.cell (k := 1) rfl
      have y2 := HY.out.cell (k := 2) rfl
      have yl := HY.out.lt
      go_region_held3 (fun w' => w'.cell? ⟨zb + 2, 0, none⟩ = some (.int .i64 f1) ∧ w'.cell? ⟨zb + 2, 1, none⟩ = some (.int .i64 1) ∧ w'.cell? ⟨zb + 2, 2, none⟩ = some (.int .i64 1)) (go_keep) (first
        | (go_at_call 59; (with_reducible refine (all_any _).mono ?_); rintro e W6 ⟨rfl, b6⟩; have q6 := (Below.refl W5.heap.size W5).drew.trans b6; have y := HY.out.past q6; have w0 := y.cell (k := 0) rfl; have w1' := y.cell (k := 1) rfl; have w2' := y.cell (k := 2) rfl; have wl := y.lt; have x := HX.out.past q6; have x0 := x.cell (k := 0) rfl; have x1 := x.cell (k := 1) rfl; have x2 := x.cell (k := 2) rfl; have xf := fun k => x.free k; have xl := x.lt; have v := HV.out.past q6; have v0 := v.cell (k := 0) rfl; have v1 := v.cell (k := 1) rfl; have v2 := v.cell (k := 2) rfl; have vf := fun k => v.free k; have vl := v.lt))
      all_goals
        go_wp2_with fail
        obtain ⟨A0, B0⟩ := set3 (.int .i64 f1) (.int .i64 1) (.int .i64 1) x (HQ.out.trans (q6.mono HQ.out.size)) le0
        have v' := ((v.other (a := ⟨zb, 0, none⟩) (show zb + 1 ≠ zb by omega) (.int .i64 f1)).other (a := ⟨zb, 1, none⟩) (show zb + 1 ≠ zb by omega) (.int .i64 1)).other (a := ⟨zb, 2, none⟩) (show zb + 1 ≠ zb by omega) (.int .i64 1)
        obtain ⟨A1, B1⟩ := set3 (.bool true) (.bool true) (.bool true) v' B0 (Nat.le_succ_of_le le0)
        have A0' := ((A0.other (a := ⟨zb + 1, 0, none⟩) (show zb ≠ zb + 1 by omega) (.bool true)).other (a := ⟨zb + 1, 1, none⟩) (show zb ≠ zb + 1 by omega) (.bool true)).other (a := ⟨zb + 1, 2, none⟩) (show zb ≠ zb + 1 by omega) (.bool true)
        obtain ⟨WF, hWF⟩ : ∃ W', (((((W6.setCell ⟨zb, 0, none⟩ (.int .i64 f1)).setCell ⟨zb, 1, none⟩ (.int .i64 1)).setCell ⟨zb, 2, none⟩ (.int .i64 1)).setCell ⟨zb + 1, 0, none⟩ (.bool true)).setCell ⟨zb + 1, 1, none⟩ (.bool true)).setCell ⟨zb + 1, 2, none⟩ (.bool true) = W' := ⟨_, rfl⟩
        rw [hWF] at A1 B1 A0'
        rw [hWF]
        have g0 := A0'.cell (k := 0) rfl
        have g1 := A0'.cell (k := 1) rfl
        have g2 := A0'.cell (k := 2) rfl
        have g3 := A1.cell (k := 0) rfl
        have g4 := A1.cell (k := 1) rfl
        have g5 := A1.cell (k := 2) rfl
        refine bodyPost_ret (v := .tuple #[.agg #[.int .i64 f1, .int .i64 1, .int .i64 1], .agg #[.bool true, .bool true, .bool true]]) ?_ rfl ⟨rfl, B1⟩
        clear A0 B0 v' A1 B1 A0' hWF
        simp [results, Tryz.results75, go_sem, g0, g1, g2, g3, g4, g5]
end Go.Proofs.YtglohconhbcchaaGreatDoor
