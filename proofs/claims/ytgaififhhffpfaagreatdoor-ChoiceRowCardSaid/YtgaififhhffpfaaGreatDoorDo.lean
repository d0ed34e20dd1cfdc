/- The laws' do: an operation on a model. -/
import Derived.Test.YtgaififhhffpfaaGreatDoorMM
namespace Go.Proofs.YtgaififhhffpfaaGreatDoor
open Go.RowKit Go.Shelf

theorem Did.set4 {B : Nat} {F : List Nat} {w w0 W : World} {p tp gp fb c : Nat} {S : S10} {y0 y1 y2 y3 : Value} (h : Did B F w0 p tp gp fb S W) (b0 : Below w.heap.size w w0) (hB : B ≤ w.heap.size)
    (Z : Blk W c 34 [y0, y1, y2, y3]) (hc : w.heap.size ≤ c) (u0 u1 u2 u3 : Value) :
    Did B F w p tp gp fb S ((((W.setCell ⟨c, 0, none⟩ u0).setCell ⟨c, 1, none⟩ u1).setCell ⟨c, 2, none⟩ u2).setCell ⟨c, 3, none⟩ u3) ∧
      Blk ((((W.setCell ⟨c, 0, none⟩ u0).setCell ⟨c, 1, none⟩ u1).setCell ⟨c, 2, none⟩ u2).setCell ⟨c, 3, none⟩ u3) c 34 [u0, u1, u2, u3] := by
  obtain ⟨R, RK⟩ := Go.Proofs.YtgaififhhffpfaaGreatDoor.set4 u0 u1 u2 u3 Z
  have K := RK (fun k => k = c) rfl
  obtain ⟨M, hb, hs⟩ := h
  obtain ⟨v, M1, h1, h2⟩ := M.ex
  refine ⟨⟨⟨⟨v, M1.keptO K (fun b T xs s hb => by subst s; exact .inr (hb.inj Z).2) (fun b hb e => ?_), h1, h2⟩, M.small, fun k hk => Nat.lt_of_lt_of_le (M.low k hk) K.size⟩, ?_, ?_⟩, R⟩
  · subst e
    obtain ⟨cc, fr, hc'⟩ := ownRow_cells M1.t.row _ hb
    unfold Blk at Z; rw [Z] at hc'; simp at hc'
  · exact (b0.mono hB).trans (hb.trans ((K.mono (B' := B) (S' := fun k => k = c) (Nat.le_trans hB (Nat.le_trans b0.size hs.1)) (fun _ _ h => h)).below (fun k hk e => by omega)))
  · refine ⟨Nat.le_trans b0.size (Nat.le_trans hs.1 K.size), fun b T xs hb hT => ?_⟩
    have hb1 := hs.2 b T xs (hb.past b0) hT
    exact hb1.kept K hb1.lt (fun e => by have := hb.lt; omega)
set_option maxRecDepth 100000 in
set_option maxHeartbeats 8000000 in
theorem do_mm {B : Nat} {F : List Nat} {w : World} {p tp gp fb : Nat} {S : S10} (M : MM B F w p tp gp fb S) (hE : EC w) (h0 : 1 ≤ B) (hB : B ≤ w.heap.size) (o : Op10) (ho : o.ok) :
    Calls Tryz.prog 17 #[.pointer (some ⟨p, 0, none⟩), .agg o.cells.toArray] w fun e w' => e = .returned (doR S o).1.val ∧ Did B F w p tp gp fb (doR S o).2 w' := by
  obtain ⟨what, kind, user, a, x, g, i, page⟩ := o
  obtain ⟨ha, hx⟩ := ho
  dsimp only at ha hx
  obtain ⟨res, hres⟩ : ∃ r, doR S ⟨what, kind, user, a, x, g, i, page⟩ = r := ⟨_, rfl⟩
  rw [hres]
  simp only [Op10.cells]
  have ba := bal w (.cells #[.int .i64 what, .int .i64 kind, .bool user, .int .u64 (a : Int), .int .u64 (x : Int), .int .i64 g, .int .i64 i, .int .i64 page] 32)
  have bz := bal (w.alloc (.cells #[.int .i64 what, .int .i64 kind, .bool user, .int .u64 (a : Int), .int .u64 (x : Int), .int .i64 g, .int .i64 i, .int .i64 page] 32)) (.cells #[.int .i64 0, .int .u64 0, .int .i64 0, .int .u64 0] 34)
  have hbx := (Blk.new w 32 [.int .i64 what, .int .i64 kind, .bool user, .int .u64 (a : Int), .int .u64 (x : Int), .int .i64 g, .int .i64 i, .int .i64 page]).past bz
  have hz := Blk.new (w.alloc (.cells #[.int .i64 what, .int .i64 kind, .bool user, .int .u64 (a : Int), .int .u64 (x : Int), .int .i64 g, .int .i64 i, .int .i64 page] 32)) 34 [.int .i64 0, .int .u64 0, .int .i64 0, .int .u64 0]
  rw [show (w.alloc (.cells #[.int .i64 what, .int .i64 kind, .bool user, .int .u64 (a : Int), .int .u64 (x : Int), .int .i64 g, .int .i64 i, .int .i64 page] 32)).heap.size = w.heap.size + 1 by simp] at hz
  have b0 := ba.trans (bz.mono ba.size)
  obtain ⟨w0, hw0⟩ : ∃ w0, (w.alloc (.cells #[.int .i64 what, .int .i64 kind, .bool user, .int .u64 (a : Int), .int .u64 (x : Int), .int .i64 g, .int .i64 i, .int .i64 page] 32)).alloc (.cells #[.int .i64 0, .int .u64 0, .int .i64 0, .int .u64 0] 34) = w0 := ⟨_, rfl⟩
  rw [show ((w.alloc (.cells #[.int .i64 what, .int .i64 kind, .bool user, .int .u64 (a : Int), .int .u64 (x : Int), .int .i64 g, .int .i64 i, .int .i64 page] 32)).alloc (.cells ([.int .i64 0, .int .u64 0, .int .i64 0, .int .u64 0] : List Value).toArray 34)) = w0 from hw0] at hz
  rw [hw0] at hbx b0
  have M0 := M.past b0
  have E0 := hE.past b0
  have B0 : B ≤ w0.heap.size := Nat.le_trans hB b0.size
  have hac := access_mm M0 E0 h0 B0 kind user a x ha hx
  have hed := edit_mm M0 B0 g i x hx
  have hfo := forget_mm M0 B0 page
  have hro := root_mm M0 B0 g
  have hfi := find_mm M0 E0 B0 page
  obtain ⟨⟨⟨eh, ev, ec, ea⟩, eS⟩, hee⟩ : ∃ r, editS S g i x = r := ⟨_, rfl⟩
  obtain ⟨⟨⟨ah, av, ac, aa⟩, aS⟩, hae⟩ : ∃ r, accS S kind user a x = r := ⟨_, rfl⟩
  rw [hee] at hed
  rw [hae] at hac
  dsimp only [Ot.val] at hed hac
  have hrs : res = (if what = 4 then (⟨eh, ev, ec, ea⟩, eS) else if what = 5 then (ot0, dropS S page) else if what = 6 then (ot0, rootS S g) else if what = 7 then (ot0, findS S page) else (⟨ah, av, ac, aa⟩, aS)) := by
    rw [← hres]; unfold doR; dsimp only; rw [hee, hae]
  have HAc := Lib.hid hac
  have HEd := Lib.hid hed
  have HFo := Lib.hid hfo
  have HRo := Lib.hid hro
  have HFi := Lib.hid hfi
  have HRs := Lib.hid hrs
  have HW := Lib.hid hw0
  have HBx := Lib.hid hbx
  have HZ := Lib.hid hz
  have HB0 := Lib.hid b0
  have HBs := Lib.hid hB
  clear hac hed hfo hro hfi hrs hw0 hbx hz b0 hB hres hee hae M M0 hE E0 B0 ha hx h0 ba bz
  by_cases h4 : what = 4
  · subst h4
    have Hres : Hid (res = (⟨eh, ev, ec, ea⟩, eS)) := Lib.hid (by rw [HRs.out, if_pos rfl])
    go_enter Tryz.func17, Tryz.ntmps17
    go_wp2_with (first
      | (go_at_call 27; rw [HW.out]; (with_reducible refine HEd.out.mono ?_); rintro e W ⟨rfl, D⟩; have Z := D.2.2.blk HZ.out ⟨by decide, by decide, by decide, by decide⟩; have z0 := Z.cell (k := 0) rfl; have z1 := Z.cell (k := 1) rfl; have z2 := Z.cell (k := 2) rfl; have z3 := Z.cell (k := 3) rfl; have zf := fun j => Z.free j; have zl := Z.lt))
    refine bodyPost_ret (v := .agg #[.int .i64 eh, .int .u64 (ev : Int), .int .i64 ec, .int .u64 (ea : Int)]) ?_ rfl ?_
    rotate_left
    · rw [Hres.out]
      exact ⟨rfl, (Did.set4 D HB0.out HBs.out Z (Nat.le_succ _) (.int .i64 eh) (.int .u64 (ev : Int)) (.int .i64 ec) (.int .u64 (ea : Int))).1⟩
    · have R := (Did.set4 D HB0.out HBs.out Z (Nat.le_succ _) (.int .i64 eh) (.int .u64 (ev : Int)) (.int .i64 ec) (.int .u64 (ea : Int))).2
      have s0 := R.cell (k := 0) rfl
      have s1 := R.cell (k := 1) rfl
      have s2 := R.cell (k := 2) rfl
      have s3 := R.cell (k := 3) rfl
      clear R D Z
      simp [results, Tryz.results17, go_sem, s0, s1, s2, s3]
  · by_cases h5 : what = 5
    · subst h5
      have Hres : Hid (res = (ot0, dropS S page)) := Lib.hid (by rw [HRs.out, if_neg h4, if_pos rfl])
      go_enter Tryz.func17, Tryz.ntmps17
      go_wp2_with (first
        | (go_at_call 19; rw [HW.out]; (with_reducible refine HFo.out.mono ?_); rintro e W ⟨rfl, D⟩; have Z := D.2.2.blk HZ.out ⟨by decide, by decide, by decide, by decide⟩; have z0 := Z.cell (k := 0) rfl; have z1 := Z.cell (k := 1) rfl; have z2 := Z.cell (k := 2) rfl; have z3 := Z.cell (k := 3) rfl; have zf := fun j => Z.free j; have zl := Z.lt))
      refine bodyPost_ret (v := .agg #[.int .i64 0, .int .u64 0, .int .i64 0, .int .u64 0]) ?_ rfl ?_
      rotate_left
      · rw [Hres.out]
        exact ⟨rfl, (Did.set4 D HB0.out HBs.out Z (Nat.le_succ _) (.int .i64 0) (.int .u64 0) (.int .i64 0) (.int .u64 0)).1⟩
      · have R := (Did.set4 D HB0.out HBs.out Z (Nat.le_succ _) (.int .i64 0) (.int .u64 0) (.int .i64 0) (.int .u64 0)).2
        have s0 := R.cell (k := 0) rfl
        have s1 := R.cell (k := 1) rfl
        have s2 := R.cell (k := 2) rfl
        have s3 := R.cell (k := 3) rfl
        clear R D Z
        simp [results, Tryz.results17, go_sem, s0, s1, s2, s3]
    · by_cases h6 : what = 6
      · subst h6
        have Hres : Hid (res = (ot0, rootS S g)) := Lib.hid (by rw [HRs.out, if_neg h4, if_neg h5, if_pos rfl])
        go_enter Tryz.func17, Tryz.ntmps17
        go_wp2_with (first
          | (go_at_call 30; rw [HW.out]; (with_reducible refine HRo.out.mono ?_); rintro e W ⟨⟨r, rfl⟩, D⟩; have Z := D.2.2.blk HZ.out ⟨by decide, by decide, by decide, by decide⟩; have z0 := Z.cell (k := 0) rfl; have z1 := Z.cell (k := 1) rfl; have z2 := Z.cell (k := 2) rfl; have z3 := Z.cell (k := 3) rfl; have zf := fun j => Z.free j; have zl := Z.lt))
        refine bodyPost_ret (v := .agg #[.int .i64 0, .int .u64 0, .int .i64 0, .int .u64 0]) ?_ rfl ?_
        rotate_left
        · rw [Hres.out]
          exact ⟨rfl, (Did.set4 D HB0.out HBs.out Z (Nat.le_succ _) (.int .i64 0) (.int .u64 0) (.int .i64 0) (.int .u64 0)).1⟩
        · have R := (Did.set4 D HB0.out HBs.out Z (Nat.le_succ _) (.int .i64 0) (.int .u64 0) (.int .i64 0) (.int .u64 0)).2
          have s0 := R.cell (k := 0) rfl
          have s1 := R.cell (k := 1) rfl
          have s2 := R.cell (k := 2) rfl
          have s3 := R.cell (k := 3) rfl
          clear R D Z
          simp [results, Tryz.results17, go_sem, s0, s1, s2, s3]
      · by_cases h7 : what = 7
        · subst h7
          have Hres : Hid (res = (ot0, findS S page)) := Lib.hid (by rw [HRs.out, if_neg h4, if_neg h5, if_neg h6, if_pos rfl])
          go_enter Tryz.func17, Tryz.ntmps17
          go_wp2_with (first
            | (go_at_call 32; rw [HW.out]; (with_reducible refine HFi.out.mono ?_); rintro e W ⟨rfl, D⟩; have Z := D.2.2.blk HZ.out ⟨by decide, by decide, by decide, by decide⟩; have z0 := Z.cell (k := 0) rfl; have z1 := Z.cell (k := 1) rfl; have z2 := Z.cell (k := 2) rfl; have z3 := Z.cell (k := 3) rfl; have zf := fun j => Z.free j; have zl := Z.lt))
          refine bodyPost_ret (v := .agg #[.int .i64 0, .int .u64 0, .int .i64 0, .int .u64 0]) ?_ rfl ?_
          rotate_left
          · rw [Hres.out]
            exact ⟨rfl, (Did.set4 D HB0.out HBs.out Z (Nat.le_succ _) (.int .i64 0) (.int .u64 0) (.int .i64 0) (.int .u64 0)).1⟩
          · have R := (Did.set4 D HB0.out HBs.out Z (Nat.le_succ _) (.int .i64 0) (.int .u64 0) (.int .i64 0) (.int .u64 0)).2
            have s0 := R.cell (k := 0) rfl
            have s1 := R.cell (k := 1) rfl
            have s2 := R.cell (k := 2) rfl
            have s3 := R.cell (k := 3) rfl
            clear R D Z
            simp [results, Tryz.results17, go_sem, s0, s1, s2, s3]
        · have Hres : Hid (res = (⟨ah, av, ac, aa⟩, aS)) := Lib.hid (by rw [HRs.out, if_neg h4, if_neg h5, if_neg h6, if_neg h7])
          have f4 : (what == 4) = false := beq_eq_false_iff_ne.2 h4
          have f5 : (what == 5) = false := beq_eq_false_iff_ne.2 h5
          have f6 : (what == 6) = false := beq_eq_false_iff_ne.2 h6
          have f7 : (what == 7) = false := beq_eq_false_iff_ne.2 h7
          clear h4 h5 h6 h7
          go_enter Tryz.func17, Tryz.ntmps17
          go_wp2_with (first
            | (go_at_call 22; rw [HW.out]; (with_reducible refine HAc.out.mono ?_); rintro e W ⟨rfl, D⟩; have Z := D.2.2.blk HZ.out ⟨by decide, by decide, by decide, by decide⟩; have z0 := Z.cell (k := 0) rfl; have z1 := Z.cell (k := 1) rfl; have z2 := Z.cell (k := 2) rfl; have z3 := Z.cell (k := 3) rfl; have zf := fun j => Z.free j; have zl := Z.lt))
          refine bodyPost_ret (v := .agg #[.int .i64 ah, .int .u64 (av : Int), .int .i64 ac, .int .u64 (aa : Int)]) ?_ rfl ?_
          rotate_left
          · rw [Hres.out]
            exact ⟨rfl, (Did.set4 D HB0.out HBs.out Z (Nat.le_succ _) (.int .i64 ah) (.int .u64 (av : Int)) (.int .i64 ac) (.int .u64 (aa : Int))).1⟩
          · have R := (Did.set4 D HB0.out HBs.out Z (Nat.le_succ _) (.int .i64 ah) (.int .u64 (av : Int)) (.int .i64 ac) (.int .u64 (aa : Int))).2
            have s0 := R.cell (k := 0) rfl
            have s1 := R.cell (k := 1) rfl
            have s2 := R.cell (k := 2) rfl
            have s3 := R.cell (k := 3) rfl
            clear R D Z
            simp [results, Tryz.results17, go_sem, s0, s1, s2, s3]
end Go.Proofs.YtgaififhhffpfaaGreatDoor
