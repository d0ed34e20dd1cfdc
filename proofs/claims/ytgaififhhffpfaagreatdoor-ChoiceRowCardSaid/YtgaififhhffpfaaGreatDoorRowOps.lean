/- Slices of operations that came in. -/
import Derived.Test.YtgaififhhffpfaaGreatDoorRow
import Derived.Test.YtgaififhhffpfaaGreatDoorOps
namespace Go.Proofs.YtgaififhhffpfaaGreatDoor
open Go.ChangeShapes Go.WideShapes Go.RowKit Go.Deep
section
variable {H : Type} {enc : TypeId × Value → H} {w : World} {base base' : Nat} {spare : Nat → Bool} {held : Bool}
set_option maxRecDepth 100000 in
/-- A slice of operations that came in, as the walks take it. -/
theorem open_ops {v : Value} {d : DataW H} {p : List MemPlace} (hv : Value.okWide Tryz.prog w .any base' 23 v) (h : DataW.Trod enc Tryz.prog w base spare held 23 v d p) :
    ∃ (a : Option Addr) (c : Nat) (l : List Op10), v = .slice a l.length c ∧ Ops w a l ∧ l.length ≤ 9223372036854775807 := by
  obtain ⟨a0, len, cap, rfl⟩ := okWide_slice Tryz.underlying23 hv
  obtain ⟨fuel, hf⟩ := h
  rcases open_slice Tryz.underlying23 hf with ⟨hcs, _⟩ | ⟨a, l, c, m, n, D, Pl, hcs, hb, hl, hm, hmm, hx, hi⟩
  · simp [Value.cells] at hcs
    obtain ⟨rfl, rfl, rfl⟩ := hcs
    exact ⟨none, 0, [], rfl, .inl rfl, Nat.zero_le _⟩
  · simp [Value.cells] at hcs
    obtain ⟨rfl, rfl, rfl⟩ := hcs
    have hc3 : Tryz.prog.cellsOf 32 = 8 := by kernel_rfl
    have key : ∀ i, i < len → ∃ x : Op10, x.ok ∧ w.cell? (a.add (i * 8)) = some (.int .i64 x.what) ∧ w.cell? (a.add (i * 8 + 1)) = some (.int .i64 x.kind) ∧ w.cell? (a.add (i * 8 + 2)) = some (.bool x.user) ∧
        w.cell? (a.add (i * 8 + 3)) = some (.int .u64 (x.a : Int)) ∧ w.cell? (a.add (i * 8 + 4)) = some (.int .u64 (x.v : Int)) ∧ w.cell? (a.add (i * 8 + 5)) = some (.int .i64 x.g) ∧ w.cell? (a.add (i * 8 + 6)) = some (.int .i64 x.i) ∧ w.cell? (a.add (i * 8 + 7)) = some (.int .i64 x.page) := by
      intro i hil
      obtain ⟨cs', hc, ht'⟩ := hi i (by rw [hmm]; split <;> omega)
      rw [hc3] at hc
      obtain ⟨ys, n', hn', hy, hlen, hyl, hf'⟩ := DataW.trod_struct Tryz.underlying32 ht'
      rw [hc3] at hlen
      obtain ⟨_, hcl, hat⟩ := World.cells?_some hc
      match cs', hlen, ys, hyl with
      | [c0, c1, c2, c3, c4, c5, c6, c7], _, [y0, y1, y2, y3, y4, y5, y6, y7], _ =>
        have g0 : DataW.trod enc Tryz.prog w base spare held n' 3 [c0] = some y0 := by simpa using field_at (by kernel_rfl) hf' 0 _ rfl
        have g1 : DataW.trod enc Tryz.prog w base spare held n' 3 [c1] = some y1 := by simpa using field_at (by kernel_rfl) hf' 1 _ rfl
        have g2 : DataW.trod enc Tryz.prog w base spare held n' 4 [c2] = some y2 := by simpa using field_at (by kernel_rfl) hf' 2 _ rfl
        have g3 : DataW.trod enc Tryz.prog w base spare held n' 25 [c3] = some y3 := by simpa using field_at (by kernel_rfl) hf' 3 _ rfl
        have g4 : DataW.trod enc Tryz.prog w base spare held n' 25 [c4] = some y4 := by simpa using field_at (by kernel_rfl) hf' 4 _ rfl
        have g5 : DataW.trod enc Tryz.prog w base spare held n' 3 [c5] = some y5 := by simpa using field_at (by kernel_rfl) hf' 5 _ rfl
        have g6 : DataW.trod enc Tryz.prog w base spare held n' 3 [c6] = some y6 := by simpa using field_at (by kernel_rfl) hf' 6 _ rfl
        have g7 : DataW.trod enc Tryz.prog w base spare held n' 3 [c7] = some y7 := by simpa using field_at (by kernel_rfl) hf' 7 _ rfl
        obtain ⟨x0, e0, _, _⟩ := DataW.trod_int Tryz.underlying3 g0
        obtain ⟨x1, e1, _, _⟩ := DataW.trod_int Tryz.underlying3 g1
        obtain ⟨x2, e2, _⟩ := DataW.trod_bool Tryz.underlying4 g2
        obtain ⟨x3, e3, _, w3⟩ := DataW.trod_int Tryz.underlying25 g3
        obtain ⟨n3, rfl, hn3⟩ := u64_bd w3
        obtain ⟨x4, e4, _, w4⟩ := DataW.trod_int Tryz.underlying25 g4
        obtain ⟨n4, rfl, hn4⟩ := u64_bd w4
        obtain ⟨x5, e5, _, _⟩ := DataW.trod_int Tryz.underlying3 g5
        obtain ⟨x6, e6, _, _⟩ := DataW.trod_int Tryz.underlying3 g6
        obtain ⟨x7, e7, _, _⟩ := DataW.trod_int Tryz.underlying3 g7
        simp at e0 e1 e2 e3 e4 e5 e6 e7
        subst e0 e1 e2 e3 e4 e5 e6 e7
        have t0 := hat 0 (by omega)
        have t1 := hat 1 (by omega)
        have t2 := hat 2 (by omega)
        have t3 := hat 3 (by omega)
        have t4 := hat 4 (by omega)
        have t5 := hat 5 (by omega)
        have t6 := hat 6 (by omega)
        have t7 := hat 7 (by omega)
        rw [add_add] at t0 t1 t2 t3 t4 t5 t6 t7
        exact ⟨⟨x0, x1, x2, n3, n4, x5, x6, x7⟩, ⟨hn3, hn4⟩, t0, t1, t2, t3, t4, t5, t6, t7⟩
    obtain ⟨xs, hxl, hxs⟩ := pick_list op0 key
    refine ⟨some a, cap, xs, by rw [hxl], ?_, by rw [hxl]; unfold maxLen at hm; omega⟩
    cases hlen : len with
    | zero => left; rw [hlen] at hxl; exact List.eq_nil_of_length_eq_zero hxl
    | succ n0 =>
      right
      obtain ⟨b, off, spot⟩ := a
      have hc := (hxs 0 (by omega)).2.1
      have hspot : spot = none := by simpa [Addr.add] using World.cell?_spot hc
      subst hspot
      refine ⟨b, off, rfl, lt_of_cell (o := off) (by simpa [Addr.add] using hc), fun j hj => ?_⟩
      obtain ⟨z0, z1, z2, z3, z4, z5, z6, z7, z8⟩ := hxs j (by omega)
      refine ⟨z0, ?_, ?_, ?_, ?_, ?_, ?_, ?_, ?_⟩
      · rw [← addb]; exact z1
      · rw [Nat.add_assoc, ← addb]; exact z2
      · rw [Nat.add_assoc, ← addb]; exact z3
      · rw [Nat.add_assoc, ← addb]; exact z4
      · rw [Nat.add_assoc, ← addb]; exact z5
      · rw [Nat.add_assoc, ← addb]; exact z6
      · rw [Nat.add_assoc, ← addb]; exact z7
      · rw [Nat.add_assoc, ← addb]; exact z8
end
end Go.Proofs.YtgaififhhffpfaaGreatDoor
