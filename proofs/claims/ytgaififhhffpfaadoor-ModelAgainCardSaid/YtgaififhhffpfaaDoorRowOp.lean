/- A struct of an operation that came in. -/
import Derived.Test.YtgaififhhffpfaaDoorRowOps
namespace Go.Proofs.YtgaififhhffpfaaDoor
open Go.ChangeShapes Go.WideShapes Go.RowKit Go.Deep
section
variable {H : Type} {enc : TypeId × Value → H} {w : World} {base base' : Nat} {spare : Nat → Bool} {held : Bool}
set_option maxRecDepth 100000 in
/-- An operation that came in, as the walks take it. -/
theorem open_op {v : Value} {d : DataW H} {p : List MemPlace} (hv : Value.okWide Tryd.prog w .any base' 46 v) (h : DataW.Trod enc Tryd.prog w base spare held 46 v d p) :
    ∃ o : Op10, v = .agg #[.int .i64 o.what, .int .i64 o.kind, .bool o.user, .int .u64 (o.a : Int), .int .u64 (o.v : Int), .int .i64 o.g, .int .i64 o.i, .int .i64 o.page] ∧ o.ok := by
  obtain ⟨cs, rfl, hsz⟩ := okWide_struct Tryd.underlying46 hv
  obtain ⟨fuel, hf⟩ := h
  have hc3 : Tryd.prog.cellsOf 46 = 8 := by kernel_rfl
  obtain ⟨cs', hcs'⟩ : ∃ l, cs.toList = l := ⟨_, rfl⟩
  have hcv : (Value.agg cs).cells.toList = cs' := hcs'
  rw [hcv] at hf
  obtain ⟨ys, n', hn', hy, hlen, hyl, hf'⟩ := DataW.trod_struct Tryd.underlying46 hf
  rw [hc3] at hlen
  have hcs2 : cs = cs'.toArray := by rw [← hcs']
  match cs', hlen, ys, hyl with
  | [c0, c1, c2, c3, c4, c5, c6, c7], _, [y0, y1, y2, y3, y4, y5, y6, y7], _ =>
    have g0 : DataW.trod enc Tryd.prog w base spare held n' 3 [c0] = some y0 := by simpa using field_at (by kernel_rfl) hf' 0 _ rfl
    have g1 : DataW.trod enc Tryd.prog w base spare held n' 3 [c1] = some y1 := by simpa using field_at (by kernel_rfl) hf' 1 _ rfl
    have g2 : DataW.trod enc Tryd.prog w base spare held n' 4 [c2] = some y2 := by simpa using field_at (by kernel_rfl) hf' 2 _ rfl
    have g3 : DataW.trod enc Tryd.prog w base spare held n' 41 [c3] = some y3 := by simpa using field_at (by kernel_rfl) hf' 3 _ rfl
    have g4 : DataW.trod enc Tryd.prog w base spare held n' 41 [c4] = some y4 := by simpa using field_at (by kernel_rfl) hf' 4 _ rfl
    have g5 : DataW.trod enc Tryd.prog w base spare held n' 3 [c5] = some y5 := by simpa using field_at (by kernel_rfl) hf' 5 _ rfl
    have g6 : DataW.trod enc Tryd.prog w base spare held n' 3 [c6] = some y6 := by simpa using field_at (by kernel_rfl) hf' 6 _ rfl
    have g7 : DataW.trod enc Tryd.prog w base spare held n' 3 [c7] = some y7 := by simpa using field_at (by kernel_rfl) hf' 7 _ rfl
    obtain ⟨x0, e0, _, _⟩ := DataW.trod_int Tryd.underlying3 g0
    obtain ⟨x1, e1, _, _⟩ := DataW.trod_int Tryd.underlying3 g1
    obtain ⟨x2, e2, _⟩ := DataW.trod_bool Tryd.underlying4 g2
    obtain ⟨x3, e3, _, w3⟩ := DataW.trod_int Tryd.underlying41 g3
    obtain ⟨n3, rfl, hn3⟩ := u64_bd w3
    obtain ⟨x4, e4, _, w4⟩ := DataW.trod_int Tryd.underlying41 g4
    obtain ⟨n4, rfl, hn4⟩ := u64_bd w4
    obtain ⟨x5, e5, _, _⟩ := DataW.trod_int Tryd.underlying3 g5
    obtain ⟨x6, e6, _, _⟩ := DataW.trod_int Tryd.underlying3 g6
    obtain ⟨x7, e7, _, _⟩ := DataW.trod_int Tryd.underlying3 g7
    simp at e0 e1 e2 e3 e4 e5 e6 e7
    subst e0 e1 e2 e3 e4 e5 e6 e7
    exact ⟨⟨x0, x1, x2, n3, n4, x5, x6, x7⟩, by rw [hcs2], ⟨hn3, hn4⟩⟩
end
end Go.Proofs.YtgaififhhffpfaaDoor
