/- Slices of choices, and of bytes, that came in. -/
import Derived.Test.YtgaififhhffpfaaGreatDoorRow
import Derived.Test.YtgaififhhffpfaaGreatDoorOps
namespace Go.Proofs.YtgaififhhffpfaaGreatDoor
open Go.ChangeShapes Go.WideShapes Go.RowKit Go.Deep
/-- the choices that a slice shows -/
def Chs (w : World) (a : Option Addr) (l : List (Bool × Int)) : Prop :=
  l = [] ∨ ∃ b off, a = some ⟨b, off, none⟩ ∧ b < w.heap.size ∧ ∀ j, j < l.length → w.cell? ⟨b, off + j * 2, none⟩ = some (.bool (l.getD j (false, 0)).1) ∧ w.cell? ⟨b, off + j * 2 + 1, none⟩ = some (.int .i64 (l.getD j (false, 0)).2)
/-- the bytes that a slice shows -/
def Bys (w : World) (a : Option Addr) (l : List Nat) : Prop :=
  l = [] ∨ ∃ b off, a = some ⟨b, off, none⟩ ∧ b < w.heap.size ∧ ∀ j, j < l.length → l.getD j 0 < 256 ∧ w.cell? ⟨b, off + j, none⟩ = some (.int .u8 (l.getD j 0 : Nat))
theorem Chs.below {w w' : World} {a : Option Addr} {l : List (Bool × Int)} (h : Chs w a l) (hb : Below w.heap.size w w') : Chs w' a l := by
  rcases h with h | ⟨b, off, h1, h2, h3⟩
  · exact .inl h
  · refine .inr ⟨b, off, h1, Nat.lt_of_lt_of_le h2 hb.size, fun j hj => ?_⟩
    obtain ⟨c0, c1⟩ := h3 j hj
    exact ⟨(hb.cell (p := ⟨b, _, none⟩) h2).trans c0, (hb.cell (p := ⟨b, _, none⟩) h2).trans c1⟩
theorem Bys.below {w w' : World} {a : Option Addr} {l : List Nat} (h : Bys w a l) (hb : Below w.heap.size w w') : Bys w' a l := by
  rcases h with h | ⟨b, off, h1, h2, h3⟩
  · exact .inl h
  · refine .inr ⟨b, off, h1, Nat.lt_of_lt_of_le h2 hb.size, fun j hj => ?_⟩
    obtain ⟨c0, c1⟩ := h3 j hj
    exact ⟨c0, (hb.cell (p := ⟨b, _, none⟩) h2).trans c1⟩
section
variable {H : Type} {enc : TypeId × Value → H} {w : World} {base base' : Nat} {spare : Nat → Bool} {held : Bool}
theorem u8_bd {v : Int} (h : (Lit.int .u8 v).wf = true) : ∃ n : Nat, v = (n : Int) ∧ n < 256 := by
  simp [Lit.wf, IntKind.min, IntKind.max, IntKind.signed, IntKind.bits] at h
  exact ⟨v.toNat, by omega, by omega⟩
set_option maxRecDepth 100000 in
/-- A slice of choices that came in, as the walks take it. -/
theorem open_chs {v : Value} {d : DataW H} {p : List MemPlace} (hv : Value.okWide Tryz.prog w .any base' 77 v) (h : DataW.Trod enc Tryz.prog w base spare held 77 v d p) :
    ∃ (a : Option Addr) (c : Nat) (l : List (Bool × Int)), v = .slice a l.length c ∧ Chs w a l ∧ l.length ≤ 9223372036854775807 := by
  obtain ⟨a0, len, cap, rfl⟩ := okWide_slice Tryz.underlying77 hv
  obtain ⟨fuel, hf⟩ := h
  rcases open_slice Tryz.underlying77 hf with ⟨hcs, _⟩ | ⟨a, l, c, m, n, D, Pl, hcs, hb, hl, hm, hmm, hx, hi⟩
  · simp [Value.cells] at hcs
    obtain ⟨rfl, rfl, rfl⟩ := hcs
    exact ⟨none, 0, [], rfl, .inl rfl, Nat.zero_le _⟩
  · simp [Value.cells] at hcs
    obtain ⟨rfl, rfl, rfl⟩ := hcs
    have hc3 : Tryz.prog.cellsOf 79 = 2 := by kernel_rfl
    have key : ∀ i, i < len → ∃ x : Bool × Int, w.cell? (a.add (i * 2)) = some (.bool x.1) ∧ w.cell? (a.add (i * 2 + 1)) = some (.int .i64 x.2) := by
      intro i hil
      obtain ⟨cs', hc, ht'⟩ := hi i (by rw [hmm]; split <;> omega)
      rw [hc3] at hc
      obtain ⟨ys, n', hn', hy, hlen, hyl, hf'⟩ := DataW.trod_struct Tryz.underlying79 ht'
      rw [hc3] at hlen
      obtain ⟨_, hcl, hat⟩ := World.cells?_some hc
      match cs', hlen, ys, hyl with
      | [c0, c1], _, [y0, y1], _ =>
        have g0 : DataW.trod enc Tryz.prog w base spare held n' 4 [c0] = some y0 := by simpa using field_at (by kernel_rfl) hf' 0 _ rfl
        have g1 : DataW.trod enc Tryz.prog w base spare held n' 3 [c1] = some y1 := by simpa using field_at (by kernel_rfl) hf' 1 _ rfl
        obtain ⟨x0, e0, _⟩ := DataW.trod_bool Tryz.underlying4 g0
        obtain ⟨x1, e1, _, _⟩ := DataW.trod_int Tryz.underlying3 g1
        simp at e0 e1
        subst e0 e1
        have t0 := hat 0 (by omega)
        have t1 := hat 1 (by omega)
        rw [add_add] at t0 t1
        exact ⟨(x0, x1), t0, t1⟩
    obtain ⟨xs, hxl, hxs⟩ := pick_list (false, (0 : Int)) key
    refine ⟨some a, cap, xs, by rw [hxl], ?_, by rw [hxl]; unfold maxLen at hm; omega⟩
    cases hlen : len with
    | zero => left; rw [hlen] at hxl; exact List.eq_nil_of_length_eq_zero hxl
    | succ n0 =>
      right
      obtain ⟨b, off, spot⟩ := a
      have hc := (hxs 0 (by omega)).1
      have hspot : spot = none := by simpa [Addr.add] using World.cell?_spot hc
      subst hspot
      refine ⟨b, off, rfl, lt_of_cell (o := off) (by simpa [Addr.add] using hc), fun j hj => ?_⟩
      obtain ⟨z1, z2⟩ := hxs j (by omega)
      refine ⟨?_, ?_⟩
      · rw [← addb]; exact z1
      · rw [Nat.add_assoc, ← addb]; exact z2
set_option maxRecDepth 100000 in
/-- A slice of bytes that came in, as the walks take it. -/
theorem open_bytes {v : Value} {d : DataW H} {p : List MemPlace} (hv : Value.okWide Tryz.prog w .any base' 83 v) (h : DataW.Trod enc Tryz.prog w base spare held 83 v d p) :
    ∃ (a : Option Addr) (c : Nat) (l : List Nat), v = .slice a l.length c ∧ Bys w a l ∧ l.length ≤ 9223372036854775807 ∧ l.length ≤ c := by
  obtain ⟨a0, len, cap, rfl⟩ := okWide_slice Tryz.underlying83 hv
  obtain ⟨fuel, hf⟩ := h
  rcases open_slice Tryz.underlying83 hf with ⟨hcs, _⟩ | ⟨a, l, c, m, n, D, Pl, hcs, hb, hl, hm, hmm, hx, hi⟩
  · simp [Value.cells] at hcs
    obtain ⟨rfl, rfl, rfl⟩ := hcs
    exact ⟨none, 0, [], rfl, .inl rfl, Nat.zero_le _, Nat.le_refl _⟩
  · simp [Value.cells] at hcs
    obtain ⟨rfl, rfl, rfl⟩ := hcs
    have hc3 : Tryz.prog.cellsOf 5 = 1 := by kernel_rfl
    have key : ∀ i, i < len → ∃ x : Nat, x < 256 ∧ w.cell? (a.add i) = some (.int .u8 (x : Int)) := by
      intro i hil
      obtain ⟨cs', hc, ht'⟩ := hi i (by rw [hmm]; split <;> omega)
      rw [hc3] at hc
      obtain ⟨x0, e0, _, w0⟩ := DataW.trod_int Tryz.underlying5 ht'
      obtain ⟨n0, rfl, hn0⟩ := u8_bd w0
      obtain ⟨_, hcl, hat⟩ := World.cells?_some hc
      subst e0
      have t0 := hat 0 (by omega)
      rw [add_add] at t0
      exact ⟨n0, hn0, by simpa using t0⟩
    obtain ⟨xs, hxl, hxs⟩ := pick_list (0 : Nat) key
    refine ⟨some a, cap, xs, by rw [hxl], ?_, by rw [hxl]; unfold maxLen at hm; omega, by rw [hxl]; omega⟩
    cases hlen : len with
    | zero => left; rw [hlen] at hxl; exact List.eq_nil_of_length_eq_zero hxl
    | succ n0 =>
      right
      obtain ⟨b, off, spot⟩ := a
      have hc := (hxs 0 (by omega)).2
      have hspot : spot = none := by simpa [Addr.add] using World.cell?_spot hc
      subst hspot
      refine ⟨b, off, rfl, lt_of_cell (o := off) (by simpa [Addr.add] using hc), fun j hj => ?_⟩
      obtain ⟨z1, z2⟩ := hxs j (by omega)
      exact ⟨z1, by rw [← addb]; exact z2⟩
end
end Go.Proofs.YtgaififhhffpfaaGreatDoor
