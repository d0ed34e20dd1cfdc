/- Slices of layer 17's operations that came in; one of them. -/
import Derived.Test.YtglohconhbcchaaGreatDoorRow
import Derived.Test.YtglohconhbcchaaGreatDoorFh
namespace Go.Proofs.YtglohconhbcchaaGreatDoor
open Go.ChangeShapes Go.WideShapes Go.RowKit Go.Deep

def opf0 : Opf := ⟨0, 0, 0, 0, false, 0, 0, 0, 0⟩
/-- the operations at an address, each in nine cells -/
def Fops (w : World) (a : Option Addr) (l : List Opf) : Prop := l = [] ∨ ∃ b off, a = some ⟨b, off, none⟩ ∧ b < w.heap.size ∧ ∀ j, j < l.length → (l.getD j opf0).v < 2 ^ 64 ∧ ∀ k, k < 9 → w.cell? ⟨b, off + j * 9 + k, none⟩ = (l.getD j opf0).cells[k]?
theorem Fops.below {w w' : World} {a : Option Addr} {l : List Opf} (h : Fops w a l) (hb : Below w.heap.size w w') : Fops w' a l := by
  rcases h with h | ⟨b, off, h1, h2, h3⟩
  · exact .inl h
  · exact .inr ⟨b, off, h1, Nat.lt_of_lt_of_le h2 hb.size, fun j hj => ⟨(h3 j hj).1, fun k hk => (hb.cell (p := ⟨b, _, none⟩) h2).trans ((h3 j hj).2 k hk)⟩⟩
section
variable {H : Type} {enc : TypeId × Value → H} {w : World} {base base' : Nat} {spare : Nat → Bool} {held : Bool}
set_option maxRecDepth 100000 in
set_option maxHeartbeats 1000000 in
theorem open_fops {v : Value} {d : DataW H} {p : List MemPlace} (hv : Value.okWide Tryz.prog w .any base' 23 v) (h : DataW.Trod enc Tryz.prog w base spare held 23 v d p) :
    ∃ (a : Option Addr) (c : Nat) (l : List Opf), v = .slice a l.length c ∧ Fops w a l ∧ l.length ≤ 9223372036854775807 := by
  obtain ⟨a0, len, cap, rfl⟩ := okWide_slice Tryz.underlying23 hv
  obtain ⟨fuel, hf⟩ := h
  rcases open_slice Tryz.underlying23 hf with ⟨hcs, _⟩ | ⟨a, l, c, m, n, D, Pl, hcs, hb, hl, hm, hmm, hx, hi⟩
  · simp [Value.cells] at hcs
    obtain ⟨rfl, rfl, rfl⟩ := hcs
    exact ⟨none, 0, [], rfl, .inl rfl, Nat.zero_le _⟩
  · simp [Value.cells] at hcs
    obtain ⟨rfl, rfl, rfl⟩ := hcs
    have hc3 : Tryz.prog.cellsOf 26 = 9 := by kernel_rfl
    have key : ∀ i, i < len → ∃ x : Opf, x.v < 2 ^ 64 ∧ ∀ k, k < 9 → w.cell? (a.add (i * 9 + k)) = x.cells[k]? := by
      intro i hil
      obtain ⟨cs', hc, ht'⟩ := hi i (by rw [hmm]; split <;> omega)
      rw [hc3] at hc
      obtain ⟨ys, n', hn', hy, hlen, hyl, hf'⟩ := DataW.trod_struct Tryz.underlying26 ht'
      rw [hc3] at hlen
      obtain ⟨_, hcl, hat⟩ := World.cells?_some hc
      match cs', hlen, ys, hyl with
      | [c0, c1, c2, c3, c4, c5, c6, c7, c8], _, [y0, y1, y2, y3, y4, y5, y6, y7, y8], _ =>
        have g0 : DataW.trod enc Tryz.prog w base spare held n' 3 [c0] = some y0 := by simpa using field_at (by kernel_rfl) hf' 0 _ rfl
        have g1 : DataW.trod enc Tryz.prog w base spare held n' 3 [c1] = some y1 := by simpa using field_at (by kernel_rfl) hf' 1 _ rfl
        have g2 : DataW.trod enc Tryz.prog w base spare held n' 3 [c2] = some y2 := by simpa using field_at (by kernel_rfl) hf' 2 _ rfl
        have g3 : DataW.trod enc Tryz.prog w base spare held n' 3 [c3] = some y3 := by simpa using field_at (by kernel_rfl) hf' 3 _ rfl
        have g4 : DataW.trod enc Tryz.prog w base spare held n' 4 [c4] = some y4 := by simpa using field_at (by kernel_rfl) hf' 4 _ rfl
        have g5 : DataW.trod enc Tryz.prog w base spare held n' 3 [c5] = some y5 := by simpa using field_at (by kernel_rfl) hf' 5 _ rfl
        have g6 : DataW.trod enc Tryz.prog w base spare held n' 3 [c6] = some y6 := by simpa using field_at (by kernel_rfl) hf' 6 _ rfl
        have g7 : DataW.trod enc Tryz.prog w base spare held n' 24 [c7] = some y7 := by simpa using field_at (by kernel_rfl) hf' 7 _ rfl
        have g8 : DataW.trod enc Tryz.prog w base spare held n' 3 [c8] = some y8 := by simpa using field_at (by kernel_rfl) hf' 8 _ rfl
        obtain ⟨x0, e0, _, _⟩ := DataW.trod_int Tryz.underlying3 g0
        obtain ⟨x1, e1, _, _⟩ := DataW.trod_int Tryz.underlying3 g1
        obtain ⟨x2, e2, _, _⟩ := DataW.trod_int Tryz.underlying3 g2
        obtain ⟨x3, e3, _, _⟩ := DataW.trod_int Tryz.underlying3 g3
        obtain ⟨x4, e4, _⟩ := DataW.trod_bool Tryz.underlying4 g4
        obtain ⟨x5, e5, _, _⟩ := DataW.trod_int Tryz.underlying3 g5
        obtain ⟨x6, e6, _, _⟩ := DataW.trod_int Tryz.underlying3 g6
        obtain ⟨x7, e7, _, w7⟩ := DataW.trod_int Tryz.underlying24 g7
        obtain ⟨m7, rfl, hm7⟩ := u64_bd w7
        obtain ⟨x8, e8, _, _⟩ := DataW.trod_int Tryz.underlying3 g8
        simp at e0 e1 e2 e3 e4 e5 e6 e7 e8
        subst e0 e1 e2 e3 e4 e5 e6 e7 e8
        refine ⟨⟨x0, x1, x2, x3, x4, x5, x6, m7, x8⟩, hm7, fun k hk => ?_⟩
        have t := hat k hk
        rw [add_add] at t
        rw [t]
        rfl
    obtain ⟨xs, hxl, hxs⟩ := pick_list opf0 key
    refine ⟨some a, cap, xs, by rw [hxl], ?_, by rw [hxl]; unfold maxLen at hm; omega⟩
    cases hlen : len with
    | zero => left; rw [hlen] at hxl; exact List.eq_nil_of_length_eq_zero hxl
    | succ n0 =>
      right
      obtain ⟨b, off, spot⟩ := a
      have hc := (hxs 0 (by omega)).2 0 (by omega)
      have hc' : w.cell? ((⟨b, off, spot⟩ : Addr).add (0 * 9 + 0)) = some (.int .i64 (xs.getD 0 opf0).k) := hc
      have hspot : spot = none := by simpa [Addr.add] using World.cell?_spot hc'
      subst hspot
      refine ⟨b, off, rfl, lt_of_cell (o := off) (by simpa [Addr.add] using hc'), fun j hj => ⟨(hxs j (by omega)).1, fun k hk => ?_⟩⟩
      rw [Nat.add_assoc, ← addb]
      exact (hxs j (by omega)).2 k hk
set_option maxRecDepth 100000 in
theorem open_fop {v : Value} {d : DataW H} {p : List MemPlace} (hv : Value.okWide Tryz.prog w .any base' 26 v) (h : DataW.Trod enc Tryz.prog w base spare held 26 v d p) :
    ∃ o : Opf, v = .agg o.cells.toArray ∧ o.v < 2 ^ 64 := by
  obtain ⟨cs, rfl, hsz⟩ := okWide_struct Tryz.underlying26 hv
  obtain ⟨fuel, hf⟩ := h
  have hc3 : Tryz.prog.cellsOf 26 = 9 := by kernel_rfl
  obtain ⟨cs', hcs'⟩ : ∃ l, cs.toList = l := ⟨_, rfl⟩
  have hcv : (Value.agg cs).cells.toList = cs' := hcs'
  rw [hcv] at hf
  obtain ⟨ys, n', hn', hy, hlen, hyl, hf'⟩ := DataW.trod_struct Tryz.underlying26 hf
  rw [hc3] at hlen
  have hcs2 : cs = cs'.toArray := by rw [← hcs']
  match cs', hlen, ys, hyl with
  | [c0, c1, c2, c3, c4, c5, c6, c7, c8], _, [y0, y1, y2, y3, y4, y5, y6, y7, y8], _ =>
    have g0 : DataW.trod enc Tryz.prog w base spare held n' 3 [c0] = some y0 := by simpa using field_at (by kernel_rfl) hf' 0 _ rfl
    have g1 : DataW.trod enc Tryz.prog w base spare held n' 3 [c1] = some y1 := by simpa using field_at (by kernel_rfl) hf' 1 _ rfl
    have g2 : DataW.trod enc Tryz.prog w base spare held n' 3 [c2] = some y2 := by simpa using field_at (by kernel_rfl) hf' 2 _ rfl
    have g3 : DataW.trod enc Tryz.prog w base spare held n' 3 [c3] = some y3 := by simpa using field_at (by kernel_rfl) hf' 3 _ rfl
    have g4 : DataW.trod enc Tryz.prog w base spare held n' 4 [c4] = some y4 := by simpa using field_at (by kernel_rfl) hf' 4 _ rfl
    have g5 : DataW.trod enc Tryz.prog w base spare held n' 3 [c5] = some y5 := by simpa using field_at (by kernel_rfl) hf' 5 _ rfl
    have g6 : DataW.trod enc Tryz.prog w base spare held n' 3 [c6] = some y6 := by simpa using field_at (by kernel_rfl) hf' 6 _ rfl
    have g7 : DataW.trod enc Tryz.prog w base spare held n' 24 [c7] = some y7 := by simpa using field_at (by kernel_rfl) hf' 7 _ rfl
    have g8 : DataW.trod enc Tryz.prog w base spare held n' 3 [c8] = some y8 := by simpa using field_at (by kernel_rfl) hf' 8 _ rfl
    obtain ⟨x0, e0, _, _⟩ := DataW.trod_int Tryz.underlying3 g0
    obtain ⟨x1, e1, _, _⟩ := DataW.trod_int Tryz.underlying3 g1
    obtain ⟨x2, e2, _, _⟩ := DataW.trod_int Tryz.underlying3 g2
    obtain ⟨x3, e3, _, _⟩ := DataW.trod_int Tryz.underlying3 g3
    obtain ⟨x4, e4, _⟩ := DataW.trod_bool Tryz.underlying4 g4
    obtain ⟨x5, e5, _, _⟩ := DataW.trod_int Tryz.underlying3 g5
    obtain ⟨x6, e6, _, _⟩ := DataW.trod_int Tryz.underlying3 g6
    obtain ⟨x7, e7, _, w7⟩ := DataW.trod_int Tryz.underlying24 g7
    obtain ⟨m7, rfl, hm7⟩ := u64_bd w7
    obtain ⟨x8, e8, _, _⟩ := DataW.trod_int Tryz.underlying3 g8
    simp at e0 e1 e2 e3 e4 e5 e6 e7 e8
    subst e0 e1 e2 e3 e4 e5 e6 e7 e8
    exact ⟨⟨x0, x1, x2, x3, x4, x5, x6, m7, x8⟩, by rw [hcs2]; rfl, hm7⟩
end
theorem Fops.at {w : World} {a : Option Addr} {l : List Opf} (h : Fops w a l) (k : Nat) (hk : k < l.length) :
    ∃ b off ok oroot opage okind ouser og oi ov on', a = some ⟨b, off, none⟩ ∧ b < w.heap.size ∧ l.getD k opf0 = ⟨ok, oroot, opage, okind, ouser, og, oi, ov, on'⟩ ∧ ov < 2 ^ 64 ∧
      w.cell? ⟨b, off + k * 9, none⟩ = some (.int .i64 ok) ∧ w.cell? ⟨b, off + k * 9 + 1, none⟩ = some (.int .i64 oroot) ∧ w.cell? ⟨b, off + k * 9 + 2, none⟩ = some (.int .i64 opage) ∧ w.cell? ⟨b, off + k * 9 + 3, none⟩ = some (.int .i64 okind) ∧
      w.cell? ⟨b, off + k * 9 + 4, none⟩ = some (.bool ouser) ∧ w.cell? ⟨b, off + k * 9 + 5, none⟩ = some (.int .i64 og) ∧ w.cell? ⟨b, off + k * 9 + 6, none⟩ = some (.int .i64 oi) ∧
      w.cell? ⟨b, off + k * 9 + 7, none⟩ = some (.int .u64 (ov : Int)) ∧ w.cell? ⟨b, off + k * 9 + 8, none⟩ = some (.int .i64 on') := by
  rcases h with h | ⟨b, off, h1, h2, h3⟩
  · rw [h] at hk; simp at hk
  · obtain ⟨g1, g2⟩ := h3 k hk
    obtain ⟨⟨ok, oroot, opage, okind, ouser, og, oi, ov, on'⟩, ho⟩ : ∃ o, l.getD k opf0 = o := ⟨_, rfl⟩
    rw [ho] at g1 g2
    exact ⟨b, off, ok, oroot, opage, okind, ouser, og, oi, ov, on', h1, h2, ho, g1, g2 0 (by decide), g2 1 (by decide), g2 2 (by decide), g2 3 (by decide), g2 4 (by decide), g2 5 (by decide), g2 6 (by decide), g2 7 (by decide), g2 8 (by decide)⟩
theorem fdo24 {w0 w : World} {A : GAd} {V : GVl} {G : GS} {F : FA} {ts : List Thing} {wb : Nat} (H : HG w0 w A P24 V G (fths F A P24 (wld wb A :: ts))) (hE : EC w0) (h0 : 1 ≤ w0.heap.size) (hI : GInv P24 G) (ok oroot opage okind : Int) (ouser : Bool) (og oi : Int) (ov : Nat) (on' : Int) (hv : ov < 2 ^ 64) :
    Calls Tryz.prog 16 #[.pointer (some ⟨wb, 0, none⟩), .pointer (some ⟨F.fl, 0, none⟩), .agg #[.int .i64 ok, .int .i64 oroot, .int .i64 opage, .int .i64 okind, .bool ouser, .int .i64 og, .int .i64 oi, .int .u64 (ov : Int), .int .i64 on']] w
      fun e w' => ∃ u, e = .returned (.tuple #[u, .bool (fdo P24 G ⟨ok, oroot, opage, okind, ouser, og, oi, ov, on'⟩).1.is, .int .i64 (fdo P24 G ⟨ok, oroot, opage, okind, ouser, og, oi, ov, on'⟩).1.how]) ∧ ∃ V', HG w0 w' A P24 V' (fdo P24 G ⟨ok, oroot, opage, okind, ouser, og, oi, ov, on'⟩).2 (ints u (fdo P24 G ⟨ok, oroot, opage, okind, ouser, og, oi, ov, on'⟩).1.anew :: fths F A P24 (wld wb A :: ts)) :=
  fdo_any H hE h0 hI ⟨ok, oroot, opage, okind, ouser, og, oi, ov, on'⟩ hv
theorem frun_take (P : Pm) (G : GS) (l : List Opf) (k : Nat) (hk : k < l.length) : frun P G (l.take (k + 1)) = (fdo P (frun P G (l.take k)) (l.getD k opf0)).2 :=
  foldl_take (fun G o => (fdo P G o).2) opf0 G l k hk
end Go.Proofs.YtglohconhbcchaaGreatDoor
